/- Whole blocks of memory: reading and writing pieces of them; what stays. -/
import Derived.Test.YtffmbdagjpdieaaGreatDoorChain
namespace Go.Pm
open Go.RowKit

/-- Block b holds the cells L. -/
@[reducible] def Blk (w : World) (b : Nat) (L : List Value) (t : TypeId) : Prop := w.heap[b]? = some (.cells L.toArray t (0, 0))
/-- the world with other cells in block b -/
@[reducible] def setBlk (w : World) (b : Nat) (L : List Value) : World := w.setRow b L.toArray
theorem Blk.lt {w : World} {b : Nat} {L : List Value} {t : TypeId} (h : Blk w b L t) : b < w.heap.size := (Array.getElem?_eq_some_iff.1 h).1
theorem Blk.cell {w : World} {b : Nat} {L : List Value} {t : TypeId} (h : Blk w b L t) (i : Nat) : w.cell? ⟨b, i, none⟩ = L[i]? := by
  rw [cell_of_row w b i _ t (0, 0) h]; simp
theorem Blk.free {w : World} {b : Nat} {L : List Value} {t : TypeId} (h : Blk w b L t) (i : Nat) : w.frozen? ⟨b, i, none⟩ = false := frozen_of_row w b i _ t h
theorem Blk.set {w : World} {b : Nat} {L : List Value} {t : TypeId} (h : Blk w b L t) (L' : List Value) : Blk (setBlk w b L') b L' t := setRow_heap w b _ _ t _ h
theorem Blk.setOther {w : World} {b c : Nat} {L : List Value} {t : TypeId} (h : Blk w b L t) (hne : b ≠ c) (L' : List Value) : Blk (setBlk w c L') b L t := by
  unfold Blk setBlk; rw [setRow_other _ _ _ _ hne]; exact h
theorem blk_new (w : World) (L : List Value) (t : TypeId) : Blk (w.alloc (.cells L.toArray t)) w.heap.size L t := heap_alloc_new w _

/-- Of what was there only the blocks of F may have changed. -/
structure Only (F : List Nat) (w w' : World) : Prop where
  os : w'.os = w.os
  tape : w'.tape = w.tape
  output : w'.output = w.output
  size : w.heap.size ≤ w'.heap.size
  block : ∀ k, k < w.heap.size → k ∉ F → w'.heap[k]? = w.heap[k]?
theorem Only.refl (F : List Nat) (w : World) : Only F w w := ⟨rfl, rfl, rfl, Nat.le_refl _, fun _ _ _ => rfl⟩
theorem Only.mono {F G : List Nat} {w w' : World} (h : Only F w w') (hs : ∀ k, k < w.heap.size → k ∈ F → k ∈ G) : Only G w w' :=
  ⟨h.os, h.tape, h.output, h.size, fun k hk hn => h.block k hk (fun hf => hn (hs k hk hf))⟩
theorem Only.trans {F G : List Nat} {a b c : World} (h : Only F a b) (k : Only G b c) (hs : ∀ i, i < a.heap.size → i ∈ G → i ∈ F) : Only F a c :=
  ⟨k.os.trans h.os, k.tape.trans h.tape, k.output.trans h.output, Nat.le_trans h.size k.size, fun i hi hn => (k.block i (Nat.lt_of_lt_of_le hi h.size) (fun hg => hn (hs i hi hg))).trans (h.block i hi hn)⟩
theorem Only.of_ext {F : List Nat} {w w' : World} (h : Ext w w') : Only F w w' := ⟨h.os, h.tape, h.output, h.size, fun k hk _ => h.block k hk⟩
theorem Only.ext {w w' : World} (h : Only [] w w') : Ext w w' := ⟨h.os, h.tape, h.output, h.size, fun k hk => h.block k hk (by simp)⟩
theorem Only.below {F : List Nat} {B : Nat} {w w' : World} (h : Only F w w') (hB : ∀ k ∈ F, B ≤ k) (hw : B ≤ w.heap.size) : Below B w w' :=
  ⟨h.os, h.tape, h.output, h.size, fun k hk => h.block k (by omega) (fun hf => by have := hB k hf; omega)⟩
theorem Only.setBlk {F : List Nat} {a w : World} (h : Only F a w) {b : Nat} (hb : b ∈ F ∨ a.heap.size ≤ b) (L : List Value) : Only F a (setBlk w b L) :=
  ⟨h.os, h.tape, h.output, by simp [Go.Pm.setBlk]; exact h.size, fun k hk hn => by
    unfold Go.Pm.setBlk
    rw [setRow_other _ _ _ _ (fun e => by subst e; rcases hb with hb | hb; exact hn hb; omega)]
    exact h.block k hk hn⟩
theorem Only.alloc {F : List Nat} {a w : World} (h : Only F a w) (o : Obj) : Only F a (w.alloc o) :=
  ⟨h.os, h.tape, h.output, by have := h.size; simp; omega, fun k hk hn => (heap_old w o k (Nat.lt_of_lt_of_le hk h.size)).trans (h.block k hk hn)⟩
theorem Only.drew {F : List Nat} {a w : World} (h : Only F a w) : Only F a w.drew := ⟨h.os, h.tape, h.output, h.size, h.block⟩
theorem Only.grown {F : List Nat} {a w w' : World} {row : Option Nat} (h : Only F a w) (hg : w.grownBy w' row) (hr : ∀ k, row = some k → k ∈ F ∨ a.heap.size ≤ k) : Only F a w' :=
  ⟨hg.os.trans h.os, hg.tape.trans h.tape, hg.output.trans h.output, Nat.le_trans h.size hg.size, fun k hk hn =>
    (hg.block k (Nat.lt_of_lt_of_le hk h.size) (fun e => by rcases hr k e.symm with h1 | h1; exact hn h1; omega)).trans (h.block k hk hn)⟩

theorem Bytes.only {F : List Nat} {w w' : World} {S : Nat → Prop} {a : Option Addr} {l : List UInt8} (hb : Bytes w S a l) (h : Only F w w') (hS : ∀ b, S b → b < w.heap.size ∧ b ∉ F) : Bytes w' S a l :=
  hb.frame (fun b hb => h.block b (hS b hb).1 (hS b hb).2)
theorem Blk.only {F : List Nat} {w w' : World} {b : Nat} {L : List Value} {t : TypeId} (hb : Blk w b L t) (h : Only F w w') (hn : b ∉ F) : Blk w' b L t :=
  (h.block b hb.lt hn).trans hb
theorem Blk.ext {w w' : World} {b : Nat} {L : List Value} {t : TypeId} (hb : Blk w b L t) (h : Ext w w') : Blk w' b L t := (h.block b hb.lt).trans hb

theorem Src.take {w : World} {a : Option Addr} {xs : List Value} (h : Src w a xs) (n : Nat) : Src w a (xs.take n) := by
  intro i hi
  obtain ⟨b, off, h1, h2⟩ := h i (by simp at hi; omega)
  exact ⟨b, off, h1, by rw [h2]; simp⟩
section
variable {P : Program}
/-- size and kind of a type that takes several cells -/
structure Wide (P : Program) (t : TypeId) (n : Nat) : Prop where
  agg : ∀ w, (isAgg t).run P w = .ok true w
  size : (P.info? t).map (·.size) = some n

theorem run_sizeOf {t : TypeId} {n : Nat} (h : (P.info? t).map (·.size) = some n) (w : World) : (sizeOf t).run P w = .ok n w := by
  obtain ⟨i, hi, hs⟩ := Option.map_eq_some_iff.1 h
  simp [sizeOf, typeInfo, hi, hs]
theorem mid_get {α : Type} (pre mid post : List α) (j : Nat) (hj : j < mid.length) : (pre ++ mid ++ post)[pre.length + j]? = some mid[j] := by
  rw [List.append_assoc, List.getElem?_append_right (by omega), Nat.add_sub_cancel_left, List.getElem?_append_left hj, List.getElem?_eq_getElem hj]

theorem run_load_mid {t e : TypeId} {w : World} {b off : Nat} {pre mid post : List Value} (hw : Wide P t mid.length) (hb : Blk w b (pre ++ mid ++ post) e) (ho : pre.length = off) :
    (Instr.loadAt t (.pointer (some ⟨b, off, none⟩))).run P w = .ok (.agg mid.toArray) w := by
  subst ho
  have hl := run_loadCells_list (P := P) w ⟨b, pre.length, none⟩ mid (fun j v hv => by
    obtain ⟨hj, rfl⟩ := List.getElem?_eq_some_iff.1 hv
    have : (⟨b, pre.length, none⟩ : Addr).add j = ⟨b, pre.length + j, none⟩ := by unfold Addr.add; split <;> simp_all
    rw [this, hb.cell, mid_get pre mid post j hj])
  simp [Instr.loadAt, Instr.sureAddr, loadVar, hw.agg, run_sizeOf hw.size, hl]

theorem run_store_mid {t e : TypeId} {w : World} {b off : Nat} {pre mid post : List Value} {new : List Value} (hsz : (P.info? t).map (·.size) = some new.length) (hb : Blk w b (pre ++ mid ++ post) e) (ho : pre.length = off)
    (hn : new.length = mid.length) (h1 : ∀ v ∈ new, v.oneCell' = true) :
    (Instr.storeAt t (.pointer (some ⟨b, off, none⟩)) (.agg new.toArray)).run P w = .ok () (setBlk w b (pre ++ new ++ post)) := by
  subst ho
  have hst := run_storeCells_at P b pre.length e new 0 (pre ++ mid ++ post).toArray w hb (by simp; omega) h1
  have e1 : (((pre ++ mid ++ post).toArray.toList.take (pre.length + 0)) ++ new ++ ((pre ++ mid ++ post).toArray.toList.drop (pre.length + 0 + new.length))) = pre ++ new ++ post := by
    rw [hn, List.append_assoc pre mid post]
    simp
  rw [e1] at hst
  simp [Instr.storeAt, Instr.sureAddr, storeVar, Value.cells, run_sizeOf hsz, hst]

/-- copy of bytes into the middle of a block -/
theorem run_copy_mid {dT e : TypeId} {ty el : TypeId} {w : World} {g dLen dCap : Nat} {pre mid post cs : List Value} {ad : Option Addr} {sLen sCap : Nat} (hu : P.underlying dT = some (.slice el)) (hs : (P.info? el).map (·.size) = some 1)
    (hb : Blk w g (pre ++ mid ++ post) e) (off : Nat) (ho : pre.length = off) (hm : mid.length = cs.length) (hn : cs.length = Nat.min sLen dLen) (hok : SliceOk ad sLen sCap) (hsrc : Src w ad cs) (h1 : ∀ v ∈ cs, v.oneCell' = true) :
    (Builtin.copy_ #[dT, dT] ty #[.slice (some ⟨g, off, none⟩) dLen dCap, .slice ad sLen sCap]).run P w = .ok (goInt cs.length) (setBlk w g (pre ++ cs ++ post)) := by
  subst ho
  cases ad with
  | none =>
    have h0 := hok.nil rfl
    have hl := hok.le
    subst h0
    obtain rfl : sLen = 0 := by omega
    have hc : cs = [] := List.eq_nil_of_length_eq_zero (by rw [hn]; exact Nat.zero_min _)
    subst hc
    obtain rfl : mid = [] := List.eq_nil_of_length_eq_zero (by simpa using hm)
    rw [run_copy_nil (P := P) w dT dT ty el _ dLen dCap hu (by rw [hs]; rfl)]
    have : setBlk w g (pre ++ [] ++ post) = w := setRow_self w g _ e (0, 0) hb
    rw [this]; rfl
  | some a =>
    have hsrc' : ∀ j v, cs[j]? = some v → w.cell? (a.add j) = some v := by
      intro j v hv
      obtain ⟨hj, rfl⟩ := List.getElem?_eq_some_iff.1 hv
      obtain ⟨b, off, ha, hc⟩ := hsrc j hj
      simp only [Option.some.injEq] at ha
      subst ha
      have : (⟨b, off, none⟩ : Addr).add j = ⟨b, off + j, none⟩ := by unfold Addr.add; split <;> simp_all
      rw [this]; exact hc
    have := run_copy_row (P := P) w dT dT ty el g pre.length dLen dCap a sLen sCap (pre ++ mid ++ post).toArray e cs hu hs hb hn hsrc' (by simp; omega) h1
    have e1 : ((pre ++ mid ++ post).toArray.toList.take pre.length) ++ cs ++ ((pre ++ mid ++ post).toArray.toList.drop (pre.length + cs.length)) = pre ++ cs ++ post := by
      rw [← hm, List.append_assoc pre mid post]
      simp
    rw [e1] at this
    exact this

/- single steps of a region that does not draw -/
variable {ops : Array Oper} {Q : Exit → Act → World → Prop} {a : Act} {w w' : World} {rest : List Oper} {o : Oper} {v : Value}
theorem wpl_val (hg : o.guard = none) (hrun : (execOp a.eval o).run P w = .ok (.value v) w') (h : wpList P ops Q rest (a.put o.dst v) w') : wpList P ops Q (o :: rest) a w :=
  wpList_plain hg fun K hK => by unfold Oper.wp; rw [hrun]; exact hK _ _ h
theorem wpl_skip (hg : o.guard = none) (hrun : (execOp a.eval o).run P w = .ok .skip w') (h : wpList P ops Q rest (a.put o.dst undef) w') : wpList P ops Q (o :: rest) a w :=
  wpList_plain hg fun K hK => by unfold Oper.wp; rw [hrun]; exact hK _ _ h
theorem wpl_load {t : TypeId} {x : Operand} {p : Value} (hg : o.guard = none) (ho : o.op = .load t x) (hx : a.eval x = p) (hr : (Instr.loadAt t p).run P w = .ok v w) (h : wpList P ops Q rest (a.put o.dst v) w) : wpList P ops Q (o :: rest) a w :=
  wpl_val hg (by simp [execOp, ho, hx, hr]) h
theorem wpl_store {t : TypeId} {x y : Operand} {p q : Value} (hg : o.guard = none) (ho : o.op = .store t x y) (hx : a.eval x = p) (hy : a.eval y = q) (hr : (Instr.storeAt t p q).run P w = .ok () w') (h : wpList P ops Q rest (a.put o.dst undef) w') : wpList P ops Q (o :: rest) a w :=
  wpl_skip hg (by simp [execOp, ho, hx, hy, hr]) h
theorem wpl_copy {t : TypeId} {x y : Operand} {p q : Value} (hg : o.guard = none) (ho : o.op = .call { callee := .builtin .copy, args := #[x, y], argTypes := #[t, t] }) (hx : a.eval x = p) (hy : a.eval y = q)
    (hr : (Builtin.copy_ #[t, t] o.type #[p, q]).run P w = .ok v w') (h : wpList P ops Q rest (a.put o.dst v) w') : wpList P ops Q (o :: rest) a w :=
  wpl_val hg (by simp [execOp, ho, resolve, invoke, builtin, hx, hy, hr]) h
end

/- ONE OPERATION's RUN, by its kind -/
def Ex (P : Program) (a : Act) (o : Oper) (w : World) (v : Value) (w' : World) : Prop := (execOp a.eval o).run P w = .ok (.value v) w'
def ExU (P : Program) (a : Act) (o : Oper) (w w' : World) : Prop := (execOp a.eval o).run P w = .ok .skip w'
section
variable {P : Program} {ops : Array Oper} {Q : Exit → Act → World → Prop} {a : Act} {w w' : World} {rest : List Oper} {o : Oper} {v : Value} {A : List SP} {i : Nat} {J : List Value → World → Prop} {vals : List Value}
theorem wpl_ex (hg : o.guard = none) (hr : Ex P a o w v w') (h : wpList P ops Q rest (a.put o.dst v) w') : wpList P ops Q (o :: rest) a w := wpl_val hg hr h
theorem wpl_exU (hg : o.guard = none) (hr : ExU P a o w w') (h : wpList P ops Q rest (a.put o.dst undef) w') : wpList P ops Q (o :: rest) a w := wpl_skip hg hr h
theorem Ex.ok (hr : Ex P a o w v w') (hg : Region.wanted o (yielded ops a.tmps) = true) (he : Ext w w') (hA : nth A i w' v) : StepOk P ops A Q i o a w := stepOk_of hg hr he hA
theorem Ex.ok' (hr : Ex P a o w v w) (hg : Region.wanted o (yielded ops a.tmps) = true) (hA : nth A i w v) : StepOk P ops A Q i o a w := stepOk_of hg hr (Ext.rfl' _) hA
theorem Ex.adds (hr : Ex P a o w v w') (hg : Region.wanted o (yielded ops a.tmps) = true) (he : Ext w w') (hA : nth A i w' v) : StepAdds P ops A Q i o a w := stepOk_of hg hr he hA
theorem Ex.adds' (hr : Ex P a o w v w) (hg : Region.wanted o (yielded ops a.tmps) = true) (hA : nth A i w v) : StepAdds P ops A Q i o a w := stepOk_of hg hr (Ext.rfl' _) hA
theorem Ex.mem (hr : Ex P a o w v w') (hg : Region.wanted o (yielded ops a.tmps) = true) (hA : J (vals ++ [v]) w') : StepMem P ops J Q o a w vals := stepMem_of hg hr hA
theorem ExU.mem (hr : ExU P a o w w') (hg : Region.wanted o (yielded ops a.tmps) = true) (hA : J (vals ++ [undef]) w') : StepMem P ops J Q o a w vals := stepMem_skip hg hr hA

variable {x y z : Operand} {t u : TypeId} {p q : Value}
theorem ex_move (ho : o.op = .move x) (hx : a.eval x = v) : Ex P a o w v w := by unfold Ex; simp [execOp, ho, hx]
theorem ex_assign (ho : o.op = .assign x) (hx : a.eval x = v) : Ex P a o w v w := by unfold Ex; simp [execOp, ho, hx]
theorem ex_nil {ad : Addr} (ho : o.op = .nilCheck x) (hx : a.eval x = .pointer (some ad)) : Ex P a o w (.pointer (some ad)) w := by unfold Ex; simp [execOp, ho, hx]
theorem ex_field {f : Nat} (ho : o.op = .fieldAddr t x f) (hx : a.eval x = p) (hr : (Instr.fieldAt t p f).run P w = .ok v w) : Ex P a o w v w := by unfold Ex; simp [execOp, ho, hx, hr]
theorem ex_index (ho : o.op = .indexAddr t x y) (hx : a.eval x = p) (hy : a.eval y = q) (hr : (Instr.indexAt t p q).run P w = .ok v w) : Ex P a o w v w := by unfold Ex; simp [execOp, ho, hx, hy, hr]
theorem ex_load (ho : o.op = .load t x) (hx : a.eval x = p) (hr : (Instr.loadAt t p).run P w = .ok v w) : Ex P a o w v w := by unfold Ex; simp [execOp, ho, hx, hr]
theorem ex_store (ho : o.op = .store t x y) (hx : a.eval x = p) (hy : a.eval y = q) (hr : (Instr.storeAt t p q).run P w = .ok () w') : ExU P a o w w' := by unfold ExU; simp [execOp, ho, hx, hy, hr]
theorem ex_build1 {k : Nat} (ho : o.op = .build t #[(k, x)]) (hx : a.eval x = p) (hr : (Instr.build t #[(k, p)]).run P w = .ok v w) : Ex P a o w v w := by unfold Ex; simp [execOp, ho, hx, hr]
theorem ex_alloc (ho : o.op = .alloc t) (hr : (Instr.alloc t true (.tuple #[])).run P w = .ok v w') : Ex P a o w v w' := by unfold Ex; simp [execOp, ho, hr]
theorem ex_box (ho : o.op = .box t x) (hx : a.eval x = p) (hr : (Instr.box t p).run P w = .ok v w') : Ex P a o w v w' := by unfold Ex; simp [execOp, ho, hx, hr]
theorem ex_row1 (ho : o.op = .buildSlice t 1 #[(0, x)]) (hx : a.eval x = p) (hr : (Instr.buildSlice t 1 #[(0, p)]).run P w = .ok v w') : Ex P a o w v w' := by unfold Ex; simp [execOp, ho, hx, hr]
theorem ex_slice {lo hi mx : Option Operand} {lo' hi' mx' : Option Value} (ho : o.op = .slice t x lo hi mx) (hx : a.eval x = p) (h1 : lo.map a.eval = lo') (h2 : hi.map a.eval = hi') (h3 : mx.map a.eval = mx') (hr : (Instr.sliceAt t p lo' hi' mx').run P w = .ok v w) : Ex P a o w v w := by
  unfold Ex; simp only [execOp, ho, hx, h1, h2, h3]; simp [hr]
theorem ex_append (ho : o.op = .call { callee := .builtin .append, args := #[x, y], argTypes := #[t, u] }) (hx : a.eval x = p) (hy : a.eval y = q) (hr : (Builtin.append_ #[t, u] o.type #[p, q]).run P w = .ok v w') : Ex P a o w v w' := by
  unfold Ex; simp [execOp, ho, resolve, invoke, builtin, hx, hy, hr]
theorem ex_copy (ho : o.op = .call { callee := .builtin .copy, args := #[x, y], argTypes := #[t, u] }) (hx : a.eval x = p) (hy : a.eval y = q) (hr : (Builtin.copy_ #[t, u] o.type #[p, q]).run P w = .ok v w') : Ex P a o w v w' := by
  unfold Ex; simp [execOp, ho, resolve, invoke, builtin, hx, hy, hr]
theorem ex_bin {op : BinOp} (ho : o.op = .binOp op t x y u) (hx : a.eval x = p) (hy : a.eval y = q) (h1 : (eqGuard op t x y p q).run P w = .ok () w) (hr : (binOp op t p q).run P w = .ok v w) : Ex P a o w v w := by
  unfold Ex; simp [execOp, ho, hx, hy, h1, hr]
theorem ex_un {op : UnOp} (ho : o.op = .unOp op t x) (hx : a.eval x = p) (hr : (Op.unary op p).run P w = .ok v w) : Ex P a o w v w := by unfold Ex; simp [execOp, ho, hx, hr]
theorem ex_conv (ho : o.op = .convert t u x) (hx : a.eval x = p) (hr : (convert t u p).run P w = .ok v w) : Ex P a o w v w := by unfold Ex; simp [execOp, ho, hx, hr]
theorem ex_len {pa : Option Addr} {n c : Nat} (ht : P.underlying t = some (.slice (P.elem t))) (ho : o.op = .call { callee := .builtin .len, args := #[x], argTypes := #[t] }) (hx : a.eval x = .slice pa n c) : Ex P a o w (.int .i64 n) w := by
  unfold Ex; simp [execOp, ho, hx, resolve, invoke, builtin, Builtin.len_, run_underlying ht, goInt]

/-- a variable of one cell, read -/
theorem run_load1 {b off : Nat} (hna : ∀ w, (isAgg t).run P w = .ok false w) (hc : w.cell? ⟨b, off, none⟩ = some v) : (Instr.loadAt t (.pointer (some ⟨b, off, none⟩))).run P w = .ok v w := by
  simp [Instr.loadAt, Instr.sureAddr, loadVar, hna, hc]
/-- one element of any size, in a new block -/
theorem run_row1 {e : TypeId} {zv : Value} {n bytes : Nat} (E : Elem P t e zv n bytes) (L : List Value) (hL : L.length = n) (hn : n * 1 ≤ 16777216) : (Instr.buildSlice t 1 #[(0, .agg L.toArray)]).run P w = .ok (.slice (some ⟨w.heap.size, 0, none⟩) 1 1) (w.alloc (.cells L.toArray e)) := by
  obtain ⟨ht, ⟨i, hi, hz, hs, _⟩, hzs, hpos⟩ := E
  have hf : ∀ c : Array Value, c.size = n → Instr.fill (fun i => some (i * n, n)) c [(0, .agg L.toArray)] = some L.toArray := by
    intro c hc
    have key : ∀ (l : List Value) (k : Nat) (d : Array Value), d.size = k + l.length → (∀ j, j < k → d[j]? = L[j]?) → (∀ j, l[j]? = L[k + j]?) →
        (l.zipIdx k).foldl (fun cs (x : Value × Nat) => cs.setIfInBounds (0 * n + x.2) x.1) d = L.toArray := by
      intro l
      induction l with
      | nil =>
        intro k d hd h1 h2
        simp only [List.zipIdx_nil, List.foldl_nil]
        apply Array.ext'
        apply List.ext_getElem?
        intro j
        by_cases hj : j < k
        · have := h1 j hj
          simpa using this
        · have e1 : d.toList[j]? = none := List.getElem?_eq_none (by simp at hd ⊢; omega)
          have e2 := h2 (j - k)
          rw [show k + (j - k) = j by omega] at e2
          rw [e1]
          simpa using e2
      | cons x l ih =>
        intro k d hd h1 h2
        rw [List.zipIdx_cons, List.foldl_cons]
        refine ih (k + 1) _ (by simp at hd ⊢; omega) (fun j hj => ?_) (fun j => by have := h2 (j + 1); simpa [Nat.add_assoc, Nat.add_comm 1 j] using this)
        by_cases hjk : j = k
        · subst hjk
          have hlt : 0 * n + j < d.size := by simp at hd ⊢; omega
          have := h2 0
          simp only [Nat.zero_mul, Nat.zero_add] at hlt ⊢
          rw [Array.getElem?_setIfInBounds_self_of_lt hlt]
          simpa using this
        · simp only [Nat.zero_mul, Nat.zero_add]
          rw [Array.getElem?_setIfInBounds_ne (by omega)]
          exact h1 j (by omega)
    have h0 := key L 0 c (by simp; omega) (fun j hj => by omega) (fun j => by simp)
    simp [Instr.fill, Value.cells, hL, hc]
    simpa using h0
  simp [Instr.buildSlice, run_underlying ht, sizeOf, typeInfo, hi, hs, zeroValue, hz, newRow, show ¬ 16777216 < n by omega, show ¬ n = 0 by omega]
  rw [hf _ (by simp)]
  simp
end

/-- append to a slice of one's own: the same block, or a new one -/
theorem run_append_src2 {P : Program} {w : World} {t ty e : TypeId} {z : Value} {size bytes : Nat} (E : Elem P t e z size bytes)
    {v : Value} {n : Nat} {xs : List Value} (hown : w.ownsRow 0 e size v n xs) {ad : Option Addr} {m c : Nat} {news : List Value} (hok : SliceOk ad m c) (hl : news.length = m * size)
    (hsrc : Src w ad news) (h1 : ∀ u ∈ news, u.oneCell' = true) (h63 : n + m ≤ maxLen) (hbytes : (n + m) * bytes ≤ 140737488355328) :
    ∃ v' w', (Builtin.append_ #[t, t] ty #[v, .slice ad m c]).run P w = .ok v' w' ∧ w'.ownsRow 0 e size v' (n + m) (xs ++ news) ∧ w.grownBy w' v.ownBlock ∧ (v'.ownBlock = v.ownBlock ∨ ∃ b, v'.ownBlock = some b ∧ w.heap.size ≤ b) := by
  obtain ⟨v', w', hr, h2, h3⟩ := run_append_src (ty := ty) E 0 hown hok hl hsrc h1 h63 hbytes (Nat.zero_le _)
  refine ⟨v', w', hr, h2, h3, ?_⟩
  cases hv : v'.ownBlock with
  | none =>
    rcases hown.2 with ⟨rfl, hn⟩ | ⟨g, cap, cur, rfl, _, hg, hnc, hcm, hcs, htake⟩
    · left; rfl
    · exfalso
      rcases h2.2 with ⟨rfl, h0⟩ | ⟨g', cap', cur', rfl, _⟩
      · -- nothing was appended to nothing: the value is the old one
        obtain ⟨rfl, rfl⟩ : n = 0 ∧ m = 0 := by omega
        obtain ⟨ht, ⟨i, hi, hz, hs, hby⟩, hzs, hpos⟩ := E
        cases ad with
        | none =>
          have hc := hok.nil rfl
          subst hc
          rw [run_append_owned_none (P := P) w 0 t ty e i size ht hi _ 0 xs hown] at hr
          simp at hr
        | some a =>
          obtain rfl : news = [] := List.eq_nil_of_length_eq_zero (by simpa using hl)
          have := run_append_room (P := P) w t ty e i ht hi g 0 cap cur hg a 0 c [] (by simp) (by simp) (by simp) (by omega) (by simp)
          rw [this] at hr
          simp at hr
      · simp [Value.ownBlock] at hv
  | some b =>
    rcases hown.2 with ⟨rfl, hn⟩ | ⟨g, cap, cur, rfl, _, hg, hnc, hcm, hcs, htake⟩
    · right
      refine ⟨b, rfl, ?_⟩
      have hx : xs = [] := List.eq_nil_of_length_eq_zero (by have := hown.1; rw [hn] at this; simpa using this)
      subst hx; subst hn
      obtain ⟨v2, w2, hr2, h22, _⟩ := run_append_src (ty := ty) E w.heap.size (World.ownsRow_nil w w.heap.size e size) hok hl hsrc h1 h63 hbytes (Nat.le_refl _)
      rw [hr] at hr2
      simp only [Result.ok.injEq] at hr2
      obtain ⟨rfl, rfl⟩ := hr2
      exact (h22.lt b hv).1
    · obtain ⟨ht, ⟨i, hi, hz, hs, hby⟩, hzs, hpos⟩ := E
      subst hs
      cases ad with
      | none =>
        have hc := hok.nil rfl
        have hm0 : m = 0 := by have := hok.le; omega
        subst hc; subst hm0
        rw [run_append_owned_none (P := P) w 0 t ty e i i.size ht hi _ n xs hown] at hr
        simp only [Result.ok.injEq] at hr
        left
        rw [← hv, hr.1]
      | some a =>
        have hnews : ∀ j u, news[j]? = some u → w.cell? (a.add j) = some u := by
          intro j u hu
          obtain ⟨hj, rfl⟩ := List.getElem?_eq_some_iff.1 hu
          obtain ⟨b, off, ha, hc⟩ := hsrc j hj
          simp only [Option.some.injEq] at ha
          subst ha
          have : (⟨b, off, none⟩ : Addr).add j = ⟨b, off + j, none⟩ := by unfold Addr.add; split <;> simp_all
          rw [this]; exact hc
        by_cases hroom : n + m ≤ cap
        · have hfit : n * i.size + news.length ≤ cur.size := by rw [hl, hcs, ← Nat.add_mul]; exact Nat.mul_le_mul_right _ hroom
          rw [run_append_room (P := P) w t ty e i ht hi g n cap cur hg a m c news hl hnews h1 hroom hfit] at hr
          simp only [Result.ok.injEq] at hr
          left
          rw [← hv, ← hr.1]
          rfl
        · right
          have hsmall : n + m ≤ 9223372036854775807 := by simp only [maxLen] at h63; omega
          have holds : ∀ j u, xs[j]? = some u → w.cell? ((⟨g, 0, none⟩ : Addr).add j) = some u := hown.cells (g := g) rfl
          rw [run_append_grow (P := P) w t ty e i z ht hi hz ⟨g, 0, none⟩ n cap xs hown.1 holds a m c news hl hnews (by omega) (by omega) (growslice_fits (by omega) (by rw [hby]; exact hbytes))] at hr
          simp only [Result.ok.injEq] at hr
          refine ⟨b, rfl, ?_⟩
          rw [← hr.1] at hv
          simp [Value.ownBlock] at hv
          omega
theorem ownsRow_ext {w w' : World} {base : Nat} {e : TypeId} {size : Nat} {v : Value} {n : Nat} {xs : List Value} (h : w.ownsRow base e size v n xs) (he : Ext w w') : w'.ownsRow base e size v n xs := by
  refine ⟨h.1, ?_⟩
  rcases h.2 with h4 | ⟨g, cap, cur, rfl, hb, hg, h5⟩
  · exact .inl h4
  · exact .inr ⟨g, cap, cur, rfl, hb, (he.block g (Array.getElem?_eq_some_iff.1 hg).1).trans hg, h5⟩
theorem ownsRow_only {F : List Nat} {w w' : World} {base : Nat} {e : TypeId} {size : Nat} {v : Value} {n : Nat} {xs : List Value} (h : w.ownsRow base e size v n xs) (he : Only F w w') (hn : ∀ b, v.ownBlock = some b → b ∉ F) : w'.ownsRow base e size v n xs := by
  refine ⟨h.1, ?_⟩
  rcases h.2 with h4 | ⟨g, cap, cur, rfl, hb, hg, h5⟩
  · exact .inl h4
  · exact .inr ⟨g, cap, cur, rfl, hb, (he.block g (Array.getElem?_eq_some_iff.1 hg).1 (hn g rfl)).trans hg, h5⟩
end Go.Pm
