/- More rules of single operations: calls of function values, comparisons of texts, rows that are made. -/
import Derived.Test.YtffmbdagjpdieaaStA
import Derived.Lib.LazyBuf
import Derived.Test.YtffmbdagjpdieaaRows
set_option maxRecDepth 100000
namespace Go.Pm
open Go.RowKit
theorem ok_full {b n : Nat} (h : n ≤ 1000000000000) : SliceOk (some ⟨b, 0, none⟩) n n := ⟨Nat.le_refl _, by unfold maxLen; omega, fun h => by cases h⟩
theorem rd_all {w : World} {b : Nat} {L : List Value} {t : TypeId} (h : Blk w b L t) : Src w (some ⟨b, 0, none⟩) L := src_mid (pre := []) (post := []) (by simpa using h) rfl
theorem Inv.cellRow {B : Base} {b n c size : Nat} {L : List Value} {e : TypeId} {H : List Res} {w : World} (hv : Inv B (Res.cell b L e :: H) w) (hL : L.length = c * size) (hn : n ≤ c) (hm : c ≤ maxLen) : Inv B (Res.row e size (.slice (some ⟨b, 0, none⟩) n c) n (L.take (n * size)) :: H) w := by
  have hle : n * size ≤ c * size := Nat.mul_le_mul_right _ hn
  refine hv.as (Res.row e size (.slice (some ⟨b, 0, none⟩) n c) n (L.take (n * size))) ⟨by rw [List.length_take, hL]; omega, .inr ⟨b, c, L.toArray, rfl, Nat.zero_le _, hv.head, hn, hm, ?_, rfl⟩⟩ ?_
  · simp [hL]
  simp [Value.ownBlock]
theorem Inv.rowCell {B : Base} {n c size b : Nat} {e : TypeId} {xs : List Value} {H : List Res} {w : World} (hv : Inv B (Res.row e size (.slice (some ⟨b, 0, none⟩) n c) n xs :: H) w) :
    ∃ L : List Value, L.length = c * size ∧ L.take (n * size) = xs ∧ n ≤ c ∧ c ≤ maxLen ∧ Inv B (Res.cell b L e :: H) w := by
  have hr : w.ownsRow 0 e size (.slice (some ⟨b, 0, none⟩) n c) n xs := hv.head
  rcases hr.2 with ⟨h1, h2⟩ | ⟨g, cap, cur, h1, hb, hg, hnc, hcm, hcs, htake⟩
  · cases h1
  simp only [Value.slice.injEq, Option.some.injEq, Addr.mk.injEq] at h1
  obtain ⟨⟨rfl, -, -⟩, -, rfl⟩ := h1
  exact ⟨cur.toList, by simpa using hcs, htake, hnc, hcm, hv.as (Res.cell b cur.toList e) (by simpa using hg) (by simp [Value.ownBlock])⟩
theorem Inv.rowNil {B : Base} {H : List Res} {w : World} (hv : Inv B H w) (e : TypeId) (size : Nat) : Inv B (Res.row e size (.slice none 0 0) 0 [] :: H) w :=
  hv.new (Ext.rfl' _) (Res.row e size (.slice none 0 0) 0 []) (World.ownsRow_nil _ _ _ _) (fun b hb => by simp [Value.ownBlock] at hb) (by simp [Value.ownBlock])
theorem Inv.rowOk {B : Base} {e : TypeId} {size n c : Nat} {ad : Option Addr} {xs : List Value} {H : List Res} {w : World} (hv : Inv B (Res.row e size (.slice ad n c) n xs :: H) w) : SliceOk ad n c ∧ Src w ad xs ∧ xs.length = n * size := by
  obtain ⟨C, -, h, hr, hok, -⟩ := hv.rowBy
  exact ⟨hok, (hr.more (Base.Le.refl _) (fun _ h => by cases h) : RdV C H ad xs).src h, (hv.head : World.ownsRow _ _ _ _ _ _ _).1⟩
section
variable {F : Fence} {n : Nat} {P : Program} {ops : Array Oper} {Q : Exit → Act → World → Prop} {a : Act} {w : World} {rest : List Oper} {o : Oper} {v zv : Value} {B : Base} {H : List Res} {t e u : TypeId} {x y : Operand} {bytes size : Nat}
theorem sl_row0 (hF : ∀ f, F.fn f) (hg : Region.wanted o (yielded ops a.tmps) = true) (ho : o.op = .buildSlice t 0 #[]) (hv : Inv B H w)
    (hr : ∀ w, (Instr.buildSlice t 0 #[]).run P w = .ok (.slice (some ⟨w.heap.size, 0, none⟩) 0 0) (w.alloc (.cells ([] : List Value).toArray e)))
    (h : ∀ b w', Inv B (Res.row e size (.slice (some ⟨b, 0, none⟩) 0 0) 0 [] :: H) w' → wpListIn F n P ops Q rest (a.put o.dst (.slice (some ⟨b, 0, none⟩) 0 0)) w') : wpListIn F n P ops Q (o :: rest) a w :=
  wpi_exG hF hg (by unfold isDefer; rw [ho]) (by unfold Ex; simp [execOp, ho, hr]) (h w.heap.size (w.alloc (.cells ([] : List Value).toArray e)) (by
    have := (hv.alloc [] e).cellRow (n := 0) (c := 0) (size := size) (by simp) (Nat.le_refl _) (Nat.zero_le _)
    simpa using this))
theorem sl_makeRow {cap : Nat} (hF : ∀ f, F.fn f) (hg : Region.wanted o (yielded ops a.tmps) = true) (ho : o.op = .makeSlice t x y) (hx : a.eval x = .int .i64 0) (hy : a.eval y = .int .i64 (cap : Int)) (E : Elem P t e zv size bytes) (hcm : cap ≤ maxLen) (hby : cap * bytes ≤ 140737488355328) (hv : Inv B H w)
    (h : ∀ b w', Inv B (Res.row e size (.slice (some ⟨b, 0, none⟩) 0 cap) 0 [] :: H) w' → wpListIn F n P ops Q rest (a.put o.dst (.slice (some ⟨b, 0, none⟩) 0 cap)) w') : wpListIn F n P ops Q (o :: rest) a w := by
  obtain ⟨i, hi, hz, hs, hb⟩ := E.hi
  refine sl_make (len := 0) hF hg ho hx hy E.ht hi hz (Nat.zero_le _) hcm (by rw [hb]; exact hby) hv (fun b w' hi' => h b w' ?_)
  have := hi'.cellRow (n := 0) (c := cap) (size := size) (by rw [hs]; simp [madeCells]) (Nat.zero_le _) hcm
  simpa using this
theorem ex_slnil {pa : Option Addr} {l c : Nat} {b : Bool} (ht : P.underlying t = some (.slice e)) (ho : o.op = .binOp .eql t x y u) (hx : a.eval x = .slice pa l c) (hy : a.eval y = .slice none 0 0) (hb : pa.isNone = b) : Ex P a o w (.bool b) w := by
  have hg : (eqGuard .eql t x y (.slice pa l c) (.slice none 0 0)).run P w = .ok () w := by
    simp [eqGuard]
  have hr := Go.run_eql_slice_nil w t e pa l c ht
  subst hb; unfold Ex; simp [execOp, ho, hx, hy, hg, hr]
theorem ex_makeFunc {f : FuncId} {p c : Array Operand} {c' : Array Value} (ho : o.op = .makeFunc (.func f) p c) (hp : p.map a.eval = #[]) (hc : c.map a.eval = c') : Ex P a o w (.func (.func f) #[] c') w := by
  unfold Ex; simp [execOp, ho, Instr.makeFunc, hp, hc]
theorem ex_sgeq {s s' : List UInt8} {b : Bool} (ho : o.op = .binOp .geq t x y u) (hx : a.eval x = .string ⟨s.toArray⟩) (hy : a.eval y = .string ⟨s'.toArray⟩) (hb : (!Op.bytesLess s s') = b) : Ex P a o w (.bool b) w := by
  subst hb; unfold Ex; simp [execOp, ho, hx, hy, eqGuard, binOp, Op.stringOp]
theorem ex_slss {s s' : List UInt8} {b : Bool} (ho : o.op = .binOp .lss t x y u) (hx : a.eval x = .string ⟨s.toArray⟩) (hy : a.eval y = .string ⟨s'.toArray⟩) (hb : Op.bytesLess s s' = b) : Ex P a o w (.bool b) w := by
  subst hb; unfold Ex; simp [execOp, ho, hx, hy, eqGuard, binOp, Op.stringOp]
theorem wpi_callV {f : FuncId} {xs : Array Operand} {ts : Array TypeId} {args cb : Array Value} (hf : Callable P f) (hF : ∀ f, F.fn f) (hC : ∀ (f : FuncId) (args : Array Value) (w : World) (R : Ending → World → Prop), Calls P f args w R → CallsIn F (n - 1) P f args w R) (hdp : F.depth = none) (hg : Region.wanted o (yielded ops a.tmps) = true)
    (ho : o.op = .call { callee := .value x, args := xs, argTypes := ts }) (hfx : a.eval x = .func (.func f) #[] cb) (hx : xs.map a.eval = args) (hc : Calls P f (args ++ cb) w fun e w' => ∃ v, e = .returned v ∧ wpListIn F n P ops Q rest (a.put o.dst v) w') : wpListIn F n P ops Q (o :: rest) a w := by
  refine wpListIn_step fun K hK => ?_
  rw [if_pos hg]
  refine ⟨fun f _ => hF f, ?_⟩
  have hd : isDefer o = false := by unfold isDefer; rw [ho]
  obtain ⟨fn, h1, h2, h3⟩ := hf
  have : execOp a.eval o = callFunc f (#[] ++ xs.map a.eval ++ cb) := by
    obtain ⟨d, op, ty, pos, af, gd⟩ := o
    simp only at ho
    subst ho
    simp only [execOp, resolve, hfx]
    rfl
  have hb : ¬ fn.body = none := by intro h; rw [h] at h3; cases h3
  have hn : ¬ fn.name = "runtime.NumGoroutine" := by simpa using h2
  have hr : (execOp a.eval o).run P w = .ok (.enter f (args ++ cb)) w := by rw [this, hx]; simp [callFunc, h1, hn, hb]
  rw [Oper.semAt_eq _ _ _ (not_defer hd), hr, Oper.uponIn_enter]
  refine ⟨fun e => by simp [hdp] at e, hC _ _ _ _ (hc.mono ?_)⟩
  rintro e w' ⟨v, rfl, hh⟩
  exact hK _ _ hh
end
end Go.Pm
/- An operation whose guard's operation was itself not wanted. -/
namespace Go.Pm
open Go.RowKit
section
variable {o : Oper} {a : Act}
theorem wanted_undef {ops : Array Oper} {j d : Nat} {b : Bool} (hgd : o.guard = some (j, b)) (hd : (ops[j]?).bind (·.dst) = some d) (h : a.tmps.getD d undef = undef) : Region.wanted o (yielded ops a.tmps) = false := by
  have hy : yielded ops a.tmps j = none := by
    unfold yielded
    rw [hd]
    simp only [Option.bind_some]
    rw [Array.getD_eq_getD_getElem?] at h
    cases h2 : a.tmps[d]? with
    | none => rfl
    | some x => rw [h2] at h; simp only [Option.getD_some] at h; rw [h]; rfl
  unfold Region.wanted
  rw [hgd]
  simp [hy]
end
end Go.Pm
/- Short names for the steps of the walks (mkmerge.py writes them into a claim's texts). -/
namespace Go.Pm
open Go.RowKit
theorem zP {a : Act} {d : Tmp} {v : Value} : Act.put a (some d) v = { a with tmps := a.tmps.setIfInBounds d v } := rfl
theorem zN {a : Act} {v : Value} : Act.put a none v = a := rfl
theorem zI {α : Type} {l : List α} {i : Nat} {a : α} : l.toArray.setIfInBounds i a = (l.set i a).toArray := by simp
theorem zS {α : Type} {l : List α} {i : Nat} {a b : α} : (a :: l).set (i + 1) b = a :: l.set i b := rfl
theorem zO {α : Type} {l : List α} {a b : α} : (a :: l).set 0 b = b :: l := rfl
theorem yA {α β : Type} {f : α → β} {l : List α} : Array.map f l.toArray = (List.map f l).toArray := by simp
theorem yB {α β : Type} {f : α → β} {a : α} {l : List α} : List.map f (a :: l) = f a :: List.map f l := rfl
theorem yC {α β : Type} {f : α → β} : List.map f [] = [] := rfl
theorem tV (f : FuncId) : Fence.wide.fn f := trivial
section
variable {n : Nat} {P : Program} {ops : Array Oper} {Q : Exit → Act → World → Prop} {a : Act} {w w' : World} {rest : List Oper} {o : Oper} {x y z : Operand}
theorem xG (v : Value) (hg : o.guard = none) (hd : isDefer o = false) (hr : Ex P a o w v w') (h : wpListIn Fence.wide n P ops Q rest (a.put o.dst v) w') : wpListIn Fence.wide n P ops Q (o :: rest) a w := wpi_exG tV (wn hg) hd hr h
theorem xH (j d : Nat) (b : Bool) (v : Value) (hgd : o.guard = some (j, b)) (h1 : (ops[j]?).bind (·.dst) = some d) (h2 : a.tmps.getD d undef = .bool b) (hd : isDefer o = false) (hr : Ex P a o w v w') (h : wpListIn Fence.wide n P ops Q rest (a.put o.dst v) w') : wpListIn Fence.wide n P ops Q (o :: rest) a w := wpi_exG tV (wanted_of hgd h1 h2) hd hr h
theorem xM (v : Value) (hg : o.guard = none) (ho : o.op = .move x) (hx : a.eval x = v) (h : wpListIn Fence.wide n P ops Q rest (a.put o.dst v) w) : wpListIn Fence.wide n P ops Q (o :: rest) a w := wpi_exG tV (wn hg) (by unfold isDefer; rw [ho]) (ex_move ho hx) h
theorem xA (v : Value) (hg : o.guard = none) (ho : o.op = .assign x) (hx : a.eval x = v) (h : wpListIn Fence.wide n P ops Q rest (a.put o.dst v) w) : wpListIn Fence.wide n P ops Q (o :: rest) a w := wpi_exG tV (wn hg) (by unfold isDefer; rw [ho]) (ex_assign ho hx) h
theorem xK (b : Bool) (v : Value) (hg : o.guard = none) (ho : o.op = .pick x y z) (hx : a.eval x = .bool b) (hy : a.eval (if b then y else z) = v) (h : wpListIn Fence.wide n P ops Q rest (a.put o.dst v) w) : wpListIn Fence.wide n P ops Q (o :: rest) a w := wpi_exG tV (wn hg) (by unfold isDefer; rw [ho]) (ex_pick ho hx hy) h
theorem xL (v : Value) {t : TypeId} {p : Value} (hg : o.guard = none) (ho : o.op = .load t x) (hx : a.eval x = p) (hr : (Instr.loadAt t p).run P w = .ok v w) (h : wpListIn Fence.wide n P ops Q rest (a.put o.dst v) w) : wpListIn Fence.wide n P ops Q (o :: rest) a w := wpi_exG tV (wn hg) (by unfold isDefer; rw [ho]) (ex_load ho hx hr) h
theorem xF (v : Value) {t : TypeId} {f : Nat} {p : Value} (hg : o.guard = none) (ho : o.op = .fieldAddr t x f) (hx : a.eval x = p) (hr : (Instr.fieldAt t p f).run P w = .ok v w) (h : wpListIn Fence.wide n P ops Q rest (a.put o.dst v) w) : wpListIn Fence.wide n P ops Q (o :: rest) a w := wpi_exG tV (wn hg) (by unfold isDefer; rw [ho]) (ex_field ho hx hr) h
theorem xN (j d : Nat) (b b' : Bool) (hgd : o.guard = some (j, b)) (h1 : (ops[j]?).bind (·.dst) = some d) (h2 : a.tmps.getD d undef = .bool b') (hne : b' ≠ b) (h : wpListIn Fence.wide n P ops Q rest (a.put o.dst undef) w) : wpListIn Fence.wide n P ops Q (o :: rest) a w := wpi_not tV (wanted_not hgd h1 h2 hne) h
theorem xU (j d : Nat) {b : Bool} (hgd : o.guard = some (j, b)) (h1 : (ops[j]?).bind (·.dst) = some d) (h2 : a.tmps.getD d undef = undef) (h : wpListIn Fence.wide n P ops Q rest (a.put o.dst undef) w) : wpListIn Fence.wide n P ops Q (o :: rest) a w := wpi_not tV (wanted_undef hgd h1 h2) h
theorem xT {o1 o2 o3 : Oper} (j d : Nat) (b b' : Bool) (g1 : o1.guard = some (j, b)) (g2 : o2.guard = some (j, b)) (g3 : o3.guard = some (j, b)) (h1 : (ops[j]?).bind (·.dst) = some d) (v1 : a.tmps.getD d undef = .bool b') (v2 : (a.put o1.dst undef).tmps.getD d undef = .bool b') (v3 : ((a.put o1.dst undef).put o2.dst undef).tmps.getD d undef = .bool b') (hne : b' ≠ b)
    (h : wpListIn Fence.wide n P ops Q rest (((a.put o1.dst undef).put o2.dst undef).put o3.dst undef) w) : wpListIn Fence.wide n P ops Q (o1 :: o2 :: o3 :: rest) a w :=
  wpi_not tV (wanted_not g1 h1 v1 hne) (wpi_not tV (wanted_not g2 h1 v2 hne) (wpi_not tV (wanted_not g3 h1 v3 hne) h))
theorem xC {f : FuncId} {xs : Array Operand} {ts : Array TypeId} {l : List Value} (hf : Callable P f) (hg : o.guard = none) (ho : o.op = .call { callee := .value (.func f), args := xs, argTypes := ts }) (hx : xs.toList.map a.eval = l)
    (hc : Calls P f l.toArray w fun e w' => ∃ v, e = .returned v ∧ wpListIn Fence.wide n P ops Q rest (a.put o.dst v) w') : wpListIn Fence.wide n P ops Q (o :: rest) a w :=
  wpi_callG hf tV wideC rfl (wn hg) ho (by rw [← hx]; apply Array.ext'; simp) hc
theorem xD {v : Value} {A : List SP} {i : Nat} {c : Bool} {p : Prop} (hc : c = false) (hr : Ex P a o w v w) (hg : o.guard = none) (hA : nth A i w v) : if c = true then p else StepAdds P ops A Q i o a w := add_step' hc (Ex.adds' hr (wn hg) hA)
theorem wL {F : Fence} (h : Q .normal a w) : wpListIn F n P ops Q [] a w := wpListIn_nil h
end
theorem rL {F : Fence} {n : Nat} {P : Program} {Q : Exit → Act → World → Prop} {a : Act} {w : World} {id : Nat} {l : List Oper} (h : wpListIn F n P l.toArray Q l a w) : (Code.region id l.toArray false).wpIn F n P Q a w := wpIn_region_lit h
theorem sK {F : Fence} {n : Nat} {P : Program} {Q : Exit → Act → World → Prop} {a : Act} {w : World} {x y : Code} (h : ∀ K : Act → World → Prop, (∀ a w, y.wpIn F n P Q a w → K a w) → x.wpIn F n P (Exit.then K Q) a w) : (Code.seq x y).wpIn F n P Q a w := wpIn_seq_k h
theorem tN {X : Act → World → Prop} {Q : Exit → Act → World → Prop} {a : Act} {w : World} (h : X a w) : Exit.then X Q .normal a w := h
theorem bR {P : Program} {fn : Func} {R : Ending → World → Prop} {a : Act} {w : World} {t : Tmp} (h : fn.results = #[.tmp t]) (hd : a.defers = []) (hR : R (.returned (a.tmps.getD t undef)) w) : bodyPost P fn R .ret a w := bodyPost_ret (results_tmp h _ _ _) hd hR
theorem Ready3.w {ops : Array Oper} {VS : List Value} {mem : List Nat} {a0 a : Act} {w : World} {vals : List Value} {i : Nat} (hR : Ready3 ops (VS.map SP.eq) mem a0 a w vals i) (j d : Nat) {v : Value} (h1 : ahead ops j i = true) (h2 : (ops[j]?).bind (·.dst) = some d) (h3 : mem.contains j = false) (hv : VS[j]? = some v) : a.eval (.tmp d) = v := hR.v j d h1 h2 h3 hv
end Go.Pm
/- Copies of values and versions. -/
namespace Go.Proofs.Ytffmbdagjpdieaa
open Go.RowKit Go.Pm
theorem mixed : Try.prog.follows .mixedOrders = true := by kernel_rfl
set_option maxHeartbeats 2000000 in
theorem clonePairs0 (B : Base) (H : List Res) (w : World) (hv : Inv B H w) :
    Calls Try.prog 65 #[.slice none 0 0] w fun e w' => e = .returned (.slice none 0 0) ∧ Inv B H w' := by
  refine (callsIn_wide (n := 5)).1 ?_
  refine callsIn_of_wp Try.func65 rfl trivial ?_
  simp only [Try.ntmps65, List.size_toArray, List.length_cons, List.length_nil, Nat.reduceAdd, Nat.reduceSub, Array.replicate_succ, Array.replicate_zero, List.push_toArray, List.append_toArray, List.nil_append, List.cons_append]
  refine sK fun K1 hK1 => rL ?_
  refine xA (.slice none 0 0) rfl rfl rfl ?_
  refine wL ?_
  simp only [zP, zI, zS, zO]
  refine tN (hK1 _ _ ?_)
  clear hK1 K1
  refine sK fun K2 hK2 => ?_
  refine sK fun K3 hK3 => rL ?_
  refine xM (.slice none 0 0) rfl rfl rfl ?_
  refine xG (.bool true) rfl rfl (ex_slnil Try.underlying32 rfl rfl rfl rfl) ?_
  refine wL ?_
  simp only [zP, zI, zS, zO]
  refine tN (hK3 _ _ ?_)
  clear hK3 K3
  refine wpIn_cond_true rfl ?_
  refine sK fun K4 hK4 => rL ?_
  refine xA (.slice none 0 0) rfl rfl rfl ?_
  refine wL ?_
  simp only [zP, zI, zS, zO]
  refine tN (hK4 _ _ ?_)
  clear hK4 K4
  refine wpIn_ret ?_
  refine then_ret ?_
  clear hK2 K2
  refine bR rfl rfl ?_
  exact ⟨rfl, hv⟩
theorem s1mk83 : (Try.prog.info? 83).map (fun i => (i.zero, i.size, i.bytes)) = some (some (.agg #[.string ⟨([] : List UInt8).toArray⟩, .string ⟨([] : List UInt8).toArray⟩]), 2, 32) := by kernel_rfl
theorem s1el32 : Elem Try.prog 32 83 (.agg #[.string ⟨([] : List UInt8).toArray⟩, .string ⟨([] : List UInt8).toArray⟩]) 2 32 := elem_of Try.underlying32 s1mk83 (by rfl) (by decide)
set_option maxHeartbeats 2000000 in
theorem clonePairs1 (B : Base) (H : List Res) (w : World) (a : Addr) (n c : Nat) (xs : List Value) (hok : SliceOk (some a) n c) (hl : xs.length = n * 2) (h1 : ∀ u ∈ xs, u.oneCell' = true) (hn : n ≤ 1000000) (hr : RdV B [] (some a) xs) (hv : Inv B H w) :
    Calls Try.prog 65 #[.slice (some a) n c] w fun e w' => ∃ C ad' c', B.Le C ∧ e = .returned (.slice ad' n c') ∧ SliceOk ad' n c' ∧ RdV C [] ad' xs ∧ Inv C H w' := by
  refine (callsIn_wide (n := 5)).1 ?_
  refine callsIn_of_wp Try.func65 rfl trivial ?_
  simp only [Try.ntmps65, List.size_toArray, List.length_cons, List.length_nil, Nat.reduceAdd, Nat.reduceSub, Array.replicate_succ, Array.replicate_zero, List.push_toArray, List.append_toArray, List.nil_append, List.cons_append]
  refine sK fun K1 hK1 => rL ?_
  refine xA (.slice none 0 0) rfl rfl rfl ?_
  refine wL ?_
  simp only [zP, zI, zS, zO]
  refine tN (hK1 _ _ ?_)
  clear hK1 K1
  refine sK fun K2 hK2 => ?_
  refine sK fun K3 hK3 => rL ?_
  refine xM (.slice (some a) n c) rfl rfl rfl ?_
  refine xG (.bool false) rfl rfl (ex_slnil Try.underlying32 rfl rfl rfl rfl) ?_
  refine wL ?_
  simp only [zP, zI, zS, zO]
  refine tN (hK3 _ _ ?_)
  clear hK3 K3
  refine wpIn_cond_false rfl ?_
  refine wpIn_skip ?_
  refine tN (hK2 _ _ ?_)
  clear hK2 K2
  refine sK fun K4 hK4 => rL ?_
  refine sl_row0 (size := 2) tV (wn rfl) rfl hv (e := 83) (fun w => by kernel_rfl) (fun b5 w6 hv => ?_)
  refine xM (.slice (some a) n c) rfl rfl rfl ?_
  refine sl_append (news := xs) tV (wn rfl) rfl rfl rfl s1el32 hv hok hl ((hr.more (Base.Le.refl _) (fun _ h => by cases h)).src hv) (h1) (by unfold maxLen; omega) (by omega) (fun rv7 w10 hv => ?_)
  obtain ⟨ra8, rc9, rfl⟩ := row_slice hv.head
  simp only [zP, zI, zS, zO]
  refine xA (.slice ra8 (0 + n) rc9) rfl rfl rfl ?_
  refine wL ?_
  simp only [zP, zI, zS, zO]
  refine tN (hK4 _ _ ?_)
  clear hK4 K4
  refine wpIn_ret ?_
  refine bR rfl rfl ?_
  obtain ⟨C, hB, hv2, hr2, hok2, -⟩ := hv.rowBy
  rw [Nat.zero_add] at hok2 ⊢
  rw [List.nil_append] at hr2
  exact ⟨C, _, _, hB, rfl, hok2, hr2, hv2⟩
theorem clonePairs (B : Base) (H : List Res) (w : World) (v : Value) (n : Nat) (xs : List Value) (h : RowB B v n xs) (hl : xs.length = n * 2) (h1 : ∀ u ∈ xs, u.oneCell' = true) (hn : n ≤ 1000000) (hv : Inv B H w) :
    Calls Try.prog 65 #[v] w fun e w' => ∃ C v', B.Le C ∧ e = .returned v' ∧ RowB C v' n xs ∧ Inv C H w' := by
  obtain ⟨ad, c, rfl, hok, hr⟩ := h
  cases ad with
  | none =>
    have hc0 : c = 0 := hok.nil rfl
    have hn0 : n = 0 := by have := hok.le; omega
    subst hc0 hn0
    refine (clonePairs0 B H w hv).mono ?_
    rintro e w' ⟨rfl, hv⟩
    exact ⟨B, _, Base.Le.refl _, rfl, ⟨none, 0, rfl, hok, hr⟩, hv⟩
  | some a =>
    refine (clonePairs1 B H w a n c xs hok hl h1 hn hr hv).mono ?_
    rintro e w' ⟨C, ad', c', hB, rfl, hok', hr', hv'⟩
    exact ⟨C, _, hB, rfl, ⟨ad', c', rfl, hok', hr'⟩, hv'⟩
set_option maxHeartbeats 2000000 in
theorem cloneTexts0 (B : Base) (H : List Res) (w : World) (hv : Inv B H w) :
    Calls Try.prog 66 #[.slice none 0 0] w fun e w' => e = .returned (.slice none 0 0) ∧ Inv B H w' := by
  refine (callsIn_wide (n := 5)).1 ?_
  refine callsIn_of_wp Try.func66 rfl trivial ?_
  simp only [Try.ntmps66, List.size_toArray, List.length_cons, List.length_nil, Nat.reduceAdd, Nat.reduceSub, Array.replicate_succ, Array.replicate_zero, List.push_toArray, List.append_toArray, List.nil_append, List.cons_append]
  refine sK fun K1 hK1 => rL ?_
  refine xA (.slice none 0 0) rfl rfl rfl ?_
  refine wL ?_
  simp only [zP, zI, zS, zO]
  refine tN (hK1 _ _ ?_)
  clear hK1 K1
  refine sK fun K2 hK2 => ?_
  refine sK fun K3 hK3 => rL ?_
  refine xM (.slice none 0 0) rfl rfl rfl ?_
  refine xG (.bool true) rfl rfl (ex_slnil Try.underlying33 rfl rfl rfl rfl) ?_
  refine wL ?_
  simp only [zP, zI, zS, zO]
  refine tN (hK3 _ _ ?_)
  clear hK3 K3
  refine wpIn_cond_true rfl ?_
  refine sK fun K4 hK4 => rL ?_
  refine xA (.slice none 0 0) rfl rfl rfl ?_
  refine wL ?_
  simp only [zP, zI, zS, zO]
  refine tN (hK4 _ _ ?_)
  clear hK4 K4
  refine wpIn_ret ?_
  refine then_ret ?_
  clear hK2 K2
  refine bR rfl rfl ?_
  exact ⟨rfl, hv⟩
theorem s1mk9 : (Try.prog.info? 9).map (fun i => (i.zero, i.size, i.bytes)) = some (some (.string ⟨([] : List UInt8).toArray⟩), 1, 16) := by kernel_rfl
theorem s1el33 : Elem Try.prog 33 9 (.string ⟨([] : List UInt8).toArray⟩) 1 16 := elem_of Try.underlying33 s1mk9 (by rfl) (by decide)
set_option maxHeartbeats 2000000 in
theorem cloneTexts1 (B : Base) (H : List Res) (w : World) (a : Addr) (n c : Nat) (xs : List Value) (hok : SliceOk (some a) n c) (hl : xs.length = n * 1) (h1 : ∀ u ∈ xs, u.oneCell' = true) (hn : n ≤ 1000000) (hr : RdV B [] (some a) xs) (hv : Inv B H w) :
    Calls Try.prog 66 #[.slice (some a) n c] w fun e w' => ∃ C ad' c', B.Le C ∧ e = .returned (.slice ad' n c') ∧ SliceOk ad' n c' ∧ RdV C [] ad' xs ∧ Inv C H w' := by
  refine (callsIn_wide (n := 5)).1 ?_
  refine callsIn_of_wp Try.func66 rfl trivial ?_
  simp only [Try.ntmps66, List.size_toArray, List.length_cons, List.length_nil, Nat.reduceAdd, Nat.reduceSub, Array.replicate_succ, Array.replicate_zero, List.push_toArray, List.append_toArray, List.nil_append, List.cons_append]
  refine sK fun K1 hK1 => rL ?_
  refine xA (.slice none 0 0) rfl rfl rfl ?_
  refine wL ?_
  simp only [zP, zI, zS, zO]
  refine tN (hK1 _ _ ?_)
  clear hK1 K1
  refine sK fun K2 hK2 => ?_
  refine sK fun K3 hK3 => rL ?_
  refine xM (.slice (some a) n c) rfl rfl rfl ?_
  refine xG (.bool false) rfl rfl (ex_slnil Try.underlying33 rfl rfl rfl rfl) ?_
  refine wL ?_
  simp only [zP, zI, zS, zO]
  refine tN (hK3 _ _ ?_)
  clear hK3 K3
  refine wpIn_cond_false rfl ?_
  refine wpIn_skip ?_
  refine tN (hK2 _ _ ?_)
  clear hK2 K2
  refine sK fun K4 hK4 => rL ?_
  refine sl_row0 (size := 1) tV (wn rfl) rfl hv (e := 9) (fun w => by kernel_rfl) (fun b5 w6 hv => ?_)
  refine xM (.slice (some a) n c) rfl rfl rfl ?_
  refine sl_append (news := xs) tV (wn rfl) rfl rfl rfl s1el33 hv hok hl ((hr.more (Base.Le.refl _) (fun _ h => by cases h)).src hv) (h1) (by unfold maxLen; omega) (by omega) (fun rv7 w10 hv => ?_)
  obtain ⟨ra8, rc9, rfl⟩ := row_slice hv.head
  simp only [zP, zI, zS, zO]
  refine xA (.slice ra8 (0 + n) rc9) rfl rfl rfl ?_
  refine wL ?_
  simp only [zP, zI, zS, zO]
  refine tN (hK4 _ _ ?_)
  clear hK4 K4
  refine wpIn_ret ?_
  refine bR rfl rfl ?_
  obtain ⟨C, hB, hv2, hr2, hok2, -⟩ := hv.rowBy
  rw [Nat.zero_add] at hok2 ⊢
  rw [List.nil_append] at hr2
  exact ⟨C, _, _, hB, rfl, hok2, hr2, hv2⟩
theorem cloneTexts (B : Base) (H : List Res) (w : World) (v : Value) (n : Nat) (xs : List Value) (h : RowB B v n xs) (hl : xs.length = n * 1) (h1 : ∀ u ∈ xs, u.oneCell' = true) (hn : n ≤ 1000000) (hv : Inv B H w) :
    Calls Try.prog 66 #[v] w fun e w' => ∃ C v', B.Le C ∧ e = .returned v' ∧ RowB C v' n xs ∧ Inv C H w' := by
  obtain ⟨ad, c, rfl, hok, hr⟩ := h
  cases ad with
  | none =>
    have hc0 : c = 0 := hok.nil rfl
    have hn0 : n = 0 := by have := hok.le; omega
    subst hc0 hn0
    refine (cloneTexts0 B H w hv).mono ?_
    rintro e w' ⟨rfl, hv⟩
    exact ⟨B, _, Base.Le.refl _, rfl, ⟨none, 0, rfl, hok, hr⟩, hv⟩
  | some a =>
    refine (cloneTexts1 B H w a n c xs hok hl h1 hn hr hv).mono ?_
    rintro e w' ⟨C, ad', c', hB, rfl, hok', hr', hv'⟩
    exact ⟨C, _, hB, rfl, ⟨ad', c', rfl, hok', hr'⟩, hv'⟩
set_option maxHeartbeats 2000000 in
theorem cloneMems0 (B : Base) (H : List Res) (w : World) (hv : Inv B H w) :
    Calls Try.prog 67 #[.slice none 0 0] w fun e w' => e = .returned (.slice none 0 0) ∧ Inv B H w' := by
  refine (callsIn_wide (n := 5)).1 ?_
  refine callsIn_of_wp Try.func67 rfl trivial ?_
  simp only [Try.ntmps67, List.size_toArray, List.length_cons, List.length_nil, Nat.reduceAdd, Nat.reduceSub, Array.replicate_succ, Array.replicate_zero, List.push_toArray, List.append_toArray, List.nil_append, List.cons_append]
  refine sK fun K1 hK1 => rL ?_
  refine xA (.slice none 0 0) rfl rfl rfl ?_
  refine wL ?_
  simp only [zP, zI, zS, zO]
  refine tN (hK1 _ _ ?_)
  clear hK1 K1
  refine sK fun K2 hK2 => ?_
  refine sK fun K3 hK3 => rL ?_
  refine xM (.slice none 0 0) rfl rfl rfl ?_
  refine xG (.bool true) rfl rfl (ex_slnil Try.underlying34 rfl rfl rfl rfl) ?_
  refine wL ?_
  simp only [zP, zI, zS, zO]
  refine tN (hK3 _ _ ?_)
  clear hK3 K3
  refine wpIn_cond_true rfl ?_
  refine sK fun K4 hK4 => rL ?_
  refine xA (.slice none 0 0) rfl rfl rfl ?_
  refine wL ?_
  simp only [zP, zI, zS, zO]
  refine tN (hK4 _ _ ?_)
  clear hK4 K4
  refine wpIn_ret ?_
  refine then_ret ?_
  clear hK2 K2
  refine bR rfl rfl ?_
  exact ⟨rfl, hv⟩
theorem s1mk85 : (Try.prog.info? 85).map (fun i => (i.zero, i.size, i.bytes)) = some (some (.agg #[.int .i64 0, .string ⟨([] : List UInt8).toArray⟩]), 2, 24) := by kernel_rfl
theorem s1el34 : Elem Try.prog 34 85 (.agg #[.int .i64 0, .string ⟨([] : List UInt8).toArray⟩]) 2 24 := elem_of Try.underlying34 s1mk85 (by rfl) (by decide)
set_option maxHeartbeats 2000000 in
theorem cloneMems1 (B : Base) (H : List Res) (w : World) (a : Addr) (n c : Nat) (xs : List Value) (hok : SliceOk (some a) n c) (hl : xs.length = n * 2) (h1 : ∀ u ∈ xs, u.oneCell' = true) (hn : n ≤ 1000000) (hr : RdV B [] (some a) xs) (hv : Inv B H w) :
    Calls Try.prog 67 #[.slice (some a) n c] w fun e w' => ∃ C ad' c', B.Le C ∧ e = .returned (.slice ad' n c') ∧ SliceOk ad' n c' ∧ RdV C [] ad' xs ∧ Inv C H w' := by
  refine (callsIn_wide (n := 5)).1 ?_
  refine callsIn_of_wp Try.func67 rfl trivial ?_
  simp only [Try.ntmps67, List.size_toArray, List.length_cons, List.length_nil, Nat.reduceAdd, Nat.reduceSub, Array.replicate_succ, Array.replicate_zero, List.push_toArray, List.append_toArray, List.nil_append, List.cons_append]
  refine sK fun K1 hK1 => rL ?_
  refine xA (.slice none 0 0) rfl rfl rfl ?_
  refine wL ?_
  simp only [zP, zI, zS, zO]
  refine tN (hK1 _ _ ?_)
  clear hK1 K1
  refine sK fun K2 hK2 => ?_
  refine sK fun K3 hK3 => rL ?_
  refine xM (.slice (some a) n c) rfl rfl rfl ?_
  refine xG (.bool false) rfl rfl (ex_slnil Try.underlying34 rfl rfl rfl rfl) ?_
  refine wL ?_
  simp only [zP, zI, zS, zO]
  refine tN (hK3 _ _ ?_)
  clear hK3 K3
  refine wpIn_cond_false rfl ?_
  refine wpIn_skip ?_
  refine tN (hK2 _ _ ?_)
  clear hK2 K2
  refine sK fun K4 hK4 => rL ?_
  refine sl_row0 (size := 2) tV (wn rfl) rfl hv (e := 85) (fun w => by kernel_rfl) (fun b5 w6 hv => ?_)
  refine xM (.slice (some a) n c) rfl rfl rfl ?_
  refine sl_append (news := xs) tV (wn rfl) rfl rfl rfl s1el34 hv hok hl ((hr.more (Base.Le.refl _) (fun _ h => by cases h)).src hv) (h1) (by unfold maxLen; omega) (by omega) (fun rv7 w10 hv => ?_)
  obtain ⟨ra8, rc9, rfl⟩ := row_slice hv.head
  simp only [zP, zI, zS, zO]
  refine xA (.slice ra8 (0 + n) rc9) rfl rfl rfl ?_
  refine wL ?_
  simp only [zP, zI, zS, zO]
  refine tN (hK4 _ _ ?_)
  clear hK4 K4
  refine wpIn_ret ?_
  refine bR rfl rfl ?_
  obtain ⟨C, hB, hv2, hr2, hok2, -⟩ := hv.rowBy
  rw [Nat.zero_add] at hok2 ⊢
  rw [List.nil_append] at hr2
  exact ⟨C, _, _, hB, rfl, hok2, hr2, hv2⟩
theorem cloneMems (B : Base) (H : List Res) (w : World) (v : Value) (n : Nat) (xs : List Value) (h : RowB B v n xs) (hl : xs.length = n * 2) (h1 : ∀ u ∈ xs, u.oneCell' = true) (hn : n ≤ 1000000) (hv : Inv B H w) :
    Calls Try.prog 67 #[v] w fun e w' => ∃ C v', B.Le C ∧ e = .returned v' ∧ RowB C v' n xs ∧ Inv C H w' := by
  obtain ⟨ad, c, rfl, hok, hr⟩ := h
  cases ad with
  | none =>
    have hc0 : c = 0 := hok.nil rfl
    have hn0 : n = 0 := by have := hok.le; omega
    subst hc0 hn0
    refine (cloneMems0 B H w hv).mono ?_
    rintro e w' ⟨rfl, hv⟩
    exact ⟨B, _, Base.Le.refl _, rfl, ⟨none, 0, rfl, hok, hr⟩, hv⟩
  | some a =>
    refine (cloneMems1 B H w a n c xs hok hl h1 hn hr hv).mono ?_
    rintro e w' ⟨C, ad', c', hB, rfl, hok', hr', hv'⟩
    exact ⟨C, _, hB, rfl, ⟨ad', c', rfl, hok', hr'⟩, hv'⟩
theorem s1al36 (w : World) : (Instr.alloc 36 true (.tuple #[])).run Try.prog w = .ok (.pointer (some ⟨w.heap.size, 0, none⟩)) (w.alloc (.cells ([.int .i64 0, .string ⟨([] : List UInt8).toArray⟩, .slice none 0 0, .slice none 0 0, .slice none 0 0] : List Value).toArray 36)) := by kernel_rfl
theorem s1fa36_2 (w : World) (b o : Nat) : (Instr.fieldAt 36 (.pointer (some ⟨b, o, none⟩)) 2).run Try.prog w = .ok (.pointer (some ⟨b, o + 2, none⟩)) w := by kernel_rfl
theorem s1na32 (w : World) : (isAgg 32).run Try.prog w = .ok false w := by kernel_rfl
theorem s1callable65 : Callable Try.prog 65 := ⟨_, Try.func65, by kernel_rfl, by kernel_rfl⟩
theorem s1sz32 : (Try.prog.info? 32).map (·.size) = some 1 := by kernel_rfl
theorem s1fa36_3 (w : World) (b o : Nat) : (Instr.fieldAt 36 (.pointer (some ⟨b, o, none⟩)) 3).run Try.prog w = .ok (.pointer (some ⟨b, o + 3, none⟩)) w := by kernel_rfl
theorem s1na33 (w : World) : (isAgg 33).run Try.prog w = .ok false w := by kernel_rfl
theorem s1callable66 : Callable Try.prog 66 := ⟨_, Try.func66, by kernel_rfl, by kernel_rfl⟩
theorem s1sz33 : (Try.prog.info? 33).map (·.size) = some 1 := by kernel_rfl
theorem s1fa36_4 (w : World) (b o : Nat) : (Instr.fieldAt 36 (.pointer (some ⟨b, o, none⟩)) 4).run Try.prog w = .ok (.pointer (some ⟨b, o + 4, none⟩)) w := by kernel_rfl
theorem s1na34 (w : World) : (isAgg 34).run Try.prog w = .ok false w := by kernel_rfl
theorem s1callable67 : Callable Try.prog 67 := ⟨_, Try.func67, by kernel_rfl, by kernel_rfl⟩
theorem s1sz34 : (Try.prog.info? 34).map (·.size) = some 1 := by kernel_rfl
theorem s1wd36 : Wide Try.prog 36 5 := wide_of (fun w => by kernel_rfl) (by kernel_rfl)
theorem s1sz36 : (Try.prog.info? 36).map (·.size) = some 5 := by kernel_rfl
set_option maxHeartbeats 2000000 in
theorem valueClone (B : Base) (H : List Res) (w : World) (v : Val) (p t z : Value) (h : ValAt B v p t z) (hv : Inv B H w) :
    Calls Try.prog 56 #[.agg #[.int .i64 v.kind, .string ⟨v.text.toArray⟩, p, t, z]] w fun e w' => ∃ C p' t' z', B.Le C ∧ e = .returned (.agg #[.int .i64 v.kind, .string ⟨v.text.toArray⟩, p', t', z']) ∧ ValAt C v p' t' z' ∧ Inv C H w' := by
  refine (callsIn_wide (n := 5)).1 ?_
  refine callsIn_of_wp Try.func56 rfl trivial ?_
  simp only [Try.ntmps56, List.size_toArray, List.length_cons, List.length_nil, Nat.reduceAdd, Nat.reduceSub, Array.replicate_succ, Array.replicate_zero, List.push_toArray, List.append_toArray, List.nil_append, List.cons_append]
  refine sK fun K1 hK1 => rL ?_
  refine sl_box (L := [.int .i64 v.kind, .string ⟨v.text.toArray⟩, p, t, z]) tV (wn rfl) rfl (p := .agg #[.int .i64 v.kind, .string ⟨v.text.toArray⟩, p, t, z]) rfl hv (fun w => by kernel_rfl) (fun b2 w3 hv => ?_)
  refine sl_alloc tV (wn rfl) rfl hv s1al36 (fun b4 w5 hv => ?_)
  refine wL ?_
  simp only [zP, zI, zS, zO]
  refine tN (hK1 _ _ ?_)
  clear hK1 K1
  refine sK fun K6 hK6 => rL ?_
  refine xF (.pointer (some ⟨b2, 2, none⟩)) rfl rfl rfl (s1fa36_2 _ _ _) ?_
  refine xL (p) rfl rfl rfl (run_load1 s1na32 (hv.load 1 2 rfl rfl)) ?_
  refine xC s1callable65 rfl rfl (l := [p]) rfl ((clonePairs _ _ _ p _ _ (h.p.more (Base.Le.refl _)) (pairCells_len _) (pairCells_one _) h.pm hv).mono ?_)
  rintro e w9 ⟨C7, q8, hC7, rfl, hq8, hv⟩
  refine ⟨_, rfl, ?_⟩
  simp only [zP, zI, zS, zO]
  refine xF (.pointer (some ⟨b2, 2, none⟩)) rfl rfl rfl (s1fa36_2 _ _ _) ?_
  refine sl_storeAt 1 (v := q8) (L' := [.int .i64 v.kind, .string ⟨v.text.toArray⟩, q8, t, z]) tV (wn rfl) rfl rfl rfl hv rfl s1sz32 (by simp) hq8.cells hq8.one rfl (fun w10 hv => ?_)
  simp only [List.set_cons_succ, List.set_cons_zero] at hv
  refine wL ?_
  simp only [zP, zN, zI, zS, zO]
  refine tN (hK6 _ _ ?_)
  clear hK6 K6
  refine sK fun K11 hK11 => rL ?_
  refine xF (.pointer (some ⟨b2, 3, none⟩)) rfl rfl rfl (s1fa36_3 _ _ _) ?_
  refine xL (t) rfl rfl rfl (run_load1 s1na33 (hv.load 1 3 rfl rfl)) ?_
  refine xC s1callable66 rfl rfl (l := [t]) rfl ((cloneTexts _ _ _ t _ _ (h.t.more hC7) (textCells_len _) (textCells_one _) h.tm hv).mono ?_)
  rintro e w14 ⟨C12, q13, hC12, rfl, hq13, hv⟩
  refine ⟨_, rfl, ?_⟩
  simp only [zP, zI, zS, zO]
  refine xF (.pointer (some ⟨b2, 3, none⟩)) rfl rfl rfl (s1fa36_3 _ _ _) ?_
  refine sl_storeAt 1 (v := q13) (L' := [.int .i64 v.kind, .string ⟨v.text.toArray⟩, q8, q13, z]) tV (wn rfl) rfl rfl rfl hv rfl s1sz33 (by simp) hq13.cells hq13.one rfl (fun w15 hv => ?_)
  simp only [List.set_cons_succ, List.set_cons_zero] at hv
  refine wL ?_
  simp only [zP, zN, zI, zS, zO]
  refine tN (hK11 _ _ ?_)
  clear hK11 K11
  refine sK fun K16 hK16 => rL ?_
  refine xF (.pointer (some ⟨b2, 4, none⟩)) rfl rfl rfl (s1fa36_4 _ _ _) ?_
  refine xL (z) rfl rfl rfl (run_load1 s1na34 (hv.load 1 4 rfl rfl)) ?_
  refine xC s1callable67 rfl rfl (l := [z]) rfl ((cloneMems _ _ _ z _ _ (h.z.more (hC7.trans hC12)) (memCells_len _) (memCells_one _) h.zm hv).mono ?_)
  rintro e w19 ⟨C17, q18, hC17, rfl, hq18, hv⟩
  refine ⟨_, rfl, ?_⟩
  simp only [zP, zI, zS, zO]
  refine xF (.pointer (some ⟨b2, 4, none⟩)) rfl rfl rfl (s1fa36_4 _ _ _) ?_
  refine sl_storeAt 1 (v := q18) (L' := [.int .i64 v.kind, .string ⟨v.text.toArray⟩, q8, q13, q18]) tV (wn rfl) rfl rfl rfl hv rfl s1sz34 (by simp) hq18.cells hq18.one rfl (fun w20 hv => ?_)
  simp only [List.set_cons_succ, List.set_cons_zero] at hv
  refine wL ?_
  simp only [zP, zN, zI, zS, zO]
  refine tN (hK16 _ _ ?_)
  clear hK16 K16
  refine sK fun K21 hK21 => rL ?_
  refine xL (.agg #[.int .i64 v.kind, .string ⟨v.text.toArray⟩, q8, q13, q18]) rfl rfl rfl (run_load_mid (pre := []) (mid := [.int .i64 v.kind, .string ⟨v.text.toArray⟩, q8, q13, q18]) (post := []) s1wd36 (show Blk _ b2 ([] ++ [.int .i64 v.kind, .string ⟨v.text.toArray⟩, q8, q13, q18] ++ []) _ from hv.get 1 rfl) rfl) ?_
  refine sl_storeNAt 0 (new := [.int .i64 v.kind, .string ⟨v.text.toArray⟩, q8, q13, q18]) (pre := []) (mid := [.int .i64 0, .string ⟨([] : List UInt8).toArray⟩, .slice none 0 0, .slice none 0 0, .slice none 0 0]) (post := []) (L' := [.int .i64 v.kind, .string ⟨v.text.toArray⟩, q8, q13, q18]) tV (wn rfl) rfl rfl rfl hv rfl s1sz36 rfl rfl rfl (one_cons rfl (one_cons rfl (one_cons hq8.one (one_cons hq13.one (one_cons hq18.one one_nil))))) rfl (fun w22 hv => ?_)
  simp only [List.set_cons_zero] at hv
  refine wL ?_
  simp only [zP, zN, zI, zS, zO]
  refine tN (hK21 _ _ ?_)
  clear hK21 K21
  refine wpIn_ret ?_
  refine bodyPost_ret (res_cell1 rfl rfl (run_load_mid (pre := []) (mid := [.int .i64 v.kind, .string ⟨v.text.toArray⟩, q8, q13, q18]) (post := []) s1wd36 (show Blk _ b4 ([] ++ [.int .i64 v.kind, .string ⟨v.text.toArray⟩, q8, q13, q18] ++ []) _ from hv.get 0 rfl) rfl)) rfl ?_
  exact ⟨_, q8, q13, q18, ((hC7.trans hC12).trans hC17), rfl, ⟨hq8.more (hC12.trans hC17), hq13.more hC17, hq18.more (Base.Le.refl _), h.pm, h.tm, h.zm⟩, (hv.sub (List.Sublist.cons _ (List.Sublist.cons _ (List.Sublist.refl _))))⟩
theorem s1al38 (w : World) : (Instr.alloc 38 true (.tuple #[])).run Try.prog w = .ok (.pointer (some ⟨w.heap.size, 0, none⟩)) (w.alloc (.cells ([.int .i64 0, .bool false, .int .i64 0, .int .i64 0, .string ⟨([] : List UInt8).toArray⟩, .slice none 0 0, .slice none 0 0, .slice none 0 0] : List Value).toArray 38)) := by kernel_rfl
theorem s1fa38_3 (w : World) (b o : Nat) : (Instr.fieldAt 38 (.pointer (some ⟨b, o, none⟩)) 3).run Try.prog w = .ok (.pointer (some ⟨b, o + 3, none⟩)) w := by kernel_rfl
theorem s1callable56 : Callable Try.prog 56 := ⟨_, Try.func56, by kernel_rfl, by kernel_rfl⟩
theorem s1wd38 : Wide Try.prog 38 8 := wide_of (fun w => by kernel_rfl) (by kernel_rfl)
theorem s1sz38 : (Try.prog.info? 38).map (·.size) = some 8 := by kernel_rfl
set_option maxHeartbeats 2000000 in
theorem chainClone (B : Base) (H : List Res) (w : World) (v : Ver) (p t z : Value) (h : ValAt B v.val p t z) (hv : Inv B H w) :
    Calls Try.prog 47 #[.agg #[.int .i64 v.stamp, .bool v.gone, .int .i64 v.expire, .int .i64 v.val.kind, .string ⟨v.val.text.toArray⟩, p, t, z]] w fun e w' => ∃ C p' t' z', B.Le C ∧ e = .returned (.agg #[.int .i64 v.stamp, .bool v.gone, .int .i64 v.expire, .int .i64 v.val.kind, .string ⟨v.val.text.toArray⟩, p', t', z']) ∧ ValAt C v.val p' t' z' ∧ Inv C H w' := by
  refine (callsIn_wide (n := 5)).1 ?_
  refine callsIn_of_wp Try.func47 rfl trivial ?_
  simp only [Try.ntmps47, List.size_toArray, List.length_cons, List.length_nil, Nat.reduceAdd, Nat.reduceSub, Array.replicate_succ, Array.replicate_zero, List.push_toArray, List.append_toArray, List.nil_append, List.cons_append]
  refine sK fun K1 hK1 => rL ?_
  refine sl_box (L := [.int .i64 v.stamp, .bool v.gone, .int .i64 v.expire, .int .i64 v.val.kind, .string ⟨v.val.text.toArray⟩, p, t, z]) tV (wn rfl) rfl (p := .agg #[.int .i64 v.stamp, .bool v.gone, .int .i64 v.expire, .int .i64 v.val.kind, .string ⟨v.val.text.toArray⟩, p, t, z]) rfl hv (fun w => by kernel_rfl) (fun b2 w3 hv => ?_)
  refine sl_alloc tV (wn rfl) rfl hv s1al38 (fun b4 w5 hv => ?_)
  refine wL ?_
  simp only [zP, zI, zS, zO]
  refine tN (hK1 _ _ ?_)
  clear hK1 K1
  refine sK fun K6 hK6 => rL ?_
  refine xF (.pointer (some ⟨b2, 3, none⟩)) rfl rfl rfl (s1fa38_3 _ _ _) ?_
  refine xL (.agg #[.int .i64 v.val.kind, .string ⟨v.val.text.toArray⟩, p, t, z]) rfl rfl rfl (run_load_mid (pre := [.int .i64 v.stamp, .bool v.gone, .int .i64 v.expire]) (mid := [.int .i64 v.val.kind, .string ⟨v.val.text.toArray⟩, p, t, z]) (post := []) s1wd36 (show Blk _ b2 ([.int .i64 v.stamp, .bool v.gone, .int .i64 v.expire] ++ [.int .i64 v.val.kind, .string ⟨v.val.text.toArray⟩, p, t, z] ++ []) _ from hv.get 1 rfl) rfl) ?_
  refine xC s1callable56 rfl rfl (l := [.agg #[.int .i64 v.val.kind, .string ⟨v.val.text.toArray⟩, p, t, z]]) rfl ((valueClone _ _ _ v.val p t z (h.more (Base.Le.refl _)) hv).mono ?_)
  rintro e w11 ⟨C7, p8, t9, z10, hC7, rfl, hp8, hv⟩
  refine ⟨_, rfl, ?_⟩
  simp only [zP, zI, zS, zO]
  refine xF (.pointer (some ⟨b2, 3, none⟩)) rfl rfl rfl (s1fa38_3 _ _ _) ?_
  refine sl_storeNAt 1 (new := [.int .i64 v.val.kind, .string ⟨v.val.text.toArray⟩, p8, t9, z10]) (pre := [.int .i64 v.stamp, .bool v.gone, .int .i64 v.expire]) (mid := [.int .i64 v.val.kind, .string ⟨v.val.text.toArray⟩, p, t, z]) (post := []) (L' := [.int .i64 v.stamp, .bool v.gone, .int .i64 v.expire, .int .i64 v.val.kind, .string ⟨v.val.text.toArray⟩, p8, t9, z10]) tV (wn rfl) rfl rfl rfl hv rfl s1sz36 rfl rfl rfl (one_cons rfl (one_cons rfl (one_cons hp8.p.one (one_cons hp8.t.one (one_cons hp8.z.one one_nil))))) rfl (fun w12 hv => ?_)
  simp only [List.set_cons_succ, List.set_cons_zero] at hv
  refine wL ?_
  simp only [zP, zN, zI, zS, zO]
  refine tN (hK6 _ _ ?_)
  clear hK6 K6
  refine sK fun K13 hK13 => rL ?_
  refine xL (.agg #[.int .i64 v.stamp, .bool v.gone, .int .i64 v.expire, .int .i64 v.val.kind, .string ⟨v.val.text.toArray⟩, p8, t9, z10]) rfl rfl rfl (run_load_mid (pre := []) (mid := [.int .i64 v.stamp, .bool v.gone, .int .i64 v.expire, .int .i64 v.val.kind, .string ⟨v.val.text.toArray⟩, p8, t9, z10]) (post := []) s1wd38 (show Blk _ b2 ([] ++ [.int .i64 v.stamp, .bool v.gone, .int .i64 v.expire, .int .i64 v.val.kind, .string ⟨v.val.text.toArray⟩, p8, t9, z10] ++ []) _ from hv.get 1 rfl) rfl) ?_
  refine sl_storeNAt 0 (new := [.int .i64 v.stamp, .bool v.gone, .int .i64 v.expire, .int .i64 v.val.kind, .string ⟨v.val.text.toArray⟩, p8, t9, z10]) (pre := []) (mid := [.int .i64 0, .bool false, .int .i64 0, .int .i64 0, .string ⟨([] : List UInt8).toArray⟩, .slice none 0 0, .slice none 0 0, .slice none 0 0]) (post := []) (L' := [.int .i64 v.stamp, .bool v.gone, .int .i64 v.expire, .int .i64 v.val.kind, .string ⟨v.val.text.toArray⟩, p8, t9, z10]) tV (wn rfl) rfl rfl rfl hv rfl s1sz38 rfl rfl rfl (one_cons rfl (one_cons rfl (one_cons rfl (one_cons rfl (one_cons rfl (one_cons hp8.p.one (one_cons hp8.t.one (one_cons hp8.z.one one_nil)))))))) rfl (fun w14 hv => ?_)
  simp only [List.set_cons_zero] at hv
  refine wL ?_
  simp only [zP, zN, zI, zS, zO]
  refine tN (hK13 _ _ ?_)
  clear hK13 K13
  refine wpIn_ret ?_
  refine bodyPost_ret (res_cell1 rfl rfl (run_load_mid (pre := []) (mid := [.int .i64 v.stamp, .bool v.gone, .int .i64 v.expire, .int .i64 v.val.kind, .string ⟨v.val.text.toArray⟩, p8, t9, z10]) (post := []) s1wd38 (show Blk _ b4 ([] ++ [.int .i64 v.stamp, .bool v.gone, .int .i64 v.expire, .int .i64 v.val.kind, .string ⟨v.val.text.toArray⟩, p8, t9, z10] ++ []) _ from hv.get 0 rfl) rfl)) rfl ?_
  exact ⟨_, p8, t9, z10, hC7, rfl, hp8, (hv.sub (List.Sublist.cons _ (List.Sublist.cons _ (List.Sublist.refl _))))⟩
theorem s1mk38 : (Try.prog.info? 38).map (fun i => (i.zero, i.size, i.bytes)) = some (some (.agg #[.int .i64 0, .bool false, .int .i64 0, .int .i64 0, .string ⟨([] : List UInt8).toArray⟩, .slice none 0 0, .slice none 0 0, .slice none 0 0]), 8, 120) := by kernel_rfl
theorem s1el66 : Elem Try.prog 66 38 (.agg #[.int .i64 0, .bool false, .int .i64 0, .int .i64 0, .string ⟨([] : List UInt8).toArray⟩, .slice none 0 0, .slice none 0 0, .slice none 0 0]) 8 120 := elem_of Try.underlying66 s1mk38 (by rfl) (by decide)
theorem s1es66 (w : World) : (sizeOf (Try.prog.elem 66)).run Try.prog w = .ok 8 w := by kernel_rfl
set_option maxHeartbeats 2000000 in
theorem indexClone0 (B : Base) (H : List Res) (w : World) (ad : Option Addr) (c : Nat) (xs : List Value) (l : List Ver) (hok : SliceOk ad l.length c) (hr : RdV B [] ad xs) (hxs : VersAt B l xs) (hm : l.length ≤ 1000000) (hv : Inv B H w) :
    Calls Try.prog 43 #[.slice ad l.length c] w fun e w' => ∃ C v', B.Le C ∧ e = .returned v' ∧ ChainB C v' l ∧ Inv C H w' := by
  refine (callsIn_wide (n := 5)).1 ?_
  refine callsIn_of_wp Try.func43 rfl trivial ?_
  simp only [Try.ntmps43, List.size_toArray, List.length_cons, List.length_nil, Nat.reduceAdd, Nat.reduceSub, Array.replicate_succ, Array.replicate_zero, List.push_toArray, List.append_toArray, List.nil_append, List.cons_append]
  refine sK fun K1 hK1 => rL ?_
  refine xA (.slice none 0 0) rfl rfl rfl ?_
  refine wL ?_
  simp only [zP, zI, zS, zO]
  refine tN (hK1 _ _ ?_)
  clear hK1 K1
  refine sK fun K2 hK2 => rL ?_
  refine xM (.slice ad l.length c) rfl rfl rfl ?_
  refine xG (.int .i64 (l.length : Int)) rfl rfl (ex_len0 Try.underlying66 rfl rfl) ?_
  refine sl_makeRow (cap := l.length) tV (wn rfl) rfl rfl rfl s1el66 (by unfold maxLen; omega) (by omega) hv (fun b3 w4 hv => ?_)
  simp only [zP, zI, zS, zO]
  refine xA (.slice (some ⟨b3, 0, none⟩) 0 l.length) rfl rfl rfl ?_
  refine wL ?_
  simp only [zP, zI, zS, zO]
  refine tN (hK2 _ _ ?_)
  clear hK2 K2
  refine sK fun K5 hK5 => ?_
  refine sK fun K6 hK6 => rL ?_
  refine xM (.slice ad l.length c) rfl rfl rfl ?_
  refine xG (.int .i64 (l.length : Int)) rfl rfl (ex_len0 Try.underlying66 rfl rfl) ?_
  refine xM (.int .i64 0) rfl rfl rfl ?_
  refine wL ?_
  simp only [zP, zI, zS, zO]
  refine tN (hK6 _ _ ?_)
  clear hK6 K6
  refine wpIn_block ?_
  gi_loopw [3, 11] (fun x3 x11 wr => ∃ (i : Nat) (C : Base) (ra : Option Addr) (rc : Nat) (ys : List Value), x3 = .slice ra i rc ∧ x11 = .int .i64 (i : Int) ∧ B.Le C ∧ i ≤ l.length ∧ VersAt C (l.take i) ys ∧ Inv C (Res.row 38 8 (.slice ra i rc) i ys :: H) wr) (fun x3 x11 _ => l.length - (intOf x11).toNat)
  case atStart => exact ⟨0, B, _, _, [], rfl, rfl, Base.Le.refl _, Nat.zero_le _, rfl, hv⟩
  case round =>
    obtain ⟨i, C, ra, rc, ys, rfl, rfl, hBC, hi, hys, hv⟩ := hrel
    refine sK fun K8 hK8 => rL ?_
    by_cases hb9 : (i : Int) < (l.length : Int)
    · refine xG (.bool true) rfl rfl (ex_lss (k := .i64) (m := (i : Int)) (n := (l.length : Int)) rfl rfl rfl (decide_eq_true hb9)) ?_
      refine wL ?_
      simp only [zP, zI, zS, zO]
      refine tN (hK8 _ _ ?_)
      clear hK8 K8
      refine sK fun K10 hK10 => ?_
      refine wpIn_cond_true rfl ?_
      refine wpIn_skip ?_
      refine tN (hK10 _ _ ?_)
      clear hK10 K10
      refine sK fun K11 hK11 => ?_
      refine wpIn_block ?_
      refine sK fun K12 hK12 => ?_
      obtain ⟨x, hx⟩ : ∃ x, l[i]? = some x := ⟨_, List.getElem?_eq_getElem (show i < l.length by omega)⟩
      obtain ⟨bb, bo, xp, xt, xz, had, hvalx, hrdx⟩ := VersAt.reads hxs hr hx
      subst had
      refine rL ?_
      refine xG (.pointer (some ⟨bb, bo + i * 8, none⟩)) rfl rfl (ex_index rfl rfl rfl (run_idx (k := i) Try.underlying66 s1es66 (by omega))) ?_
      refine xL (.agg #[.int .i64 x.stamp, .bool x.gone, .int .i64 x.expire, .int .i64 x.val.kind, .string ⟨x.val.text.toArray⟩, xp, xt, xz]) rfl rfl rfl (run_loadR (cs := [.int .i64 x.stamp, .bool x.gone, .int .i64 x.expire, .int .i64 x.val.kind, .string ⟨x.val.text.toArray⟩, xp, xt, xz]) s1wd38 (Reads.mid (pre := []) (mid := [.int .i64 x.stamp, .bool x.gone, .int .i64 x.expire, .int .i64 x.val.kind, .string ⟨x.val.text.toArray⟩, xp, xt, xz]) (post := []) hrdx _ _ _ hBC no_res hv)) ?_
      refine sl_alloc tV (wn rfl) rfl hv s1al38 (fun b13 w14 hv => ?_)
      simp only [zP, zI, zS, zO]
      refine sl_storeNAt 0 (new := [.int .i64 x.stamp, .bool x.gone, .int .i64 x.expire, .int .i64 x.val.kind, .string ⟨x.val.text.toArray⟩, xp, xt, xz]) (pre := []) (mid := [.int .i64 0, .bool false, .int .i64 0, .int .i64 0, .string ⟨([] : List UInt8).toArray⟩, .slice none 0 0, .slice none 0 0, .slice none 0 0]) (post := []) (L' := [.int .i64 x.stamp, .bool x.gone, .int .i64 x.expire, .int .i64 x.val.kind, .string ⟨x.val.text.toArray⟩, xp, xt, xz]) tV (wn rfl) rfl rfl rfl hv rfl s1sz38 rfl rfl rfl (one_cons rfl (one_cons rfl (one_cons rfl (one_cons rfl (one_cons rfl (one_cons hvalx.p.one (one_cons hvalx.t.one (one_cons hvalx.z.one one_nil)))))))) rfl (fun w15 hv => ?_)
      simp only [List.set_cons_zero] at hv
      refine wL ?_
      simp only [zN]
      refine tN (hK12 _ _ ?_)
      clear hK12 K12
      refine sK fun K16 hK16 => rL ?_
      refine xF (.pointer (some ⟨b13, 3, none⟩)) rfl rfl rfl (s1fa38_3 _ _ _) ?_
      refine xL (.agg #[.int .i64 x.val.kind, .string ⟨x.val.text.toArray⟩, xp, xt, xz]) rfl rfl rfl (run_load_mid (pre := [.int .i64 x.stamp, .bool x.gone, .int .i64 x.expire]) (mid := [.int .i64 x.val.kind, .string ⟨x.val.text.toArray⟩, xp, xt, xz]) (post := []) s1wd36 (show Blk _ b13 ([.int .i64 x.stamp, .bool x.gone, .int .i64 x.expire] ++ [.int .i64 x.val.kind, .string ⟨x.val.text.toArray⟩, xp, xt, xz] ++ []) _ from hv.get 0 rfl) rfl) ?_
      refine xC s1callable56 rfl rfl (l := [.agg #[.int .i64 x.val.kind, .string ⟨x.val.text.toArray⟩, xp, xt, xz]]) rfl ((valueClone _ _ _ x.val xp xt xz (hvalx.more hBC) hv).mono ?_)
      rintro e w21 ⟨C17, p18, t19, z20, hC17, rfl, hp18, hv⟩
      refine ⟨_, rfl, ?_⟩
      simp only [zP, zI, zS, zO]
      refine xF (.pointer (some ⟨b13, 3, none⟩)) rfl rfl rfl (s1fa38_3 _ _ _) ?_
      refine sl_storeNAt 0 (new := [.int .i64 x.val.kind, .string ⟨x.val.text.toArray⟩, p18, t19, z20]) (pre := [.int .i64 x.stamp, .bool x.gone, .int .i64 x.expire]) (mid := [.int .i64 x.val.kind, .string ⟨x.val.text.toArray⟩, xp, xt, xz]) (post := []) (L' := [.int .i64 x.stamp, .bool x.gone, .int .i64 x.expire, .int .i64 x.val.kind, .string ⟨x.val.text.toArray⟩, p18, t19, z20]) tV (wn rfl) rfl rfl rfl hv rfl s1sz36 rfl rfl rfl (one_cons rfl (one_cons rfl (one_cons hp18.p.one (one_cons hp18.t.one (one_cons hp18.z.one one_nil))))) rfl (fun w22 hv => ?_)
      simp only [List.set_cons_zero] at hv
      refine wL ?_
      simp only [zP, zN, zI, zS, zO]
      refine tN (hK16 _ _ ?_)
      clear hK16 K16
      refine rL ?_
      refine xM (.slice ra i rc) rfl rfl rfl ?_
      refine xL (.agg #[.int .i64 x.stamp, .bool x.gone, .int .i64 x.expire, .int .i64 x.val.kind, .string ⟨x.val.text.toArray⟩, p18, t19, z20]) rfl rfl rfl (run_load_mid (pre := []) (mid := [.int .i64 x.stamp, .bool x.gone, .int .i64 x.expire, .int .i64 x.val.kind, .string ⟨x.val.text.toArray⟩, p18, t19, z20]) (post := []) s1wd38 (show Blk _ b13 ([] ++ [.int .i64 x.stamp, .bool x.gone, .int .i64 x.expire, .int .i64 x.val.kind, .string ⟨x.val.text.toArray⟩, p18, t19, z20] ++ []) _ from hv.get 0 rfl) rfl) ?_
      refine sl_rowAgg (L := [.int .i64 x.stamp, .bool x.gone, .int .i64 x.expire, .int .i64 x.val.kind, .string ⟨x.val.text.toArray⟩, p18, t19, z20]) tV (wn rfl) rfl rfl hv s1el66 rfl (by decide) (fun b23 w24 hv => ?_)
      simp only [zP, zI, zS, zO]
      replace hv := hv.front 2 rfl
      simp only [List.eraseIdx_cons_succ, List.eraseIdx_cons_zero] at hv
      refine sl_append (news := [.int .i64 x.stamp, .bool x.gone, .int .i64 x.expire, .int .i64 x.val.kind, .string ⟨x.val.text.toArray⟩, p18, t19, z20]) tV (wn rfl) rfl rfl rfl s1el66 hv (ok_full (by omega)) rfl (rd_all (hv.get 1 rfl)) (verCells_one (v := x) hp18) (by unfold maxLen; omega) (by omega) (fun rv25 w28 hv => ?_)
      obtain ⟨ra26, rc27, rfl⟩ := row_slice hv.head
      refine xA (.slice ra26 (i + 1) rc27) rfl rfl rfl ?_
      refine wL ?_
      simp only [zP, zI, zS, zO]
      refine blk_normal ?_
      refine tN (hK11 _ _ ?_)
      clear hK11 K11
      refine rL ?_
      refine xG (.int .i64 ((i + 1 : Nat) : Int)) rfl rfl (ex_add (m := (i : Int)) (n := 1) rfl rfl rfl (by rw [i64_in (by omega)]; omega)) ?_
      refine xM (.int .i64 ((i + 1 : Nat) : Int)) rfl rfl rfl ?_
      refine wL ?_
      simp only [zP, zI, zS, zO]
      refine then_normal ?_
      go_roundw
      case rel => exact ⟨i + 1, _, _, _, _, rfl, rfl, (hBC.trans hC17), by omega, (hys.more hC17).next hx hp18, (hv.sub (List.Sublist.cons_cons _ (List.Sublist.cons _ (List.Sublist.cons _ (List.Sublist.refl _)))))⟩
      case measure => show l.length - (((i + 1 : Nat) : Int)).toNat < l.length - ((i : Int)).toNat; omega
    refine xG (.bool false) rfl rfl (ex_lss (k := .i64) (m := (i : Int)) (n := (l.length : Int)) rfl rfl rfl (decide_eq_false hb9)) ?_
    refine wL ?_
    simp only [zP, zI, zS, zO]
    refine tN (hK8 _ _ ?_)
    clear hK8 K8
    refine sK fun K29 hK29 => ?_
    refine wpIn_cond_false rfl ?_
    refine wpIn_exit ?_
    refine then_exit ?_
    clear hK29 K29
    refine then_exit ?_
    refine blk_hit ?_
    refine tN (hK5 _ _ ?_)
    clear hK5 K5
    refine sK fun K30 hK30 => rL ?_
    refine xM (.slice ra i rc) rfl rfl rfl ?_
    refine xA (.slice ra i rc) rfl rfl rfl ?_
    refine wL ?_
    simp only [zP, zI, zS, zO]
    refine tN (hK30 _ _ ?_)
    clear hK30 K30
    refine wpIn_ret ?_
    refine bR rfl rfl ?_
    obtain rfl : i = l.length := by omega
    obtain ⟨D, hD, hv2, hr2, hok2, -⟩ := hv.rowBy
    rw [List.take_length] at hys
    exact ⟨D, _, hBC.trans hD, rfl, ⟨ra, rc, _, rfl, hok2, hr2, hys.more hD⟩, hv2⟩
theorem indexClone (B : Base) (H : List Res) (w : World) (v : Value) (l : List Ver) (h : ChainB B v l) (hm : l.length ≤ 1000000) (hv : Inv B H w) :
    Calls Try.prog 43 #[v] w fun e w' => ∃ C v', B.Le C ∧ e = .returned v' ∧ ChainB C v' l ∧ Inv C H w' := by
  obtain ⟨ad, c, xs, rfl, hok, hr, hxs⟩ := h
  exact indexClone0 B H w ad c xs l hok hr hxs hm hv
end Go.Proofs.Ytffmbdagjpdieaa
/- sort.Search over a function value; chain.upto, chain.At, chain.Alive. -/
namespace Go.Proofs.Ytffmbdagjpdieaa
open Go.RowKit Go.Pm
theorem shr1 (m : Nat) : ((m : Int)).fdiv (2 ^ (min (1 : Int).toNat IntKind.u64.bits)) = ((m / 2 : Nat) : Int) := by
  show ((m : Int)).fdiv (2 ^ 1) = _
  rw [Int.fdiv_eq_ediv_of_nonneg _ (by decide)]; omega
def UptoI (l : List Ver) (s : Int) (i : Nat) : Prop := i ≤ l.length ∧ (∀ x, l[i]? = some x → s < x.stamp) ∧ (∀ j x, i = j + 1 → l[j]? = some x → x.stamp ≤ s)
def aliveB (v : Ver) (clock : Int) : Bool := !v.gone && (decide (v.expire = 0) || decide (clock < v.expire))
abbrev zeroVer : List Value := [.int .i64 0, .bool false, .int .i64 0, .int .i64 0, .string ⟨([] : List UInt8).toArray⟩, .slice none 0 0, .slice none 0 0, .slice none 0 0]
set_option maxHeartbeats 2000000 in
theorem sortSearch (B : Base) (H : List Res) (w : World) (f : FuncId) (cb : Array Value) (n : Nat) (p : Nat → Bool) (hcal : Callable Try.prog f) (hf : ∀ k, k < n → ∀ w, Inv B H w → Calls Try.prog f (#[.int .i64 (k : Int)] ++ cb) w fun e w' => e = .returned (.bool (p k)) ∧ Inv B H w') (hn : n ≤ 1000000000) (hv : Inv B H w) :
    Calls Try.prog 53 #[.int .i64 (n : Int), .func (.func f) #[] cb] w fun e w' => ∃ i : Nat, i ≤ n ∧ (i < n → p i = true) ∧ (∀ j, i = j + 1 → p j = false) ∧ e = .returned (.int .i64 (i : Int)) ∧ Inv B H w' := by
  refine (callsIn_wide (n := 5)).1 ?_
  refine callsIn_of_wp Try.func53 rfl trivial ?_
  simp only [Try.ntmps53, List.size_toArray, List.length_cons, List.length_nil, Nat.reduceAdd, Nat.reduceSub, Array.replicate_succ, Array.replicate_zero, List.push_toArray, List.append_toArray, List.nil_append, List.cons_append]
  refine sK fun K1 hK1 => rL ?_
  refine xA (.int .i64 0) rfl rfl rfl ?_
  refine wL ?_
  simp only [zP, zI, zS, zO]
  refine tN (hK1 _ _ ?_)
  clear hK1 K1
  refine sK fun K2 hK2 => rL ?_
  refine xM (.int .i64 (n : Int)) rfl rfl rfl ?_
  refine xA (.int .i64 0) rfl rfl rfl ?_
  refine xA (.int .i64 (n : Int)) rfl rfl rfl ?_
  refine wL ?_
  simp only [zP, zI, zS, zO]
  refine tN (hK2 _ _ ?_)
  clear hK2 K2
  refine sK fun K3 hK3 => ?_
  refine wpIn_block ?_
  gi_loopw [5, 6] (fun x5 x6 wr => ∃ (lo hi : Nat), x5 = .int .i64 (lo : Int) ∧ x6 = .int .i64 (hi : Int) ∧ lo ≤ hi ∧ hi ≤ n ∧ (hi < n → p hi = true) ∧ (∀ j, lo = j + 1 → p j = false) ∧ Inv B H wr) (fun x5 x6 _ => (intOf x6).toNat - (intOf x5).toNat)
  case atStart => exact ⟨0, n, rfl, rfl, Nat.zero_le _, Nat.le_refl _, fun h => by omega, fun j h => by omega, hv⟩
  case round =>
    obtain ⟨lo, hi, rfl, rfl, hlh, hin, hph, hpl, hv⟩ := hrel
    refine sK fun K5 hK5 => ?_
    refine sK fun K6 hK6 => rL ?_
    refine xM (.int .i64 (lo : Int)) rfl rfl rfl ?_
    refine xM (.int .i64 (hi : Int)) rfl rfl rfl ?_
    by_cases hb7 : (lo : Int) < (hi : Int)
    · refine xG (.bool true) rfl rfl (ex_lss (k := .i64) (m := (lo : Int)) (n := (hi : Int)) rfl rfl rfl (decide_eq_true hb7)) ?_
      refine wL ?_
      simp only [zP, zI, zS, zO]
      refine tN (hK6 _ _ ?_)
      clear hK6 K6
      refine wpIn_cond_true rfl ?_
      refine wpIn_skip ?_
      refine tN (hK5 _ _ ?_)
      clear hK5 K5
      refine wpIn_block ?_
      refine sK fun K8 hK8 => rL ?_
      refine xM (.int .i64 (lo : Int)) rfl rfl rfl ?_
      refine xM (.int .i64 (hi : Int)) rfl rfl rfl ?_
      refine xG (.int .i64 ((lo + hi : Nat) : Int)) rfl rfl (ex_add (m := (lo : Int)) (n := (hi : Int)) rfl rfl rfl (by rw [i64_in (by omega)]; omega)) ?_
      simp only [zP, zI, zS, zO]
      refine xG (.int .u64 ((lo + hi : Nat) : Int)) rfl rfl (ex_int (m := ((lo + hi : Nat) : Int)) Try.underlying3 Try.underlying111 rfl rfl (u64_in (by omega))) ?_
      refine xG (.int .u64 ((((lo + hi) / 2) : Nat) : Int)) rfl rfl (ex_shr (m := ((lo + hi : Nat) : Int)) (n := 1) rfl rfl rfl (by decide) (shr1 (lo + hi))) ?_
      refine xG (.int .i64 ((((lo + hi) / 2) : Nat) : Int)) rfl rfl (ex_int (m := ((((lo + hi) / 2) : Nat) : Int)) Try.underlying111 Try.underlying3 rfl rfl (i64_in (by omega))) ?_
      simp only [zP, zI, zS, zO]
      refine xA (.int .i64 ((((lo + hi) / 2) : Nat) : Int)) rfl rfl rfl ?_
      refine wL ?_
      simp only [zP, zI, zS, zO]
      refine tN (hK8 _ _ ?_)
      clear hK8 K8
      refine sK fun K9 hK9 => rL ?_
      refine xM (.func (.func f) #[] cb) rfl rfl rfl ?_
      refine xM (.int .i64 ((((lo + hi) / 2) : Nat) : Int)) rfl rfl rfl ?_
      refine wpi_callV hcal tV wideC rfl (wn rfl) rfl rfl (args := #[.int .i64 ((((lo + hi) / 2) : Nat) : Int)]) (by simp only [yA, yB, yC]; rfl) ((hf ((lo + hi) / 2) (by omega) _ hv).mono ?_)
      rintro e w10 ⟨rfl, hv⟩
      refine ⟨_, rfl, ?_⟩
      simp only [zP, zI, zS, zO]
      refine xG (.bool (!(p ((lo + hi) / 2)))) rfl rfl (ex_not (b := (p ((lo + hi) / 2))) rfl rfl rfl) ?_
      refine wL ?_
      simp only [zP, zI, zS, zO]
      refine tN (hK9 _ _ ?_)
      clear hK9 K9
      refine wpIn_cond_split (t := !(p ((lo + hi) / 2))) rfl (fun hc11 => ?_) (fun hc11 => ?_)
      · refine rL ?_
        refine xM (.int .i64 ((((lo + hi) / 2) : Nat) : Int)) rfl rfl rfl ?_
        refine xG (.int .i64 ((((lo + hi) / 2) + 1 : Nat) : Int)) rfl rfl (ex_add (m := ((((lo + hi) / 2) : Nat) : Int)) (n := 1) rfl rfl rfl (by rw [i64_in (by omega)]; omega)) ?_
        refine xA (.int .i64 ((((lo + hi) / 2) + 1 : Nat) : Int)) rfl rfl rfl ?_
        refine wL ?_
        simp only [zP, zI, zS, zO]
        refine blk_normal ?_
        refine then_normal ?_
        go_roundw
        case rel => exact ⟨((lo + hi) / 2) + 1, hi, rfl, rfl, by omega, hin, hph, fun j hj => (by rw [show j = ((lo + hi) / 2) by omega]; simpa using hc11), hv⟩
        case measure => show ((hi : Int)).toNat - (((((lo + hi) / 2) + 1 : Nat) : Int)).toNat < ((hi : Int)).toNat - ((lo : Int)).toNat; omega
      refine rL ?_
      refine xM (.int .i64 ((((lo + hi) / 2) : Nat) : Int)) rfl rfl rfl ?_
      refine xA (.int .i64 ((((lo + hi) / 2) : Nat) : Int)) rfl rfl rfl ?_
      refine wL ?_
      simp only [zP, zI, zS, zO]
      refine blk_normal ?_
      refine then_normal ?_
      go_roundw
      case rel => exact ⟨lo, ((lo + hi) / 2), rfl, rfl, by omega, by omega, fun _ => by simpa using hc11, hpl, hv⟩
      case measure => show (((((lo + hi) / 2) : Nat) : Int)).toNat - ((lo : Int)).toNat < ((hi : Int)).toNat - ((lo : Int)).toNat; omega
    refine xG (.bool false) rfl rfl (ex_lss (k := .i64) (m := (lo : Int)) (n := (hi : Int)) rfl rfl rfl (decide_eq_false hb7)) ?_
    refine wL ?_
    simp only [zP, zI, zS, zO]
    refine tN (hK6 _ _ ?_)
    clear hK6 K6
    refine wpIn_cond_false rfl ?_
    refine wpIn_exit ?_
    refine then_exit ?_
    clear hK5 K5
    refine then_exit ?_
    refine blk_hit ?_
    refine tN (hK3 _ _ ?_)
    clear hK3 K3
    refine sK fun K12 hK12 => rL ?_
    refine xM (.int .i64 (lo : Int)) rfl rfl rfl ?_
    refine xA (.int .i64 (lo : Int)) rfl rfl rfl ?_
    refine wL ?_
    simp only [zP, zI, zS, zO]
    refine tN (hK12 _ _ ?_)
    clear hK12 K12
    refine wpIn_ret ?_
    refine bR rfl rfl ?_
    obtain rfl : lo = hi := by omega
    exact ⟨lo, hin, hph, hpl, rfl, hv⟩
theorem s2na66 (w : World) : (isAgg 66).run Try.prog w = .ok false w := by kernel_rfl
theorem s2fa38_0 (w : World) (b o : Nat) : (Instr.fieldAt 38 (.pointer (some ⟨b, o, none⟩)) 0).run Try.prog w = .ok (.pointer (some ⟨b, o + 0, none⟩)) w := by kernel_rfl
theorem s2na3 (w : World) : (isAgg 3).run Try.prog w = .ok false w := by kernel_rfl
set_option maxHeartbeats 2000000 in
theorem uptoFn (B : Base) (H : List Res) (w : World) (b1 b2 k : Nat) (s : Int) (ad : Option Addr) (c : Nat) (xs : List Value) (l : List Ver) (x : Ver) (hr : RdV B [] ad xs) (hxs : VersAt B l xs) (hk : l[k]? = some x) (hv : Inv B (Res.cell b2 [.int .i64 s] 3 :: Res.cell b1 [.slice ad l.length c] 66 :: H) w) :
    Calls Try.prog 62 #[.int .i64 (k : Int), .pointer (some ⟨b1, 0, none⟩), .pointer (some ⟨b2, 0, none⟩)] w fun e w' => e = .returned (.bool (decide (x.stamp > s))) ∧ Inv B (Res.cell b2 [.int .i64 s] 3 :: Res.cell b1 [.slice ad l.length c] 66 :: H) w' := by
  have hkl : k < l.length := (List.getElem?_eq_some_iff.1 hk).1
  have hkx := hk
  refine (callsIn_wide (n := 5)).1 ?_
  refine callsIn_of_wp Try.func62 rfl trivial ?_
  simp only [Try.ntmps62, List.size_toArray, List.length_cons, List.length_nil, Nat.reduceAdd, Nat.reduceSub, Array.replicate_succ, Array.replicate_zero, List.push_toArray, List.append_toArray, List.nil_append, List.cons_append]
  refine sK fun K1 hK1 => rL ?_
  refine xA (.bool false) rfl rfl rfl ?_
  refine wL ?_
  simp only [zP, zI, zS, zO]
  refine tN (hK1 _ _ ?_)
  clear hK1 K1
  refine sK fun K2 hK2 => ?_
  obtain ⟨bb, bo, p, t, z, had, hval, hrd⟩ := VersAt.reads hxs hr hk
  subst had
  refine region_st mixed [.slice (some ⟨bb, bo, none⟩) l.length c, .int .i64 (k : Int), .pointer (some ⟨bb, bo + k * 8, none⟩), .pointer (some ⟨bb, bo + k * 8, none⟩), .int .i64 x.stamp, .int .i64 s, .bool (decide (x.stamp > s)), .bool (decide (x.stamp > s))] [] [⟨fun vals w => vals = [] ∧ Inv B (Res.cell b2 [.int .i64 s] 3 :: Res.cell b1 [.slice (some ⟨bb, bo, none⟩) l.length c] 66 :: H) w, fun _ _ _ ⟨h, hi⟩ he => ⟨h, hi.ext he⟩⟩] 12 rfl (by kernel_rfl) ⟨rfl, hv⟩ ⟨?_, ?_, ?_, ?_, ?_, ?_, ?_, ?_, trivial⟩ ?_
  · intro aa ww vals hJ hR
    have hl : vals.length = 0 := by have := JS.le (n := 0) (by rfl) hJ; omega
    obtain ⟨hvals, hv⟩ := hJ.at0 hl
    exact xD rfl (ex_load rfl (show aa.eval (.tmp 1) = _ from hR.keep 1 rfl) (run_load1 s2na66 (hv.load 1 0 rfl rfl))) rfl rfl
  · intro aa ww vals hJ hR
    exact xD rfl (ex_move rfl (show aa.eval (.tmp 0) = _ from hR.keep 0 rfl)) rfl rfl
  · intro aa ww vals hJ hR
    exact xD rfl (ex_index rfl (hR.w 0 5 rfl rfl rfl rfl) (hR.w 1 6 rfl rfl rfl rfl) (run_idx (k := k) Try.underlying66 s1es66 (by omega))) rfl rfl
  · intro aa ww vals hJ hR
    exact xD rfl (ex_field rfl (hR.w 2 7 rfl rfl rfl rfl) (s2fa38_0 _ _ _)) rfl rfl
  · intro aa ww vals hJ hR
    have hl : vals.length = 0 := by have := JS.le (n := 0) (by rfl) hJ; omega
    obtain ⟨hvals, hv⟩ := hJ.at0 hl
    exact xD rfl (ex_load rfl (hR.w 3 8 rfl rfl rfl rfl) (run_load1 s2na3 (hrd _ _ _ (Base.Le.refl _) no_res hv 0 _ rfl))) rfl rfl
  · intro aa ww vals hJ hR
    have hl : vals.length = 0 := by have := JS.le (n := 0) (by rfl) hJ; omega
    obtain ⟨hvals, hv⟩ := hJ.at0 hl
    exact xD rfl (ex_load rfl (show aa.eval (.tmp 2) = _ from hR.keep 2 rfl) (run_load1 s2na3 (hv.load 0 0 rfl rfl))) rfl rfl
  · intro aa ww vals hJ hR
    exact xD rfl (ex_gtr (k := .i64) (m := x.stamp) (n := s) rfl (hR.w 4 9 rfl rfl rfl rfl) (hR.w 5 10 rfl rfl rfl rfl) rfl) rfl rfl
  · intro aa ww vals hJ hR
    exact xD rfl (ex_assign rfl (hR.w 6 11 rfl rfl rfl rfl)) rfl rfl
  rintro w3 vals ⟨rfl, hv⟩
  rw [show mixV [] [] 0 [.slice (some ⟨bb, bo, none⟩) l.length c, .int .i64 (k : Int), .pointer (some ⟨bb, bo + k * 8, none⟩), .pointer (some ⟨bb, bo + k * 8, none⟩), .int .i64 x.stamp, .int .i64 s, .bool (decide (x.stamp > s)), .bool (decide (x.stamp > s))] = [.slice (some ⟨bb, bo, none⟩) l.length c, .int .i64 (k : Int), .pointer (some ⟨bb, bo + k * 8, none⟩), .pointer (some ⟨bb, bo + k * 8, none⟩), .int .i64 x.stamp, .int .i64 s, .bool (decide (x.stamp > s)), .bool (decide (x.stamp > s))] from rfl]
  simp only [putAll, zP, zI, zS, zO]
  refine tN (hK2 _ _ ?_)
  clear hK2 K2
  refine wpIn_ret ?_
  refine bR rfl rfl ?_
  exact ⟨rfl, hv⟩
theorem s2callable62 : Callable Try.prog 62 := ⟨_, Try.func62, by kernel_rfl, by kernel_rfl⟩
theorem s2callable53 : Callable Try.prog 53 := ⟨_, Try.func53, by kernel_rfl, by kernel_rfl⟩
set_option maxHeartbeats 2000000 in
theorem chainUpto (B : Base) (H : List Res) (w : World) (ad : Option Addr) (c : Nat) (s : Int) (xs : List Value) (l : List Ver) (hr : RdV B [] ad xs) (hxs : VersAt B l xs) (hm : l.length ≤ 1000000) (hv : Inv B H w) :
    Calls Try.prog 46 #[.slice ad l.length c, .int .i64 s] w fun e w' => ∃ i, UptoI l s i ∧ e = .returned (.int .i64 (i : Int)) ∧ Inv B H w' := by
  refine (callsIn_wide (n := 5)).1 ?_
  refine callsIn_of_wp Try.func46 rfl trivial ?_
  simp only [Try.ntmps46, List.size_toArray, List.length_cons, List.length_nil, Nat.reduceAdd, Nat.reduceSub, Array.replicate_succ, Array.replicate_zero, List.push_toArray, List.append_toArray, List.nil_append, List.cons_append]
  refine sK fun K1 hK1 => rL ?_
  refine sl_box (L := [.slice ad l.length c]) tV (wn rfl) rfl (p := .slice ad l.length c) rfl hv (fun w => by kernel_rfl) (fun b2 w3 hv => ?_)
  refine sl_box (L := [.int .i64 s]) tV (wn rfl) rfl (p := .int .i64 s) rfl hv (fun w => by kernel_rfl) (fun b4 w5 hv => ?_)
  refine xA (.int .i64 0) rfl rfl rfl ?_
  refine wL ?_
  simp only [zP, zI, zS, zO]
  refine tN (hK1 _ _ ?_)
  clear hK1 K1
  refine sK fun K6 hK6 => rL ?_
  refine xL (.slice ad l.length c) rfl rfl rfl (run_load1 s2na66 (hv.load 1 0 rfl rfl)) ?_
  refine xG (.int .i64 (l.length : Int)) rfl rfl (ex_len0 Try.underlying66 rfl rfl) ?_
  refine xG (.func (.func 62) #[] #[.pointer (some ⟨b2, 0, none⟩), .pointer (some ⟨b4, 0, none⟩)]) rfl rfl (ex_makeFunc (c' := #[.pointer (some ⟨b2, 0, none⟩), .pointer (some ⟨b4, 0, none⟩)]) rfl (by simp only [yA, yC]) (by simp only [yA, yB, yC]; rfl)) ?_
  simp only [zP, zI, zS, zO]
  have hfn : ∀ k, k < l.length → ∀ w, Inv B (Res.cell b4 [.int .i64 s] 3 :: Res.cell b2 [.slice ad l.length c] 66 :: H) w → Calls Try.prog 62 (#[.int .i64 (k : Int)] ++ #[.pointer (some ⟨b2, 0, none⟩), .pointer (some ⟨b4, 0, none⟩)]) w fun e w' => e = .returned (.bool ((l[k]?.map fun x => decide (x.stamp > s)).getD false)) ∧ Inv B (Res.cell b4 [.int .i64 s] 3 :: Res.cell b2 [.slice ad l.length c] 66 :: H) w' := fun k hk w hv => by
    obtain ⟨x, hx⟩ : ∃ x, l[k]? = some x := ⟨_, List.getElem?_eq_getElem hk⟩
    rw [hx]
    exact uptoFn B H w _ _ k s ad c xs l x hr hxs hx hv
  refine xC s2callable53 rfl rfl (l := [.int .i64 (l.length : Int), .func (.func 62) #[] #[.pointer (some ⟨b2, 0, none⟩), .pointer (some ⟨b4, 0, none⟩)]]) rfl ((sortSearch B _ _ 62 _ l.length _ s2callable62 hfn (by omega) hv).mono ?_)
  rintro e w8 ⟨i7, hi1, hi2, hi3, rfl, hv⟩
  refine ⟨_, rfl, ?_⟩
  refine xA (.int .i64 (i7 : Int)) rfl rfl rfl ?_
  refine wL ?_
  simp only [zP, zI, zS, zO]
  refine tN (hK6 _ _ ?_)
  clear hK6 K6
  refine wpIn_ret ?_
  refine bR rfl rfl ?_
  refine ⟨i7, ⟨hi1, fun x hx => ?_, fun j x hj hx => ?_⟩, rfl, (hv.sub (List.Sublist.cons _ (List.Sublist.cons _ (List.Sublist.refl _))))⟩
  · have := hi2 (List.getElem?_eq_some_iff.1 hx).1
    rw [hx] at this
    simpa using this
  have := hi3 j hj
  rw [hx] at this
  simpa using this
theorem s2al38 (w : World) : (Instr.alloc 38 true (.tuple #[])).run Try.prog w = .ok (.pointer (some ⟨w.heap.size, 0, none⟩)) (w.alloc (.cells ([.int .i64 0, .bool false, .int .i64 0, .int .i64 0, .string ⟨([] : List UInt8).toArray⟩, .slice none 0 0, .slice none 0 0, .slice none 0 0] : List Value).toArray 38)) := by kernel_rfl
theorem s2callable46 : Callable Try.prog 46 := ⟨_, Try.func46, by kernel_rfl, by kernel_rfl⟩
theorem s2callable47 : Callable Try.prog 47 := ⟨_, Try.func47, by kernel_rfl, by kernel_rfl⟩
set_option maxHeartbeats 2000000 in
theorem chainAt (B : Base) (H : List Res) (w : World) (ad : Option Addr) (c : Nat) (s : Int) (xs : List Value) (l : List Ver) (hr : RdV B [] ad xs) (hxs : VersAt B l xs) (hm : l.length ≤ 1000000) (hv : Inv B H w) :
    Calls Try.prog 26 #[.slice ad l.length c, .int .i64 s] w fun e w' => ∃ i, UptoI l s i ∧ ((i = 0 ∧ e = .returned (.tuple #[.agg zeroVer.toArray, .bool false]) ∧ Inv B H w') ∨ ∃ j x C p t z, i = j + 1 ∧ l[j]? = some x ∧ B.Le C ∧ e = .returned (.tuple #[.agg (verCells x p t z).toArray, .bool true]) ∧ ValAt C x.val p t z ∧ Inv C H w') := by
  refine (callsIn_wide (n := 5)).1 ?_
  refine callsIn_of_wp Try.func26 rfl trivial ?_
  simp only [Try.ntmps26, List.size_toArray, List.length_cons, List.length_nil, Nat.reduceAdd, Nat.reduceSub, Array.replicate_succ, Array.replicate_zero, List.push_toArray, List.append_toArray, List.nil_append, List.cons_append]
  refine sK fun K1 hK1 => rL ?_
  refine sl_alloc tV (wn rfl) rfl hv s2al38 (fun b2 w3 hv => ?_)
  refine xA (.bool false) rfl rfl rfl ?_
  refine wL ?_
  simp only [zP, zI, zS, zO]
  refine tN (hK1 _ _ ?_)
  clear hK1 K1
  refine sK fun K4 hK4 => rL ?_
  refine xM (.slice ad l.length c) rfl rfl rfl ?_
  refine xM (.int .i64 s) rfl rfl rfl ?_
  refine xC s2callable46 rfl rfl (l := [.slice ad l.length c, .int .i64 s]) rfl ((chainUpto B _ _ _ _ _ _ l hr hxs hm hv).mono ?_)
  rintro e w5 ⟨i, hu, rfl, hv⟩
  refine ⟨_, rfl, ?_⟩
  simp only [zP, zI, zS, zO]
  refine xA (.int .i64 (i : Int)) rfl rfl rfl ?_
  refine wL ?_
  simp only [zP, zI, zS, zO]
  refine tN (hK4 _ _ ?_)
  clear hK4 K4
  refine sK fun K6 hK6 => ?_
  refine sK fun K7 hK7 => rL ?_
  refine xM (.int .i64 (i : Int)) rfl rfl rfl ?_
  by_cases hb8 : (i : Int) = 0
  · refine xG (.bool true) rfl rfl (ex_eql (k := .i64) (m := (i : Int)) (n := 0) rfl rfl rfl (decide_eq_true hb8)) ?_
    refine wL ?_
    simp only [zP, zI, zS, zO]
    refine tN (hK7 _ _ ?_)
    clear hK7 K7
    refine wpIn_cond_true rfl ?_
    refine sK fun K9 hK9 => rL ?_
    refine xG (.agg #[.int .i64 0, .bool false, .int .i64 0, .int .i64 0, .string ⟨([] : List UInt8).toArray⟩, .slice none 0 0, .slice none 0 0, .slice none 0 0]) rfl rfl (ex_buildN (vs := #[]) rfl (by simp only [yA, yC]) (by kernel_rfl)) ?_
    refine sl_storeNAt 0 (new := [.int .i64 0, .bool false, .int .i64 0, .int .i64 0, .string ⟨([] : List UInt8).toArray⟩, .slice none 0 0, .slice none 0 0, .slice none 0 0]) (pre := []) (mid := [.int .i64 0, .bool false, .int .i64 0, .int .i64 0, .string ⟨([] : List UInt8).toArray⟩, .slice none 0 0, .slice none 0 0, .slice none 0 0]) (post := []) (L' := [.int .i64 0, .bool false, .int .i64 0, .int .i64 0, .string ⟨([] : List UInt8).toArray⟩, .slice none 0 0, .slice none 0 0, .slice none 0 0]) tV (wn rfl) rfl rfl rfl hv rfl s1sz38 rfl rfl rfl (one_cons rfl (one_cons rfl (one_cons rfl (one_cons rfl (one_cons rfl (one_cons rfl (one_cons rfl (one_cons rfl one_nil)))))))) rfl (fun w10 hv => ?_)
    simp only [List.set_cons_zero] at hv
    refine xA (.bool false) rfl rfl rfl ?_
    refine wL ?_
    simp only [zP, zN, zI, zS, zO]
    refine tN (hK9 _ _ ?_)
    clear hK9 K9
    refine wpIn_ret ?_
    refine then_ret ?_
    clear hK6 K6
    refine bodyPost_ret (res_cell2 rfl rfl (run_load_mid (pre := []) (mid := [.int .i64 0, .bool false, .int .i64 0, .int .i64 0, .string ⟨([] : List UInt8).toArray⟩, .slice none 0 0, .slice none 0 0, .slice none 0 0]) (post := []) s1wd38 (show Blk _ b2 ([] ++ [.int .i64 0, .bool false, .int .i64 0, .int .i64 0, .string ⟨([] : List UInt8).toArray⟩, .slice none 0 0, .slice none 0 0, .slice none 0 0] ++ []) _ from hv.get 0 rfl) rfl)) rfl ?_
    exact ⟨i, hu, .inl ⟨by omega, rfl, (hv.sub (List.Sublist.cons _ (List.Sublist.refl _)))⟩⟩
  refine xG (.bool false) rfl rfl (ex_eql (k := .i64) (m := (i : Int)) (n := 0) rfl rfl rfl (decide_eq_false hb8)) ?_
  obtain ⟨j, hj⟩ : ∃ j : Nat, i = j + 1 := ⟨i - 1, by omega⟩
  have hjl : j < l.length := by have := hu.1; omega
  refine wL ?_
  simp only [zP, zI, zS, zO]
  refine tN (hK7 _ _ ?_)
  clear hK7 K7
  refine wpIn_cond_false rfl ?_
  refine wpIn_skip ?_
  refine tN (hK6 _ _ ?_)
  clear hK6 K6
  refine sK fun K11 hK11 => ?_
  obtain ⟨x, hx⟩ : ∃ x, l[j]? = some x := ⟨_, List.getElem?_eq_getElem (show j < l.length by omega)⟩
  obtain ⟨bb, bo, xp, xt, xz, had, hvalx, hrdx⟩ := VersAt.reads hxs hr hx
  subst had
  refine rL ?_
  refine xM (.slice (some ⟨bb, bo, none⟩) l.length c) rfl rfl rfl ?_
  refine xM (.int .i64 (i : Int)) rfl rfl rfl ?_
  refine xG (.int .i64 (j : Int)) rfl rfl (ex_sub (m := (i : Int)) (n := 1) rfl rfl rfl (by rw [i64_in (by omega)]; omega)) ?_
  simp only [zP, zI, zS, zO]
  refine xG (.pointer (some ⟨bb, bo + j * 8, none⟩)) rfl rfl (ex_index rfl rfl rfl (run_idx (k := j) Try.underlying66 s1es66 (by omega))) ?_
  refine xL (.agg #[.int .i64 x.stamp, .bool x.gone, .int .i64 x.expire, .int .i64 x.val.kind, .string ⟨x.val.text.toArray⟩, xp, xt, xz]) rfl rfl rfl (run_loadR (cs := [.int .i64 x.stamp, .bool x.gone, .int .i64 x.expire, .int .i64 x.val.kind, .string ⟨x.val.text.toArray⟩, xp, xt, xz]) s1wd38 (Reads.mid (pre := []) (mid := [.int .i64 x.stamp, .bool x.gone, .int .i64 x.expire, .int .i64 x.val.kind, .string ⟨x.val.text.toArray⟩, xp, xt, xz]) (post := []) hrdx _ _ _ (Base.Le.refl _) no_res hv)) ?_
  refine xC s2callable47 rfl rfl (l := [.agg #[.int .i64 x.stamp, .bool x.gone, .int .i64 x.expire, .int .i64 x.val.kind, .string ⟨x.val.text.toArray⟩, xp, xt, xz]]) rfl ((chainClone _ _ _ x xp xt xz (hvalx.more (Base.Le.refl _)) hv).mono ?_)
  rintro e w16 ⟨C12, p13, t14, z15, hC12, rfl, hp13, hv⟩
  refine ⟨_, rfl, ?_⟩
  simp only [zP, zI, zS, zO]
  refine sl_storeNAt 0 (new := [.int .i64 x.stamp, .bool x.gone, .int .i64 x.expire, .int .i64 x.val.kind, .string ⟨x.val.text.toArray⟩, p13, t14, z15]) (pre := []) (mid := [.int .i64 0, .bool false, .int .i64 0, .int .i64 0, .string ⟨([] : List UInt8).toArray⟩, .slice none 0 0, .slice none 0 0, .slice none 0 0]) (post := []) (L' := [.int .i64 x.stamp, .bool x.gone, .int .i64 x.expire, .int .i64 x.val.kind, .string ⟨x.val.text.toArray⟩, p13, t14, z15]) tV (wn rfl) rfl rfl rfl hv rfl s1sz38 rfl rfl rfl (one_cons rfl (one_cons rfl (one_cons rfl (one_cons rfl (one_cons rfl (one_cons hp13.p.one (one_cons hp13.t.one (one_cons hp13.z.one one_nil)))))))) rfl (fun w17 hv => ?_)
  simp only [List.set_cons_zero] at hv
  refine xA (.bool true) rfl rfl rfl ?_
  refine wL ?_
  simp only [zP, zN, zI, zS, zO]
  refine tN (hK11 _ _ ?_)
  clear hK11 K11
  refine wpIn_ret ?_
  refine bodyPost_ret (res_cell2 rfl rfl (run_load_mid (pre := []) (mid := [.int .i64 x.stamp, .bool x.gone, .int .i64 x.expire, .int .i64 x.val.kind, .string ⟨x.val.text.toArray⟩, p13, t14, z15]) (post := []) s1wd38 (show Blk _ b2 ([] ++ [.int .i64 x.stamp, .bool x.gone, .int .i64 x.expire, .int .i64 x.val.kind, .string ⟨x.val.text.toArray⟩, p13, t14, z15] ++ []) _ from hv.get 0 rfl) rfl)) rfl ?_
  exact ⟨i, hu, .inr ⟨j, x, _, p13, t14, z15, hj, hx, hC12, rfl, hp13, (hv.sub (List.Sublist.cons _ (List.Sublist.refl _)))⟩⟩
theorem s2fa38_1 (w : World) (b o : Nat) : (Instr.fieldAt 38 (.pointer (some ⟨b, o, none⟩)) 1).run Try.prog w = .ok (.pointer (some ⟨b, o + 1, none⟩)) w := by kernel_rfl
theorem s2na4 (w : World) : (isAgg 4).run Try.prog w = .ok false w := by kernel_rfl
set_option maxHeartbeats 2000000 in
theorem alive0 (B : Base) (H : List Res) (w : World) (v : Ver) (p t z : Value) (clock : Int) (hg : v.gone = true) (hv : Inv B H w) :
    Calls Try.prog 28 #[.agg #[.int .i64 v.stamp, .bool true, .int .i64 v.expire, .int .i64 v.val.kind, .string ⟨v.val.text.toArray⟩, p, t, z], .int .i64 clock] w fun e w' => e = .returned (.bool (aliveB v clock)) ∧ Inv B H w' := by
  refine (callsIn_wide (n := 5)).1 ?_
  refine callsIn_of_wp Try.func28 rfl trivial ?_
  simp only [Try.ntmps28, List.size_toArray, List.length_cons, List.length_nil, Nat.reduceAdd, Nat.reduceSub, Array.replicate_succ, Array.replicate_zero, List.push_toArray, List.append_toArray, List.nil_append, List.cons_append]
  refine sK fun K1 hK1 => rL ?_
  refine sl_box (L := [.int .i64 v.stamp, .bool true, .int .i64 v.expire, .int .i64 v.val.kind, .string ⟨v.val.text.toArray⟩, p, t, z]) tV (wn rfl) rfl (p := .agg #[.int .i64 v.stamp, .bool true, .int .i64 v.expire, .int .i64 v.val.kind, .string ⟨v.val.text.toArray⟩, p, t, z]) rfl hv (fun w => by kernel_rfl) (fun b2 w3 hv => ?_)
  refine xA (.bool false) rfl rfl rfl ?_
  refine wL ?_
  simp only [zP, zI, zS, zO]
  refine tN (hK1 _ _ ?_)
  clear hK1 K1
  refine sK fun K4 hK4 => rL ?_
  refine xF (.pointer (some ⟨b2, 1, none⟩)) rfl rfl rfl (s2fa38_1 _ _ _) ?_
  refine xL (.bool true) rfl rfl rfl (run_load1 s2na4 (hv.load 0 1 rfl rfl)) ?_
  refine xG (.bool false) rfl rfl (ex_not (b := true) rfl rfl rfl) ?_
  simp only [zP, zI, zS, zO]
  refine xM (.bool false) rfl rfl rfl ?_
  refine xT 3 8 true false rfl rfl rfl rfl rfl rfl rfl (by decide) ?_
  simp only [zP, zI, zS, zO]
  refine xN 3 8 true false rfl rfl rfl (by decide) ?_
  refine xU 7 12 rfl rfl rfl ?_
  simp only [zP, zI, zS, zO]
  refine xU 7 12 rfl rfl rfl ?_
  refine xU 7 12 rfl rfl rfl ?_
  refine xU 7 12 rfl rfl rfl ?_
  simp only [zP, zI, zS, zO]
  refine xN 3 8 true false rfl rfl rfl (by decide) ?_
  refine xK false (.bool false) rfl rfl rfl rfl ?_
  refine xA (.bool false) rfl rfl rfl ?_
  refine wL ?_
  simp only [zP, zI, zS, zO]
  refine tN (hK4 _ _ ?_)
  clear hK4 K4
  refine wpIn_ret ?_
  refine bR rfl rfl ?_
  exact ⟨congrArg (fun b => Ending.returned (Value.bool b)) (show false = aliveB v clock from by simp [aliveB, *]), (hv.sub (List.Sublist.cons _ (List.Sublist.refl _)))⟩
theorem s2fa38_2 (w : World) (b o : Nat) : (Instr.fieldAt 38 (.pointer (some ⟨b, o, none⟩)) 2).run Try.prog w = .ok (.pointer (some ⟨b, o + 2, none⟩)) w := by kernel_rfl
set_option maxHeartbeats 2000000 in
theorem alive1 (B : Base) (H : List Res) (w : World) (v : Ver) (p t z : Value) (clock : Int) (hg : v.gone = false) (hv : Inv B H w) :
    Calls Try.prog 28 #[.agg #[.int .i64 v.stamp, .bool false, .int .i64 v.expire, .int .i64 v.val.kind, .string ⟨v.val.text.toArray⟩, p, t, z], .int .i64 clock] w fun e w' => e = .returned (.bool (aliveB v clock)) ∧ Inv B H w' := by
  refine (callsIn_wide (n := 5)).1 ?_
  refine callsIn_of_wp Try.func28 rfl trivial ?_
  simp only [Try.ntmps28, List.size_toArray, List.length_cons, List.length_nil, Nat.reduceAdd, Nat.reduceSub, Array.replicate_succ, Array.replicate_zero, List.push_toArray, List.append_toArray, List.nil_append, List.cons_append]
  refine sK fun K1 hK1 => rL ?_
  refine sl_box (L := [.int .i64 v.stamp, .bool false, .int .i64 v.expire, .int .i64 v.val.kind, .string ⟨v.val.text.toArray⟩, p, t, z]) tV (wn rfl) rfl (p := .agg #[.int .i64 v.stamp, .bool false, .int .i64 v.expire, .int .i64 v.val.kind, .string ⟨v.val.text.toArray⟩, p, t, z]) rfl hv (fun w => by kernel_rfl) (fun b2 w3 hv => ?_)
  refine xA (.bool false) rfl rfl rfl ?_
  refine wL ?_
  simp only [zP, zI, zS, zO]
  refine tN (hK1 _ _ ?_)
  clear hK1 K1
  refine sK fun K4 hK4 => rL ?_
  refine xF (.pointer (some ⟨b2, 1, none⟩)) rfl rfl rfl (s2fa38_1 _ _ _) ?_
  refine xL (.bool false) rfl rfl rfl (run_load1 s2na4 (hv.load 0 1 rfl rfl)) ?_
  refine xG (.bool true) rfl rfl (ex_not (b := false) rfl rfl rfl) ?_
  simp only [zP, zI, zS, zO]
  refine xM (.bool true) rfl rfl rfl ?_
  refine xH 3 8 true (.pointer (some ⟨b2, 2, none⟩)) rfl rfl rfl rfl (ex_field rfl rfl (s2fa38_2 _ _ _)) ?_
  refine xH 3 8 true (.int .i64 v.expire) rfl rfl rfl rfl (ex_load rfl rfl (run_load1 s2na3 (hv.load 0 2 rfl rfl))) ?_
  simp only [zP, zI, zS, zO]
  by_cases hb5 : v.expire = 0
  · refine xH 3 8 true (.bool true) rfl rfl rfl rfl (ex_eql (k := .i64) (m := v.expire) (n := 0) rfl rfl rfl (decide_eq_true hb5)) ?_
    refine xH 3 8 true (.bool true) rfl rfl rfl rfl (ex_move rfl rfl) ?_
    refine xT 7 12 false true rfl rfl rfl rfl rfl rfl rfl (by decide) ?_
    simp only [zP, zI, zS, zO]
    refine xN 7 12 false true rfl rfl rfl (by decide) ?_
    simp only [zP, zI, zS, zO]
    refine xH 3 8 true (.bool true) rfl rfl rfl rfl (ex_pick (b := true) rfl rfl rfl) ?_
    refine xK true (.bool true) rfl rfl rfl rfl ?_
    refine xA (.bool true) rfl rfl rfl ?_
    refine wL ?_
    simp only [zP, zI, zS, zO]
    refine tN (hK4 _ _ ?_)
    clear hK4 K4
    refine wpIn_ret ?_
    refine bR rfl rfl ?_
    exact ⟨congrArg (fun b => Ending.returned (Value.bool b)) (show true = aliveB v clock from by simp [aliveB, *]), (hv.sub (List.Sublist.cons _ (List.Sublist.refl _)))⟩
  refine xH 3 8 true (.bool false) rfl rfl rfl rfl (ex_eql (k := .i64) (m := v.expire) (n := 0) rfl rfl rfl (decide_eq_false hb5)) ?_
  refine xH 3 8 true (.bool false) rfl rfl rfl rfl (ex_move rfl rfl) ?_
  refine xH 7 12 false (.pointer (some ⟨b2, 2, none⟩)) rfl rfl rfl rfl (ex_field rfl rfl (s2fa38_2 _ _ _)) ?_
  simp only [zP, zI, zS, zO]
  refine xH 7 12 false (.int .i64 v.expire) rfl rfl rfl rfl (ex_load rfl rfl (run_load1 s2na3 (hv.load 0 2 rfl rfl))) ?_
  refine xH 7 12 false (.int .i64 clock) rfl rfl rfl rfl (ex_move rfl rfl) ?_
  by_cases hb6 : v.expire > clock
  · refine xH 7 12 false (.bool true) rfl rfl rfl rfl (ex_gtr (k := .i64) (m := v.expire) (n := clock) rfl rfl rfl (decide_eq_true hb6)) ?_
    simp only [zP, zI, zS, zO]
    refine xH 3 8 true (.bool true) rfl rfl rfl rfl (ex_pick (b := false) rfl rfl rfl) ?_
    refine xK true (.bool true) rfl rfl rfl rfl ?_
    refine xA (.bool true) rfl rfl rfl ?_
    refine wL ?_
    simp only [zP, zI, zS, zO]
    refine tN (hK4 _ _ ?_)
    clear hK4 K4
    refine wpIn_ret ?_
    refine bR rfl rfl ?_
    exact ⟨congrArg (fun b => Ending.returned (Value.bool b)) (show true = aliveB v clock from by simp [aliveB, *]), (hv.sub (List.Sublist.cons _ (List.Sublist.refl _)))⟩
  refine xH 7 12 false (.bool false) rfl rfl rfl rfl (ex_gtr (k := .i64) (m := v.expire) (n := clock) rfl rfl rfl (decide_eq_false hb6)) ?_
  simp only [zP, zI, zS, zO]
  refine xH 3 8 true (.bool false) rfl rfl rfl rfl (ex_pick (b := false) rfl rfl rfl) ?_
  refine xK true (.bool false) rfl rfl rfl rfl ?_
  refine xA (.bool false) rfl rfl rfl ?_
  refine wL ?_
  simp only [zP, zI, zS, zO]
  refine tN (hK4 _ _ ?_)
  clear hK4 K4
  refine wpIn_ret ?_
  refine bR rfl rfl ?_
  exact ⟨congrArg (fun b => Ending.returned (Value.bool b)) (show false = aliveB v clock from by simp [aliveB, *]), (hv.sub (List.Sublist.cons _ (List.Sublist.refl _)))⟩
theorem chainAlive (B : Base) (H : List Res) (w : World) (v : Ver) (p t z : Value) (clock : Int) (hv : Inv B H w) : Calls Try.prog 28 #[.agg (verCells v p t z).toArray, .int .i64 clock] w fun e w' => e = .returned (.bool (aliveB v clock)) ∧ Inv B H w' := by
  cases hg : v.gone with
  | true => have := alive0 B H w v p t z clock hg hv; rw [← hg] at this; exact this
  | false => have := alive1 B H w v p t z clock hg hv; rw [← hg] at this; exact this
end Go.Proofs.Ytffmbdagjpdieaa
/- The index in memory that stays: blocks of entries; what a search finds. -/
namespace Go.Pm
open Go.RowKit
abbrev Ent := List UInt8 × Value
def entCells (l : List Ent) : List Value := l.flatMap fun e => [strV e.1, e.2]
theorem entCells_len (l : List Ent) : (entCells l).length = l.length * 2 := by
  induction l with
  | nil => rfl
  | cons a l ih => rw [entCells, List.flatMap_cons, List.length_append]; show 2 + (entCells l).length = _; rw [ih, List.length_cons]; omega
theorem entCells_append (l k : List Ent) : entCells (l ++ k) = entCells l ++ entCells k := List.flatMap_append ..
theorem entCells_take (l : List Ent) (i : Nat) : (entCells l).take (i * 2) = entCells (l.take i) := by
  induction l generalizing i with
  | nil => simp [entCells]
  | cons a l ih =>
    cases i with
    | zero => simp [entCells]
    | succ i =>
      show (strV a.1 :: a.2 :: entCells l).take _ = strV a.1 :: a.2 :: entCells (l.take i)
      rw [show (i + 1) * 2 = i * 2 + 2 by rw [Nat.succ_mul], List.take_succ_cons, List.take_succ_cons, ih]
theorem entCells_drop (l : List Ent) (i : Nat) : (entCells l).drop (i * 2) = entCells (l.drop i) := by
  induction l generalizing i with
  | nil => simp [entCells]
  | cons a l ih =>
    cases i with
    | zero => simp
    | succ i =>
      show (strV a.1 :: a.2 :: entCells l).drop _ = entCells (l.drop i)
      rw [show (i + 1) * 2 = i * 2 + 2 by rw [Nat.succ_mul], List.drop_succ_cons, List.drop_succ_cons, ih]
theorem entCells_get {l : List Ent} {i : Nat} {e : Ent} (h : l[i]? = some e) : (entCells l)[i * 2]? = some (strV e.1) ∧ (entCells l)[i * 2 + 1]? = some e.2 := by
  induction l generalizing i with
  | nil => simp at h
  | cons a l ih =>
    cases i with
    | zero =>
      simp only [List.getElem?_cons_zero, Option.some.injEq] at h
      subst h
      exact ⟨rfl, rfl⟩
    | succ i =>
      have := ih (i := i) (by simpa using h)
      show (strV a.1 :: a.2 :: entCells l)[(i + 1) * 2]? = _ ∧ (strV a.1 :: a.2 :: entCells l)[(i + 1) * 2 + 1]? = _
      rw [show (i + 1) * 2 = i * 2 + 1 + 1 by rw [Nat.succ_mul]]
      exact this
theorem ent_reads {B : Base} {R : List Res} {l : List Ent} {ad : Option Addr} {i : Nat} {e : Ent} (hr : RdW B R ad (entCells l)) (h : l[i]? = some e) : ∃ b off, ad = some ⟨b, off, none⟩ ∧ Reads B R b (off + i * 2) [strV e.1, e.2] := by
  have hi := (List.getElem?_eq_some_iff.1 h).1
  have hg := entCells_get h
  refine rdW_reads (k := i * 2) (m := 2) hr (by rw [entCells_len]; omega) (by decide) rfl (fun j hj => ?_)
  match j, hj with
  | 0, _ => exact hg.1.symm
  | 1, _ => exact hg.2.symm
theorem row1_reads {B : Base} {R : List Res} {xs : List Value} {ad : Option Addr} {i : Nat} {v : Value} (hr : RdW B R ad xs) (h : xs[i]? = some v) : ∃ b off, ad = some ⟨b, off, none⟩ ∧ Reads B R b (off + i) [v] := by
  have hi := (List.getElem?_eq_some_iff.1 h).1
  refine rdW_reads (k := i) (m := 1) hr (by omega) (by decide) rfl (fun j hj => ?_)
  match j, hj with
  | 0, _ => exact h.symm
def BlksAt (B : Base) (R : List Res) (X : List (List Ent)) (bvs : List Value) : Prop := bvs.length = X.length ∧ ∀ (i : Nat) (es : List Ent), X[i]? = some es → ∃ ad c, bvs[i]? = some (.slice ad es.length c) ∧ SliceOk ad es.length c ∧ RdW B R ad (entCells es)
structure IxOk (X : List (List Ent)) : Prop where
  ne : ∀ es ∈ X, es ≠ []
  lenX : X.length ≤ 1000000
  lenE : ∀ es ∈ X, es.length ≤ 1000000
structure FindI (X : List (List Ent)) (key : List UInt8) (i j : Nat) (ok : Bool) : Prop where
  le : i ≤ X.length
  hi : ∀ es, X[i]? = some es → ∃ la, es.getLast? = some la ∧ Op.bytesLess la.1 key = false
  lo : ∀ k es, i = k + 1 → X[k]? = some es → ∃ la, es.getLast? = some la ∧ Op.bytesLess la.1 key = true
  out : i = X.length → j = 0 ∧ ok = false
  at_ : ∀ es, X[i]? = some es → ∃ e, es[j]? = some e ∧ Op.bytesLess e.1 key = false ∧ ok = decide (e.1 = key) ∧ ∀ k f, j = k + 1 → es[k]? = some f → Op.bytesLess f.1 key = true
end Go.Pm
/- The order of texts; blocks of entries as one row; the index's model. -/
namespace Go.Pm
open Go.RowKit
theorem lt_irrefl (a : List UInt8) : Op.bytesLess a a = false := by
  induction a with
  | nil => rfl
  | cons x l ih => simp [Op.bytesLess, ih]
theorem lt_trans : ∀ (a b c : List UInt8), Op.bytesLess a b = true → Op.bytesLess b c = true → Op.bytesLess a c = true
  | _, _, [], _, h => by cases ‹List UInt8› <;> simp [Op.bytesLess] at h
  | _, [], _ :: _, h, _ => by cases ‹List UInt8› <;> simp [Op.bytesLess] at h
  | [], _ :: _, _ :: _, _, _ => rfl
  | x :: a, y :: b, z :: c, h, k => by
    simp only [Op.bytesLess, Bool.or_eq_true, Bool.and_eq_true, decide_eq_true_eq, beq_iff_eq] at h k ⊢
    rcases h with h | ⟨rfl, h⟩
    · rcases k with k | ⟨rfl, k⟩
      · exact .inl (UInt8.lt_trans h k)
      exact .inl h
    rcases k with k | ⟨rfl, k⟩
    · exact .inl k
    exact .inr ⟨rfl, lt_trans a b c h k⟩
theorem lt_total : ∀ (a b : List UInt8), Op.bytesLess a b = false → Op.bytesLess b a = false → a = b
  | [], [], _, _ => rfl
  | [], _ :: _, h, _ => by simp [Op.bytesLess] at h
  | _ :: _, [], _, h => by simp [Op.bytesLess] at h
  | x :: a, y :: b, h, k => by
    simp only [Op.bytesLess, Bool.or_eq_false_iff, Bool.and_eq_false_iff, decide_eq_false_iff_not, beq_eq_false_iff_ne] at h k
    have e : x = y := by
      rcases Nat.lt_trichotomy x.toNat y.toNat with e | e | e
      · exact absurd (UInt8.lt_iff_toNat_lt.2 e) h.1
      · exact UInt8.toNat_inj.1 e
      exact absurd (UInt8.lt_iff_toNat_lt.2 e) k.1
    subst e
    rw [lt_total a b (by rcases h.2 with h | h; exact absurd rfl h; exact h) (by rcases k.2 with h | h; exact absurd rfl h; exact h)]
theorem lt_asymm {a b : List UInt8} (h : Op.bytesLess a b = true) : Op.bytesLess b a = false := by
  cases e : Op.bytesLess b a with
  | false => rfl
  | true => have := lt_trans a b a h e; rw [lt_irrefl] at this; cases this
theorem lt_ne {a b : List UInt8} (h : Op.bytesLess a b = true) : a ≠ b := fun e => by subst e; rw [lt_irrefl] at h; cases h
theorem gt_eq (a b : List UInt8) : (!(Op.bytesLess a b || a == b)) = Op.bytesLess b a := by
  cases h1 : Op.bytesLess a b with
  | true => rw [lt_asymm h1]; rfl
  | false =>
    cases h2 : Op.bytesLess b a with
    | true =>
      have : (a == b) = false := beq_eq_false_iff_ne.2 fun e => by subst e; rw [lt_irrefl] at h2; cases h2
      rw [this]; rfl
    | false => rw [lt_total a b h1 h2]; simp
theorem ge_trans {a b k : List UInt8} (h : Op.bytesLess a k = false) (h2 : Op.bytesLess a b = true) : Op.bytesLess b k = false := by
  cases e : Op.bytesLess b k with
  | false => rfl
  | true => rw [lt_trans a b k h2 e] at h; cases h
section
variable {α : Type}
theorem flatten_at {X : List (List α)} {i : Nat} {es : List α} (h : X[i]? = some es) : X.flatten = (X.take i).flatten ++ (es ++ (X.drop (i + 1)).flatten) := by
  obtain ⟨hi, rfl⟩ := List.getElem?_eq_some_iff.1 h
  have h2 := congrArg List.flatten (List.take_append_drop i X)
  rw [List.drop_eq_getElem_cons hi, List.flatten_append, List.flatten_cons] at h2
  exact h2.symm
theorem flatten_set {X : List (List α)} {i : Nat} {es : List α} (h : X[i]? = some es) (es' : List α) : (X.set i es').flatten = (X.take i).flatten ++ (es' ++ (X.drop (i + 1)).flatten) := by
  have hi := (List.getElem?_eq_some_iff.1 h).1
  rw [flatten_at (i := i) (es := es') (by rw [List.getElem?_set_self hi])]
  rw [List.take_set_of_le (Nat.le_refl _), List.drop_set_of_lt (by omega)]
end
def posOf (X : List (List Ent)) (i j : Nat) : Nat := (X.take i).flatten.length + j
def IxSorted (X : List (List Ent)) : Prop := X.flatten.Pairwise (fun a b => Op.bytesLess a.1 b.1 = true)
structure FindP (l : List Ent) (key : List UInt8) (k : Nat) (ok : Bool) : Prop where
  le : k ≤ l.length
  lo : ∀ e ∈ l.take k, Op.bytesLess e.1 key = true
  hi : ∀ e ∈ l.drop k, Op.bytesLess e.1 key = false
  ok : ok = true ↔ ∃ e, l[k]? = some e ∧ e.1 = key
theorem pw_take_lt {l : List Ent} (hs : l.Pairwise (fun a b => Op.bytesLess a.1 b.1 = true)) {k : Nat} {e : Ent} (he : l[k]? = some e) : (∀ x ∈ l.take k, Op.bytesLess x.1 e.1 = true) ∧ ∀ x ∈ l.drop (k + 1), Op.bytesLess e.1 x.1 = true := by
  obtain ⟨hk, rfl⟩ := List.getElem?_eq_some_iff.1 he
  have h := hs
  rw [← List.take_append_drop k l, List.drop_eq_getElem_cons hk, List.pairwise_append] at h
  exact ⟨fun x hx => h.2.2 x hx _ (List.mem_cons_self), (List.pairwise_cons.1 h.2.1).1⟩
theorem FindI.pos {X : List (List Ent)} {key : List UInt8} {i j : Nat} {ok : Bool} (hs : IxSorted X) (h : FindI X key i j ok) : FindP X.flatten key (posOf X i j) ok := by
  -- what is ahead of block i
  have hpre : ∀ e ∈ (X.take i).flatten, Op.bytesLess e.1 key = true := by
    intro e he
    cases i with
    | zero => simp at he
    | succ k =>
      have hk : k < X.length := by have := h.le; omega
      obtain ⟨es, hes⟩ : ∃ es, X[k]? = some es := ⟨_, List.getElem?_eq_getElem hk⟩
      obtain ⟨la, hla, hlt⟩ := h.lo k es rfl hes
      have hsub : (X.take (k + 1)).flatten = (X.take k).flatten ++ es := by
        rw [List.take_add_one, hes, List.flatten_append]; simp
      rw [hsub] at he
      have hsx : ((X.take k).flatten ++ es).Pairwise (fun a b => Op.bytesLess a.1 b.1 = true) := by
        have := hs
        unfold IxSorted at this
        rw [flatten_at hes, ← List.append_assoc] at this
        exact (List.pairwise_append.1 this).1
      rw [List.getLast?_eq_getElem?] at hla
      have hl2 := (List.getElem?_eq_some_iff.1 hla).1
      have hget : ((X.take k).flatten ++ es)[((X.take k).flatten.length + (es.length - 1))]? = some la := by
        rw [List.getElem?_append_right (by omega), Nat.add_sub_cancel_left]; exact hla
      obtain ⟨m, hm, rfl⟩ := List.mem_iff_getElem.1 he
      rcases Nat.lt_or_ge m ((X.take k).flatten.length + (es.length - 1)) with hlt2 | hge
      · refine lt_trans _ _ _ ((pw_take_lt hsx hget).1 _ ?_) hlt
        rw [List.mem_take_iff_getElem]
        exact ⟨m, by omega, rfl⟩
      rw [List.length_append] at hm
      have hmm : m = (X.take k).flatten.length + (es.length - 1) := by omega
      have : ((X.take k).flatten ++ es)[m]? = some la := by rw [hmm]; exact hget
      rw [List.getElem?_eq_getElem (by rw [List.length_append]; exact hm)] at this
      cases this
      exact hlt
  rcases Nat.lt_or_ge i X.length with hi | hi
  · obtain ⟨es, hes⟩ : ∃ es, X[i]? = some es := ⟨_, List.getElem?_eq_getElem hi⟩
    obtain ⟨e, hej, hge, hok, hlo⟩ := h.at_ es hes
    have hj := (List.getElem?_eq_some_iff.1 hej).1
    have hfl := flatten_at hes
    have hget : X.flatten[posOf X i j]? = some e := by
      rw [hfl, posOf, List.getElem?_append_right (by omega), Nat.add_sub_cancel_left, List.getElem?_append_left hj]; exact hej
    have hlt := (List.getElem?_eq_some_iff.1 hget).1
    refine ⟨Nat.le_of_lt hlt, fun x hx => ?_, fun x hx => ?_, ?_⟩
    · rw [hfl, posOf, List.take_append, List.take_of_length_le (by omega), Nat.add_sub_cancel_left, List.take_append_of_le_length (by omega)] at hx
      rcases List.mem_append.1 hx with hx | hx
      · exact hpre x hx
      cases j with
      | zero => simp at hx
      | succ k =>
        have hk : k < es.length := by omega
        obtain ⟨f, hf⟩ : ∃ f, es[k]? = some f := ⟨_, List.getElem?_eq_getElem hk⟩
        have hflt := hlo k f rfl hf
        rw [take_next hf] at hx
        rcases List.mem_append.1 hx with hx | hx
        · have hes' : es.Pairwise (fun a b => Op.bytesLess a.1 b.1 = true) := by
            have := hs
            unfold IxSorted at this
            rw [hfl] at this
            exact (List.pairwise_append.1 (List.pairwise_append.1 this).2.1).1
          exact lt_trans _ _ _ ((pw_take_lt hes' hf).1 x hx) hflt
        simp at hx; subst hx; exact hflt
    · rw [List.drop_eq_getElem_cons hlt] at hx
      have e1 : X.flatten[posOf X i j] = e := by rw [List.getElem?_eq_getElem hlt] at hget; exact Option.some.inj hget
      rcases List.mem_cons.1 hx with hx | hx
      · rw [hx, e1]; exact hge
      exact ge_trans hge ((pw_take_lt hs hget).2 x hx)
    rw [hok, decide_eq_true_iff]
    constructor
    · intro hk; exact ⟨e, hget, hk⟩
    rintro ⟨e2, h1, h2⟩
    rw [hget] at h1; cases h1; exact h2
  have hiX : i = X.length := by have := h.le; omega
  obtain ⟨rfl, rfl⟩ := h.out hiX
  have hp : posOf X i 0 = X.flatten.length := by rw [posOf, hiX, List.take_length, Nat.add_zero]
  refine ⟨by omega, fun x hx => ?_, fun x hx => ?_, ?_⟩
  · rw [hp, List.take_length] at hx
    rw [hiX, List.take_length] at hpre
    exact hpre x hx
  · rw [hp, List.drop_length] at hx; cases hx
  constructor
  · intro h; cases h
  rintro ⟨e, h1, -⟩
  rw [hp, List.getElem?_eq_none (Nat.le_refl _)] at h1; cases h1
section
variable {P : Program} {a : Act} {w : World} {o : Oper} {t u : TypeId} {x y : Operand}
theorem ex_sgtr {s s' : List UInt8} {b : Bool} (ho : o.op = .binOp .gtr t x y u) (hx : a.eval x = .string ⟨s.toArray⟩) (hy : a.eval y = .string ⟨s'.toArray⟩) (hb : Op.bytesLess s' s = b) : Ex P a o w (.bool b) w := by
  rw [← gt_eq] at hb
  subst hb; unfold Ex; simp [execOp, ho, hx, hy, eqGuard, binOp, Op.stringOp]
end
end Go.Pm
/- The index's model: keys and chains. -/
namespace Go.Pm
open Go.RowKit
abbrev Model := List (List UInt8 × List Ver)
def Mods (B : Base) : List Ent → Model → Prop
  | [], [] => True
  | e :: l, m :: M => (e.1 = m.1 ∧ ChainB B e.2 m.2) ∧ Mods B l M
  | _, _ => False
theorem Mods.len {B : Base} : ∀ {l : List Ent} {M : Model}, Mods B l M → l.length = M.length
  | [], [], _ => rfl
  | _ :: _, _ :: _, h => by simp [Mods.len h.2]
  | [], _ :: _, h => h.elim
  | _ :: _, [], h => h.elim
theorem Mods.more {B C : Base} (hB : B.Le C) : ∀ {l : List Ent} {M : Model}, Mods B l M → Mods C l M
  | [], [], _ => trivial
  | _ :: _, _ :: _, h => ⟨⟨h.1.1, h.1.2.more hB⟩, Mods.more hB h.2⟩
  | [], _ :: _, h => h.elim
  | _ :: _, [], h => h.elim
theorem Mods.get {B : Base} : ∀ {l : List Ent} {M : Model} {k : Nat} {e : Ent}, Mods B l M → l[k]? = some e → ∃ m, M[k]? = some m ∧ e.1 = m.1 ∧ ChainB B e.2 m.2
  | [], [], k, e, _, h => by simp at h
  | a :: l, m :: M, 0, e, h, he => by
    simp only [List.getElem?_cons_zero, Option.some.injEq] at he
    subst he
    exact ⟨m, rfl, h.1⟩
  | a :: l, m :: M, k + 1, e, h, he => by
    obtain ⟨m', h1, h2⟩ := Mods.get (k := k) h.2 (by simpa using he)
    exact ⟨m', by simpa using h1, h2⟩
  | [], _ :: _, _, _, h, _ => h.elim
  | _ :: _, [], _, _, h, _ => h.elim
theorem Mods.back {B : Base} : ∀ {l : List Ent} {M : Model} {k : Nat} {m : List UInt8 × List Ver}, Mods B l M → M[k]? = some m → ∃ e, l[k]? = some e ∧ e.1 = m.1 ∧ ChainB B e.2 m.2
  | [], [], k, m, _, h => by simp at h
  | a :: l, m :: M, 0, m', h, he => by
    simp only [List.getElem?_cons_zero, Option.some.injEq] at he
    subst he
    exact ⟨a, rfl, h.1⟩
  | a :: l, m :: M, k + 1, m', h, he => by
    obtain ⟨e', h1, h2⟩ := Mods.back (k := k) h.2 (by simpa using he)
    exact ⟨e', by simpa using h1, h2⟩
  | [], _ :: _, _, _, h, _ => h.elim
  | _ :: _, [], _, _, h, _ => h.elim
theorem Mods.append {B : Base} {l' : List Ent} {M' : Model} (hk : Mods B l' M') : ∀ {l : List Ent} {M : Model}, Mods B l M → Mods B (l ++ l') (M ++ M')
  | [], [], _ => hk
  | _ :: _, _ :: _, h => ⟨h.1, Mods.append hk h.2⟩
  | [], _ :: _, h => h.elim
  | _ :: _, [], h => h.elim
theorem Mods.take {B : Base} : ∀ {l : List Ent} {M : Model} (k : Nat), Mods B l M → Mods B (l.take k) (M.take k)
  | [], [], k, _ => by simp [Mods]
  | _ :: _, _ :: _, 0, h => trivial
  | _ :: _, _ :: _, k + 1, h => ⟨h.1, Mods.take k h.2⟩
  | [], _ :: _, _, h => h.elim
  | _ :: _, [], _, h => h.elim
theorem Mods.drop {B : Base} : ∀ {l : List Ent} {M : Model} (k : Nat), Mods B l M → Mods B (l.drop k) (M.drop k)
  | [], [], k, _ => by simp [Mods]
  | _ :: _, _ :: _, 0, h => h
  | _ :: _, _ :: _, k + 1, h => Mods.drop k h.2
  | [], _ :: _, _, h => h.elim
  | _ :: _, [], _, h => h.elim
def getM (M : Model) (key : List UInt8) : List Ver := ((M.find? fun m => m.1 == key).map (·.2)).getD []
theorem find_none {M : Model} {key : List UInt8} (h : ∀ m ∈ M, m.1 ≠ key) : M.find? (fun m => m.1 == key) = none := by
  rw [List.find?_eq_none]
  intro m hm
  simpa using h m hm
theorem Mods.keys {B : Base} {l : List Ent} {M : Model} (h : Mods B l M) {m : List UInt8 × List Ver} (hm : m ∈ M) : ∃ e ∈ l, e.1 = m.1 := by
  obtain ⟨k, hk⟩ := List.mem_iff_getElem?.1 hm
  obtain ⟨e, h1, h2, -⟩ := h.back hk
  exact ⟨e, List.mem_of_getElem? h1, h2⟩
theorem getM_split {l r : Model} {key : List UInt8} (h : ∀ m ∈ l, m.1 ≠ key) : getM (l ++ r) key = getM r key := by
  unfold getM
  rw [List.find?_append, find_none h]; rfl
theorem getM_none {M : Model} {key : List UInt8} (h : ∀ m ∈ M, m.1 ≠ key) : getM M key = [] := by
  unfold getM
  rw [find_none h]; rfl
theorem getM_cons_self {M : Model} {key : List UInt8} {c : List Ver} : getM ((key, c) :: M) key = c := by
  unfold getM
  simp
theorem getM_cons_ne {M : Model} {key k : List UInt8} {c : List Ver} (h : k ≠ key) : getM ((k, c) :: M) key = getM M key := by
  unfold getM
  rw [List.find?_cons_of_neg (by simpa using h)]
section
variable {B : Base} {l : List Ent} {M : Model} {key : List UInt8} {k : Nat} {ok : Bool}
theorem FindP.takeNe (h : FindP l key k ok) (hm : Mods B l M) : ∀ m ∈ M.take k, m.1 ≠ key := fun m hmm => by
  obtain ⟨e, he, hk⟩ := (hm.take k).keys hmm
  rw [← hk]
  exact lt_ne (h.lo e he)
theorem FindP.some (h : FindP l key k true) (hm : Mods B l M) : ∃ e m, l[k]? = some e ∧ M[k]? = some m ∧ e.1 = key ∧ m.1 = key ∧ getM M key = m.2 ∧ ChainB B e.2 (getM M key) := by
  obtain ⟨e, he, hk⟩ := h.ok.1 rfl
  obtain ⟨m, h1, h2, h3⟩ := hm.get he
  have hkm := (List.getElem?_eq_some_iff.1 h1).1
  have hg : getM M key = m.2 := by
    rw [← List.take_append_drop k M, getM_split (h.takeNe hm), List.drop_eq_getElem_cons hkm]
    have e1 : M[k] = m := by rw [List.getElem?_eq_getElem hkm] at h1; exact Option.some.inj h1
    rw [e1]
    have e2 : m = (key, m.2) := by rw [← hk, h2]
    rw [e2, getM_cons_self]
  exact ⟨e, m, he, h1, hk, by rw [← h2, hk], hg, by rw [hg]; exact h3⟩
theorem pw_of (hs : l.Pairwise (fun a b => Op.bytesLess a.1 b.1 = true)) (h : FindP l key k false) : ∀ e ∈ l.drop k, e.1 ≠ key ∧ Op.bytesLess key e.1 = true := by
  have key0 : ∀ e ∈ l.drop k, Op.bytesLess key e.1 = true := by
    intro e he
    cases hlt : Op.bytesLess key e.1 with
    | true => rfl
    | false =>
      exfalso
      have heq := lt_total _ _ (h.hi e he) hlt
      obtain ⟨i, hi⟩ := List.mem_iff_getElem?.1 he
      rw [List.getElem?_drop] at hi
      cases i with
      | zero => have := h.ok.2 ⟨e, hi, heq⟩; cases this
      | succ i =>
        have hk : k < l.length := by have := (List.getElem?_eq_some_iff.1 hi).1; omega
        obtain ⟨f, hf⟩ : ∃ f, l[k]? = some f := ⟨_, List.getElem?_eq_getElem hk⟩
        have hfe : Op.bytesLess f.1 e.1 = true := (pw_take_lt hs hf).2 e (by
          refine List.mem_iff_getElem?.2 ⟨i, ?_⟩
          rw [List.getElem?_drop, ← hi]; congr 1; omega)
        have hff := h.hi f (by
          refine List.mem_iff_getElem?.2 ⟨0, ?_⟩
          rw [List.getElem?_drop]; exact hf)
        rw [heq, hff] at hfe
        cases hfe
  exact fun e he => ⟨fun e2 => (by have := key0 e he; rw [e2, lt_irrefl] at this; cases this), key0 e he⟩
theorem FindP.none (hs : l.Pairwise (fun a b => Op.bytesLess a.1 b.1 = true)) (h : FindP l key k false) (hm : Mods B l M) : getM M key = [] := by
  refine getM_none fun m hmm => ?_
  rw [← List.take_append_drop k M] at hmm
  rcases List.mem_append.1 hmm with h1 | h1
  · exact h.takeNe hm m h1
  obtain ⟨e, he, hk⟩ := (hm.drop k).keys h1
  rw [← hk]
  exact (pw_of hs h e he).1
def setM (M : Model) (key : List UInt8) (c : List Ver) (k : Nat) (ok : Bool) : Model := M.take k ++ (key, c) :: M.drop (if ok then k + 1 else k)
theorem getM_setM (h : FindP l key k ok) (hm : Mods B l M) (c : List Ver) (key' : List UInt8) : getM (setM M key c k ok) key' = if key' = key then c else getM M key' := by
  unfold setM
  by_cases hk : key' = key
  · subst hk
    rw [if_pos rfl, getM_split (h.takeNe hm), getM_cons_self]
  rw [if_neg hk]
  have hM : M = M.take k ++ M.drop k := (List.take_append_drop k M).symm
  have key0 : getM ((key, c) :: M.drop (if ok then k + 1 else k)) key' = getM (M.drop k) key' := by
    rw [getM_cons_ne (fun e => hk e.symm)]
    cases ok with
    | false => rfl
    | true =>
      obtain ⟨e, m, h1, h2, h3, h4, -, -⟩ := h.some hm
      have hkm := (List.getElem?_eq_some_iff.1 h2).1
      rw [if_pos rfl, List.drop_eq_getElem_cons hkm]
      have e1 : M[k] = m := by rw [List.getElem?_eq_getElem hkm] at h2; exact Option.some.inj h2
      rw [e1, show m = (key, m.2) by rw [← h4], getM_cons_ne (fun e => hk e.symm)]
  have app : ∀ (a x y : Model), getM x key' = getM y key' → getM (a ++ x) key' = getM (a ++ y) key' := fun a x y hxy => by
    unfold getM at hxy ⊢
    rw [List.find?_append, List.find?_append]
    cases a.find? fun m => m.1 == key' with
    | some z => rfl
    | none => exact hxy
  rw [app _ _ _ key0, ← hM]
end
theorem flat_get {X : List (List Ent)} {i j : Nat} {es : List Ent} {f : Ent} (h : X[i]? = some es) (hf : es[j]? = some f) : X.flatten[posOf X i j]? = some f := by
  have hj := (List.getElem?_eq_some_iff.1 hf).1
  rw [flatten_at h, posOf, List.getElem?_append_right (by omega), Nat.add_sub_cancel_left, List.getElem?_append_left hj]
  exact hf
structure IxM (B : Base) (X : List (List Ent)) (M : Model) : Prop where
  ne : ∀ es ∈ X, es ≠ []
  so : IxSorted X
  mo : Mods B X.flatten M
  ch : ∀ m ∈ M, m.2 ≠ [] ∧ m.2.length ≤ 1000
  sm : M.length ≤ 100000
theorem IxM.more {B C : Base} {X : List (List Ent)} {M : Model} (h : IxM B X M) (hB : B.Le C) : IxM C X M := ⟨h.ne, h.so, h.mo.more hB, h.ch, h.sm⟩
theorem len_flatten {X : List (List Ent)} (h : ∀ es ∈ X, es ≠ []) : X.length ≤ X.flatten.length ∧ ∀ es ∈ X, es.length ≤ X.flatten.length := by
  induction X with
  | nil => exact ⟨Nat.le_refl _, fun _ h => by cases h⟩
  | cons a X ih =>
    obtain ⟨h1, h2⟩ := ih (fun es he => h es (List.mem_cons_of_mem _ he))
    have h3 : 0 < a.length := List.length_pos_iff.2 (h a List.mem_cons_self)
    rw [List.flatten_cons, List.length_append, List.length_cons]
    refine ⟨by omega, fun es he => ?_⟩
    rcases List.mem_cons.1 he with rfl | he
    · omega
    have := h2 es he; omega
theorem IxM.ok {B : Base} {X : List (List Ent)} {M : Model} (h : IxM B X M) : IxOk X := by
  have hl := h.mo.len
  have hs := h.sm
  obtain ⟨h1, h2⟩ := len_flatten h.ne
  exact ⟨h.ne, by omega, fun es he => by have := h2 es he; omega⟩
theorem getM_mem {M : Model} {key : List UInt8} (h : getM M key ≠ []) : (key, getM M key) ∈ M := by
  unfold getM at h ⊢
  cases hf : M.find? (fun m => m.1 == key) with
  | none => rw [hf] at h; exact absurd rfl h
  | some m =>
    have h1 := List.mem_of_find?_eq_some hf
    have h2 := List.find?_some hf
    have h3 : m.1 = key := by simpa using h2
    rw [← h3]
    exact h1
theorem IxM.glen {B : Base} {X : List (List Ent)} {M : Model} (h : IxM B X M) (key : List UInt8) : (getM M key).length ≤ 1000 := by
  by_cases hg : getM M key = []
  · rw [hg]; exact Nat.zero_le _
  exact (h.ch _ (getM_mem hg)).2
theorem IxM.none {B : Base} {X : List (List Ent)} {M : Model} (h : IxM B X M) {key : List UInt8} {i j : Nat} (hf : FindI X key i j false) : getM M key = [] := (hf.pos h.so).none h.so h.mo
theorem FindI.lt {X : List (List Ent)} {key : List UInt8} {i j : Nat} (hf : FindI X key i j true) : i < X.length := by
  rcases Nat.lt_or_ge i X.length with h | h
  · exact h
  have := (hf.out (by have := hf.le; omega)).2; cases this
theorem IxM.some {B : Base} {X : List (List Ent)} {M : Model} (h : IxM B X M) {key : List UInt8} {i j : Nat} {es : List Ent} {f : Ent} (hf : FindI X key i j true) (hes : X[i]? = some es) (hj : es[j]? = some f) : ChainB B f.2 (getM M key) := by
  obtain ⟨e, m, h1, -, -, -, -, h2⟩ := (hf.pos h.so).some h.mo
  rw [flat_get hes hj] at h1
  cases h1
  exact h2
theorem chain_nil (B : Base) : ChainB B (.slice none 0 0) [] := ⟨none, 0, [], rfl, ⟨Nat.le_refl _, Nat.zero_le _, fun _ => rfl⟩, rdV_nil, rfl⟩
theorem ChainB.shape {B : Base} {v : Value} {l : List Ver} (h : ChainB B v l) : ∃ ad c, v = .slice ad l.length c := by
  obtain ⟨ad, c, xs, rfl, -⟩ := h
  exact ⟨ad, c, rfl⟩
theorem ChainB.one {B : Base} {v : Value} {l : List Ver} (h : ChainB B v l) : v.oneCell' = true := by
  obtain ⟨ad, c, xs, rfl, -⟩ := h
  rfl
theorem ChainB.cells {B : Base} {v : Value} {l : List Ver} (h : ChainB B v l) : v.cells = #[v] := by
  obtain ⟨ad, c, xs, rfl, -⟩ := h
  rfl
end Go.Pm
/- index: find, Get, Len. -/
namespace Go.Proofs.Ytffmbdagjpdieaa
open Go.RowKit Go.Pm
theorem s3na57 (w : World) : (isAgg 57).run Try.prog w = .ok false w := by kernel_rfl
theorem s3fa81_0 (w : World) (b o : Nat) : (Instr.fieldAt 81 (.pointer (some ⟨b, o, none⟩)) 0).run Try.prog w = .ok (.pointer (some ⟨b, o + 0, none⟩)) w := by kernel_rfl
theorem s3na79 (w : World) : (isAgg 79).run Try.prog w = .ok false w := by kernel_rfl
theorem s3es79 (w : World) : (sizeOf (Try.prog.elem 79)).run Try.prog w = .ok 1 w := by kernel_rfl
theorem s3na93 (w : World) : (isAgg 93).run Try.prog w = .ok false w := by kernel_rfl
theorem s3es93 (w : World) : (sizeOf (Try.prog.elem 93)).run Try.prog w = .ok 2 w := by kernel_rfl
theorem s3fa92_0 (w : World) (b o : Nat) : (Instr.fieldAt 92 (.pointer (some ⟨b, o, none⟩)) 0).run Try.prog w = .ok (.pointer (some ⟨b, o + 0, none⟩)) w := by kernel_rfl
theorem s3na9 (w : World) : (isAgg 9).run Try.prog w = .ok false w := by kernel_rfl
set_option maxHeartbeats 2000000 in
theorem findFn1 (B : Base) (H : List Res) (w : World) (b1 b2 k m : Nat) (es : List Ent) (la : Ent) (p : Nat) (n : Int) (X : List (List Ent)) (ad : Option Addr) (c : Nat) (bvs : List Value) (key : List UInt8) (R : List Res) (hRH : ∀ r ∈ R, r ∈ H) (hp : Reads B R p 0 [.slice ad X.length c, .int .i64 n]) (hr : RdW B R ad bvs) (hbv : BlksAt B R X bvs) (hes : X[k]? = some es) (hm : es.length = m + 1) (hla : es[m]? = some la) (hv : Inv B (Res.cell b2 [.string ⟨key.toArray⟩] 9 :: Res.cell b1 [.pointer (some ⟨p, 0, none⟩)] 57 :: H) w) :
    Calls Try.prog 54 #[.int .i64 (k : Int), .pointer (some ⟨b1, 0, none⟩), .pointer (some ⟨b2, 0, none⟩)] w fun e w' => e = .returned (.bool (!Op.bytesLess la.1 key)) ∧ Inv B (Res.cell b2 [.string ⟨key.toArray⟩] 9 :: Res.cell b1 [.pointer (some ⟨p, 0, none⟩)] 57 :: H) w' := by
  have hkX : k < X.length := (List.getElem?_eq_some_iff.1 hes).1
  refine (callsIn_wide (n := 5)).1 ?_
  refine callsIn_of_wp Try.func54 rfl trivial ?_
  simp only [Try.ntmps54, List.size_toArray, List.length_cons, List.length_nil, Nat.reduceAdd, Nat.reduceSub, Array.replicate_succ, Array.replicate_zero, List.push_toArray, List.append_toArray, List.nil_append, List.cons_append]
  refine sK fun K1 hK1 => rL ?_
  refine xA (.bool false) rfl rfl rfl ?_
  refine wL ?_
  simp only [zP, zI, zS, zO]
  refine tN (hK1 _ _ ?_)
  clear hK1 K1
  refine sK fun K2 hK2 => ?_
  obtain ⟨ead, ec, hbvead, hokead, hreead⟩ := hbv.2 _ _ hes
  obtain ⟨bb, bo, had, hrbead⟩ := row1_reads hr hbvead
  subst had
  refine rL ?_
  refine xL (.pointer (some ⟨p, 0, none⟩)) rfl rfl rfl (run_load1 s3na57 (hv.load 1 0 rfl rfl)) ?_
  refine xG (.pointer (some ⟨p, 0, none⟩)) rfl rfl (ex_nil rfl rfl) ?_
  refine xF (.pointer (some ⟨p, 0, none⟩)) rfl rfl rfl (s3fa81_0 _ _ _) ?_
  simp only [zP, zI, zS, zO]
  refine xL (.slice (some ⟨bb, bo, none⟩) X.length c) rfl rfl rfl (run_load1 s3na79 (hp _ _ _ (Base.Le.refl _) (fun r9 hr9 => (List.mem_cons_of_mem _ (List.mem_cons_of_mem _ (hRH r9 hr9)))) hv 0 _ rfl)) ?_
  refine xM (.int .i64 (k : Int)) rfl rfl rfl ?_
  refine xG (.pointer (some ⟨bb, bo + k, none⟩)) rfl rfl (ex_index rfl rfl rfl (run_idx1 (k := k) Try.underlying79 s3es79 (by omega))) ?_
  simp only [zP, zI, zS, zO]
  refine xL (.slice ead es.length ec) rfl rfl rfl (run_load1 s3na93 (hrbead _ _ _ (Base.Le.refl _) (fun r9 hr9 => (List.mem_cons_of_mem _ (List.mem_cons_of_mem _ (hRH r9 hr9)))) hv 0 _ rfl)) ?_
  refine xA (.slice ead es.length ec) rfl rfl rfl ?_
  refine wL ?_
  simp only [zP, zI, zS, zO]
  refine tN (hK2 _ _ ?_)
  clear hK2 K2
  refine sK fun K3 hK3 => ?_
  obtain ⟨eb, eo, had2, hrdeb⟩ := ent_reads hreead hla
  subst had2
  refine region_st mixed [.slice (some ⟨eb, eo, none⟩) es.length ec, .slice (some ⟨eb, eo, none⟩) es.length ec, .int .i64 (es.length : Int), .int .i64 (m : Int), .pointer (some ⟨eb, eo + m * 2, none⟩), .pointer (some ⟨eb, eo + m * 2, none⟩), .string ⟨la.1.toArray⟩, .string ⟨key.toArray⟩, .bool (!Op.bytesLess la.1 key), .bool (!Op.bytesLess la.1 key)] [] [⟨fun vals w => vals = [] ∧ Inv B (Res.cell b2 [.string ⟨key.toArray⟩] 9 :: Res.cell b1 [.pointer (some ⟨p, 0, none⟩)] 57 :: H) w, fun _ _ _ ⟨h, hi⟩ he => ⟨h, hi.ext he⟩⟩] 22 rfl (by kernel_rfl) ⟨rfl, hv⟩ ⟨?_, ?_, ?_, ?_, ?_, ?_, ?_, ?_, ?_, ?_, trivial⟩ ?_
  · intro aa ww vals hJ hR
    exact xD rfl (ex_move rfl (show aa.eval (.tmp 5) = _ from hR.keep 5 rfl)) rfl rfl
  · intro aa ww vals hJ hR
    exact xD rfl (ex_move rfl (show aa.eval (.tmp 5) = _ from hR.keep 5 rfl)) rfl rfl
  · intro aa ww vals hJ hR
    exact xD rfl (ex_len0 Try.underlying93 rfl (hR.w 1 14 rfl rfl rfl rfl)) rfl rfl
  · intro aa ww vals hJ hR
    exact xD rfl (ex_sub (m := (es.length : Int)) (n := 1) rfl (hR.w 2 15 rfl rfl rfl rfl) rfl (by rw [hm, i64_in (by have := hokead.max; unfold maxLen at this; have := hokead.le; omega)]; omega)) rfl rfl
  · intro aa ww vals hJ hR
    exact xD rfl (ex_index rfl (hR.w 0 13 rfl rfl rfl rfl) (hR.w 3 16 rfl rfl rfl rfl) (run_idx (k := m) Try.underlying93 s3es93 (by omega))) rfl rfl
  · intro aa ww vals hJ hR
    exact xD rfl (ex_field rfl (hR.w 4 17 rfl rfl rfl rfl) (s3fa92_0 _ _ _)) rfl rfl
  · intro aa ww vals hJ hR
    have hl : vals.length = 0 := by have := JS.le (n := 0) (by rfl) hJ; omega
    obtain ⟨hvals, hv⟩ := hJ.at0 hl
    exact xD rfl (ex_load rfl (hR.w 5 18 rfl rfl rfl rfl) (run_load1 s3na9 (hrdeb _ _ _ (Base.Le.refl _) (fun r9 hr9 => (List.mem_cons_of_mem _ (List.mem_cons_of_mem _ (hRH r9 hr9)))) hv 0 _ rfl))) rfl rfl
  · intro aa ww vals hJ hR
    have hl : vals.length = 0 := by have := JS.le (n := 0) (by rfl) hJ; omega
    obtain ⟨hvals, hv⟩ := hJ.at0 hl
    exact xD rfl (ex_load rfl (show aa.eval (.tmp 2) = _ from hR.keep 2 rfl) (run_load1 s3na9 (hv.load 0 0 rfl rfl))) rfl rfl
  · intro aa ww vals hJ hR
    exact xD rfl (ex_sgeq (s := la.1) (s' := key) rfl (hR.w 6 19 rfl rfl rfl rfl) (hR.w 7 20 rfl rfl rfl rfl) rfl) rfl rfl
  · intro aa ww vals hJ hR
    exact xD rfl (ex_assign rfl (hR.w 8 21 rfl rfl rfl rfl)) rfl rfl
  rintro w4 vals ⟨rfl, hv⟩
  rw [show mixV [] [] 0 [.slice (some ⟨eb, eo, none⟩) es.length ec, .slice (some ⟨eb, eo, none⟩) es.length ec, .int .i64 (es.length : Int), .int .i64 (m : Int), .pointer (some ⟨eb, eo + m * 2, none⟩), .pointer (some ⟨eb, eo + m * 2, none⟩), .string ⟨la.1.toArray⟩, .string ⟨key.toArray⟩, .bool (!Op.bytesLess la.1 key), .bool (!Op.bytesLess la.1 key)] = [.slice (some ⟨eb, eo, none⟩) es.length ec, .slice (some ⟨eb, eo, none⟩) es.length ec, .int .i64 (es.length : Int), .int .i64 (m : Int), .pointer (some ⟨eb, eo + m * 2, none⟩), .pointer (some ⟨eb, eo + m * 2, none⟩), .string ⟨la.1.toArray⟩, .string ⟨key.toArray⟩, .bool (!Op.bytesLess la.1 key), .bool (!Op.bytesLess la.1 key)] from rfl]
  simp only [putAll, zP, zI, zS, zO]
  refine tN (hK3 _ _ ?_)
  clear hK3 K3
  refine wpIn_ret ?_
  refine bR rfl rfl ?_
  exact ⟨rfl, hv⟩
set_option maxHeartbeats 2000000 in
theorem findFn2 (B : Base) (H : List Res) (w : World) (b2 b3 k : Nat) (es : List Ent) (f : Ent) (key : List UInt8) (ead : Option Addr) (ec : Nat) (R : List Res) (hRH : ∀ r ∈ R, r ∈ H) (hre : RdW B R ead (entCells es)) (hf : es[k]? = some f) (hv : Inv B (Res.cell b3 [.slice ead es.length ec] 93 :: Res.cell b2 [.string ⟨key.toArray⟩] 9 :: H) w) :
    Calls Try.prog 55 #[.int .i64 (k : Int), .pointer (some ⟨b3, 0, none⟩), .pointer (some ⟨b2, 0, none⟩)] w fun e w' => e = .returned (.bool (!Op.bytesLess f.1 key)) ∧ Inv B (Res.cell b3 [.slice ead es.length ec] 93 :: Res.cell b2 [.string ⟨key.toArray⟩] 9 :: H) w' := by
  have hkl : k < es.length := (List.getElem?_eq_some_iff.1 hf).1
  refine (callsIn_wide (n := 5)).1 ?_
  refine callsIn_of_wp Try.func55 rfl trivial ?_
  simp only [Try.ntmps55, List.size_toArray, List.length_cons, List.length_nil, Nat.reduceAdd, Nat.reduceSub, Array.replicate_succ, Array.replicate_zero, List.push_toArray, List.append_toArray, List.nil_append, List.cons_append]
  refine sK fun K1 hK1 => rL ?_
  refine xA (.bool false) rfl rfl rfl ?_
  refine wL ?_
  simp only [zP, zI, zS, zO]
  refine tN (hK1 _ _ ?_)
  clear hK1 K1
  refine sK fun K2 hK2 => ?_
  obtain ⟨eb, eo, had2, hrdeb⟩ := ent_reads hre hf
  subst had2
  refine region_st mixed [.slice (some ⟨eb, eo, none⟩) es.length ec, .int .i64 (k : Int), .pointer (some ⟨eb, eo + k * 2, none⟩), .pointer (some ⟨eb, eo + k * 2, none⟩), .string ⟨f.1.toArray⟩, .string ⟨key.toArray⟩, .bool (!Op.bytesLess f.1 key), .bool (!Op.bytesLess f.1 key)] [] [⟨fun vals w => vals = [] ∧ Inv B (Res.cell b3 [.slice (some ⟨eb, eo, none⟩) es.length ec] 93 :: Res.cell b2 [.string ⟨key.toArray⟩] 9 :: H) w, fun _ _ _ ⟨h, hi⟩ he => ⟨h, hi.ext he⟩⟩] 12 rfl (by kernel_rfl) ⟨rfl, hv⟩ ⟨?_, ?_, ?_, ?_, ?_, ?_, ?_, ?_, trivial⟩ ?_
  · intro aa ww vals hJ hR
    have hl : vals.length = 0 := by have := JS.le (n := 0) (by rfl) hJ; omega
    obtain ⟨hvals, hv⟩ := hJ.at0 hl
    exact xD rfl (ex_load rfl (show aa.eval (.tmp 1) = _ from hR.keep 1 rfl) (run_load1 s3na93 (hv.load 0 0 rfl rfl))) rfl rfl
  · intro aa ww vals hJ hR
    exact xD rfl (ex_move rfl (show aa.eval (.tmp 0) = _ from hR.keep 0 rfl)) rfl rfl
  · intro aa ww vals hJ hR
    exact xD rfl (ex_index rfl (hR.w 0 5 rfl rfl rfl rfl) (hR.w 1 6 rfl rfl rfl rfl) (run_idx (k := k) Try.underlying93 s3es93 (by omega))) rfl rfl
  · intro aa ww vals hJ hR
    exact xD rfl (ex_field rfl (hR.w 2 7 rfl rfl rfl rfl) (s3fa92_0 _ _ _)) rfl rfl
  · intro aa ww vals hJ hR
    have hl : vals.length = 0 := by have := JS.le (n := 0) (by rfl) hJ; omega
    obtain ⟨hvals, hv⟩ := hJ.at0 hl
    exact xD rfl (ex_load rfl (hR.w 3 8 rfl rfl rfl rfl) (run_load1 s3na9 (hrdeb _ _ _ (Base.Le.refl _) (fun r9 hr9 => (List.mem_cons_of_mem _ (List.mem_cons_of_mem _ (hRH r9 hr9)))) hv 0 _ rfl))) rfl rfl
  · intro aa ww vals hJ hR
    have hl : vals.length = 0 := by have := JS.le (n := 0) (by rfl) hJ; omega
    obtain ⟨hvals, hv⟩ := hJ.at0 hl
    exact xD rfl (ex_load rfl (show aa.eval (.tmp 2) = _ from hR.keep 2 rfl) (run_load1 s3na9 (hv.load 1 0 rfl rfl))) rfl rfl
  · intro aa ww vals hJ hR
    exact xD rfl (ex_sgeq (s := f.1) (s' := key) rfl (hR.w 4 9 rfl rfl rfl rfl) (hR.w 5 10 rfl rfl rfl rfl) rfl) rfl rfl
  · intro aa ww vals hJ hR
    exact xD rfl (ex_assign rfl (hR.w 6 11 rfl rfl rfl rfl)) rfl rfl
  rintro w3 vals ⟨rfl, hv⟩
  rw [show mixV [] [] 0 [.slice (some ⟨eb, eo, none⟩) es.length ec, .int .i64 (k : Int), .pointer (some ⟨eb, eo + k * 2, none⟩), .pointer (some ⟨eb, eo + k * 2, none⟩), .string ⟨f.1.toArray⟩, .string ⟨key.toArray⟩, .bool (!Op.bytesLess f.1 key), .bool (!Op.bytesLess f.1 key)] = [.slice (some ⟨eb, eo, none⟩) es.length ec, .int .i64 (k : Int), .pointer (some ⟨eb, eo + k * 2, none⟩), .pointer (some ⟨eb, eo + k * 2, none⟩), .string ⟨f.1.toArray⟩, .string ⟨key.toArray⟩, .bool (!Op.bytesLess f.1 key), .bool (!Op.bytesLess f.1 key)] from rfl]
  simp only [putAll, zP, zI, zS, zO]
  refine tN (hK2 _ _ ?_)
  clear hK2 K2
  refine wpIn_ret ?_
  refine bR rfl rfl ?_
  exact ⟨rfl, hv⟩
theorem last_of {α : Type} {l : List α} (h : l ≠ []) : ∃ (m : Nat) (x : α), l.length = m + 1 ∧ l[m]? = some x ∧ l.getLast? = some x := by
  have h0 : 0 < l.length := List.length_pos_iff.2 h
  refine ⟨l.length - 1, l[l.length - 1], by omega, List.getElem?_eq_getElem (by omega), ?_⟩
  rw [List.getLast?_eq_getElem?, List.getElem?_eq_getElem (by omega)]
theorem s3callable54 : Callable Try.prog 54 := ⟨_, Try.func54, by kernel_rfl, by kernel_rfl⟩
theorem s3al93 (w : World) : (Instr.alloc 93 true (.tuple #[])).run Try.prog w = .ok (.pointer (some ⟨w.heap.size, 0, none⟩)) (w.alloc (.cells ([.slice none 0 0] : List Value).toArray 93)) := by kernel_rfl
theorem s3sz93 : (Try.prog.info? 93).map (·.size) = some 1 := by kernel_rfl
theorem s3callable55 : Callable Try.prog 55 := ⟨_, Try.func55, by kernel_rfl, by kernel_rfl⟩
set_option maxHeartbeats 2000000 in
theorem ixFind (B : Base) (H : List Res) (w : World) (p : Nat) (n : Int) (X : List (List Ent)) (ad : Option Addr) (c : Nat) (bvs : List Value) (key : List UInt8) (R : List Res) (hRH : ∀ r ∈ R, r ∈ H) (hp : Reads B R p 0 [.slice ad X.length c, .int .i64 n]) (hr : RdW B R ad bvs) (hbv : BlksAt B R X bvs) (hx : IxOk X) (hv : Inv B H w) :
    Calls Try.prog 42 #[.pointer (some ⟨p, 0, none⟩), .string ⟨key.toArray⟩] w fun e w' => ∃ (i j : Nat) (ok : Bool), FindI X key i j ok ∧ e = .returned (.tuple #[.int .i64 (i : Int), .int .i64 (j : Int), .bool ok]) ∧ Inv B H w' := by
  refine (callsIn_wide (n := 5)).1 ?_
  refine callsIn_of_wp Try.func42 rfl trivial ?_
  simp only [Try.ntmps42, List.size_toArray, List.length_cons, List.length_nil, Nat.reduceAdd, Nat.reduceSub, Array.replicate_succ, Array.replicate_zero, List.push_toArray, List.append_toArray, List.nil_append, List.cons_append]
  refine sK fun K1 hK1 => rL ?_
  refine sl_box (L := [.pointer (some ⟨p, 0, none⟩)]) tV (wn rfl) rfl (p := .pointer (some ⟨p, 0, none⟩)) rfl hv (fun w => by kernel_rfl) (fun b2 w3 hv => ?_)
  refine sl_box (L := [.string ⟨key.toArray⟩]) tV (wn rfl) rfl (p := .string ⟨key.toArray⟩) rfl hv (fun w => by kernel_rfl) (fun b4 w5 hv => ?_)
  refine xA (.int .i64 0) rfl rfl rfl ?_
  simp only [zP, zI, zS, zO]
  refine xA (.int .i64 0) rfl rfl rfl ?_
  refine xA (.bool false) rfl rfl rfl ?_
  refine wL ?_
  simp only [zP, zI, zS, zO]
  refine tN (hK1 _ _ ?_)
  clear hK1 K1
  refine sK fun K6 hK6 => rL ?_
  refine xL (.pointer (some ⟨p, 0, none⟩)) rfl rfl rfl (run_load1 s3na57 (hv.load 1 0 rfl rfl)) ?_
  refine xG (.pointer (some ⟨p, 0, none⟩)) rfl rfl (ex_nil rfl rfl) ?_
  refine xF (.pointer (some ⟨p, 0, none⟩)) rfl rfl rfl (s3fa81_0 _ _ _) ?_
  simp only [zP, zI, zS, zO]
  refine xL (.slice ad X.length c) rfl rfl rfl (run_load1 s3na79 (hp _ _ _ (Base.Le.refl _) (fun r9 hr9 => (List.mem_cons_of_mem _ (List.mem_cons_of_mem _ (hRH r9 hr9)))) hv 0 _ rfl)) ?_
  refine xG (.int .i64 (X.length : Int)) rfl rfl (ex_len0 Try.underlying79 rfl rfl) ?_
  refine xG (.func (.func 54) #[] #[.pointer (some ⟨b2, 0, none⟩), .pointer (some ⟨b4, 0, none⟩)]) rfl rfl (ex_makeFunc (c' := #[.pointer (some ⟨b2, 0, none⟩), .pointer (some ⟨b4, 0, none⟩)]) rfl (by simp only [yA, yC]) (by simp only [yA, yB, yC]; rfl)) ?_
  simp only [zP, zI, zS, zO]
  have hfn : ∀ k, k < X.length → ∀ w, Inv B (Res.cell b4 [.string ⟨key.toArray⟩] 9 :: Res.cell b2 [.pointer (some ⟨p, 0, none⟩)] 57 :: H) w → Calls Try.prog 54 (#[.int .i64 (k : Int)] ++ #[.pointer (some ⟨b2, 0, none⟩), .pointer (some ⟨b4, 0, none⟩)]) w fun e w' => e = .returned (.bool ((X[k]?.map fun es => (es.getLast?.map fun la => !Op.bytesLess la.1 key).getD false).getD false)) ∧ Inv B (Res.cell b4 [.string ⟨key.toArray⟩] 9 :: Res.cell b2 [.pointer (some ⟨p, 0, none⟩)] 57 :: H) w' := fun k hk w hv => by
    obtain ⟨es, hes⟩ : ∃ es, X[k]? = some es := ⟨_, List.getElem?_eq_getElem hk⟩
    obtain ⟨m, la, hm, hla, hgl⟩ := last_of (hx.ne es (List.mem_of_getElem? hes))
    rw [hes]
    simp only [Option.map_some, Option.getD_some, hgl]
    exact findFn1 B H w _ _ k m es la p n X ad c bvs key R hRH hp hr hbv hes hm hla hv
  refine xC s2callable53 rfl rfl (l := [.int .i64 (X.length : Int), .func (.func 54) #[] #[.pointer (some ⟨b2, 0, none⟩), .pointer (some ⟨b4, 0, none⟩)]]) rfl ((sortSearch B _ _ 54 _ X.length _ s3callable54 hfn (by have := hx.lenX; omega) hv).mono ?_)
  rintro e w8 ⟨i7, hi1, hi2, hi3, rfl, hv⟩
  refine ⟨_, rfl, ?_⟩
  refine xA (.int .i64 (i7 : Int)) rfl rfl rfl ?_
  refine wL ?_
  simp only [zP, zI, zS, zO]
  refine tN (hK6 _ _ ?_)
  clear hK6 K6
  refine sK fun K9 hK9 => ?_
  refine sK fun K10 hK10 => rL ?_
  refine xM (.int .i64 (i7 : Int)) rfl rfl rfl ?_
  refine xL (.pointer (some ⟨p, 0, none⟩)) rfl rfl rfl (run_load1 s3na57 (hv.load 1 0 rfl rfl)) ?_
  refine xG (.pointer (some ⟨p, 0, none⟩)) rfl rfl (ex_nil rfl rfl) ?_
  simp only [zP, zI, zS, zO]
  refine xF (.pointer (some ⟨p, 0, none⟩)) rfl rfl rfl (s3fa81_0 _ _ _) ?_
  refine xL (.slice ad X.length c) rfl rfl rfl (run_load1 s3na79 (hp _ _ _ (Base.Le.refl _) (fun r9 hr9 => (List.mem_cons_of_mem _ (List.mem_cons_of_mem _ (hRH r9 hr9)))) hv 0 _ rfl)) ?_
  refine xG (.int .i64 (X.length : Int)) rfl rfl (ex_len0 Try.underlying79 rfl rfl) ?_
  simp only [zP, zI, zS, zO]
  by_cases hb11 : (i7 : Int) = (X.length : Int)
  · refine xG (.bool true) rfl rfl (ex_eql (k := .i64) (m := (i7 : Int)) (n := (X.length : Int)) rfl rfl rfl (decide_eq_true hb11)) ?_
    refine wL ?_
    simp only [zP, zI, zS, zO]
    refine tN (hK10 _ _ ?_)
    clear hK10 K10
    refine wpIn_cond_true rfl ?_
    refine sK fun K12 hK12 => rL ?_
    refine xM (.int .i64 (i7 : Int)) rfl rfl rfl ?_
    refine xA (.int .i64 (i7 : Int)) rfl rfl rfl ?_
    refine xA (.int .i64 0) rfl rfl rfl ?_
    simp only [zP, zI, zS, zO]
    refine xA (.bool false) rfl rfl rfl ?_
    refine wL ?_
    simp only [zP, zI, zS, zO]
    refine tN (hK12 _ _ ?_)
    clear hK12 K12
    refine wpIn_ret ?_
    refine then_ret ?_
    clear hK9 K9
    refine bodyPost_ret (results_tmp3 rfl _ _ _) rfl ?_
    refine ⟨i7, 0, false, ⟨hi1, fun es he => ?_, fun k es hk he => ?_, fun _ => ⟨rfl, rfl⟩, fun es he => ?_⟩, rfl, (hv.sub (List.Sublist.cons _ (List.Sublist.cons _ (List.Sublist.refl _))))⟩
    · have := (List.getElem?_eq_some_iff.1 he).1
      omega
    · obtain ⟨m, la, hm, hla, hgl⟩ := last_of (hx.ne es (List.mem_of_getElem? he))
      have := hi3 k hk
      rw [he] at this
      exact ⟨la, hgl, by simpa [hgl] using this⟩
    have := (List.getElem?_eq_some_iff.1 he).1
    omega
  refine xG (.bool false) rfl rfl (ex_eql (k := .i64) (m := (i7 : Int)) (n := (X.length : Int)) rfl rfl rfl (decide_eq_false hb11)) ?_
  refine wL ?_
  simp only [zP, zI, zS, zO]
  refine tN (hK10 _ _ ?_)
  clear hK10 K10
  refine wpIn_cond_false rfl ?_
  refine wpIn_skip ?_
  refine tN (hK9 _ _ ?_)
  clear hK9 K9
  refine sK fun K13 hK13 => ?_
  obtain ⟨es, hes⟩ : ∃ es, X[i7]? = some es := ⟨_, List.getElem?_eq_getElem (by omega)⟩
  obtain ⟨m, la, hm, hla, hgl⟩ := last_of (hx.ne es (List.mem_of_getElem? hes))
  have hlast : Op.bytesLess la.1 key = false := by
    have := hi2 (by omega)
    rw [hes] at this
    simpa [hgl] using this
  obtain ⟨ead, ec, hbvead, hokead, hreead⟩ := hbv.2 _ _ hes
  obtain ⟨bb, bo, had, hrbead⟩ := row1_reads hr hbvead
  subst had
  refine rL ?_
  refine xL (.pointer (some ⟨p, 0, none⟩)) rfl rfl rfl (run_load1 s3na57 (hv.load 1 0 rfl rfl)) ?_
  refine xG (.pointer (some ⟨p, 0, none⟩)) rfl rfl (ex_nil rfl rfl) ?_
  refine xF (.pointer (some ⟨p, 0, none⟩)) rfl rfl rfl (s3fa81_0 _ _ _) ?_
  simp only [zP, zI, zS, zO]
  refine xL (.slice (some ⟨bb, bo, none⟩) X.length c) rfl rfl rfl (run_load1 s3na79 (hp _ _ _ (Base.Le.refl _) (fun r9 hr9 => (List.mem_cons_of_mem _ (List.mem_cons_of_mem _ (hRH r9 hr9)))) hv 0 _ rfl)) ?_
  refine xM (.int .i64 (i7 : Int)) rfl rfl rfl ?_
  refine xG (.pointer (some ⟨bb, bo + i7, none⟩)) rfl rfl (ex_index rfl rfl rfl (run_idx1 (k := i7) Try.underlying79 s3es79 (by omega))) ?_
  simp only [zP, zI, zS, zO]
  refine xL (.slice ead es.length ec) rfl rfl rfl (run_load1 s3na93 (hrbead _ _ _ (Base.Le.refl _) (fun r9 hr9 => (List.mem_cons_of_mem _ (List.mem_cons_of_mem _ (hRH r9 hr9)))) hv 0 _ rfl)) ?_
  refine sl_alloc tV (wn rfl) rfl hv s3al93 (fun b14 w15 hv => ?_)
  refine sl_storeAt 0 (v := .slice ead es.length ec) (L' := [.slice ead es.length ec]) tV (wn rfl) rfl rfl rfl hv rfl s3sz93 (by simp) rfl rfl rfl (fun w16 hv => ?_)
  simp only [List.set_cons_zero] at hv
  refine wL ?_
  simp only [zP, zN, zI, zS, zO]
  refine tN (hK13 _ _ ?_)
  clear hK13 K13
  refine sK fun K17 hK17 => rL ?_
  refine xL (.slice ead es.length ec) rfl rfl rfl (run_load1 s3na93 (hv.load 0 0 rfl rfl)) ?_
  refine xG (.int .i64 (es.length : Int)) rfl rfl (ex_len0 Try.underlying93 rfl rfl) ?_
  refine xG (.func (.func 55) #[] #[.pointer (some ⟨b14, 0, none⟩), .pointer (some ⟨b4, 0, none⟩)]) rfl rfl (ex_makeFunc (c' := #[.pointer (some ⟨b14, 0, none⟩), .pointer (some ⟨b4, 0, none⟩)]) rfl (by simp only [yA, yC]) (by simp only [yA, yB, yC]; rfl)) ?_
  simp only [zP, zI, zS, zO]
  have hfn2 : ∀ k, k < es.length → ∀ w, Inv B (Res.cell b14 [.slice ead es.length ec] 93 :: Res.cell b4 [.string ⟨key.toArray⟩] 9 :: Res.cell b2 [.pointer (some ⟨p, 0, none⟩)] 57 :: H) w → Calls Try.prog 55 (#[.int .i64 (k : Int)] ++ #[.pointer (some ⟨b14, 0, none⟩), .pointer (some ⟨b4, 0, none⟩)]) w fun e w' => e = .returned (.bool ((es[k]?.map fun f => !Op.bytesLess f.1 key).getD false)) ∧ Inv B (Res.cell b14 [.slice ead es.length ec] 93 :: Res.cell b4 [.string ⟨key.toArray⟩] 9 :: Res.cell b2 [.pointer (some ⟨p, 0, none⟩)] 57 :: H) w' := fun k hk w hv => by
    obtain ⟨f, hf⟩ : ∃ f, es[k]? = some f := ⟨_, List.getElem?_eq_getElem hk⟩
    rw [hf]
    exact findFn2 B _ w _ _ k es f key ead ec R (fun r9 hr9 => List.mem_cons_of_mem _ (hRH r9 hr9)) hreead hf hv
  refine xC s2callable53 rfl rfl (l := [.int .i64 (es.length : Int), .func (.func 55) #[] #[.pointer (some ⟨b14, 0, none⟩), .pointer (some ⟨b4, 0, none⟩)]]) rfl ((sortSearch B _ _ 55 _ es.length _ s3callable55 hfn2 (by have := hx.lenE es (List.mem_of_getElem? hes); omega) hv).mono ?_)
  rintro e w19 ⟨i18, hj1, hj2, hj3, rfl, hv⟩
  refine ⟨_, rfl, ?_⟩
  refine xA (.int .i64 (i18 : Int)) rfl rfl rfl ?_
  refine wL ?_
  simp only [zP, zI, zS, zO]
  refine tN (hK17 _ _ ?_)
  clear hK17 K17
  refine sK fun K20 hK20 => ?_
  have hjl : i18 < es.length := by
    rcases Nat.lt_or_ge i18 es.length with h | h
    · exact h
    exfalso
    have := hj3 m (by omega)
    rw [hla] at this
    simp [hlast] at this
  obtain ⟨f, hf⟩ : ∃ f, es[i18]? = some f := ⟨_, List.getElem?_eq_getElem hjl⟩
  obtain ⟨eb, eo, had2, hrdeb⟩ := ent_reads hreead hf
  subst had2
  refine region_st mixed [.int .i64 (i7 : Int), .int .i64 (i18 : Int), .slice (some ⟨eb, eo, none⟩) es.length ec, .int .i64 (i18 : Int), .pointer (some ⟨eb, eo + i18 * 2, none⟩), .pointer (some ⟨eb, eo + i18 * 2, none⟩), .string ⟨f.1.toArray⟩, .string ⟨key.toArray⟩, .bool (decide (f.1 = key)), .int .i64 (i7 : Int), .int .i64 (i18 : Int), .bool (decide (f.1 = key))] [] [⟨fun vals w => vals = [] ∧ Inv B (Res.cell b14 [.slice (some ⟨eb, eo, none⟩) es.length ec] 93 :: Res.cell b4 [.string ⟨key.toArray⟩] 9 :: Res.cell b2 [.pointer (some ⟨p, 0, none⟩)] 57 :: H) w, fun _ _ _ ⟨h, hi⟩ he => ⟨h, hi.ext he⟩⟩] 45 rfl (by kernel_rfl) ⟨rfl, hv⟩ ⟨?_, ?_, ?_, ?_, ?_, ?_, ?_, ?_, ?_, ?_, ?_, ?_, trivial⟩ ?_
  · intro aa ww vals hJ hR
    exact xD rfl (ex_move rfl (show aa.eval (.tmp 7) = _ from hR.keep 7 rfl)) rfl rfl
  · intro aa ww vals hJ hR
    exact xD rfl (ex_move rfl (show aa.eval (.tmp 9) = _ from hR.keep 9 rfl)) rfl rfl
  · intro aa ww vals hJ hR
    have hl : vals.length = 0 := by have := JS.le (n := 0) (by rfl) hJ; omega
    obtain ⟨hvals, hv⟩ := hJ.at0 hl
    exact xD rfl (ex_load rfl (show aa.eval (.tmp 8) = _ from hR.keep 8 rfl) (run_load1 s3na93 (hv.load 0 0 rfl rfl))) rfl rfl
  · intro aa ww vals hJ hR
    exact xD rfl (ex_move rfl (show aa.eval (.tmp 9) = _ from hR.keep 9 rfl)) rfl rfl
  · intro aa ww vals hJ hR
    exact xD rfl (ex_index rfl (hR.w 2 38 rfl rfl rfl rfl) (hR.w 3 39 rfl rfl rfl rfl) (run_idx (k := i18) Try.underlying93 s3es93 (by omega))) rfl rfl
  · intro aa ww vals hJ hR
    exact xD rfl (ex_field rfl (hR.w 4 40 rfl rfl rfl rfl) (s3fa92_0 _ _ _)) rfl rfl
  · intro aa ww vals hJ hR
    have hl : vals.length = 0 := by have := JS.le (n := 0) (by rfl) hJ; omega
    obtain ⟨hvals, hv⟩ := hJ.at0 hl
    exact xD rfl (ex_load rfl (hR.w 5 41 rfl rfl rfl rfl) (run_load1 s3na9 (hrdeb _ _ _ (Base.Le.refl _) (fun r9 hr9 => (List.mem_cons_of_mem _ (List.mem_cons_of_mem _ (List.mem_cons_of_mem _ (hRH r9 hr9))))) hv 0 _ rfl))) rfl rfl
  · intro aa ww vals hJ hR
    have hl : vals.length = 0 := by have := JS.le (n := 0) (by rfl) hJ; omega
    obtain ⟨hvals, hv⟩ := hJ.at0 hl
    exact xD rfl (ex_load rfl (show aa.eval (.tmp 3) = _ from hR.keep 3 rfl) (run_load1 s3na9 (hv.load 1 0 rfl rfl))) rfl rfl
  · intro aa ww vals hJ hR
    exact xD rfl (ex_seql (s := f.1) (s' := key) rfl (hR.w 6 42 rfl rfl rfl rfl) (hR.w 7 43 rfl rfl rfl rfl) rfl) rfl rfl
  · intro aa ww vals hJ hR
    exact xD rfl (ex_assign rfl (hR.w 0 36 rfl rfl rfl rfl)) rfl rfl
  · intro aa ww vals hJ hR
    exact xD rfl (ex_assign rfl (hR.w 1 37 rfl rfl rfl rfl)) rfl rfl
  · intro aa ww vals hJ hR
    exact xD rfl (ex_assign rfl (hR.w 8 44 rfl rfl rfl rfl)) rfl rfl
  rintro w21 vals ⟨rfl, hv⟩
  rw [show mixV [] [] 0 [.int .i64 (i7 : Int), .int .i64 (i18 : Int), .slice (some ⟨eb, eo, none⟩) es.length ec, .int .i64 (i18 : Int), .pointer (some ⟨eb, eo + i18 * 2, none⟩), .pointer (some ⟨eb, eo + i18 * 2, none⟩), .string ⟨f.1.toArray⟩, .string ⟨key.toArray⟩, .bool (decide (f.1 = key)), .int .i64 (i7 : Int), .int .i64 (i18 : Int), .bool (decide (f.1 = key))] = [.int .i64 (i7 : Int), .int .i64 (i18 : Int), .slice (some ⟨eb, eo, none⟩) es.length ec, .int .i64 (i18 : Int), .pointer (some ⟨eb, eo + i18 * 2, none⟩), .pointer (some ⟨eb, eo + i18 * 2, none⟩), .string ⟨f.1.toArray⟩, .string ⟨key.toArray⟩, .bool (decide (f.1 = key)), .int .i64 (i7 : Int), .int .i64 (i18 : Int), .bool (decide (f.1 = key))] from rfl]
  simp only [putAll, zP, zI, zS, zO]
  refine tN (hK20 _ _ ?_)
  clear hK20 K20
  refine wpIn_ret ?_
  refine bodyPost_ret (results_tmp3 rfl _ _ _) rfl ?_
  refine ⟨i7, i18, decide (f.1 = key), ⟨hi1, fun es2 he => ?_, fun k es2 hk he => ?_, fun h => by omega, fun es2 he => ?_⟩, rfl, (hv.sub (List.Sublist.cons _ (List.Sublist.cons _ (List.Sublist.cons _ (List.Sublist.refl _)))))⟩
  · rw [hes] at he; cases he
    exact ⟨la, hgl, hlast⟩
  · obtain ⟨m, la, hm, hla, hgl⟩ := last_of (hx.ne es2 (List.mem_of_getElem? he))
    have := hi3 k hk
    rw [he] at this
    exact ⟨la, hgl, by simpa [hgl] using this⟩
  rw [hes] at he; cases he
  refine ⟨f, hf, ?_, rfl, fun k f2 hk hf2 => ?_⟩
  · have := hj2 hjl
    rw [hf] at this
    simpa using this
  have := hj3 k hk
  rw [hf2] at this
  simpa using this
theorem s3callable42 : Callable Try.prog 42 := ⟨_, Try.func42, by kernel_rfl, by kernel_rfl⟩
theorem s3fa92_1 (w : World) (b o : Nat) : (Instr.fieldAt 92 (.pointer (some ⟨b, o, none⟩)) 1).run Try.prog w = .ok (.pointer (some ⟨b, o + 1, none⟩)) w := by kernel_rfl
theorem s3callable43 : Callable Try.prog 43 := ⟨_, Try.func43, by kernel_rfl, by kernel_rfl⟩
set_option maxHeartbeats 2000000 in
theorem ixGet (B : Base) (H : List Res) (w : World) (p : Nat) (n : Int) (X : List (List Ent)) (ad : Option Addr) (c : Nat) (bvs : List Value) (key : List UInt8) (R : List Res) (hRH : ∀ r ∈ R, r ∈ H) (hp : Reads B R p 0 [.slice ad X.length c, .int .i64 n]) (hr : RdW B R ad bvs) (hbv : BlksAt B R X bvs) (M : Model) (hx : IxM B X M) (hv : Inv B H w) :
    Calls Try.prog 27 #[.pointer (some ⟨p, 0, none⟩), .string ⟨key.toArray⟩] w fun e w' => ∃ C v', B.Le C ∧ e = .returned v' ∧ ChainB C v' (getM M key) ∧ Inv C H w' := by
  refine (callsIn_wide (n := 5)).1 ?_
  refine callsIn_of_wp Try.func27 rfl trivial ?_
  simp only [Try.ntmps27, List.size_toArray, List.length_cons, List.length_nil, Nat.reduceAdd, Nat.reduceSub, Array.replicate_succ, Array.replicate_zero, List.push_toArray, List.append_toArray, List.nil_append, List.cons_append]
  refine sK fun K1 hK1 => rL ?_
  refine xA (.slice none 0 0) rfl rfl rfl ?_
  refine wL ?_
  simp only [zP, zI, zS, zO]
  refine tN (hK1 _ _ ?_)
  clear hK1 K1
  refine sK fun K2 hK2 => rL ?_
  refine xM (.pointer (some ⟨p, 0, none⟩)) rfl rfl rfl ?_
  refine xM (.string ⟨key.toArray⟩) rfl rfl rfl ?_
  refine xC s3callable42 rfl rfl (l := [.pointer (some ⟨p, 0, none⟩), .string ⟨key.toArray⟩]) rfl ((ixFind B _ _ p n X ad c bvs key R hRH hp hr hbv hx.ok hv).mono ?_)
  rintro e w3 ⟨i, j, ok, hfi, rfl, hv⟩
  refine ⟨_, rfl, ?_⟩
  simp only [zP, zI, zS, zO]
  refine xM (.tuple #[.int .i64 (i : Int), .int .i64 (j : Int), .bool ok]) rfl rfl rfl ?_
  refine xG (.int .i64 (i : Int)) rfl rfl (ex_extract rfl rfl rfl) ?_
  refine xG (.int .i64 (j : Int)) rfl rfl (ex_extract rfl rfl rfl) ?_
  simp only [zP, zI, zS, zO]
  refine xG (.bool ok) rfl rfl (ex_extract rfl rfl rfl) ?_
  refine xA (.int .i64 (i : Int)) rfl rfl rfl ?_
  refine xA (.int .i64 (j : Int)) rfl rfl rfl ?_
  simp only [zP, zI, zS, zO]
  refine xA (.bool ok) rfl rfl rfl ?_
  refine wL ?_
  simp only [zP, zI, zS, zO]
  refine tN (hK2 _ _ ?_)
  clear hK2 K2
  refine sK fun K4 hK4 => ?_
  refine sK fun K5 hK5 => rL ?_
  refine xM (.bool ok) rfl rfl rfl ?_
  refine xG (.bool (!ok)) rfl rfl (ex_not (b := ok) rfl rfl rfl) ?_
  refine wL ?_
  simp only [zP, zI, zS, zO]
  refine tN (hK5 _ _ ?_)
  clear hK5 K5
  refine wpIn_cond_split (t := !ok) rfl (fun hc6 => ?_) (fun hc6 => ?_)
  · refine sK fun K7 hK7 => rL ?_
    refine xA (.slice none 0 0) rfl rfl rfl ?_
    refine wL ?_
    simp only [zP, zI, zS, zO]
    refine tN (hK7 _ _ ?_)
    clear hK7 K7
    refine wpIn_ret ?_
    refine then_ret ?_
    clear hK4 K4
    refine bR rfl rfl ?_
    have hok : ok = false := by simpa using hc6
    subst hok
    exact ⟨B, _, Base.Le.refl _, rfl, by rw [hx.none hfi]; exact chain_nil B, hv⟩
  refine wpIn_skip ?_
  refine tN (hK4 _ _ ?_)
  clear hK4 K4
  refine sK fun K8 hK8 => ?_
  have hok : ok = true := by simpa using hc6
  subst hok
  have hilt := hfi.lt
  obtain ⟨es, hes⟩ : ∃ es, X[i]? = some es := ⟨_, List.getElem?_eq_getElem hilt⟩
  obtain ⟨f, hf, -, -, -⟩ := hfi.at_ es hes
  have hjl : j < es.length := (List.getElem?_eq_some_iff.1 hf).1
  have hch := hx.some hfi hes hf
  obtain ⟨ead, ec, hbvead, hokead, hreead⟩ := hbv.2 _ _ hes
  obtain ⟨bb, bo, had, hrbead⟩ := row1_reads hr hbvead
  subst had
  obtain ⟨eb, eo, had2, hrdeb⟩ := ent_reads hreead hf
  subst had2
  refine rL ?_
  refine xM (.pointer (some ⟨p, 0, none⟩)) rfl rfl rfl ?_
  refine xG (.pointer (some ⟨p, 0, none⟩)) rfl rfl (ex_nil rfl rfl) ?_
  refine xF (.pointer (some ⟨p, 0, none⟩)) rfl rfl rfl (s3fa81_0 _ _ _) ?_
  simp only [zP, zI, zS, zO]
  refine xL (.slice (some ⟨bb, bo, none⟩) X.length c) rfl rfl rfl (run_load1 s3na79 (hp _ _ _ (Base.Le.refl _) (fun r9 hr9 => (hRH r9 hr9)) hv 0 _ rfl)) ?_
  refine xM (.int .i64 (i : Int)) rfl rfl rfl ?_
  refine xG (.pointer (some ⟨bb, bo + i, none⟩)) rfl rfl (ex_index rfl rfl rfl (run_idx1 (k := i) Try.underlying79 s3es79 (by omega))) ?_
  simp only [zP, zI, zS, zO]
  refine xL (.slice (some ⟨eb, eo, none⟩) es.length ec) rfl rfl rfl (run_load1 s3na93 (hrbead _ _ _ (Base.Le.refl _) (fun r9 hr9 => (hRH r9 hr9)) hv 0 _ rfl)) ?_
  refine xM (.int .i64 (j : Int)) rfl rfl rfl ?_
  refine xG (.pointer (some ⟨eb, eo + j * 2, none⟩)) rfl rfl (ex_index rfl rfl rfl (run_idx (k := j) Try.underlying93 s3es93 (by omega))) ?_
  simp only [zP, zI, zS, zO]
  refine xF (.pointer (some ⟨eb, eo + j * 2 + 1, none⟩)) rfl rfl rfl (s3fa92_1 _ _ _) ?_
  refine xL (f.2) rfl rfl rfl (run_load1 s2na66 (hrdeb _ _ _ (Base.Le.refl _) (fun r9 hr9 => (hRH r9 hr9)) hv 1 _ rfl)) ?_
  refine xC s3callable43 rfl rfl (l := [f.2]) rfl ((indexClone _ _ _ f.2 (getM M key) hch (by have := hx.glen key; omega) hv).mono ?_)
  rintro e w11 ⟨C9, q10, hC9, rfl, hq, hv⟩
  refine ⟨_, rfl, ?_⟩
  simp only [zP, zI, zS, zO]
  refine xA (q10) rfl rfl rfl ?_
  refine wL ?_
  simp only [zP, zI, zS, zO]
  refine tN (hK8 _ _ ?_)
  clear hK8 K8
  refine wpIn_ret ?_
  refine bR rfl rfl ?_
  exact ⟨_, q10, hC9, rfl, hq, hv⟩
theorem s3fa81_1 (w : World) (b o : Nat) : (Instr.fieldAt 81 (.pointer (some ⟨b, o, none⟩)) 1).run Try.prog w = .ok (.pointer (some ⟨b, o + 1, none⟩)) w := by kernel_rfl
set_option maxHeartbeats 2000000 in
theorem ixLen (B : Base) (H : List Res) (w : World) (p : Nat) (n : Int) (v : Value) (R : List Res) (hRH : ∀ r ∈ R, r ∈ H) (hp : Reads B R p 0 [v, .int .i64 n]) (hv : Inv B H w) :
    Calls Try.prog 40 #[.pointer (some ⟨p, 0, none⟩)] w fun e w' => e = .returned (.int .i64 n) ∧ Inv B H w' := by
  refine (callsIn_wide (n := 5)).1 ?_
  refine callsIn_of_wp Try.func40 rfl trivial ?_
  simp only [Try.ntmps40, List.size_toArray, List.length_cons, List.length_nil, Nat.reduceAdd, Nat.reduceSub, Array.replicate_succ, Array.replicate_zero, List.push_toArray, List.append_toArray, List.nil_append, List.cons_append]
  refine sK fun K1 hK1 => rL ?_
  refine xA (.int .i64 0) rfl rfl rfl ?_
  refine wL ?_
  simp only [zP, zI, zS, zO]
  refine tN (hK1 _ _ ?_)
  clear hK1 K1
  refine sK fun K2 hK2 => rL ?_
  refine xM (.pointer (some ⟨p, 0, none⟩)) rfl rfl rfl ?_
  refine xG (.pointer (some ⟨p, 0, none⟩)) rfl rfl (ex_nil rfl rfl) ?_
  refine xF (.pointer (some ⟨p, 1, none⟩)) rfl rfl rfl (s3fa81_1 _ _ _) ?_
  simp only [zP, zI, zS, zO]
  refine xL (.int .i64 n) rfl rfl rfl (run_load1 s2na3 (hp _ _ _ (Base.Le.refl _) (fun r9 hr9 => (hRH r9 hr9)) hv 1 _ rfl)) ?_
  refine xA (.int .i64 n) rfl rfl rfl ?_
  refine wL ?_
  simp only [zP, zI, zS, zO]
  refine tN (hK2 _ _ ?_)
  clear hK2 K2
  refine wpIn_ret ?_
  refine bR rfl rfl ?_
  exact ⟨rfl, hv⟩
end Go.Proofs.Ytffmbdagjpdieaa
