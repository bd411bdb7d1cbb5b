/- One operation's run, by its kind, with the values told; and the operations that turn memory, over what is one's own. -/
import Derived.Test.YtkannfkjnohdlaaMgA
import Derived.IntWalk
import Derived.Test.YtkannfkjnohdlaaRows
import Derived.Deep.LoopGhost
import Derived.Lib.Hide
import Derived.Lib.SlBytesConst
import Derived.Deep.WholeRow
import Derived.Deep.DeepCutAuto
namespace Go.Pm
open Go.RowKit

theorem then_normal {X : Act → World → Prop} {Q : Exit → Act → World → Prop} {a : Act} {w : World} (h : X a w) : Exit.then X Q .normal a w := h
theorem then_exit {X : Act → World → Prop} {Q : Exit → Act → World → Prop} {a : Act} {w : World} {id : Nat} (h : Q (.exit id) a w) : Exit.then X Q (.exit id) a w := h
theorem then_ret {X : Act → World → Prop} {Q : Exit → Act → World → Prop} {a : Act} {w : World} (h : Q .ret a w) : Exit.then X Q .ret a w := h
theorem blk_normal {id : Nat} {Q : Exit → Act → World → Prop} {a : Act} {w : World} (h : Q .normal a w) : Exit.inBlock id Q .normal a w := h
theorem blk_hit {id : Nat} {Q : Exit → Act → World → Prop} {a : Act} {w : World} (h : Q .normal a w) : Exit.inBlock id Q (.exit id) a w := by simp only [Exit.inBlock, if_true]; exact h
theorem blk_miss {id j : Nat} {Q : Exit → Act → World → Prop} {a : Act} {w : World} (hn : (j == id) = false) (h : Q (.exit j) a w) : Exit.inBlock id Q (.exit j) a w := by
  have : j ≠ id := by simpa using hn
  simp only [Exit.inBlock, this, if_false]; exact h
theorem blk_ret {id : Nat} {Q : Exit → Act → World → Prop} {a : Act} {w : World} (h : Q .ret a w) : Exit.inBlock id Q .ret a w := h

theorem i64_in {n : Int} (h : -9223372036854775808 ≤ n ∧ n ≤ 9223372036854775807) : IntKind.i64.wrap n = n := IntWalk.i64_in n h
theorem u8_in {n : Int} (h : 0 ≤ n ∧ n ≤ 255) : IntKind.u8.wrap n = n := by
  have : IntKind.wrap .u8 n = n % 256 := by simp [IntKind.wrap, IntKind.signed, IntKind.bits]
  rw [this]; omega
theorem u32_in {n : Int} (h : 0 ≤ n ∧ n ≤ 4294967295) : IntKind.u32.wrap n = n := by
  have : IntKind.wrap .u32 n = n % 4294967296 := by simp [IntKind.wrap, IntKind.signed, IntKind.bits]
  rw [this]; omega
theorem u64_in {n : Int} (h : 0 ≤ n ∧ n ≤ 18446744073709551615) : IntKind.u64.wrap n = n := by
  have : IntKind.wrap .u64 n = n % 18446744073709551616 := by simp [IntKind.wrap, IntKind.signed, IntKind.bits]
  rw [this]; omega

section
variable {P : Program} {a : Act} {w w' : World} {o : Oper} {v : Value} {x y z : Operand} {t u : TypeId} {p q r : Value} {k : IntKind} {m n : Int} {b : Bool}
theorem ex_lss (ho : o.op = .binOp .lss t x y u) (hx : a.eval x = .int k m) (hy : a.eval y = .int k n) (hb : decide (m < n) = b) : Ex P a o w (.bool b) w := by
  subst hb; unfold Ex; simp [execOp, ho, hx, hy, eqGuard, binOp, Op.intCmp]
theorem ex_leq (ho : o.op = .binOp .leq t x y u) (hx : a.eval x = .int k m) (hy : a.eval y = .int k n) (hb : decide (m ≤ n) = b) : Ex P a o w (.bool b) w := by
  subst hb; unfold Ex; simp [execOp, ho, hx, hy, eqGuard, binOp, Op.intCmp]
theorem ex_gtr (ho : o.op = .binOp .gtr t x y u) (hx : a.eval x = .int k m) (hy : a.eval y = .int k n) (hb : decide (m > n) = b) : Ex P a o w (.bool b) w := by
  subst hb; unfold Ex; simp [execOp, ho, hx, hy, eqGuard, binOp, Op.intCmp]
theorem ex_geq (ho : o.op = .binOp .geq t x y u) (hx : a.eval x = .int k m) (hy : a.eval y = .int k n) (hb : decide (m ≥ n) = b) : Ex P a o w (.bool b) w := by
  subst hb; unfold Ex; simp [execOp, ho, hx, hy, eqGuard, binOp, Op.intCmp]
theorem ex_eql (ho : o.op = .binOp .eql t x y u) (hx : a.eval x = .int k m) (hy : a.eval y = .int k n) (hb : decide (m = n) = b) : Ex P a o w (.bool b) w := by
  subst hb; unfold Ex; simp [execOp, ho, hx, hy, eqGuard, binOp, Op.intCmp]; rfl
theorem ex_neq (ho : o.op = .binOp .neq t x y u) (hx : a.eval x = .int k m) (hy : a.eval y = .int k n) (hb : decide (m ≠ n) = b) : Ex P a o w (.bool b) w := by
  subst hb; unfold Ex; simp [execOp, ho, hx, hy, eqGuard, binOp, Op.intCmp]; rfl
theorem ex_add (ho : o.op = .binOp .add t x y u) (hx : a.eval x = .int k m) (hy : a.eval y = .int k n) {s : Int} (hs : k.wrap (m + n) = s) : Ex P a o w (.int k s) w := by
  subst hs; unfold Ex; simp [execOp, ho, hx, hy, eqGuard, binOp, Op.intArith]
theorem ex_sub (ho : o.op = .binOp .sub t x y u) (hx : a.eval x = .int k m) (hy : a.eval y = .int k n) {s : Int} (hs : k.wrap (m - n) = s) : Ex P a o w (.int k s) w := by
  subst hs; unfold Ex; simp [execOp, ho, hx, hy, eqGuard, binOp, Op.intArith]
theorem ex_mul (ho : o.op = .binOp .mul t x y u) (hx : a.eval x = .int k m) (hy : a.eval y = .int k n) {s : Int} (hs : k.wrap (m * n) = s) : Ex P a o w (.int k s) w := by
  subst hs; unfold Ex; simp [execOp, ho, hx, hy, eqGuard, binOp, Op.intArith]
theorem ex_quo (ho : o.op = .binOp .quo t x y u) (hx : a.eval x = .int k m) (hy : a.eval y = .int k n) (h0 : n ≠ 0) {s : Int} (hs : k.wrap (m.tdiv n) = s) : Ex P a o w (.int k s) w := by
  subst hs; unfold Ex; simp [execOp, ho, hx, hy, eqGuard, binOp, Op.intDiv, h0]
theorem ex_rem (ho : o.op = .binOp .rem t x y u) (hx : a.eval x = .int k m) (hy : a.eval y = .int k n) (h0 : n ≠ 0) {s : Int} (hs : m.tmod n = s) : Ex P a o w (.int k s) w := by
  subst hs; unfold Ex; simp [execOp, ho, hx, hy, eqGuard, binOp, Op.intDiv, h0]
theorem ex_bits {op : BinOp} (ho : o.op = .binOp op t x y u) (hx : a.eval x = .int k m) (hy : a.eval y = .int k n) (hop : (op == .and || op == .or || op == .xor) = true) {s : Int} (hs : (Op.intBits op k m n).run P w = .ok (.int k s) w) : Ex P a o w (.int k s) w := by
  unfold Ex
  cases op <;> simp at hop <;> simp [execOp, ho, hx, hy, eqGuard, binOp, hs]
theorem ex_shl {k2 : IntKind} (ho : o.op = .binOp .shl t x y u) (hx : a.eval x = .int k m) (hy : a.eval y = .int k2 n) (h0 : 0 ≤ n) {s : Int} (hs : k.wrap (m * 2 ^ (min n.toNat k.bits)) = s) : Ex P a o w (.int k s) w := by
  subst hs; unfold Ex; simp [execOp, ho, hx, hy, eqGuard, binOp, Op.shift, show ¬ n < 0 by omega]
theorem ex_shr {k2 : IntKind} (ho : o.op = .binOp .shr t x y u) (hx : a.eval x = .int k m) (hy : a.eval y = .int k2 n) (h0 : 0 ≤ n) {s : Int} (hs : m.fdiv (2 ^ (min n.toNat k.bits)) = s) : Ex P a o w (.int k s) w := by
  subst hs; unfold Ex; simp [execOp, ho, hx, hy, eqGuard, binOp, Op.shift, show ¬ n < 0 by omega]
theorem ex_not (ho : o.op = .unOp .not t x) (hx : a.eval x = .bool b) {c : Bool} (hc : (!b) = c) : Ex P a o w (.bool c) w := by
  subst hc; unfold Ex; simp [execOp, ho, hx, Op.unary]
theorem ex_neg (ho : o.op = .unOp .neg t x) (hx : a.eval x = .int k m) {s : Int} (hs : k.wrap (0 - m) = s) : Ex P a o w (.int k s) w := by
  subst hs; unfold Ex; simp [execOp, ho, hx, Op.unary, Op.intArith]
theorem ex_int {k2 : IntKind} {d : TypeDesc} (h1 : P.underlying t = some d) (h2 : P.underlying u = some (.int k2)) (ho : o.op = .convert t u x) (hx : a.eval x = .int k m) {s : Int} (hs : k2.wrap m = s) : Ex P a o w (.int k2 s) w := by
  subst hs; unfold Ex; simp [execOp, ho, hx, convert, run_underlying h1, run_underlying h2, Conv.intToInt]
theorem ex_extract {vs : Array Value} {i : Nat} (ho : o.op = .extract x i) (hx : a.eval x = .tuple vs) (hv : vs[i]? = some v) : Ex P a o w v w := by
  unfold Ex; simp [execOp, ho, hx, Instr.extract, hv]
theorem ex_make (ho : o.op = .makeSlice t x y) (hx : a.eval x = p) (hy : a.eval y = q) (hr : (Instr.makeSlice t p q).run P w = .ok v w') : Ex P a o w v w' := by unfold Ex; simp [execOp, ho, hx, hy, hr]
theorem ex_pick (ho : o.op = .pick x y z) (hx : a.eval x = .bool b) (hy : a.eval (if b then y else z) = v) : Ex P a o w v w := by
  unfold Ex; cases b <;> simp [execOp, ho, hx, asBool] at hy ⊢ <;> simp [hy]
theorem ex_pisnil {c : Bool} (ht : P.underlying t = some (.pointer (P.pointee t))) {ad : Option Addr} (ho : o.op = .binOp .eql t x y u) (hx : a.eval x = .pointer ad) (hy : a.eval y = .pointer none) (hc : ad.isNone = c) : Ex P a o w (.bool c) w := by
  have hg : (eqGuard .eql t x y (.pointer ad) (.pointer none)).run P w = .ok () w := by simp [eqGuard]
  have hr : (binOp .eql t (.pointer ad) (.pointer none)).run P w = .ok (.bool c) w := by simp [binOp, run_equal_pointer_nil w t ad ht, hc]
  unfold Ex; simp [execOp, ho, hx, hy, hg, hr]
theorem ex_pnonnil {c : Bool} (ht : P.underlying t = some (.pointer (P.pointee t))) {ad : Option Addr} (ho : o.op = .binOp .neq t x y u) (hx : a.eval x = .pointer ad) (hy : a.eval y = .pointer none) (hc : ad.isSome = c) : Ex P a o w (.bool c) w := by
  have hg : (eqGuard .neq t x y (.pointer ad) (.pointer none)).run P w = .ok () w := by simp [eqGuard]
  have hr : (binOp .neq t (.pointer ad) (.pointer none)).run P w = .ok (.bool c) w := by simp [binOp, run_equal_pointer_nil w t ad ht, ← hc]
  unfold Ex; simp [execOp, ho, hx, hy, hg, hr]
theorem ex_len0 {pa : Option Addr} {l c : Nat} {e : TypeId} (ht : P.underlying t = some (.slice e)) (ho : o.op = .call { callee := .builtin .len, args := #[x], argTypes := #[t] }) (hx : a.eval x = .slice pa l c) : Ex P a o w (.int .i64 l) w := by
  unfold Ex; simp [execOp, ho, hx, resolve, invoke, builtin, Builtin.len_, run_underlying ht, goInt]
theorem ex_lenStr {l : List UInt8} (ht : P.underlying t = some .string) (ho : o.op = .call { callee := .builtin .len, args := #[x], argTypes := #[t] }) (hx : a.eval x = .string ⟨l.toArray⟩) : Ex P a o w (.int .i64 l.length) w := by
  have hs : (ByteArray.mk l.toArray).size = l.length := rfl
  unfold Ex; simp [execOp, ho, hx, resolve, invoke, builtin, Builtin.len_, run_underlying ht, goInt, hs]
theorem ex_min2 (ho : o.op = .call { callee := .builtin .min, args := #[x, y], argTypes := #[t, u] }) (hx : a.eval x = .int k m) (hy : a.eval y = .int k n) {s : Int} (hs : (if n < m then n else m) = s) : Ex P a o w (.int k s) w := by
  subst hs; unfold Ex; simp [execOp, ho, hx, hy, resolve, invoke, builtin, Builtin.min_, Builtin.min2]
theorem ex_max2 (ho : o.op = .call { callee := .builtin .max, args := #[x, y], argTypes := #[t, u] }) (hx : a.eval x = .int k m) (hy : a.eval y = .int k n) {s : Int} (hs : (if n > m then n else m) = s) : Ex P a o w (.int k s) w := by
  subst hs; unfold Ex; simp [execOp, ho, hx, hy, resolve, invoke, builtin, Builtin.max_, Builtin.max2]
theorem ex_seql {s s' : List UInt8} (ho : o.op = .binOp .eql t x y u) (hx : a.eval x = .string ⟨s.toArray⟩) (hy : a.eval y = .string ⟨s'.toArray⟩) (hb : decide (s = s') = b) : Ex P a o w (.bool b) w := by
  subst hb; unfold Ex; simp [execOp, ho, hx, hy, eqGuard, binOp, Op.stringOp]; try (rw [Bool.eq_iff_iff]; simp)
theorem ex_sneq {s s' : List UInt8} (ho : o.op = .binOp .neq t x y u) (hx : a.eval x = .string ⟨s.toArray⟩) (hy : a.eval y = .string ⟨s'.toArray⟩) (hb : decide (s ≠ s') = b) : Ex P a o w (.bool b) w := by
  subst hb; unfold Ex; simp [execOp, ho, hx, hy, eqGuard, binOp, Op.stringOp]; try (rw [Bool.eq_iff_iff]; simp)
end

/-- a row of one's own (Go's slice from its block's beginning, or nil) -/
@[reducible] def Res.row (e : TypeId) (size : Nat) (v : Value) (n : Nat) (xs : List Value) : Res :=
  ⟨v.ownBlock.toList, fun w => w.ownsRow 0 e size v n xs, fun w w' h hr => ⟨hr.1, by
    rcases hr.2 with h4 | ⟨g, cap, cur, rfl, hb, hg, h5⟩
    · exact .inl h4
    · exact .inr ⟨g, cap, cur, rfl, hb, (h g (by simp [Value.ownBlock])).trans hg, h5⟩⟩⟩

theorem wn {ops : Array Oper} {a : Act} {o : Oper} (hg : o.guard = none) : Region.wanted o (yielded ops a.tmps) = true := by simp [Region.wanted, hg]
theorem tr {f : FuncId} : Fence.wide.fn f := trivial
section
variable {F : Fence} {n : Nat} {P : Program} {ops : Array Oper} {Q : Exit → Act → World → Prop} {a : Act} {w w' : World} {rest : List Oper} {o : Oper} {v : Value}
theorem wpi_exUG (hF : ∀ f, F.fn f) (hg : Region.wanted o (yielded ops a.tmps) = true) (hd : isDefer o = false) (hr : ExU P a o w w') (h : wpListIn F n P ops Q rest (a.put o.dst undef) w') : wpListIn F n P ops Q (o :: rest) a w := by
  refine wpListIn_step fun K hK => ?_
  rw [if_pos hg]
  exact ⟨fun f _ => hF f, by rw [Oper.semAt_eq _ _ _ (not_defer hd), show (execOp a.eval o).run P w = _ from hr]; exact hK _ _ h⟩
/-- a function, called (guarded or not) -/
theorem wpi_callG {f : FuncId} {xs : Array Operand} {ts : Array TypeId} {args : Array Value} (hf : Callable P f) (hF : ∀ f, F.fn f) (hC : ∀ (f : FuncId) (args : Array Value) (w : World) (R : Ending → World → Prop), Calls P f args w R → CallsIn F (n - 1) P f args w R) (hdp : F.depth = none) (hg : Region.wanted o (yielded ops a.tmps) = true)
    (ho : o.op = .call { callee := .value (.func f), args := xs, argTypes := ts }) (hx : xs.map a.eval = args) (hc : Calls P f args w fun e w' => ∃ v, e = .returned v ∧ wpListIn F n P ops Q rest (a.put o.dst v) w') : wpListIn F n P ops Q (o :: rest) a w := by
  refine wpListIn_step fun K hK => ?_
  rw [if_pos hg]
  refine ⟨fun f _ => hF f, ?_⟩
  have hd : isDefer o = false := by unfold isDefer; rw [ho]
  obtain ⟨fn, h1, h2, h3⟩ := hf
  have : execOp a.eval o = callFunc f (#[] ++ xs.map a.eval ++ #[]) := by
    obtain ⟨d, op, ty, pos, af, gd⟩ := o
    simp only at ho
    subst ho
    rfl
  have hb : ¬ fn.body = none := by intro h; rw [h] at h3; cases h3
  have hn : ¬ fn.name = "runtime.NumGoroutine" := by simpa using h2
  have hr : (execOp a.eval o).run P w = .ok (.enter f args) w := by rw [this, hx]; simp [callFunc, h1, hn, hb]
  rw [Oper.semAt_eq _ _ _ (not_defer hd), hr, Oper.uponIn_enter]
  refine ⟨fun e => by simp [hdp] at e, hC _ _ _ _ (hc.mono ?_)⟩
  rintro e w' ⟨v, rfl, hh⟩
  exact hK _ _ hh
end
theorem Inv.load {B : Base} {H : List Res} {w : World} (hv : Inv B H w) (k off : Nat) {b : Nat} {L : List Value} {t : TypeId} (hk : H[k]? = some (Res.cell b L t)) {v : Value} (hc : L[off]? = some v) : w.cell? ⟨b, off, none⟩ = some v :=
  (Blk.cell (hv.get k hk : Blk w b L t) off).trans hc
section mem
variable {F : Fence} {n : Nat} {P : Program} {ops : Array Oper} {Q : Exit → Act → World → Prop} {a : Act} {w w' : World} {rest : List Oper} {o : Oper} {v : Value} {B : Base} {H : List Res} {t e : TypeId} {x y : Operand} {p q : Value} {L : List Value}
theorem sl_alloc (hF : ∀ f, F.fn f) (hg : Region.wanted o (yielded ops a.tmps) = true) (ho : o.op = .alloc t) (hv : Inv B H w) (hz : ∀ w, (Instr.alloc t true (.tuple #[])).run P w = .ok (.pointer (some ⟨w.heap.size, 0, none⟩)) (w.alloc (.cells L.toArray t)))
    (h : ∀ b w', Inv B (Res.cell b L t :: H) w' → wpListIn F n P ops Q rest (a.put o.dst (.pointer (some ⟨b, 0, none⟩))) w') : wpListIn F n P ops Q (o :: rest) a w :=
  wpi_exG hF hg (by unfold isDefer; rw [ho]) (ex_alloc ho (hz w)) (h _ _ (hv.alloc L t))
theorem sl_box (hF : ∀ f, F.fn f) (hg : Region.wanted o (yielded ops a.tmps) = true) (ho : o.op = .box t x) (hx : a.eval x = p) (hv : Inv B H w) (hz : ∀ w, (Instr.box t p).run P w = .ok (.pointer (some ⟨w.heap.size, 0, none⟩)) (w.alloc (.cells L.toArray t)))
    (h : ∀ b w', Inv B (Res.cell b L t :: H) w' → wpListIn F n P ops Q rest (a.put o.dst (.pointer (some ⟨b, 0, none⟩))) w') : wpListIn F n P ops Q (o :: rest) a w :=
  wpi_exG hF hg (by unfold isDefer; rw [ho]) (ex_box ho hx (hz w)) (h _ _ (hv.alloc L t))
theorem run_store1 {b off : Nat} {e : TypeId} (hz : (P.info? t).map (·.size) = some 1) (hb : Blk w b L e) (ho : off < L.length) (hc : v.cells = #[v]) (h1 : v.oneCell' = true) :
    (Instr.storeAt t (.pointer (some ⟨b, off, none⟩)) v).run P w = .ok () (setBlk w b (L.set off v)) := by
  have hst := run_storeCells_at P b off e [v] 0 _ _ hb (by simp; omega) (by simpa using h1)
  have hl : L.set off v = L.take off ++ v :: L.drop (off + 1) := by rw [List.set_eq_take_append_cons_drop, if_pos ho]
  simp only [Instr.storeAt, Instr.sureAddr, storeVar]
  simp [hc, Go.Pm.run_sizeOf hz]
  rw [hl]
  simpa using hst
theorem perm_set {α : Type} : ∀ (k : Nat) (l : List α) (x y : α), l[k]? = some x → (y :: l.eraseIdx k).Perm (l.set k y)
  | 0, z :: l, x, y, h => List.Perm.refl _
  | k + 1, z :: l, x, y, h => by
    have := perm_set k l x y (by simpa using h)
    exact (List.Perm.swap _ _ _).trans (List.Perm.cons z this)
  | _, [], x, y, h => by simp at h
/-- the block at place k, written anew -/
theorem Inv.putAt (hv : Inv B H w) (k : Nat) {b : Nat} (hk : H[k]? = some (Res.cell b L t)) (L' : List Value) : Inv B (H.set k (Res.cell b L' t)) (setBlk w b L') :=
  ((hv.front k hk).put L').perm (perm_set k H _ _ hk)
/-- one cell of the block at place k, written -/
theorem sl_storeAt (k : Nat) {b off : Nat} {L' : List Value} (hF : ∀ f, F.fn f) (hg : Region.wanted o (yielded ops a.tmps) = true) (ho : o.op = .store t x y) (hx : a.eval x = .pointer (some ⟨b, off, none⟩)) (hy : a.eval y = v) (hv : Inv B H w) (hk : H[k]? = some (Res.cell b L e)) (hz : (P.info? t).map (·.size) = some 1)
    (hoff : off < L.length) (hc : v.cells = #[v]) (h1 : v.oneCell' = true) (hL : L.set off v = L') (h : ∀ w', Inv B (H.set k (Res.cell b L' e)) w' → wpListIn F n P ops Q rest (a.put o.dst undef) w') : wpListIn F n P ops Q (o :: rest) a w := by
  subst hL
  exact wpi_exUG hF hg (by unfold isDefer; rw [ho]) (ex_store ho hx hy (run_store1 hz (hv.get k hk : Blk w b L e) hoff hc h1)) (h _ (hv.putAt k hk _))
/-- several cells of the block at place k, written -/
theorem sl_storeNAt (k : Nat) {b off : Nat} {new L' pre mid post : List Value} (hF : ∀ f, F.fn f) (hg : Region.wanted o (yielded ops a.tmps) = true) (ho : o.op = .store t x y) (hx : a.eval x = .pointer (some ⟨b, off, none⟩)) (hy : a.eval y = .agg new.toArray) (hv : Inv B H w) (hk : H[k]? = some (Res.cell b L e))
    (hz : (P.info? t).map (·.size) = some new.length) (hL : L = pre ++ mid ++ post) (hoff : pre.length = off) (hn : new.length = mid.length) (h1 : ∀ v ∈ new, v.oneCell' = true) (hL' : pre ++ new ++ post = L')
    (h : ∀ w', Inv B (H.set k (Res.cell b L' e)) w' → wpListIn F n P ops Q rest (a.put o.dst undef) w') : wpListIn F n P ops Q (o :: rest) a w := by
  subst hL'; subst hL
  exact wpi_exUG hF hg (by unfold isDefer; rw [ho]) (ex_store ho hx hy (run_store_mid hz (hv.get k hk : Blk w b _ e) hoff hn h1)) (h _ (hv.putAt k hk _))
/-- one cell of the first block, written -/
theorem sl_store {b off : Nat} {L' : List Value} (hF : ∀ f, F.fn f) (hg : Region.wanted o (yielded ops a.tmps) = true) (ho : o.op = .store t x y) (hx : a.eval x = .pointer (some ⟨b, off, none⟩)) (hy : a.eval y = v) (hv : Inv B (Res.cell b L e :: H) w) (hz : (P.info? t).map (·.size) = some 1)
    (hoff : off < L.length) (hc : v.cells = #[v]) (h1 : v.oneCell' = true) (hL : L.set off v = L') (h : ∀ w', Inv B (Res.cell b L' e :: H) w' → wpListIn F n P ops Q rest (a.put o.dst undef) w') : wpListIn F n P ops Q (o :: rest) a w := by
  subst hL
  exact wpi_exUG hF hg (by unfold isDefer; rw [ho]) (ex_store ho hx hy (run_store1 hz hv.head hoff hc h1)) (h _ (hv.put _))
/-- several cells of the first block, written -/
theorem sl_storeN {b off : Nat} {new L' pre mid post : List Value} (hF : ∀ f, F.fn f) (hg : Region.wanted o (yielded ops a.tmps) = true) (ho : o.op = .store t x y) (hx : a.eval x = .pointer (some ⟨b, off, none⟩)) (hy : a.eval y = .agg new.toArray) (hv : Inv B (Res.cell b L e :: H) w)
    (hz : (P.info? t).map (·.size) = some new.length) (hL : L = pre ++ mid ++ post) (hoff : pre.length = off) (hn : new.length = mid.length) (h1 : ∀ v ∈ new, v.oneCell' = true) (hL' : pre ++ new ++ post = L')
    (h : ∀ w', Inv B (Res.cell b L' e :: H) w' → wpListIn F n P ops Q rest (a.put o.dst undef) w') : wpListIn F n P ops Q (o :: rest) a w := by
  subst hL'; subst hL
  exact wpi_exUG hF hg (by unfold isDefer; rw [ho]) (ex_store ho hx hy (run_store_mid hz hv.head hoff hn h1)) (h _ (hv.put _))
/-- make -/
theorem sl_make {len cap : Nat} {i : TypeInfo} {z : Value} (hF : ∀ f, F.fn f) (hg : Region.wanted o (yielded ops a.tmps) = true) (ho : o.op = .makeSlice t x y) (hx : a.eval x = .int .i64 len) (hy : a.eval y = .int .i64 cap) (ht : P.underlying t = some (.slice e)) (hi : P.info? e = some i) (hz : i.zero = some z) (hlc : len ≤ cap) (hcm : cap ≤ maxLen) (hby : cap * i.bytes ≤ 140737488355328) (hv : Inv B H w)
    (h : ∀ b w', Inv B (Res.cell b (madeCells z.cells (cap * i.size)).toList e :: H) w' → wpListIn F n P ops Q rest (a.put o.dst (.slice (some ⟨b, 0, none⟩) len cap)) w') : wpListIn F n P ops Q (o :: rest) a w := by
  unfold maxLen at hcm
  have hr := run_make (P := P) w t e i z ht hi hz .i64 .i64 len cap (by omega) (by omega) (by rw [Int.mul_comm, ← Int.natCast_mul]; omega) (by omega)
  refine wpi_exG hF hg (by unfold isDefer; rw [ho]) (ex_make ho hx hy hr) ?_
  have := h _ _ (hv.alloc (madeCells z.cells (cap * i.size)).toList e)
  simpa using this
theorem madeCells_one {z : Value} (hz : z.cells = #[z]) (k : Nat) : (madeCells z.cells k).toList = List.replicate k z := by
  unfold madeCells
  apply List.ext_getElem
  · simp
  · intro i h1 h2
    simp [hz]
    rw [Nat.mod_one]; rfl
/-- make, of elements of one cell -/
theorem sl_make1 {len cap bytes : Nat} {z : Value} (hF : ∀ f, F.fn f) (hg : Region.wanted o (yielded ops a.tmps) = true) (ho : o.op = .makeSlice t x y) (hx : a.eval x = .int .i64 len) (hy : a.eval y = .int .i64 cap) (ht : P.underlying t = some (.slice e)) (hi : (P.info? e).map (fun i => (i.zero, i.size, i.bytes)) = some (some z, 1, bytes)) (hz1 : z.cells = #[z])
    (hlc : len ≤ cap) (hcm : cap ≤ maxLen) (hby : cap * bytes ≤ 140737488355328) (hv : Inv B H w) (h : ∀ b w', Inv B (Res.cell b (List.replicate cap z) e :: H) w' → wpListIn F n P ops Q rest (a.put o.dst (.slice (some ⟨b, 0, none⟩) len cap)) w') : wpListIn F n P ops Q (o :: rest) a w := by
  obtain ⟨i, hi, hh⟩ := Option.map_eq_some_iff.1 hi
  simp only [Prod.mk.injEq] at hh
  refine sl_make hF hg ho hx hy ht hi hh.1 hlc hcm (by rw [hh.2.2]; exact hby) hv (fun b w' hi' => h b w' ?_)
  rw [hh.2.1, Nat.mul_one, madeCells_one hz1] at hi'
  exact hi'
theorem run_idx {g off l c k size : Nat} (ht : P.underlying t = some (.slice (P.elem t))) (hs : ∀ w, (sizeOf (P.elem t)).run P w = .ok size w) (hk : k < l) :
    (Instr.indexAt t (.slice (some ⟨g, off, none⟩) l c) (.int .i64 (k : Int))).run P w = .ok (.pointer (some ⟨g, off + k * size, none⟩)) w := by
  rw [run_indexAt_slice (h := ht), if_pos (by omega), hs]
  have : (⟨g, off, none⟩ : Addr).add (k * size) = ⟨g, off + k * size, none⟩ := by unfold Addr.add; split <;> simp_all
  simp [Result.andThen, this]
theorem run_idx1 {g off l c k : Nat} (ht : P.underlying t = some (.slice (P.elem t))) (hs : ∀ w, (sizeOf (P.elem t)).run P w = .ok 1 w) (hk : k < l) :
    (Instr.indexAt t (.slice (some ⟨g, off, none⟩) l c) (.int .i64 (k : Int))).run P w = .ok (.pointer (some ⟨g, off + k, none⟩)) w := by
  have := run_idx (w := w) (g := g) (off := off) (l := l) (c := c) ht hs hk
  rwa [Nat.mul_one] at this
/-- append to the first row -/
theorem sl_append {ad : Option Addr} {m c k size bytes : Nat} {zv : Value} {xs news : List Value} (hF : ∀ f, F.fn f) (hg : Region.wanted o (yielded ops a.tmps) = true) (ho : o.op = .call { callee := .builtin .append, args := #[x, y], argTypes := #[t, t] }) (hx : a.eval x = v) (hy : a.eval y = .slice ad m c) (E : Elem P t e zv size bytes)
    (hv : Inv B (Res.row e size v k xs :: H) w) (hok : SliceOk ad m c) (hl : news.length = m * size) (hsrc : Src w ad news) (h1 : ∀ u ∈ news, u.oneCell' = true) (h63 : k + m ≤ maxLen) (hbytes : (k + m) * bytes ≤ 140737488355328)
    (h : ∀ v' w', Inv B (Res.row e size v' (k + m) (xs ++ news) :: H) w' → wpListIn F n P ops Q rest (a.put o.dst v') w') : wpListIn F n P ops Q (o :: rest) a w := by
  obtain ⟨v', w', hr, h2, h3, h4⟩ := run_append_src2 (ty := o.type) E hv.head hok hl hsrc h1 h63 hbytes
  have hex : Ex P a o w v' w' := by
    unfold Ex; simp [execOp, ho, resolve, invoke, builtin, hx, hy, hr]
  refine wpi_exG hF hg (by unfold isDefer; rw [ho]) hex (h v' w' (hv.upd _ ((Only.refl _ _).grown h3 (fun k hk => .inl (by simp [hk]))) h2 (fun b hb => ?_) (fun b hb => ?_) ?_))
  · simp only [Option.mem_toList] at hb
    rcases h4 with h4 | ⟨b', h4, h5⟩
    · left; simp only [Option.mem_toList]; rw [← h4]; exact hb
    · right; rw [h4] at hb; simp at hb; omega
  · simp only [Option.mem_toList] at hb
    exact (h2.lt b hb).2
  · show v'.ownBlock.toList.Nodup
    cases v'.ownBlock with
    | none => exact List.nodup_nil
    | some g => exact List.nodup_cons.2 ⟨by simp, List.nodup_nil⟩
end mem
end Go.Pm
/- A range over a function, over resources. -/
namespace Go.Pm
open Go.RowKit

def Res.Celled (r : Res) : Prop := ∀ W, r.holds W → ∀ b ∈ r.fp, ∃ c t z, W.heap[b]? = some (.cells c t z)
theorem celled_cell (b : Nat) (L : List Value) (t : TypeId) : (Res.cell b L t).Celled := by
  intro W h k hk
  simp at hk
  subst hk
  exact ⟨_, _, _, h⟩
theorem celled_row (e : TypeId) (size : Nat) (v : Value) (n : Nat) (xs : List Value) : (Res.row e size v n xs).Celled := by
  intro W h k hk
  rcases h.2 with ⟨rfl, _⟩ | ⟨g, cap, cur, rfl, _, hg, _⟩
  · simp [Value.ownBlock] at hk
  · simp [Value.ownBlock] at hk
    subst hk
    exact ⟨_, _, _, hg⟩
theorem celled_fact (p : Prop) : (Res.fact p).Celled := fun _ _ _ h => by simp at h
/-- the mark of a range over a function -/
@[reducible] def Res.defd (D : Nat) : Res := ⟨[D], fun w => w.heap[D]? = some (.deferred (some [])), fun _ _ h hb => (h D (by simp)).trans hb⟩
theorem Inv.join2 {B : Base} {H K : List Res} {w : World} (h : Inv B H w) (hk : ∀ r ∈ K, r.holds w) (hl : ∀ r ∈ K, ∀ b ∈ r.fp, b < w.heap.size) (hn : (K.flatMap (·.fp)).Nodup) (ho : ∀ r ∈ K, ∀ b ∈ r.fp, B.I b = none)
    (hd : ∀ b, b ∈ K.flatMap (·.fp) → b ∉ H.flatMap (·.fp)) : Inv B (K ++ H) w := by
  refine ⟨h.base, fun r hr => ?_, fun r hr => ?_, ?_, fun r hr => ?_⟩
  · rcases List.mem_append.1 hr with hr | hr
    · exact hk r hr
    · exact h.own r hr
  · rcases List.mem_append.1 hr with hr | hr
    · exact hl r hr
    · exact h.lt r hr
  · rw [List.flatMap_append, List.nodup_append]
    exact ⟨hn, h.dis, fun a ha b hb e => hd a ha (e ▸ hb)⟩
  · rcases List.mem_append.1 hr with hr | hr
    · exact ho r hr
    · exact h.out r hr
theorem Inv.right {B : Base} {K H : List Res} {w : World} (h : Inv B (K ++ H) w) : Inv B H w := h.sub (List.sublist_append_right _ _)
/-- a block that is no cells is none of celled resources' -/
theorem not_celled {B : Base} {H : List Res} {W : World} (h : Inv B H W) (hc : ∀ r ∈ H, r.Celled) {k : Nat} {o : Obj} (hk : W.heap[k]? = some o) (ho : o.isCells = false) : k ∉ H.flatMap (·.fp) := by
  intro hm
  obtain ⟨r, hr, hb⟩ := List.mem_flatMap.1 hm
  obtain ⟨c, t, z, e⟩ := hc r hr W (h.own r hr) k hb
  rw [e] at hk
  cases hk
  cases ho
/-- what a step of the iterator's own leaves -/
theorem Inv.grown {B : Base} {H : List Res} {W W' : World} {row : Option Nat} (h : Inv B H W) (hc : ∀ r ∈ H, r.Celled) (hg : W.grownBy W' row) (hr : ∀ r, row = some r → B.I r = none ∧ ∃ o : Obj, W.heap[r]? = some o ∧ o.isCells = false) : Inv B H W' := by
  have hb : ∀ k, k < W.heap.size → row ≠ some k → W'.heap[k]? = W.heap[k]? := fun k hk hne => hg.block k hk (fun e => hne e.symm)
  refine ⟨⟨fun b o e => ?_, Nat.le_trans h.base.lo hg.size, hg.os.trans h.base.os, hg.tape.trans h.base.tape, hg.output.trans h.base.output⟩, fun r hr' => ?_, fun r hr' b hb' => Nat.lt_of_lt_of_le (h.lt r hr' b hb') hg.size, h.dis, h.out⟩
  · refine (hb b (h.base.lt e) (fun e2 => ?_)).trans (h.base.blk b o e)
    rw [(hr b e2).1] at e; cases e
  · refine r.stab W W' (fun b hb' => hb b (h.lt r hr' b hb') (fun e => ?_)) (h.own r hr')
    obtain ⟨_, o, ho, hn⟩ := hr b e
    exact not_celled h hc ho hn (List.mem_flatMap.2 ⟨r, hr', hb'⟩)

theorem sl_range {α : Type} {n : Nat} {P : Program} {g : Operand} {ps : Array Tmp} {assign body : Code} {Q : Exit → Act → World → Prop} {a : Act} {w : World}
    (h1 : 1 ≤ n) {gf : Nat} {lb : Array Value} (hg : a.eval g = .func (.func gf) #[] lb) (eg : ∀ args w, (callFunc gf args).run P w = .ok (.enter gf args) w)
    {encs : α → Array Value} {Kp : World → World → Prop} {S Sp : List α → Prop} {N : Nat} (hseq : SeqStopsK Fence.wide (n - 1) P gf lb encs Kp S Sp N w)
    (hKt : ∀ {A B C : World}, Kp A B → Kp B C → Kp A C) (hps : ∀ x, (encs x).size = ps.size)
    {B : Base} (Hs : List α → List Res) (X : α → Nat → List Res) (fr : α → Nat → Act) (hcel : ∀ pre r, r ∈ Hs pre → r.Celled) (hcelX : ∀ x b r, r ∈ X x b → r.Celled) (hfp : (∀ x b, X x b = []) ∨ ∀ pre r, r ∈ Hs pre → ∀ b ∈ r.fp, b < w.heap.size)
    (hKp : ∀ (H : List Res) (W W' : World), Inv B H W → W.heap.size ≤ W'.heap.size → (∀ k, k < W.heap.size → k ∉ H.flatMap (·.fp) → W'.heap[k]? = W.heap[k]?) → Kp W W')
    (hKb : ∀ (W : World) (l : Nat) (o' : Obj), w.heap.size ≤ l → Kp W (W.putObj l o'))
    (hv : Inv B (Hs []) w)
    (hassign : ∀ (l : Nat) (pre : List α) (x : α) (W : World) (B' : Base), B.Le B' → Inv B' (Hs pre) W → assign.wpIn (Fence.wide.inRound l) (n - 1 - 1) P (fun e a' W' => e = .normal ∧ ∃ b, a' = fr x b ∧ Inv B' (X x b ++ Hs pre) W') { tmps := (ps.zip (encs x)).foldl (fun t (p, v) => t.setIfInBounds p v) a.tmps, defers := [] } W)
    (hbody : ∀ (l : Nat) (pre : List α) (x : α) (b : Nat) (W : World) (B' : Base), B.Le B' → Inv B' (X x b ++ Hs pre) W → pre.length < N → body.wpIn (Fence.wide.inRound l) (n - 1 - 1) P (fun e _ W' => e = .normal ∧ Inv B' (Hs (pre ++ [x])) W') (fr x b) W)
    (hdone : ∀ (D : Nat) (xs : List α) (W : World), S xs → Inv B (Res.defd D :: Hs xs) W → Q .normal { a with defers := { target := .collected D, args := #[] } :: a.defers } W) :
    (Code.rangeFunc g ps assign body).wpIn Fence.wide n P Q a w := by
  have hBout : ∀ k, w.heap.size ≤ k → B.I k = none := fun k hk => hv.base.fresh hk
  refine wpIn_rangeFunc_ownH rfl h1 hg trivial eg hseq hKt (fun W l o o' hl _ _ _ => hKb W l o' hl) (Below.refl _ _) hps
    (fun pre W => Inv B (Hs pre) W ∧ w.heap.size ≤ W.heap.size) (fun _ _ _ => False) ?_ (fun _ _ _ _ _ h _ _ => h) ⟨hv, Nat.le_refl _⟩
    (fun x a' W => ∃ b, a' = fr x b ∧ (∀ r ∈ X x b, r.holds W ∧ ∀ k ∈ r.fp, w.heap.size ≤ k ∧ k < W.heap.size) ∧ ((X x b).flatMap (·.fp)).Nodup) ?_ ?_ ?_ ?_ ?_
  · rintro pre W W' row ⟨h, hs⟩ hg hr
    exact ⟨h.grown (hcel pre) hg (fun r e => ⟨hBout r (hr r e).1, (hr r e).2⟩), Nat.le_trans hs hg.size⟩
  · rintro x a' _ W W' row ⟨b, h2, h3, h4⟩ hg hr
    refine ⟨b, h2, fun r hr' => ⟨r.stab W W' (fun k hk => hg.block k ((h3 r hr').2 k hk).2 (fun e => ?_)) (h3 r hr').1, fun k hk => ⟨((h3 r hr').2 k hk).1, Nat.lt_of_lt_of_le ((h3 r hr').2 k hk).2 hg.size⟩⟩, h4⟩
    obtain ⟨_, o, ho, hn⟩ := hr k e.symm
    obtain ⟨c, t, z, e2⟩ := hcelX x b r hr' W (h3 r hr').1 k hk
    rw [e2] at ho
    cases ho
    cases hn
  · rintro l pre x W K ⟨hI, hsz⟩ hK
    refine wpIn_mono (hassign l pre x W _ hI.snapLe hI.snap) ?_
    rintro e a' W' ⟨rfl, b, rfl, h⟩
    obtain ⟨hle, hsame⟩ := h.right.unsnap
    refine hK _ _ ⟨hle, fun k o _ hk ho => (hsame k (Array.getElem?_eq_some_iff.1 hk).1 (not_celled hI (hcel pre) hk ho)).trans hk⟩ (hKp _ _ _ hI hle hsame) ⟨h.right.weak hI.snapLe, Nat.le_trans hsz hle⟩ ⟨b, rfl, fun r hr => ⟨h.own r (List.mem_append.2 (.inl hr)), fun k hk => ⟨?_, h.lt r (List.mem_append.2 (.inl hr)) k hk⟩⟩, ?_⟩
    · have ho := h.out r (List.mem_append.2 (.inl hr)) k hk
      replace ho : (if k ∈ (Hs pre).flatMap (·.fp) then none else W.heap[k]?) = none := ho
      have hd := h.dis
      rw [List.flatMap_append, List.nodup_append] at hd
      rw [if_neg (fun hm => hd.2.2 k (List.mem_flatMap.2 ⟨r, hr, hk⟩) k hm rfl)] at ho
      have := Array.getElem?_eq_none_iff.1 ho
      omega
    · have hd := h.dis
      rw [List.flatMap_append, List.nodup_append] at hd
      exact hd.1
  · rintro l pre x a' W _ _ ⟨hI, hsz⟩ ⟨b, rfl, h3, h4⟩ hN
    have hj : Inv B (X x b ++ Hs pre) W := by
      refine hI.join2 (fun r hr => (h3 r hr).1) (fun r hr k hk => ((h3 r hr).2 k hk).2) h4 (fun r hr k hk => hBout k ((h3 r hr).2 k hk).1) (fun k hk hm => ?_)
      rcases hfp with he | hfp
      · rw [he] at hk; simp at hk
      · obtain ⟨r, hr, hk⟩ := List.mem_flatMap.1 hk
        obtain ⟨q, hq, hk2⟩ := List.mem_flatMap.1 hm
        have := ((h3 r hr).2 k hk).1
        have := hfp pre q hq k hk2
        omega
    have hcj : ∀ r ∈ X x b ++ Hs pre, r.Celled := fun r hr => by
      rcases List.mem_append.1 hr with hr | hr
      · exact hcelX x b r hr
      · exact hcel pre r hr
    refine wpIn_mono (hbody l pre x b W _ hj.snapLe hj.snap hN) ?_
    rintro e a' W' ⟨rfl, h⟩
    obtain ⟨hle, hsame⟩ := h.unsnap
    exact ⟨⟨hle, fun k o _ hk ho => (hsame k (Array.getElem?_eq_some_iff.1 hk).1 (not_celled hj hcj hk ho)).trans hk⟩, hKp _ _ _ hj hle hsame, h.weak hj.snapLe, Nat.le_trans hsz hle⟩
  · rintro D xs W hD hS ⟨hI, _⟩ hK
    refine hdone D xs W hS (hI.join2 (K := [Res.defd D]) (fun r hr => ?_) (fun r hr k hk => ?_) (by simp) (fun r hr k hk => ?_) (fun k hk => ?_))
    · simp at hr; subst hr; exact hK
    · simp at hr; subst hr; simp at hk; subst hk; exact (Array.getElem?_eq_some_iff.1 hK).1
    · simp at hr; subst hr; simp at hk; subst hk; exact hBout _ hD
    · simp at hk; subst hk; exact not_celled hI (hcel xs) hK rfl
  · rintro D c pre W _ _ h
    exact h.elim
theorem sl_end0 {n : Nat} {P : Program} {fn : Func} {R : Ending → World → Prop} {tmps : Array Value} {w : World} {v : Value} (hr : (results fn tmps).run P w = .ok v w) (hR : R (.returned v) w) : bodyPostM Fence.wide n P fn R .ret ⟨tmps, []⟩ w := ⟨v, hr, hR⟩
/-- the end of a function that ranged over a function once -/
theorem sl_end1 {n : Nat} {P : Program} {fn : Func} {R : Ending → World → Prop} {tmps : Array Value} {D : Nat} {B : Base} {H : List Res} {w : World} (hv : Inv B (Res.defd D :: H) w) (h : ∀ w', Inv B H w' → ∃ v, (results fn tmps).run P w' = .ok v w' ∧ R (.returned v) w') :
    bodyPostM Fence.wide n P fn R .ret ⟨tmps, [{ target := .collected D, args := #[] }]⟩ w := by
  have hd := hv.dis
  rw [List.flatMap_cons, List.nodup_append] at hd
  have hi : Inv B H (w.putObj D (.deferred none)) := by
    have ho : ∀ k, k ≠ D → (w.putObj D (.deferred none)).heap[k]? = w.heap[k]? := fun k hk => World.putObj_heap_other hk
    refine ⟨⟨fun b o e => ?_, by simpa using hv.base.lo, hv.base.os, hv.base.tape, hv.base.output⟩, fun r hr => r.stab w _ (fun b hb => ho b (fun e => ?_)) (hv.drop.own r hr), fun r hr b hb => by simpa using hv.drop.lt r hr b hb, hv.drop.dis, hv.drop.out⟩
    · refine (ho b (fun e2 => ?_)).trans (hv.base.blk b o e)
      subst e2
      rw [hv.out (Res.defd b) (by simp) b (by simp)] at e
      cases e
    · subst e
      exact hd.2.2 b (by simp) b (List.mem_flatMap.2 ⟨r, hr, hb⟩) rfl
  obtain ⟨v, h1, h2⟩ := h _ hi
  exact ⟨by simp, .inl ⟨_, _, rfl, run_takeDeferred hv.head, ⟨v, h1, h2⟩⟩⟩
end Go.Pm
/- A region that draws its order, its values told, over resources. -/
namespace Go.Pm
open Go.RowKit

def mixV (mem : List Nat) (vals : List Value) : Nat → List Value → List Value
  | i, v :: vs => (if mem.contains i then vals.getD (place mem i) undef else v) :: mixV mem vals (i + 1) vs
  | _, [] => []
theorem putAll_mix (mem : List Nat) (vals : List Value) : ∀ (os : List Oper) (VS vs : List Value) (i : Nat) (a : Act), VS.length = os.length → vs.length = os.length → Facts3 mem vals i (VS.map SP.eq) os vs → putAll os vs a = putAll os (mixV mem vals i VS) a
  | [], [], [], _, _, _, _, _ => rfl
  | o :: os, v :: VS, u :: vs, i, a, h1, h2, h3 => by
    obtain ⟨h4, h5⟩ := h3
    have e : a.put o.dst u = a.put o.dst (if mem.contains i then vals.getD (place mem i) undef else v) := by
      cases hd : o.dst with
      | none => rfl
      | some d =>
        have h6 := h4 (by rw [hd]; rfl)
        split at h6
        · rename_i hm; rw [if_pos hm, h6]
        · rename_i hm
          obtain ⟨w, hw⟩ := h6
          rw [if_neg hm, show u = v from hw]
    show putAll os vs (a.put o.dst u) = putAll os (mixV mem vals (i + 1) VS) (a.put o.dst _)
    rw [e]
    exact putAll_mix mem vals os VS vs (i + 1) _ (by simpa using h1) (by simpa using h2) h5
  | [], _ :: _, _, _, _, h, _, _ => by simp at h
  | _ :: _, [], _, _, _, h, _, _ => by simp at h
  | [], [], _ :: _, _, _, _, h, _ => by simp at h
  | _ :: _, _ :: _, [], _, _, _, h, _ => by simp at h
section
variable {n : Nat} {P : Program} {ops : Array Oper} {Q : Exit → Act → World → Prop} {a0 : Act} {w0 : World}
theorem add_step' {c : Bool} {p q : Prop} (hc : c = false) (h : q) : if c = true then p else q := by subst hc; exact h
theorem mem_step' {c : Bool} {p q : Prop} (hc : c = true) (h : p) : if c = true then p else q := by subst hc; exact h
theorem region_detR {l id : Nat} (hm : P.follows .mixedOrders = true) (hno : ¬ LetsOut Q) (VS : List Value) (mem : List Nat) (J : List Value → World → Prop) (k : Nat) (hsize : a0.tmps.size = k)
    (hck : (backward ops && onceDst ops && fitsDst ops k && decide mem.Nodup && chained ops mem && mem.all (· < ops.size) && decide (VS.length = ops.size)) = true) (hd : ops.all (fun o => !isDefer o) = true)
    (h0 : J [] w0) (hJ : ∀ vals w w', J vals w → Ext w w' → J vals w')
    (hop : AllOps (fun i o => ∀ a w vals, J vals w → Ready3 ops (VS.map SP.eq) mem a0 a w vals i → if mem.contains i then (vals.length = place mem i → StepMem P ops J Q o a w vals) else StepAdds P ops (VS.map SP.eq) Q i o a w) 0 ops.toList)
    (hfin : ∀ w vals, vals.length = mem.length → J vals w → Q .normal (putAll ops.toList (mixV mem vals 0 VS) a0) w) : (Code.region id ops true).wpIn (Fence.wide.inRound l) n P Q a0 w0 := by
  have hck2 := hck
  rw [Bool.and_eq_true] at hck2
  refine wpIn_region_chain hm hno (VS.map SP.eq) mem J k hsize hck2.1 hd h0 hJ hop (fun vs w vals h1 h2 h3 h4 => ?_)
  rw [putAll_mix mem vals ops.toList VS vs 0 a0 (by simpa using of_decide_eq_true hck2.2) (by simpa using h1) h4]
  exact hfin w vals h2 h3
theorem region_det {id : Nat} (hm : P.follows .mixedOrders = true) (VS : List Value) (mem : List Nat) (J : List Value → World → Prop) (k : Nat) (hsize : a0.tmps.size = k)
    (hck : (backward ops && onceDst ops && fitsDst ops k && decide mem.Nodup && chained ops mem && mem.all (· < ops.size) && decide (VS.length = ops.size)) = true)
    (h0 : J [] w0) (hJ : ∀ vals w w', J vals w → Ext w w' → J vals w')
    (hop : AllOps (fun i o => ∀ a w vals, J vals w → Ready3 ops (VS.map SP.eq) mem a0 a w vals i → if mem.contains i then (vals.length = place mem i → StepMem P ops J Q o a w vals) else StepAdds P ops (VS.map SP.eq) Q i o a w) 0 ops.toList)
    (hfin : ∀ w vals, vals.length = mem.length → J vals w → Q .normal (putAll ops.toList (mixV mem vals 0 VS) a0) w) : (Code.region id ops true).wpIn Fence.wide n P Q a0 w0 := by
  have hck2 := hck
  rw [Bool.and_eq_true] at hck2
  refine wpIn_wide.2 (wp_region_chain hm (VS.map SP.eq) mem J k hsize hck2.1 h0 hJ hop (fun vs w vals h1 h2 h3 h4 => ?_))
  rw [putAll_mix mem vals ops.toList VS vs 0 a0 (by simpa using of_decide_eq_true hck2.2) (by simpa using h1) h4]
  exact hfin w vals h2 h3
end
theorem Ready3.v {ops : Array Oper} {VS : List Value} {mem : List Nat} {a0 a : Act} {w : World} {vals : List Value} {i : Nat} (hR : Ready3 ops (VS.map SP.eq) mem a0 a w vals i) (j d : Nat) (h1 : ahead ops j i = true) (h2 : (ops[j]?).bind (·.dst) = some d) (h3 : mem.contains j = false) {v : Value} (hv : VS[j]? = some v) : a.tmps.getD d undef = v := by
  obtain ⟨w', h⟩ := hR.old j d h1 h2 h3
  unfold nth at h
  rw [List.getD_eq_getElem?_getD, List.getElem?_map, hv] at h
  exact h
/-- the resources, stage by stage -/
def JI (B : Base) (Hs : List (List Res)) (VM : List Value) (vals : List Value) (w : World) : Prop := Inv B (Hs.getD vals.length []) w ∧ vals = VM.take vals.length
theorem JI.ext {B : Base} {Hs : List (List Res)} {VM : List Value} : ∀ vals w w', JI B Hs VM vals w → Ext w w' → JI B Hs VM vals w' := fun _ _ _ h he => ⟨Pm.Inv.ext h.1 he, h.2⟩
theorem JI.at0 {B : Base} {Hs : List (List Res)} {VM : List Value} {vals : List Value} {w : World} (h : JI B Hs VM vals w) {k : Nat} (hk : vals.length = k) : Inv B (Hs.getD k []) w := by subst hk; exact h.1
theorem JI.next {B : Base} {Hs : List (List Res)} {VM : List Value} {vals : List Value} {v : Value} {w w1 : World} {k : Nat} (h0 : JI B Hs VM vals w1) (hk : vals.length = k) (hv : VM[k]? = some v) (h : Inv B (Hs.getD (k + 1) []) w) : JI B Hs VM (vals ++ [v]) w := by
  subst hk
  refine ⟨?_, ?_⟩
  · show Inv B (Hs.getD (vals ++ [v]).length []) w
    rw [List.length_append]
    exact h
  · rw [List.length_append, List.length_singleton, List.take_add_one, ← h0.2, hv]
    rfl
theorem Ready3.mv {ops : Array Oper} {VS VM : List Value} {mem : List Nat} {a0 a : Act} {w : World} {vals : List Value} {i : Nat} {B : Base} {Hs : List (List Res)} (hR : Ready3 ops (VS.map SP.eq) mem a0 a w vals i) (hJ : JI B Hs VM vals w) (j d : Nat) (h1 : ahead ops j i = true) (h2 : (ops[j]?).bind (·.dst) = some d) (h3 : mem.contains j = true) {v : Value} (hv : VM[place mem j]? = some v) : a.tmps.getD d undef = v := by
  rw [hR.val j d h1 h2 h3]
  have hm : j ∈ mem := by simpa using h3
  have hl := hR.lo j hm h1
  have e : vals[place mem j]? = VM[place mem j]? := by
    conv => lhs; rw [hJ.2]
    rw [List.getElem?_take_of_lt hl]
  rw [List.getD_eq_getElem?_getD, e, hv]
  rfl
theorem mixV_self (mem : List Nat) (VS : List Value) : ∀ (i : Nat) (l : List Value), (∀ j v, l[j]? = some v → VS[i + j]? = some v) → mixV mem (mem.map (fun k => VS.getD k undef)) i l = l
  | _, [], _ => rfl
  | i, v :: l, h => by
    have h0 := h 0 v (by simp)
    show (if mem.contains i then _ else v) :: mixV mem _ (i + 1) l = v :: l
    rw [mixV_self mem VS (i + 1) l (fun j u hu => by have := h (j + 1) u (by simpa using hu); rwa [show i + (j + 1) = i + 1 + j by omega] at this)]
    congr 1
    split
    · rename_i hc
      have hm : i ∈ mem := by simpa using hc
      have hl : place mem i < mem.length := place_lt hm
      rw [List.getD_eq_getElem?_getD, List.getElem?_map, List.getElem?_eq_getElem hl]
      have : mem[place mem i] = i := List.getElem_idxOf hl
      simp only [Option.map_some, Option.getD_some, this]
      rw [List.getD_eq_getElem?_getD, show VS[i]? = some v by simpa using h0]
      rfl
    · rfl
section
variable {n : Nat} {P : Program} {ops : Array Oper} {Q : Exit → Act → World → Prop} {a0 : Act} {w0 : World}
theorem region_detVR {l id : Nat} (hm : P.follows .mixedOrders = true) (hno : ¬ LetsOut Q) (VS : List Value) (mem : List Nat) (B : Base) (Hs : List (List Res)) (k : Nat) (hsize : a0.tmps.size = k)
    (hck : (backward ops && onceDst ops && fitsDst ops k && decide mem.Nodup && chained ops mem && mem.all (· < ops.size) && decide (VS.length = ops.size)) = true) (hd : ops.all (fun o => !isDefer o) = true)
    (h0 : Inv B (Hs.getD 0 []) w0)
    (hop : AllOps (fun i o => ∀ a w vals, JI B Hs (mem.map (fun k => VS.getD k undef)) vals w → Ready3 ops (VS.map SP.eq) mem a0 a w vals i → if mem.contains i then (vals.length = place mem i → StepMem P ops (JI B Hs (mem.map (fun k => VS.getD k undef))) Q o a w vals) else StepAdds P ops (VS.map SP.eq) Q i o a w) 0 ops.toList)
    (hfin : ∀ w, Inv B (Hs.getD mem.length []) w → Q .normal (putAll ops.toList VS a0) w) : (Code.region id ops true).wpIn (Fence.wide.inRound l) n P Q a0 w0 := by
  refine region_detR hm hno VS mem _ k hsize hck hd ⟨h0, by simp⟩ JI.ext hop (fun w vals hvl hJ => ?_)
  have hv : vals = mem.map (fun k => VS.getD k undef) := by rw [hJ.2, hvl]; exact List.take_of_length_le (by simp)
  have := hfin w (hJ.at0 hvl)
  rw [hv, mixV_self mem VS 0 VS (fun j v h => by simpa using h)]
  exact this
theorem region_detV {id : Nat} (hm : P.follows .mixedOrders = true) (VS : List Value) (mem : List Nat) (B : Base) (Hs : List (List Res)) (k : Nat) (hsize : a0.tmps.size = k)
    (hck : (backward ops && onceDst ops && fitsDst ops k && decide mem.Nodup && chained ops mem && mem.all (· < ops.size) && decide (VS.length = ops.size)) = true)
    (h0 : Inv B (Hs.getD 0 []) w0)
    (hop : AllOps (fun i o => ∀ a w vals, JI B Hs (mem.map (fun k => VS.getD k undef)) vals w → Ready3 ops (VS.map SP.eq) mem a0 a w vals i → if mem.contains i then (vals.length = place mem i → StepMem P ops (JI B Hs (mem.map (fun k => VS.getD k undef))) Q o a w vals) else StepAdds P ops (VS.map SP.eq) Q i o a w) 0 ops.toList)
    (hfin : ∀ w, Inv B (Hs.getD mem.length []) w → Q .normal (putAll ops.toList VS a0) w) : (Code.region id ops true).wpIn Fence.wide n P Q a0 w0 := by
  refine region_det hm VS mem _ k hsize hck ⟨h0, by simp⟩ JI.ext hop (fun w vals hvl hJ => ?_)
  have hv : vals = mem.map (fun k => VS.getD k undef) := by rw [hJ.2, hvl]; exact List.take_of_length_le (by simp)
  have := hfin w (hJ.at0 hvl)
  rw [hv, mixV_self mem VS 0 VS (fun j v h => by simpa using h)]
  exact this
end
end Go.Pm
/- Slices: pieces, appending within the room, copying. -/
namespace Go.Pm
open Go.RowKit
section
variable {P : Program} {a : Act} {w w' : World} {o : Oper} {v : Value} {x y z : Operand} {t u e : TypeId} {p q r : Value}
theorem addr_add (g off k : Nat) : (⟨g, off, none⟩ : Addr).add k = ⟨g, off + k, none⟩ := by unfold Addr.add; split <;> simp_all
/-- s[l:] -/
theorem run_from {g off n c l size : Nat} (ht : P.underlying t = some (.slice (P.elem t))) (hs : ∀ w, (sizeOf (P.elem t)).run P w = .ok size w) (h1 : l ≤ n) (h2 : l < c) :
    (Instr.sliceAt t (.slice (some ⟨g, off, none⟩) n c) (some (.int .i64 (l : Int))) none none).run P w = .ok (.slice (some ⟨g, off + l * size, none⟩) (n - l) (c - l)) w := by
  rw [run_sliceAt_slice w t _ _ _ _ ht, run_slice_l w t _ n c ht .i64 l (by omega) (by omega), hs]
  simp only [Result.andThen, sliced, Int.toNat_natCast, Option.map_some, addr_add, show ¬ c = l by omega, if_false]
theorem run_from1 {g off n c l : Nat} (ht : P.underlying t = some (.slice (P.elem t))) (hs : ∀ w, (sizeOf (P.elem t)).run P w = .ok 1 w) (h1 : l ≤ n) (h2 : l < c) :
    (Instr.sliceAt t (.slice (some ⟨g, off, none⟩) n c) (some (.int .i64 (l : Int))) none none).run P w = .ok (.slice (some ⟨g, off + l, none⟩) (n - l) (c - l)) w := by
  have := run_from (w := w) (g := g) (off := off) ht hs h1 h2
  rwa [Nat.mul_one] at this
/-- append to bytes, there being room -/
theorem ex_appendRoom {g l c m c2 : Nat} {ad : Addr} {pre mid post news : List Value} {zv : Value} {bytes : Nat} (E : Elem P t e zv 1 bytes) (ho : o.op = .call { callee := .builtin .append, args := #[x, y], argTypes := #[t, t] }) (hx : a.eval x = .slice (some ⟨g, 0, none⟩) l c) (hy : a.eval y = .slice (some ad) m c2)
    (hb : Blk w g (pre ++ mid ++ post) e) (hpre : pre.length = l) (hmid : mid.length = m) (hl : news.length = m) (hroom : l + m ≤ c) (hsrc : Src w (some ad) news) (h1 : ∀ u ∈ news, u.oneCell' = true) : Ex P a o w (.slice (some ⟨g, 0, none⟩) (l + m) c) (setBlk w g (pre ++ news ++ post)) := by
  obtain ⟨ht, ⟨i, hi, hz, hs, hby⟩, hzs, hpos⟩ := E
  have hnews : ∀ j u, news[j]? = some u → w.cell? (ad.add j) = some u := by
    intro j u hu
    obtain ⟨hj, rfl⟩ := List.getElem?_eq_some_iff.1 hu
    obtain ⟨b, off, ha, hc⟩ := hsrc j hj
    simp only [Option.some.injEq] at ha
    subst ha
    rw [addr_add]; exact hc
  have hr := run_append_room (P := P) w t o.type e i ht hi g l c (pre ++ mid ++ post).toArray hb ad m c2 news (by rw [hs]; omega) hnews h1 hroom (by rw [hs]; simp; omega)
  have e1 : ((pre ++ mid ++ post).toArray.toList.take (l * i.size)) ++ news ++ ((pre ++ mid ++ post).toArray.toList.drop (l * i.size + news.length)) = pre ++ news ++ post := by
    rw [hs, Nat.mul_one, hl, ← hmid, ← hpre, List.append_assoc pre mid post]
    simp
  unfold Ex
  simp only [execOp, ho, resolve, invoke, builtin, List.map_toArray, List.map_cons, List.map_nil, hx, hy, Sem.run_bind, Sem.run_pure, Result.andThen_ok, hr]
  simp only [setBlk]
  rw [← e1]
/-- the cells of a piece of a block -/
theorem src_mid {b off : Nat} {pre mid post : List Value} (hb : Blk w b (pre ++ mid ++ post) t) (ho : pre.length = off) : Src w (some ⟨b, off, none⟩) mid := by
  intro i hi
  refine ⟨b, off, rfl, ?_⟩
  rw [hb.cell, ← ho, mid_get pre mid post i hi]
end
/-- the one at place k turned -/
theorem Inv.updAt {B : Base} {H : List Res} {w w' : World} (h : Inv B H w) (k : Nat) {r : Res} (hk : H[k]? = some r) (r' : Res) (ho : Only r.fp w w') (hr : r'.holds w') (hf : ∀ b ∈ r'.fp, b ∈ r.fp ∨ w.heap.size ≤ b) (hl : ∀ b ∈ r'.fp, b < w'.heap.size) (hn : r'.fp.Nodup) : Inv B (H.set k r') w' :=
  ((h.front k hk).upd r' ho hr hf hl hn).perm (perm_set k H _ _ hk)
end Go.Pm
/- Regions that draw their order and add to memory at the most; reading; strings of bytes. -/
namespace Go.Pm
open Go.RowKit

def AllSP (w : World) : List SP → List Value → Prop
  | [], l => l = []
  | R :: Rs, l => ∃ v vs, l = v :: vs ∧ R.p w v ∧ AllSP w Rs vs
theorem AllSP.nil {w : World} : AllSP w [] [] := rfl
theorem AllSP.cons {w : World} {R : SP} {Rs : List SP} {v : Value} {vs : List Value} (h : R.p w v) (t : AllSP w Rs vs) : AllSP w (R :: Rs) (v :: vs) := ⟨v, vs, rfl, h, t⟩
/-- a slice over the whole of a new block -/
def SP.slc (L : List Value) (n : Nat) (t : TypeId) : SP := ⟨fun w v => ∃ b, v = .slice (some ⟨b, 0, none⟩) n n ∧ Blk w b L t, fun _ _ _ he ⟨b, h1, h2⟩ => ⟨b, h1, h2.ext he⟩⟩
theorem no_none {ops : Array Oper} (h : ops.all (fun o => o.dst.isSome) = true) (i : Nat) (o : Oper) (ho : ops[i]? = some o ∧ o.dst = none) : False := by
  obtain ⟨h1, h2⟩ := ho
  obtain ⟨hi, rfl⟩ := Array.getElem?_eq_some_iff.1 h1
  have := Array.all_eq_true.1 h i hi
  rw [h2] at this
  cases this
theorem AllOps.mono {p q : Nat → Oper → Prop} : ∀ {l : List Oper} {k : Nat}, AllOps p k l → (∀ i o, p i o → q i o) → AllOps q k l
  | [], _, _, _ => trivial
  | _ :: _, _, h, f => ⟨f _ _ h.1, AllOps.mono h.2 f⟩
section
variable {P : Program} {ops : Array Oper} {Q : Exit → Act → World → Prop} {a0 : Act} {w0 : World}
theorem region_mono {n id : Nat} (hm : P.follows .mixedOrders = true) (A : List SP) (k : Nat) (hsize : a0.tmps.size = k) (hck : (backward ops && onceDst ops && fitsDst ops k && decide (A.length = ops.size)) = true) {B : Base} {H : List Res} (hv : Inv B H w0)
    (hop : AllOps (fun i o => ∀ a w, Inv B H w → Ready ops A a0 a w i o → StepOk P ops A Q i o a w) 0 ops.toList) (hi : ∀ (i : Nat) (o : Oper) w, (ops[i]? = some o ∧ o.dst = none) → ∃ v, nth A i w v)
    (hfin : ∀ vs w, AllSP w A vs → Inv B H w → Q .normal (putAll ops.toList vs a0) w) : (Code.region id ops true).wpIn Fence.wide n P Q a0 w0 := by
  have hck2 := hck
  rw [Bool.and_eq_true] at hck2
  have hlen := of_decide_eq_true hck2.2
  refine wpIn_wide.2 (wp_region_mono hm A k hsize hck (AllOps.mono hop ?_) ?_)
  · intro i o h a w he hR
    exact h a w (hv.ext he) hR
  · intro vs w h1 he hF
    have key : ∀ (A : List SP) (os : List Oper) (vs : List Value) (a : Act), A.length = os.length → vs.length = os.length → (∀ (i : Nat) (o : Oper), os[i]? = some o → o.dst = none → ∃ v, nth A i w v) → Facts w A os vs → ∃ us, AllSP w A us ∧ putAll os vs a = putAll os us a := by
      intro A
      induction A with
      | nil =>
        intro os vs a h1 h2 _ _
        cases os with
        | nil =>
          cases vs with
          | nil => exact ⟨[], .nil, rfl⟩
          | cons _ _ => simp at h2
        | cons _ _ => simp at h1
      | cons R A ih =>
        intro os vs a h1 h2 h3 h4
        cases os with
        | nil => simp at h1
        | cons o os =>
          cases vs with
          | nil => simp at h2
          | cons v vs =>
            obtain ⟨h5, h6⟩ := h4
            obtain ⟨us, h7, h8⟩ := ih os vs (a.put o.dst v) (by simpa using h1) (by simpa using h2) (fun i o' ho hd => by simpa [nth] using h3 (i + 1) o' (by simpa using ho) hd) h6
            cases hd : o.dst with
            | none =>
              obtain ⟨u, hu⟩ := h3 0 o (by simp) hd
              refine ⟨u :: us, .cons (by simpa [nth] using hu) h7, ?_⟩
              show putAll os vs (a.put o.dst v) = putAll os us (a.put o.dst u)
              rw [h8, hd]
              rfl
            | some d => exact ⟨v :: us, .cons (h5 (by rw [hd]; rfl)) h7, h8⟩
    obtain ⟨us, h2, h3⟩ := key A ops.toList vs a0 (by simpa using hlen) (by simpa using h1) (fun i o ho hd => hi i o w ⟨by simpa using ho, hd⟩) hF
    rw [h3]
    exact hfin us w h2 (hv.ext he)
end
section
variable {P : Program} {ops : Array Oper} {Q : Exit → Act → World → Prop} {A : List SP} {i : Nat} {o : Oper} {a : Act} {w : World} {t e : TypeId} {x y : Operand}
/-- make, in such a region -/
theorem mono_make {n bytes : Nat} {z : Value} (hg : Region.wanted o (yielded ops a.tmps) = true) (ho : o.op = .makeSlice t x y) (hx : a.eval x = .int .i64 (n : Int)) (hy : a.eval y = .int .i64 (n : Int)) (ht : P.underlying t = some (.slice e)) (hi : (P.info? e).map (fun i => (i.zero, i.size, i.bytes)) = some (some z, 1, bytes)) (hz1 : z.cells = #[z])
    (hcm : n ≤ maxLen) (hby : n * bytes ≤ 140737488355328) (hA : nth A i = (SP.slc (List.replicate n z) n e).p) : StepOk P ops A Q i o a w := by
  obtain ⟨i0, hi, hh⟩ := Option.map_eq_some_iff.1 hi
  simp only [Prod.mk.injEq] at hh
  unfold maxLen at hcm
  have hr := run_make (P := P) w t e i0 z ht hi hh.1 .i64 .i64 n n (by omega) (by omega) (by rw [hh.2.2, Int.mul_comm, ← Int.natCast_mul]; omega) (by omega)
  have hc : madeCells z.cells ((n : Int).toNat * i0.size) = (List.replicate n z).toArray := by
    apply Array.ext'
    rw [hh.2.1, Int.toNat_natCast, Nat.mul_one, madeCells_one hz1]
  rw [hc, Int.toNat_natCast] at hr
  refine stepOk_of (v := .slice (some ⟨w.heap.size, 0, none⟩) n n) (w' := w.alloc (.cells (List.replicate n z).toArray e)) hg (by simp [execOp, ho, hx, hy, hr]) ((Below.refl _ _).alloc (Nat.le_refl _) _) ?_
  rw [hA]
  exact ⟨w.heap.size, rfl, blk_new _ _ _⟩
end
/-- what can be read from an address, under what is fixed and one's own -/
def RdV (B : Base) (H : List Res) (a : Option Addr) (xs : List Value) : Prop :=
  ∀ i (h : i < xs.length), ∃ b off, a = some ⟨b, off, none⟩ ∧ ((∃ arr t z, B.I b = some (.cells arr t z) ∧ arr[off + i]? = some xs[i]) ∨ ∃ L t, Res.cell b L t ∈ H ∧ L[off + i]? = some xs[i])
section
variable {B C : Base} {H K : List Res} {a : Option Addr} {xs : List Value} {w : World}
theorem RdV.cellAt (hr : RdV B H a xs) (hv : Inv B H w) (i : Nat) (h : i < xs.length) : ∃ b off, a = some ⟨b, off, none⟩ ∧ w.cell? ⟨b, off + i, none⟩ = some xs[i] := by
  obtain ⟨b, off, h1, h2⟩ := hr i h
  refine ⟨b, off, h1, ?_⟩
  rcases h2 with ⟨arr, t, z, h3, h4⟩ | ⟨L, t, h3, h4⟩
  · rw [cell_of_row w b (off + i) arr t z (hv.base.blk b _ h3)]
    exact h4
  · rw [Blk.cell (hv.own _ h3 : Blk w b L t)]
    exact h4
theorem RdV.src (hr : RdV B H a xs) (hv : Inv B H w) : Src w a xs := fun i h => hr.cellAt hv i h
theorem RdV.more (hr : RdV B H a xs) (hB : B.Le C) (hH : ∀ r ∈ H, r ∈ K) : RdV C K a xs := by
  intro i h
  obtain ⟨b, off, h1, h2⟩ := hr i h
  refine ⟨b, off, h1, ?_⟩
  rcases h2 with ⟨arr, t, z, h3, h4⟩ | ⟨L, t, h3, h4⟩
  · exact .inl ⟨arr, t, z, hB.blk _ _ h3, h4⟩
  · exact .inr ⟨L, t, hH _ h3, h4⟩
theorem RdV.cons (hr : RdV B H a xs) (r : Res) : RdV B (r :: H) a xs := hr.more (Base.Le.refl B) (fun _ h => List.mem_cons_of_mem _ h)
theorem rdV_nil : RdV B H a [] := fun i h => by simp at h
theorem rdV_cell {b : Nat} {L : List Value} {t : TypeId} (off : Nat) (h : Res.cell b L t ∈ H) (hx : ∀ i (hi : i < xs.length), L[off + i]? = some xs[i]) : RdV B H (some ⟨b, off, none⟩) xs :=
  fun i hi => ⟨b, off, rfl, .inr ⟨L, t, h, hx i hi⟩⟩
theorem RdV.bytes {r : Res} {l : List UInt8} (hr : RdV B H a (l.map B8)) (hv : Inv B (r :: H) w) : Bytes w (fun b => b < w.heap.size ∧ b ∉ r.fp) a l := by
  have hd := hv.dis
  rw [List.flatMap_cons, List.nodup_append] at hd
  intro i h
  obtain ⟨b, off, h1, h2⟩ := hr i (by simpa using h)
  refine ⟨b, off, h1, ?_⟩
  rcases h2 with ⟨arr, t, z, h3, h4⟩ | ⟨L, t, h3, h4⟩
  · refine ⟨⟨hv.base.lt h3, fun hm => ?_⟩, ?_⟩
    · rw [hv.out r (by simp) b hm] at h3; cases h3
    · rw [cell_of_row w b (off + i) arr t z (hv.base.blk b _ h3)]
      simpa using h4
  · refine ⟨⟨hv.drop.lt _ h3 b (by simp), fun hm => hd.2.2 b hm b (List.mem_flatMap.2 ⟨_, h3, by simp⟩) rfl⟩, ?_⟩
    rw [Blk.cell (hv.drop.own _ h3 : Blk w b L t)]
    simpa using h4
/-- what a law's argument reads as, is read from its world for good -/
theorem rdV_of (W : World) (h : Src W a xs) : RdV (Base.of W) H a xs := by
  intro i hi
  obtain ⟨b, off, h1, h2⟩ := h i hi
  refine ⟨b, off, h1, .inl ?_⟩
  unfold World.cell? at h2
  split at h2
  · rename_i c e z hb
    simp at h2
    exact ⟨c, e, z, hb, h2⟩
  · cases h2
end
/-- a contract over resources says what it adds alone -/
theorem ext_of {W w : World} {H : List Res} (h : Inv (Base.of W) H w) : Ext W w := Inv.below (Base.Le.refl _) h
section
variable {P : Program} {a : Act} {w : World} {o : Oper} {x y : Operand} {t u e : TypeId}
/-- string(b) -/
theorem ex_str {ad : Option Addr} {n c : Nat} {l : List UInt8} {S : Nat → Prop} (hs : P.underlying t = some (.slice e)) (he : P.underlying e = some (.int .u8)) (hd : P.underlying u = some .string) (ho : o.op = .convert t u x) (hx : a.eval x = .slice ad n c) (hb : Bytes w S ad l) (hn : l.length = n) : Ex P a o w (.string ⟨l.toArray⟩) w := by
  unfold Ex
  simp [execOp, ho, hx, run_str_of_bytes (P := P) (w := w) (S := S) (c := c) hs he hd hb hn]
theorem bytes_blk {b off : Nat} {L : List Value} {l : List UInt8} (h : Blk w b L t) (hl : ∀ i (hi : i < l.length), L[off + i]? = some (B8 l[i])) : Bytes w (fun _ => True) (some ⟨b, off, none⟩) l :=
  fun i hi => ⟨b, off, rfl, trivial, by rw [h.cell]; exact hl i hi⟩
theorem bytes_all {b : Nat} {l : List UInt8} (h : Blk w b (l.map B8) t) : Bytes w (fun _ => True) (some ⟨b, 0, none⟩) l :=
  fun i hi => ⟨b, 0, rfl, trivial, by rw [h.cell]; simp [hi]⟩
theorem bytes_rep {b m : Nat} {c : UInt8} (h : Blk w b (List.replicate m (B8 c)) t) : Bytes w (fun _ => True) (some ⟨b, 0, none⟩) (List.replicate m c) :=
  bytes_all (t := t) (by rw [List.map_replicate]; exact h)
/-- s + s' -/
theorem ex_cat {s s' : List UInt8} (ho : o.op = .binOp .add t x y u) (hx : a.eval x = .string ⟨s.toArray⟩) (hy : a.eval y = .string ⟨s'.toArray⟩) (hl : s.length + s'.length ≤ 9223372036854775807) : Ex P a o w (.string ⟨(s ++ s').toArray⟩) w := by
  have h1 : (ByteArray.mk s.toArray).size = s.length := rfl
  have h2 : (ByteArray.mk s'.toArray).size = s'.length := rfl
  have h3 : (ByteArray.mk s.toArray) ++ (ByteArray.mk s'.toArray) = ⟨(s ++ s').toArray⟩ := by
    apply ByteArray.ext
    simp
  have h4 : ¬ (IntKind.i64.max < ((s.length + s'.length : Nat) : Int)) := by
    have : IntKind.i64.max = 9223372036854775807 := by decide
    omega
  unfold Ex
  simp only [execOp, ho, hx, hy, eqGuard, binOp, Op.stringOp, h1, h2, h3]
  simp
  omega
end
end Go.Pm
/- More operations: arrays, pieces. -/
namespace Go.Pm
open Go.RowKit
section
variable {P : Program} {w : World} {t e : TypeId}
theorem run_idxA {b off k n size : Nat} (ht : P.underlying t = some (.array n e)) (hs : ∀ w, (sizeOf e).run P w = .ok size w) (hk : k < n) :
    (Instr.indexAt t (.pointer (some ⟨b, off, none⟩)) (.int .i64 (k : Int))).run P w = .ok (.pointer (some ⟨b, off + k * size, none⟩)) w := by
  simp [Instr.indexAt, run_underlying ht, Instr.sureAddr, asIntOf, hs, hk, addr_add]
theorem run_idxA1 {b off k n : Nat} (ht : P.underlying t = some (.array n e)) (hs : ∀ w, (sizeOf e).run P w = .ok 1 w) (hk : k < n) :
    (Instr.indexAt t (.pointer (some ⟨b, off, none⟩)) (.int .i64 (k : Int))).run P w = .ok (.pointer (some ⟨b, off + k, none⟩)) w := by
  have := run_idxA (w := w) (b := b) (off := off) ht hs hk
  rwa [Nat.mul_one] at this
/-- s[l:h] -/
theorem run_lohi1 {g off n c l h : Nat} (ht : P.underlying t = some (.slice (P.elem t))) (hs : ∀ w, (sizeOf (P.elem t)).run P w = .ok 1 w) (h1 : l ≤ h) (h2 : h ≤ c) (h3 : l < c) :
    (Instr.sliceAt t (.slice (some ⟨g, off, none⟩) n c) (some (.int .i64 (l : Int))) (some (.int .i64 (h : Int))) none).run P w = .ok (.slice (some ⟨g, off + l, none⟩) (h - l) (c - l)) w := by
  rw [run_sliceAt_slice w t _ _ _ _ ht, run_slice_lh w t _ n c ht .i64 .i64 l h (by omega) (by omega) (by omega), hs]
  simp only [Result.andThen, sliced, Int.toNat_natCast, Option.map_some, addr_add, show ¬ c = l by omega, if_false, Nat.mul_one]
end
end Go.Pm
/- A region that draws its order: stages of memory with names that come up on the way. -/
namespace Go.Pm
open Go.RowKit

/-- a stage: what is known of the values so far, and of memory -/
structure Stg where
  p : List Value → World → Prop
  st : ∀ vals w w', p vals w → Ext w w' → p vals w'
def Stg.no : Stg := ⟨fun _ _ => False, fun _ _ _ h _ => h⟩
def JS (Ks : List Stg) (vals : List Value) (w : World) : Prop := (Ks.getD vals.length Stg.no).p vals w
theorem JS.ext {Ks : List Stg} : ∀ vals w w', JS Ks vals w → Ext w w' → JS Ks vals w' := fun vals w w' h he => (Ks.getD vals.length Stg.no).st vals w w' h he
theorem JS.at0 {Ks : List Stg} {vals : List Value} {w : World} (h : JS Ks vals w) {k : Nat} (hk : vals.length = k) : (Ks.getD k Stg.no).p vals w := by subst hk; exact h
theorem JS.le {Ks : List Stg} {vals : List Value} {w : World} {n : Nat} (hn : Ks.length = n + 1) (h : JS Ks vals w) : vals.length ≤ n := by
  unfold JS at h
  by_cases hl : vals.length < Ks.length
  · omega
  · rw [List.getD_eq_getElem?_getD, List.getElem?_eq_none (by omega)] at h
    exact h.elim
theorem JS.next {Ks : List Stg} {vals : List Value} {v : Value} {w : World} {k : Nat} (hk : vals.length = k) (h : (Ks.getD (k + 1) Stg.no).p (vals ++ [v]) w) : JS Ks (vals ++ [v]) w := by
  subst hk
  unfold JS
  rw [List.length_append]
  exact h
section
variable {n : Nat} {P : Program} {ops : Array Oper} {Q : Exit → Act → World → Prop} {a0 : Act} {w0 : World}
theorem region_stR {l id : Nat} (hm : P.follows .mixedOrders = true) (hno : ¬ LetsOut Q) (VS : List Value) (mem : List Nat) (Ks : List Stg) (k : Nat) (hsize : a0.tmps.size = k)
    (hck : (backward ops && onceDst ops && fitsDst ops k && decide mem.Nodup && chained ops mem && mem.all (· < ops.size) && decide (VS.length = ops.size)) = true) (hd : ops.all (fun o => !isDefer o) = true)
    (h0 : (Ks.getD 0 Stg.no).p [] w0)
    (hop : AllOps (fun i o => ∀ a w vals, JS Ks vals w → Ready3 ops (VS.map SP.eq) mem a0 a w vals i → if mem.contains i then (vals.length = place mem i → StepMem P ops (JS Ks) Q o a w vals) else StepAdds P ops (VS.map SP.eq) Q i o a w) 0 ops.toList)
    (hfin : ∀ w vals, (Ks.getD mem.length Stg.no).p vals w → Q .normal (putAll ops.toList (mixV mem vals 0 VS) a0) w) : (Code.region id ops true).wpIn (Fence.wide.inRound l) n P Q a0 w0 :=
  region_detR hm hno VS mem (JS Ks) k hsize hck hd h0 JS.ext hop (fun w vals hvl hJ => hfin w vals (hJ.at0 hvl))
theorem region_st {id : Nat} (hm : P.follows .mixedOrders = true) (VS : List Value) (mem : List Nat) (Ks : List Stg) (k : Nat) (hsize : a0.tmps.size = k)
    (hck : (backward ops && onceDst ops && fitsDst ops k && decide mem.Nodup && chained ops mem && mem.all (· < ops.size) && decide (VS.length = ops.size)) = true)
    (h0 : (Ks.getD 0 Stg.no).p [] w0)
    (hop : AllOps (fun i o => ∀ a w vals, JS Ks vals w → Ready3 ops (VS.map SP.eq) mem a0 a w vals i → if mem.contains i then (vals.length = place mem i → StepMem P ops (JS Ks) Q o a w vals) else StepAdds P ops (VS.map SP.eq) Q i o a w) 0 ops.toList)
    (hfin : ∀ w vals, (Ks.getD mem.length Stg.no).p vals w → Q .normal (putAll ops.toList (mixV mem vals 0 VS) a0) w) : (Code.region id ops true).wpIn Fence.wide n P Q a0 w0 :=
  region_det hm VS mem (JS Ks) k hsize hck h0 JS.ext hop (fun w vals hvl hJ => hfin w vals (hJ.at0 hvl))
end
section
variable {P : Program} {ops : Array Oper} {Q : Exit → Act → World → Prop} {J : List Value → World → Prop} {a : Act} {w : World} {vals : List Value} {o : Oper} {v : Value} {B : Base} {H : List Res} {t e : TypeId} {x y : Operand} {L : List Value}
/-- one element, in a new row -/
theorem mem_row1 {zv : Value} {bytes : Nat} (hg : Region.wanted o (yielded ops a.tmps) = true) (ho : o.op = .buildSlice t 1 #[(0, x)]) (hx : a.eval x = v) (hv : Inv B H w) (E : Elem P t e zv 1 bytes) (h1 : v.cells = #[v])
    (h : ∀ b w', Inv B (Res.cell b [v] e :: H) w' → J (vals ++ [.slice (some ⟨b, 0, none⟩) 1 1]) w') : StepMem P ops J Q o a w vals :=
  Ex.mem (ex_row1 ho hx (run_buildSlice1 E w v h1)) hg (h _ _ (hv.alloc [v] e))
theorem mem_alloc (hg : Region.wanted o (yielded ops a.tmps) = true) (ho : o.op = .alloc t) (hv : Inv B H w) (hz : ∀ w, (Instr.alloc t true (.tuple #[])).run P w = .ok (.pointer (some ⟨w.heap.size, 0, none⟩)) (w.alloc (.cells L.toArray t)))
    (h : ∀ b w', Inv B (Res.cell b L t :: H) w' → J (vals ++ [.pointer (some ⟨b, 0, none⟩)]) w') : StepMem P ops J Q o a w vals :=
  Ex.mem (ex_alloc ho (hz w)) hg (h _ _ (hv.alloc L t))
theorem mem_box {p : Value} (hg : Region.wanted o (yielded ops a.tmps) = true) (ho : o.op = .box t x) (hx : a.eval x = p) (hv : Inv B H w) (hz : ∀ w, (Instr.box t p).run P w = .ok (.pointer (some ⟨w.heap.size, 0, none⟩)) (w.alloc (.cells L.toArray t)))
    (h : ∀ b w', Inv B (Res.cell b L t :: H) w' → J (vals ++ [.pointer (some ⟨b, 0, none⟩)]) w') : StepMem P ops J Q o a w vals :=
  Ex.mem (ex_box ho hx (hz w)) hg (h _ _ (hv.alloc L t))
theorem mem_storeAt (k : Nat) {b off : Nat} {L' : List Value} (hg : Region.wanted o (yielded ops a.tmps) = true) (ho : o.op = .store t x y) (hx : a.eval x = .pointer (some ⟨b, off, none⟩)) (hy : a.eval y = v) (hv : Inv B H w) (hk : H[k]? = some (Res.cell b L e)) (hz : (P.info? t).map (·.size) = some 1)
    (hoff : off < L.length) (hc : v.cells = #[v]) (h1 : v.oneCell' = true) (hL : L.set off v = L') (h : ∀ w', Inv B (H.set k (Res.cell b L' e)) w' → J (vals ++ [undef]) w') : StepMem P ops J Q o a w vals := by
  subst hL
  exact ExU.mem (ex_store ho hx hy (run_store1 hz (hv.get k hk : Blk w b L e) hoff hc h1)) hg (h _ (hv.putAt k hk _))
end
section
variable {F : Fence} {n : Nat} {P : Program} {ops : Array Oper} {Q : Exit → Act → World → Prop} {a : Act} {w : World} {rest : List Oper} {o : Oper} {v zv : Value} {B : Base} {H : List Res} {t e : TypeId} {x : Operand} {bytes : Nat}
theorem sl_rowOne (hF : ∀ f, F.fn f) (hg : Region.wanted o (yielded ops a.tmps) = true) (ho : o.op = .buildSlice t 1 #[(0, x)]) (hx : a.eval x = v) (hv : Inv B H w) (E : Elem P t e zv 1 bytes) (h1 : v.cells = #[v])
    (h : ∀ b w', Inv B (Res.cell b [v] e :: H) w' → wpListIn F n P ops Q rest (a.put o.dst (.slice (some ⟨b, 0, none⟩) 1 1)) w') : wpListIn F n P ops Q (o :: rest) a w :=
  wpi_exG hF hg (by unfold isDefer; rw [ho]) (ex_row1 ho hx (run_buildSlice1 E w v h1)) (h _ _ (hv.alloc [v] e))
end
/-- an element type's row, out of the program's table -/
theorem elem_of {P : Program} {t e : TypeId} {z : Value} {size bytes : Nat} (ht : P.underlying t = some (.slice e)) (hi : (P.info? e).map (fun i => (i.zero, i.size, i.bytes)) = some (some z, size, bytes)) (hz : z.cells.size = size) (hp : 0 < size) : Elem P t e z size bytes := by
  refine ⟨ht, ?_, hz, hp⟩
  obtain ⟨i, hi, h⟩ := Option.map_eq_some_iff.1 hi
  simp only [Prod.mk.injEq] at h
  exact ⟨i, hi, h⟩
end Go.Pm
/- Numbers in octets, the most significant first. -/
namespace Go.Pm
open Go.RowKit

def numOf (l : List UInt8) : Nat := l.foldl (fun n c => n * 256 + c.toNat) 0
def beOf (m n : Nat) : List UInt8 := (List.range m).map (fun j => UInt8.ofNat (n / 256 ^ (m - 1 - j)))
theorem snocInd {α : Type} {p : List α → Prop} (h0 : p []) (h1 : ∀ l c, p l → p (l ++ [c])) (l : List α) : p l := by
  have key : ∀ n (l : List α), l.length = n → p l := by
    intro n
    induction n with
    | zero => intro l hl; rw [List.eq_nil_of_length_eq_zero hl]; exact h0
    | succ n ih =>
      intro l hl
      have hne : l ≠ [] := fun e => by subst e; simp at hl
      rw [← List.dropLast_concat_getLast hne]
      exact h1 _ _ (ih _ (by simp [hl]))
  exact key _ l rfl
theorem numOf_snoc (l : List UInt8) (c : UInt8) : numOf (l ++ [c]) = numOf l * 256 + c.toNat := by simp [numOf]
theorem numOf_lt (l : List UInt8) : numOf l < 256 ^ l.length := by
  refine snocInd (p := fun l => numOf l < 256 ^ l.length) (by decide) (fun l c ih => ?_) l
  show numOf (l ++ [c]) < 256 ^ (l ++ [c]).length
  rw [numOf_snoc, List.length_append, List.length_singleton, Nat.pow_succ]
  have := c.toNat_lt
  have ih : numOf l < 256 ^ l.length := ih
  omega
theorem beOf_length (m n : Nat) : (beOf m n).length = m := by simp [beOf]
theorem beOf_succ (m n : Nat) : beOf (m + 1) n = beOf m (n / 256) ++ [UInt8.ofNat n] := by
  unfold beOf
  rw [List.range_succ, List.map_append]
  congr 1
  · apply List.map_congr_left
    intro j hj
    have hj := List.mem_range.1 hj
    rw [Nat.div_div_eq_div_mul, show m + 1 - 1 - j = (m - 1 - j) + 1 by omega, Nat.pow_succ, Nat.mul_comm]
  · simp
theorem numOf_be (m n : Nat) (h : n < 256 ^ m) : numOf (beOf m n) = n := by
  induction m generalizing n with
  | zero => simp at h; subst h; rfl
  | succ m ih =>
    rw [beOf_succ, numOf_snoc, ih (n / 256) (by rw [Nat.pow_succ] at h; omega), UInt8.toNat_ofNat']
    omega
theorem be_numOf (l : List UInt8) : beOf l.length (numOf l) = l := by
  refine snocInd (p := fun l => beOf l.length (numOf l) = l) rfl (fun l c ih => ?_) l
  show beOf (l ++ [c]).length (numOf (l ++ [c])) = l ++ [c]
  have ih : beOf l.length (numOf l) = l := ih
  rw [List.length_append, List.length_singleton, beOf_succ, numOf_snoc]
  have hc := c.toNat_lt
  rw [show (numOf l * 256 + c.toNat) / 256 = numOf l by omega, ih]
  congr 2
  apply UInt8.toNat_inj.1
  rw [UInt8.toNat_ofNat']
  omega
/-- n<<8 | c -/
theorem or_byte {P : Program} {w : World} (m c : Nat) (hm : m < 72057594037927936) (hc : c < 256) : (Op.intBits .or .u64 ((m * 256 : Nat) : Int) (c : Int)).run P w = .ok (.int .u64 ((m * 256 + c : Nat) : Int)) w := by
  have e : (BitVec.ofInt 64 ((m * 256 : Nat) : Int) ||| BitVec.ofInt 64 (c : Int)).toNat = m * 256 + c := by
    rw [BitVec.toNat_or, BitVec.ofInt_natCast, BitVec.ofInt_natCast, BitVec.toNat_ofNat, BitVec.toNat_ofNat, Nat.mod_eq_of_lt (by omega), Nat.mod_eq_of_lt (by omega)]
    have := Nat.two_pow_add_eq_or_of_lt (i := 8) (b := c) (by omega) m
    rw [show (2 : Nat) ^ 8 * m = m * 256 by omega] at this
    omega
  have e2 : (Op.intBits .or .u64 ((m * 256 : Nat) : Int) (c : Int)).run P w = .ok (.int .u64 (IntKind.u64.wrap ((BitVec.ofInt 64 ((m * 256 : Nat) : Int) ||| BitVec.ofInt 64 (c : Int)).toNat : Int))) w := rfl
  rw [e2, e, u64_in (by omega)]
theorem shl8 (m : Nat) (h : m < 72057594037927936) : IntKind.u64.wrap ((m : Int) * 2 ^ (min (8 : Int).toNat IntKind.u64.bits)) = ((m * 256 : Nat) : Int) := by
  have : (2 : Int) ^ (min (8 : Int).toNat IntKind.u64.bits) = 256 := by decide
  rw [this, u64_in (by omega)]
  omega
theorem shr8 (m : Nat) : ((m : Int)).fdiv (2 ^ (min (8 : Int).toNat IntKind.u64.bits)) = ((m / 256 : Nat) : Int) := by
  have : (2 : Int) ^ (min (8 : Int).toNat IntKind.u64.bits) = 256 := by decide
  rw [this, Int.fdiv_eq_ediv_of_nonneg _ (by decide)]
  omega
theorem u8_of (m : Nat) : IntKind.u8.wrap (m : Int) = ((UInt8.ofNat m).toNat : Int) := by
  have : IntKind.wrap .u8 (m : Int) = (m : Int) % 256 := by simp [IntKind.wrap, IntKind.signed, IntKind.bits]
  rw [this, UInt8.toNat_ofNat']
  omega
end Go.Pm
/- The CRC-32 register on plain natural numbers, and its laws. -/
namespace Crc
def bstep (r : Nat) : Nat := if r % 2 = 1 then (r / 2) ^^^ 3988292384 else r / 2
def itn : Nat → Nat → Nat
  | 0, r => r
  | n + 1, r => bstep (itn n r)
def upd (r : Nat) (c : UInt8) : Nat := itn 8 (r ^^^ c.toNat)
def reg (l : List UInt8) (r : Nat) : Nat := l.foldl upd r
def sum (l : List UInt8) : Nat := reg l 4294967295 ^^^ 4294967295

theorem xor_lt {a b : Nat} (ha : a < 4294967296) (hb : b < 4294967296) : a ^^^ b < 4294967296 :=
  Nat.xor_lt_two_pow (n := 32) ha hb
theorem bstep_lt {r : Nat} (h : r < 4294967296) : bstep r < 4294967296 := by
  unfold bstep; split
  · exact xor_lt (by omega) (by omega)
  · omega
theorem itn_lt {r : Nat} (n : Nat) (h : r < 4294967296) : itn n r < 4294967296 := by
  induction n with
  | zero => exact h
  | succ n ih => exact bstep_lt ih
theorem byte_lt (c : UInt8) : c.toNat < 4294967296 := by have := c.toNat_lt; omega
theorem upd_lt {r : Nat} (c : UInt8) (h : r < 4294967296) : upd r c < 4294967296 := itn_lt 8 (xor_lt h (byte_lt c))
theorem reg_lt {r : Nat} (l : List UInt8) (h : r < 4294967296) : reg l r < 4294967296 := by
  unfold reg
  induction l generalizing r with
  | nil => exact h
  | cons c l ih => exact ih (upd_lt c h)
theorem sum_lt (l : List UInt8) : sum l < 4294967296 := xor_lt (reg_lt l (by omega)) (by omega)
theorem reg_append (l m : List UInt8) (r : Nat) : reg (l ++ m) r = reg m (reg l r) := by simp [reg]
theorem reg_take_succ (l : List UInt8) (r k : Nat) (h : k < l.length) : reg (l.take (k + 1)) r = upd (reg (l.take k) r) l[k] := by
  rw [List.take_succ_eq_append_getElem h, reg_append]; rfl
theorem reg_flat_succ (ls : List (List UInt8)) (r k : Nat) (h : k < ls.length) : reg (ls.take (k + 1)).flatten r = reg ls[k] (reg (ls.take k).flatten r) := by
  rw [List.take_succ_eq_append_getElem h, List.flatten_append, reg_append]; simp
theorem itn_succ (n r : Nat) : itn (n + 1) r = bstep (itn n r) := rfl

/- linear -/
theorem bstep_xor (a b : Nat) : bstep (a ^^^ b) = bstep a ^^^ bstep b := by
  have hd : (a ^^^ b) / 2 = a / 2 ^^^ b / 2 := by
    have := Nat.shiftRight_xor_distrib (a := a) (b := b) (i := 1)
    simpa [Nat.shiftRight_eq_div_pow] using this
  have hm : (a ^^^ b) % 2 = (a % 2 + b % 2) % 2 := by
    have := Nat.xor_mod_two_eq_one (a := a) (b := b)
    omega
  unfold bstep
  rw [hd, hm]
  rcases Nat.mod_two_eq_zero_or_one a with ha | ha <;> rcases Nat.mod_two_eq_zero_or_one b with hb | hb <;> simp [ha, hb]
  · ac_rfl
  · ac_rfl
  · rw [show (a / 2 ^^^ 3988292384 ^^^ (b / 2 ^^^ 3988292384)) = (a / 2 ^^^ b / 2) ^^^ (3988292384 ^^^ 3988292384) by ac_rfl]; simp
theorem itn_xor (n a b : Nat) : itn n (a ^^^ b) = itn n a ^^^ itn n b := by
  induction n with
  | zero => rfl
  | succ n ih => simp only [itn_succ, ih, bstep_xor]
theorem bstep_zero {r : Nat} (h : r < 4294967296) (h0 : bstep r = 0) : r = 0 := by
  unfold bstep at h0
  split at h0
  · rename_i h1
    have hx : r / 2 = 3988292384 := by
      have := congrArg (· ^^^ 3988292384) h0
      simpa [Nat.xor_assoc] using this
    omega
  · omega
theorem itn_zero {r : Nat} (n : Nat) (h : r < 4294967296) (h0 : itn n r = 0) : r = 0 := by
  induction n with
  | zero => exact h0
  | succ n ih => exact ih (bstep_zero (itn_lt n h) h0)
theorem xor_eq_zero {a b : Nat} (h : a ^^^ b = 0) : a = b := by
  have := congrArg (· ^^^ b) h
  simpa [Nat.xor_assoc] using this
theorem itn_inj {a b : Nat} (n : Nat) (ha : a < 4294967296) (hb : b < 4294967296) (h : itn n a = itn n b) : a = b := by
  have := itn_xor n a b
  rw [h, Nat.xor_self] at this
  exact xor_eq_zero (itn_zero n (xor_lt ha hb) this)
theorem itn_add (m n r : Nat) : itn (m + n) r = itn n (itn m r) := by
  induction n with
  | zero => rfl
  | succ n ih => rw [← Nat.add_assoc, itn_succ, ih, itn_succ]
theorem itn_shift (n r : Nat) : itn n (r * 2 ^ n) = r := by
  induction n generalizing r with
  | zero => simp [itn]
  | succ n ih =>
    rw [itn_succ, Nat.pow_succ, show r * (2 ^ n * 2) = (r * 2) * 2 ^ n by rw [Nat.mul_comm (2 ^ n), Nat.mul_assoc], ih]
    unfold bstep
    have : r * 2 % 2 = 0 := by omega
    simp [this]
/-- four bytes are read as one word -/
def word (a b c d : UInt8) : Nat := a.toNat ^^^ (b.toNat * 2 ^ 8) ^^^ (c.toNat * 2 ^ 16) ^^^ (d.toNat * 2 ^ 24)
theorem reg4 (a b c d : UInt8) (r : Nat) : reg [a, b, c, d] r = itn 32 (r ^^^ word a b c d) := by
  simp only [reg, List.foldl_cons, List.foldl_nil, upd]
  unfold word
  have h1 : itn 32 (d.toNat * 2 ^ 24) = itn 8 d.toNat := by rw [show 32 = 24 + 8 from rfl, itn_add, itn_shift]
  have h2 : itn 32 (c.toNat * 2 ^ 16) = itn 16 c.toNat := by rw [show 32 = 16 + 16 from rfl, itn_add, itn_shift]
  have h3 : itn 32 (b.toNat * 2 ^ 8) = itn 24 b.toNat := by rw [show 32 = 8 + 24 from rfl, itn_add, itn_shift]
  have g2 : ∀ x, itn 8 (itn 8 x) = itn 16 x := fun x => (itn_add 8 8 x).symm
  have g3 : ∀ x, itn 8 (itn 16 x) = itn 24 x := fun x => (itn_add 16 8 x).symm
  have g4 : ∀ x, itn 8 (itn 24 x) = itn 32 x := fun x => (itn_add 24 8 x).symm
  rw [itn_xor 32, itn_xor 32, itn_xor 32, itn_xor 32, h1, h2, h3]
  rw [itn_xor 8 _ d.toNat, itn_xor 8 _ c.toNat, itn_xor 8 _ b.toNat, itn_xor 8 _ a.toNat]
  rw [itn_xor 8 (itn 8 r), g2, g2, itn_xor 8 _ (itn 8 b.toNat), itn_xor 8 (itn 16 r), g3, g3, g2, itn_xor 8 _ (itn 8 c.toNat), itn_xor 8 _ (itn 16 b.toNat), itn_xor 8 (itn 24 r), g4, g4, g3, g2]
  simp only [Nat.xor_assoc]
theorem word_lt (a b c d : UInt8) : word a b c d < 4294967296 := by
  have := a.toNat_lt; have := b.toNat_lt; have := c.toNat_lt; have := d.toNat_lt
  unfold word
  exact xor_lt (xor_lt (xor_lt (by omega) (by omega)) (by omega)) (by omega)
theorem word_eq (a b c d : UInt8) : word a b c d = a.toNat + b.toNat * 2 ^ 8 + c.toNat * 2 ^ 16 + d.toNat * 2 ^ 24 := by
  have h : ∀ (x y i : Nat), x < 2 ^ i → x ^^^ (y * 2 ^ i) = x + y * 2 ^ i := by
    intro x y i hx
    rw [Nat.add_comm, Nat.mul_comm, Nat.xor_comm]
    rw [Nat.two_pow_add_eq_or_of_lt hx]
    apply Nat.eq_of_testBit_eq
    intro j
    simp only [Nat.testBit_xor, Nat.testBit_or, Nat.testBit_two_pow_mul]
    by_cases hj : i ≤ j
    · have : x.testBit j = false := Nat.testBit_lt_two_pow (Nat.lt_of_lt_of_le hx (Nat.pow_le_pow_right (by omega) hj))
      simp [this]
    · simp [hj]
  have := a.toNat_lt; have := b.toNat_lt; have := c.toNat_lt; have := d.toNat_lt
  unfold word
  rw [h _ _ 8 (by omega), h _ _ 16 (by omega), h _ _ 24 (by omega)]
theorem word_inj {a b c d a' b' c' d' : UInt8} (h : word a b c d = word a' b' c' d') : a = a' ∧ b = b' ∧ c = c' ∧ d = d' := by
  rw [word_eq, word_eq] at h
  have := a.toNat_lt; have := b.toNat_lt; have := c.toNat_lt; have := d.toNat_lt
  have := a'.toNat_lt; have := b'.toNat_lt; have := c'.toNat_lt; have := d'.toNat_lt
  refine ⟨UInt8.toNat_inj.1 ?_, UInt8.toNat_inj.1 ?_, UInt8.toNat_inj.1 ?_, UInt8.toNat_inj.1 ?_⟩ <;> omega
theorem upd_inj {r s : Nat} (c : UInt8) (hr : r < 4294967296) (hs : s < 4294967296) (h : upd r c = upd s c) : r = s := by
  have := itn_inj 8 (xor_lt hr (byte_lt c)) (xor_lt hs (byte_lt c)) h
  have := congrArg (· ^^^ c.toNat) this
  simpa [Nat.xor_assoc] using this
theorem reg_inj {r s : Nat} (l : List UInt8) (hr : r < 4294967296) (hs : s < 4294967296) (h : reg l r = reg l s) : r = s := by
  induction l generalizing r s with
  | nil => exact h
  | cons c l ih => exact upd_inj c hr hs (ih (upd_lt c hr) (upd_lt c hs) h)
/-- texts that are alike but for four bytes, one behind the other: their sums are alike only if the texts are -/
theorem sum_apart (p q : List UInt8) (a b c d a' b' c' d' : UInt8) (h : sum (p ++ [a, b, c, d] ++ q) = sum (p ++ [a', b', c', d'] ++ q)) :
    a = a' ∧ b = b' ∧ c = c' ∧ d = d' := by
  unfold sum at h
  have h1 : reg (p ++ [a, b, c, d] ++ q) 4294967295 = reg (p ++ [a', b', c', d'] ++ q) 4294967295 := by
    have := congrArg (· ^^^ 4294967295) h
    simpa [Nat.xor_assoc] using this
  rw [reg_append, reg_append, reg_append, reg_append] at h1
  have hp : reg p 4294967295 < 4294967296 := reg_lt p (by omega)
  have h2 := reg_inj q (reg_lt _ hp) (reg_lt _ hp) h1
  rw [reg4, reg4] at h2
  have h3 := itn_inj 32 (xor_lt hp (word_lt _ _ _ _)) (xor_lt hp (word_lt _ _ _ _)) h2
  have h4 := congrArg (reg p 4294967295 ^^^ ·) h3
  simp only [← Nat.xor_assoc, Nat.xor_self, Nat.zero_xor] at h4
  exact word_inj h4
end Crc
/- crc.Sum and the reference's Sum compute Crc.sum. -/
namespace Go.Proofs.Ytkannfkjnohdlaa
open Go.RowKit Go.Pm

theorem xor32 {a b : Nat} (ha : a < 4294967296) (hb : b < 4294967296) : Value.int .u32 (bits .xor .u32 (a : Int) (b : Int)) = .int .u32 ((a ^^^ b : Nat) : Int) := by rw [u32_xor_nat a b ha hb]
theorem bstep_odd {x : Nat} (hx : x < 4294967296) (h : x % 2 = 1) : Value.int .u32 (bits .xor .u32 ((x : Int) / 2) 3988292384) = .int .u32 (Crc.bstep x : Int) := by
  have := u32_xor_nat (x / 2) 3988292384 (by omega) (by omega)
  unfold Crc.bstep
  rw [if_pos h, ← this]; rfl
theorem bstep_even {x : Nat} (h : ¬ x % 2 = 1) : Value.int .u32 ((x : Int) / 2) = .int .u32 (Crc.bstep x : Int) := by
  unfold Crc.bstep
  rw [if_neg h]; rfl

theorem and1 (z : Nat) (h : z < 4294967296) : bits .and .u32 (z : Int) 1 = ((z % 2 : Nat) : Int) := by
  have := u32_and_nat z 1 h (by omega)
  rw [nat_mask1] at this
  exact this

set_option maxHeartbeats 1000000 in
theorem refSum (w : World) (S : Nat → Prop) (a : Option Addr) (n cap : Nat) (l : List UInt8) (hn : l.length = n) (hm : l.length ≤ maxLen) (hb : Bytes w S a l) :
    Calls Try.prog 16 #[.slice a n cap] w fun e w' => e = .returned (.int .u32 (Crc.sum l)) ∧ w = w' := by
  subst hn
  unfold maxLen at hm
  have hb' := Lib.hid hb
  clear hb
  go_enter Try.func16, Try.ntmps16
  go_wp2
  go_loop [3, 4] (fun r i => ∃ (k : Nat), k ≤ l.length ∧ i = .int .i64 k ∧ r = .int .u32 (Crc.reg (l.take k) 4294967295)) (fun _ i => l.length - (intOf i).toNat)
  case atStart => exact ⟨0, Nat.zero_le _, rfl, rfl⟩
  case round =>
    obtain ⟨k, hk, rfl, rfl⟩ := hrel
    by_cases hlt : k < l.length
    · obtain ⟨b, off, ha, _, hck⟩ := hb'.out k hlt
      subst ha
      have hs := Lib.hid (Crc.reg_take_succ l 4294967295 k hlt)
      have hx := Crc.reg_lt (r := 4294967295) (l.take k) (by omega)
      generalize Crc.reg (l.take k) 4294967295 = x at *
      have hcb := Crc.byte_lt l[k]
      generalize l[k] = c at *
      go_wp2
      rw [xor32 hx hcb]
      have hy : x ^^^ c.toNat < 4294967296 := Crc.xor_lt hx hcb
      have hs2 : Hid (Crc.reg (l.take (k+1)) 4294967295 = Crc.itn 8 (x ^^^ c.toNat)) := hs
      clear hs
      generalize x ^^^ c.toNat = y at *
      go_loop [3, 5] (fun r i => ∃ (j : Nat), j ≤ 8 ∧ i = .int .i64 j ∧ r = .int .u32 (Crc.itn j y)) (fun _ i => 8 - (intOf i).toNat)
      case atStart => exact ⟨0, Nat.zero_le _, rfl, rfl⟩
      case round =>
        obtain ⟨j, hj, rfl, rfl⟩ := hrel
        have hz := Crc.itn_lt j hy
        have hs3 := Lib.hid (Crc.itn_succ j y)
        by_cases hj8 : j < 8
        · generalize Crc.itn j y = z at *
          by_cases hodd : z % 2 = 1
          · have ho : ((z : Int) % 2 == 1) = true := by simp; omega
            have hb := bstep_odd hz hodd
            rw [← hs3.out] at hb
            have hb2 := Lib.hid hb
            clear hb
            go_wp2
            go_round
            case rel => exact ⟨j + 1, by omega, by go_num, hb2.out⟩
            case measure => simp [intOf]; omega
          · have ho : ((z : Int) % 2 == 1) = false := by simp; omega
            have hb := bstep_even hodd
            rw [← hs3.out] at hb
            have hb2 := Lib.hid hb
            clear hb
            go_wp2
            go_round
            case rel => exact ⟨j + 1, by omega, by go_num, hb2.out⟩
            case measure => simp [intOf]; omega
        · obtain rfl : j = 8 := by omega
          rw [← hs2.out]
          go_wp2
          go_round
          case rel => exact ⟨k + 1, by omega, by go_num, rfl⟩
          case measure => simp [intOf]; omega
    · rw [List.take_of_length_le (by omega)]
      have hx := Crc.reg_lt (r := 4294967295) l (by omega)
      have hf := Lib.hid (xor32 hx (b := 4294967295) (by omega))
      have hg : Hid (Crc.reg l 4294967295 ^^^ 4294967295 = Crc.sum l) := rfl
      generalize Crc.reg l 4294967295 = x at *
      go_wp2
      go_ret
      exact ⟨by rw [← hg.out]; exact congrArg Ending.returned hf.out, rfl⟩

theorem not32 {x : Nat} (h : x < 4294967296) : Value.int .u32 (bits .xor .u32 IntKind.u32.max (x : Int)) = .int .u32 ((x ^^^ 4294967295 : Nat) : Int) := by
  have := u32_xor_nat 4294967295 x (by omega) h
  rw [Nat.xor_comm] at this
  rw [← this]; rfl

set_option maxHeartbeats 2000000 in
theorem crcSum (w : World) (S : Nat → Prop) (a : Option Addr) (n cap : Nat) (ls : List (List UInt8)) (hn : ls.length = n) (hm : ls.length ≤ maxLen) (hb : Rows8 w S a ls) :
    Calls Try.prog 15 #[.slice a n cap] w fun e w' => e = .returned (.int .u32 (Crc.sum ls.flatten)) ∧ w = w' := by
  subst hn
  unfold maxLen at hm
  have hb' := Lib.hid hb
  clear hb
  go_enter Try.func15, Try.ntmps15
  go_wp2
  go_loop [3, 11] (fun r i => ∃ (k : Nat), k ≤ ls.length ∧ i = .int .i64 k ∧ r = .int .u32 (Crc.reg (ls.take k).flatten 4294967295)) (fun _ i => ls.length - (intOf i).toNat)
  case atStart => exact ⟨0, Nat.zero_le _, rfl, rfl⟩
  case round =>
    obtain ⟨n, hn, rfl, rfl⟩ := hrel
    by_cases hnlt : n < ls.length
    · obtain ⟨b, off, a', c', ha, _, hcn, ⟨hc1, hc2, _⟩, hbn⟩ := hb'.out n hnlt
      subst ha
      have hsn := Lib.hid (Crc.reg_flat_succ ls 4294967295 n hnlt)
      have hx0 := Crc.reg_lt (r := 4294967295) (ls.take n).flatten (by omega)
      generalize Crc.reg (ls.take n).flatten 4294967295 = x0 at *
      unfold maxLen at hc2
      have hb2 := Lib.hid hbn
      clear hbn hb'
      generalize ls[n] = l at *
      go_wp2
      go_loop [3, 17] (fun r i => ∃ (k : Nat), k ≤ l.length ∧ i = .int .i64 k ∧ r = .int .u32 (Crc.reg (l.take k) x0)) (fun _ i => l.length - (intOf i).toNat)
      case atStart => exact ⟨0, Nat.zero_le _, rfl, rfl⟩
      case round =>
        obtain ⟨k, hk, rfl, rfl⟩ := hrel
        by_cases hlt : k < l.length
        · obtain ⟨b2, off2, ha2, _, hck⟩ := hb2.out k hlt
          subst ha2
          have hs := Lib.hid (Crc.reg_take_succ l x0 k hlt)
          have hx := Crc.reg_lt (l.take k) hx0
          generalize Crc.reg (l.take k) x0 = x at *
          have hcb := Crc.byte_lt l[k]
          generalize l[k] = c at *
          go_wp2
          rw [xor32 hx hcb]
          have hy : x ^^^ c.toNat < 4294967296 := Crc.xor_lt hx hcb
          have hs2 : Hid (Crc.reg (l.take (k+1)) x0 = Crc.itn 8 (x ^^^ c.toNat)) := hs
          clear hs
          generalize x ^^^ c.toNat = y at *
          go_loop [3, 25] (fun r i => ∃ (j : Nat), j ≤ 8 ∧ i = .int .i64 j ∧ r = .int .u32 (Crc.itn j y)) (fun _ i => 8 - (intOf i).toNat)
          case atStart => exact ⟨0, Nat.zero_le _, rfl, rfl⟩
          case round =>
            obtain ⟨j, hj, rfl, rfl⟩ := hrel
            have hz := Crc.itn_lt j hy
            have hs3 := Lib.hid (Crc.itn_succ j y)
            by_cases hj8 : j < 8
            · generalize Crc.itn j y = z at *
              have hand := and1 z hz
              by_cases hodd : z % 2 = 1
              · rw [hodd] at hand
                have hb := bstep_odd hz hodd
                rw [← hs3.out] at hb
                have hb2 := Lib.hid hb
                clear hb hodd
                go_wp2
                go_round
                case rel => exact ⟨j + 1, by omega, by go_num, hb2.out⟩
                case measure => simp [intOf]; omega
              · rw [show z % 2 = 0 by omega] at hand
                have hb := bstep_even hodd
                rw [← hs3.out] at hb
                have hb2 := Lib.hid hb
                clear hb hodd
                go_wp2
                go_round
                case rel => exact ⟨j + 1, by omega, by go_num, hb2.out⟩
                case measure => simp [intOf]; omega
            · obtain rfl : j = 8 := by omega
              rw [← hs2.out]
              go_wp2
              go_round
              case rel => exact ⟨k + 1, by omega, by go_num, rfl⟩
              case measure => simp [intOf]; omega
        · rw [List.take_of_length_le (by omega), ← hsn.out]
          go_wp2
          go_round
          case rel => exact ⟨n + 1, by omega, by go_num, rfl⟩
          case measure => simp [intOf]; omega
    · rw [List.take_of_length_le (by omega)]
      have hx := Crc.reg_lt (r := 4294967295) ls.flatten (by omega)
      have hf := Lib.hid (not32 hx)
      have hg : Hid (Crc.reg ls.flatten 4294967295 ^^^ 4294967295 = Crc.sum ls.flatten) := rfl
      generalize Crc.reg ls.flatten 4294967295 = x at *
      go_wp2
      go_ret
      exact ⟨by rw [← hg.out]; exact congrArg Ending.returned hf.out, rfl⟩

/-- Sum of one text, as a call with one argument stands -/
theorem crcSum1 (w : World) (b n c : Nat) (a : Option Addr) (l : List UInt8) (hc : w.cell? ⟨b, 0, none⟩ = some (.slice a n c)) (S : Nat → Prop) (hb : Bytes w S a l) (hn : n = l.length) (h1 : SliceOk a n c) :
    Calls Try.prog 15 #[.slice (some ⟨b, 0, none⟩) 1 1] w fun e w' => e = .returned (.int .u32 (Crc.sum l)) ∧ w = w' := by
  subst hn
  have := crcSum w (fun _ => True) (some ⟨b, 0, none⟩) 1 1 [l] rfl (by simp [maxLen]) (rows8_one trivial hc (hb.mono (fun _ _ => trivial)) rfl h1)
  simpa using this
theorem crcSum0 (w : World) : Calls Try.prog 15 #[.slice none 0 0] w fun e w' => e = .returned (.int .u32 0) ∧ w = w' := by
  have := crcSum w (fun _ => True) none 0 0 [] rfl (by decide) (rows8_nil _ _ _)
  have h0 : Crc.sum [] = 0 := by decide +kernel
  simpa [h0] using this

def nine : List UInt8 := [49, 50, 51, 52, 53, 54, 55, 56, 57]
theorem nine_sum : Crc.sum nine = 3421780262 := by decide +kernel

set_option maxHeartbeats 1000000 in
theorem crcAwake (w : World) : Calls Try.prog 14 #[] w fun e w' => e = .returned (.bool true) ∧ Below w.heap.size w w' := by
  have kc := fun (w : World) (C : Array Value) (n c : Nat) => Lib.run_convert_bytes_const (P := Try.prog) w 24 5 C n c Try.underlying24 Try.underlying5
  go_enter Try.func14, Try.ntmps14
  go_wp2_with fail
  have hb : Bytes (w.alloc (.cells #[.int .u8 49, .int .u8 50, .int .u8 51, .int .u8 52, .int .u8 53, .int .u8 54, .int .u8 55, .int .u8 56, .int .u8 57] 5 (9, 10))) _ _ nine :=
    bytes_new 5 (9, 10) rfl
  have hb2 := hb.alloc (.cells #[.slice (some ⟨w.heap.size, 0, none⟩) 9 9] 24)
  refine (crcSum1 _ _ 9 9 _ nine (by simp [go_sem]) _ hb2 rfl ⟨by decide, by decide, fun h => by cases h⟩).mono ?_
  rintro e w' ⟨rfl, rfl⟩
  simp only [nine_sum]
  clear hb hb2
  go_wp2_with fail
  refine (crcSum0 _).mono ?_
  rintro e w' ⟨rfl, rfl⟩
  go_wp2_with fail
  go_ret
  refine ⟨rfl, ?_⟩
  exact ((Below.refl _ _).alloc (Nat.le_refl _) _).alloc (by simp) _
end Go.Proofs.Ytkannfkjnohdlaa
namespace Go.Proofs.Ytkannfkjnohdlaa
open Go.RowKit Go.Pm

theorem elemU8 : Elem Try.prog 24 5 (.int .u8 0) 1 1 := ⟨Try.underlying24, info_parts (by kernel_rfl), rfl, by decide⟩

set_option maxHeartbeats 2000000 in
theorem crcSumsMain (w : World) (a : Option Addr) (cap : Nat) (ls : List (List UInt8)) (hok : SliceOk a ls.length cap) (hb : Rows8 w (· < w.heap.size) a ls) :
    Calls Try.prog 3 #[.slice a ls.length cap] w fun e w' => e = .returned (.bool true) ∧ Below w.heap.size w w' := by
  have hok' := hok
  obtain ⟨h1, h2, _⟩ := hok'
  have hokH := Lib.hid hok
  have hbH := Lib.hid hb
  clear hok hb
  unfold maxLen at h2
  by_cases hbig : 20 < ls.length
  · go_enter Try.func3, Try.ntmps3
    go_wp2_with fail
    refine (crcAwake _).mono ?_
    rintro e w1 ⟨rfl, hb1⟩
    go_wp2_with fail
    refine (crcAwake _).mono ?_
    rintro e w2 ⟨rfl, hb2⟩
    go_wp2_with fail
    go_ret
    exact ⟨rfl, hb1.trans (hb2.mono hb1.size)⟩
  · go_enter Try.func3, Try.ntmps3
    go_wp2_with fail
    refine (crcAwake _).mono ?_
    rintro e w1 ⟨rfl, hb1⟩
    go_wp2_with fail
    go_loopw [3, 4] (fun v i wr => ∃ (k : Nat), k ≤ ls.length ∧ i = .int .i64 k ∧ (ls.take k).flatten.length ≤ 300 * k ∧ wr.ownsRow w1.heap.size 5 1 v (ls.take k).flatten.length ((ls.take k).flatten.map B8) ∧ Below w1.heap.size w1 wr) (fun _ i _ => ls.length - (intOf i).toNat)
    case atStart => exact ⟨0, by omega, rfl, by simp, World.ownsRow_nil _ _ _ _, Below.refl _ _⟩
    case round =>
      obtain ⟨k, hk, rfl, h300, hown, hbr⟩ := hrel
      have hbw : Below w.heap.size w wr := hb1.trans (hbr.mono hb1.size)
      have hrows : Rows8 wr (· < w.heap.size) a ls := hbH.out.frame (fun b hb => hbw.block b hb)
      by_cases hlt : k < ls.length
      · obtain ⟨b, off, a', c', ha, _, hcell, hokk, hbk⟩ := hrows k hlt
        subst ha
        have hc1 := hokk.1
        have hc2 := hokk.2
        unfold maxLen at hc2
        have hflat := Lib.hid (flat_succ ls k hlt)
        clear hrows
        have hokk := Lib.hid hokk
        have hbk := Lib.hid hbk
        have hown := Lib.hid hown
        generalize ls[k] = l at *
        generalize (ls.take k).flatten = L at *
        by_cases hl : 300 < l.length
        · go_wp2_with fail
          go_ret
          exact ⟨rfl, hbw⟩
        · go_wp2_with (at_builtin; refine wpList_append_src _ rfl _ _ 24 rfl elemU8 w1.heap.size rfl hown.out rfl hokk.out (news := l.map B8) (by simp) hbk.out.src (oneCell_bytes _) (by unfold maxLen; omega) (by omega) hbr.size ?_)
          intro v' w' hown' hgrow
          have hbr' : Below w1.heap.size w1 w' := hbr.grown hgrow hbr.size (fun g hg => (hown.out.lt g hg).1)
          rw [← List.map_append, ← List.length_append, ← hflat.out] at hown'
          have h300' : (ls.take (k + 1)).flatten.length ≤ 300 * (k + 1) := by rw [hflat.out, List.length_append]; omega
          have hown' := Lib.hid hown'
          clear hgrow h300
          go_wp2_with fail
          go_roundw
          case rel => exact ⟨k + 1, by omega, by go_num, h300', hown'.out, hbr'⟩
          case measure => simp [intOf]; omega
      · rw [List.take_of_length_le (by omega)] at hown h300
        obtain ⟨a', c', rfl, hok2, hby⟩ := owns_bytes hown
        have hrows := Lib.hid hrows
        have hok2 := Lib.hid hok2
        have hby := Lib.hid hby
        generalize hL : ls.flatten = l at *
        have HL := Lib.hid hL
        clear hL
        go_wp2_with fail
        refine (crcSum _ _ _ _ _ ls rfl (Nat.le_trans hokH.out.le hokH.out.max) hrows.out).mono ?_
        rintro e w' ⟨rfl, rfl⟩
        rw [HL.out]
        go_wp2_with fail
        refine (refSum _ _ _ _ _ l rfl (Nat.le_trans hok2.out.le hok2.out.max) hby.out).mono ?_
        rintro e w' ⟨rfl, rfl⟩
        go_wp2_with fail
        refine (crcSum1 _ _ _ _ _ l (by simp [go_sem]) _ (hby.out.frame (w' := _) (fun b hb => heap_old _ _ b hb.2.1)) rfl hok2.out).mono ?_
        rintro e w' ⟨rfl, rfl⟩
        go_wp2_with fail
        refine (refSum _ _ _ _ _ l rfl (Nat.le_trans hok2.out.le hok2.out.max) (hby.out.frame (w' := _) (fun b hb => heap_old _ _ b hb.2.1))).mono ?_
        rintro e w' ⟨rfl, rfl⟩
        go_wp2_with fail
        go_ret
        exact ⟨rfl, hbw.alloc (Nat.le_trans hb1.size hbr.size) _⟩
end Go.Proofs.Ytkannfkjnohdlaa
/- One fact of the program's, apart (for claims that don't need the checksum's laws). -/
namespace Go.Proofs.Ytkannfkjnohdlaa
open Go.RowKit Go.Pm
theorem mixed : Try.prog.follows .mixedOrders = true := by kernel_rfl
end Go.Proofs.Ytkannfkjnohdlaa
/- The disk of sectors, as plain data. -/
namespace Go.Pm

structure Disk where
  dur : List (List UInt8)
  pend : List (Nat × List UInt8)
  left : Int

structure Disk.Ok (D : Disk) : Prop where
  dur : ∀ s ∈ D.dur, s.length = 64
  pos : 1 ≤ D.dur.length
  max : D.dur.length ≤ 65536
  pend : ∀ p ∈ D.pend, p.1 < D.dur.length ∧ p.2.length = 64
  left1 : -1 ≤ D.left
  left2 : D.left ≤ 9223372036854775807

namespace Disk
def has (D : Disk) (at_ n : Int) : Bool := decide (1 ≤ n) && decide (0 ≤ at_) && decide (at_ < D.dur.length) && decide (n ≤ D.dur.length - at_)
/-- a call is counted -/
def tick (D : Disk) : Disk := { D with left := if 0 < D.left then D.left - 1 else D.left }
/-- a piece of a text, filled up to a sector -/
def pad (b : List UInt8) : List UInt8 := b ++ List.replicate (64 - b.length) 0
def nsec (b : List UInt8) : Nat := (b.length + 63) / 64
def sector (b : List UInt8) (i : Nat) : List UInt8 := pad ((b.drop (64 * i)).take 64)
def sectors (b : List UInt8) : List (List UInt8) := (List.range (nsec b)).map (sector b)
def writesOf (at_ : Nat) (b : List UInt8) (k : Nat) : List (Nat × List UInt8) := (List.range k).map (fun i => (at_ + i, sector b i))
def write (D : Disk) (at_ : Nat) (b : List UInt8) : Disk := { D.tick with pend := D.pend ++ writesOf at_ b (nsec b) }
/-- what sector i reads as under the first writes of l -/
def over (l : List (Nat × List UInt8)) (i : Nat) (s : List UInt8) : List UInt8 := l.foldl (fun acc p => if p.1 = i then p.2 else acc) s
def see (D : Disk) (i : Nat) : List UInt8 := over D.pend i (D.dur.getD i [])
def view (D : Disk) (l : List (Nat × List UInt8)) (at_ n : Nat) : List (List UInt8) := (List.range n).map (fun k => over l (at_ + k) (D.dur.getD (at_ + k) []))
def read (D : Disk) (at_ n : Nat) : List UInt8 := (view D D.pend at_ n).flatten
def put (d : List (List UInt8)) (p : Nat × List UInt8) : List (List UInt8) := d.set p.1 p.2
def sync (D : Disk) : Disk := { D.tick with dur := D.pend.foldl put D.dur, pend := [] }
def kept (D : Disk) (keep : List Int) : List (Nat × List UInt8) := (D.pend.zipIdx.filter (fun x => keep.contains (x.2 : Int))).map (·.1)
def crash (D : Disk) (keep : List Int) : Disk := { dur := (D.kept keep).foldl put D.dur, pend := [], left := -1 }
def limit (D : Disk) (n : Int) : Disk := if D.left = 0 then D else { D with left := if n < -1 then -1 else n }
def zero (n : Nat) : Disk := { dur := List.replicate n (List.replicate 64 0), pend := [], left := -1 }

theorem pad_length (b : List UInt8) (h : b.length ≤ 64) : (pad b).length = 64 := by simp [pad]; omega
theorem sector_length (b : List UInt8) (i : Nat) : (sector b i).length = 64 := pad_length _ (by simp; omega)
theorem tick_ok {D : Disk} (h : D.Ok) : D.tick.Ok := by
  refine ⟨h.dur, h.pos, h.max, h.pend, ?_, ?_⟩ <;> (have := h.left1; have := h.left2; simp only [tick]; split <;> omega)
theorem zero_ok {n : Nat} (h1 : 1 ≤ n) (h2 : n ≤ 65536) : (zero n).Ok := by
  refine ⟨fun s hs => ?_, by simp [zero]; omega, by simp [zero]; omega, fun p hp => by simp [zero] at hp, by simp [zero], by simp [zero]⟩
  simp [zero] at hs
  rw [hs.2]; simp
theorem writesOf_mem {at_ : Nat} {b : List UInt8} {k : Nat} {p : Nat × List UInt8} (h : p ∈ writesOf at_ b k) : at_ ≤ p.1 ∧ p.1 < at_ + k ∧ p.2.length = 64 := by
  unfold writesOf at h
  obtain ⟨i, hi, rfl⟩ := List.mem_map.1 h
  have : i < k := by simpa using hi
  exact ⟨by simp, by simp; omega, sector_length b i⟩
theorem write_ok {D : Disk} (h : D.Ok) {at_ : Nat} {b : List UInt8} (hh : at_ + nsec b ≤ D.dur.length) : (D.write at_ b).Ok := by
  have ht := tick_ok h
  refine ⟨ht.dur, ht.pos, ht.max, fun p hp => ?_, ht.left1, ht.left2⟩
  simp only [write, List.mem_append] at hp
  rcases hp with hp | hp
  · exact h.pend p hp
  · have := writesOf_mem hp
    refine ⟨?_, this.2.2⟩
    show p.1 < D.dur.length
    omega
theorem put_length (d : List (List UInt8)) (p : Nat × List UInt8) : (put d p).length = d.length := by simp [put]
theorem foldl_put_length (l : List (Nat × List UInt8)) (d : List (List UInt8)) : (l.foldl put d).length = d.length := by
  induction l generalizing d with
  | nil => rfl
  | cons p l ih => rw [List.foldl_cons, ih, put_length]
theorem foldl_put_mem {l : List (Nat × List UInt8)} {d : List (List UInt8)} (hd : ∀ s ∈ d, s.length = 64) (hl : ∀ p ∈ l, p.2.length = 64) : ∀ s ∈ l.foldl put d, s.length = 64 := by
  induction l generalizing d with
  | nil => exact hd
  | cons p l ih =>
    rw [List.foldl_cons]
    refine ih (fun s hs => ?_) (fun q hq => hl q (by simp [hq]))
    rcases List.mem_or_eq_of_mem_set hs with h | h
    · exact hd s h
    · rw [h]; exact hl p (by simp)
theorem sync_ok {D : Disk} (h : D.Ok) : D.sync.Ok := by
  have ht := tick_ok h
  refine ⟨foldl_put_mem h.dur (fun p hp => (h.pend p hp).2), ?_, ?_, fun p hp => by simp [sync] at hp, ht.left1, ht.left2⟩
  · simp only [sync, foldl_put_length]; exact h.pos
  · simp only [sync, foldl_put_length]; exact h.max
theorem kept_mem {D : Disk} {keep : List Int} {p : Nat × List UInt8} (h : p ∈ D.kept keep) : p ∈ D.pend := by
  unfold kept at h
  obtain ⟨x, hx, rfl⟩ := List.mem_map.1 h
  have := (List.mem_filter.1 hx).1
  obtain ⟨y, i⟩ := x
  exact (List.mem_zipIdx this).2.2 ▸ List.getElem_mem _
theorem crash_ok {D : Disk} (h : D.Ok) (keep : List Int) : (D.crash keep).Ok := by
  refine ⟨foldl_put_mem h.dur (fun p hp => (h.pend p (kept_mem hp)).2), ?_, ?_, fun p hp => by simp [crash] at hp, by simp [crash], by simp [crash]⟩
  · simp only [crash, foldl_put_length]; exact h.pos
  · simp only [crash, foldl_put_length]; exact h.max
end Disk
end Go.Pm
/- The disk's methods. -/
namespace Go.Proofs.Ytkannfkjnohdlaa
open Go.RowKit Go.Pm

def wrCells (p : Nat × List UInt8) : List Value := .int .i64 (p.1 : Int) :: p.2.map B8
def durCells (d : List (List UInt8)) : List Value := (d.map (·.map B8)).flatten
def pendCells (l : List (Nat × List UInt8)) : List Value := (l.map wrCells).flatten

/-- The disk D lies behind the pointer to block p; its blocks are F. -/
def DiskAt (w : World) (p : Nat) (D : Disk) (F : List Nat) : Prop := D.Ok ∧ ∃ gd vp, F = p :: gd :: (Value.ownBlock vp).toList ∧ F.Nodup ∧
  Blk w p [.slice (some ⟨gd, 0, none⟩) D.dur.length D.dur.length, vp, .int .i64 D.left] 87 ∧ Blk w gd (durCells D.dur) 90 ∧ w.ownsRow 0 92 65 vp D.pend.length (pendCells D.pend)

theorem DiskAt.lt {w : World} {p : Nat} {D : Disk} {F : List Nat} (h : DiskAt w p D F) : ∀ k ∈ F, k < w.heap.size := by
  obtain ⟨_, gd, vp, rfl, _, h1, h2, h3⟩ := h
  intro k hk
  simp only [List.mem_cons, Option.mem_toList] at hk
  rcases hk with rfl | rfl | hk
  · exact h1.lt
  · exact h2.lt
  · exact (h3.lt k hk).2
theorem DiskAt.same {w w' : World} {p : Nat} {D : Disk} {F : List Nat} (h : DiskAt w p D F) (hs : ∀ k ∈ F, w'.heap[k]? = w.heap[k]?) : DiskAt w' p D F := by
  obtain ⟨h0, gd, vp, rfl, hn, h1, h2, h3⟩ := h
  refine ⟨h0, gd, vp, rfl, hn, (hs p (by simp)).trans h1, (hs gd (by simp)).trans h2, h3.1, ?_⟩
  rcases h3.2 with h4 | ⟨g, cap, cur, rfl, hb, hg, h5⟩
  · exact .inl h4
  · exact .inr ⟨g, cap, cur, rfl, hb, (hs g (by simp [Value.ownBlock])).trans hg, h5⟩
theorem DiskAt.only {w w' : World} {p : Nat} {D : Disk} {F G : List Nat} (h : DiskAt w p D F) (hs : Only G w w') (hd : ∀ k ∈ F, k ∉ G) : DiskAt w' p D F :=
  h.same (fun k hk => hs.block k (h.lt k hk) (hd k hk))
theorem DiskAt.ext {w w' : World} {p : Nat} {D : Disk} {F : List Nat} (h : DiskAt w p D F) (hs : Ext w w') : DiskAt w' p D F :=
  h.same (fun k hk => hs.block k (h.lt k hk))

theorem ret_bool {b c : Bool} (h : b = c) : Ending.returned (.bool b) = .returned (.bool c) := by rw [h]
theorem ret_val {v u : Value} (h : v = u) : Ending.returned v = .returned u := by rw [h]

set_option maxHeartbeats 1000000 in
theorem diskHas (w : World) (p : Nat) (D : Disk) (F : List Nat) (at_ n : Int) (hD : DiskAt w p D F) (ha : -9223372036854775808 ≤ at_ ∧ at_ ≤ 9223372036854775807) :
    Calls Try.prog 44 #[.pointer (some ⟨p, 0, none⟩), .int .i64 at_, .int .i64 n] w fun e w' => e = .returned (.bool (D.has at_ n)) ∧ w = w' := by
  obtain ⟨hok, gd, vp, rfl, _, h1, _, _⟩ := hD
  have hm := hok.max
  have hc : w.cell? ⟨p, 0, none⟩ = some (.slice (some ⟨gd, 0, none⟩) D.dur.length D.dur.length) := by rw [h1.cell]; rfl
  have hv : Hid (∀ b, D.has at_ n = b ↔ (decide (1 ≤ n) && decide (0 ≤ at_) && decide (at_ < D.dur.length) && decide (n ≤ D.dur.length - at_)) = b) := fun b => Iff.rfl
  clear h1
  generalize D.dur.length = L at *
  generalize D.has at_ n = B at *
  by_cases c1 : 1 ≤ n
  · by_cases c2 : 0 ≤ at_
    · by_cases c3 : at_ < L
      · by_cases c4 : n ≤ L - at_
        · go_enter Try.func44, Try.ntmps44
          go_wp2_with fail
          go_ret
          exact ⟨ret_bool ((hv.out true).2 (by simp [c1, c2, c3, c4])).symm, rfl⟩
        · go_enter Try.func44, Try.ntmps44
          go_wp2_with fail
          go_ret
          exact ⟨ret_bool ((hv.out false).2 (by simp [c1, c2, c3, c4])).symm, rfl⟩
      · go_enter Try.func44, Try.ntmps44
        go_wp2_with fail
        go_ret
        exact ⟨ret_bool ((hv.out false).2 (by simp; omega)).symm, rfl⟩
    · go_enter Try.func44, Try.ntmps44
      go_wp2_with fail
      go_ret
      exact ⟨ret_bool ((hv.out false).2 (by simp; omega)).symm, rfl⟩
  · go_enter Try.func44, Try.ntmps44
    go_wp2_with fail
    go_ret
    exact ⟨ret_bool ((hv.out false).2 (by simp; omega)).symm, rfl⟩

/-- the receiver's cells -/
theorem DiskAt.cells {w : World} {p : Nat} {D : Disk} {F : List Nat} (h : DiskAt w p D F) : ∃ gd vp, w.cell? ⟨p, 0, none⟩ = some (.slice (some ⟨gd, 0, none⟩) D.dur.length D.dur.length) ∧ w.cell? ⟨p, 1, none⟩ = some vp ∧ w.cell? ⟨p, 2, none⟩ = some (.int .i64 D.left) ∧ ∀ k, w.frozen? ⟨p, k, none⟩ = false := by
  obtain ⟨_, gd, vp, _, _, h1, _, _⟩ := h
  exact ⟨gd, vp, by rw [h1.cell]; rfl, by rw [h1.cell]; rfl, by rw [h1.cell]; rfl, fun k => h1.free k⟩
/-- another count of calls -/
theorem DiskAt.setLeft {w : World} {p : Nat} {D : Disk} {F : List Nat} (h : DiskAt w p D F) (n : Int) (hn : -1 ≤ n ∧ n ≤ 9223372036854775807) : DiskAt (w.setCell ⟨p, 2, none⟩ (.int .i64 n)) p { D with left := n } F ∧ Only F w (w.setCell ⟨p, 2, none⟩ (.int .i64 n)) := by
  obtain ⟨h0, gd, vp, rfl, hnd, h1, h2, h3⟩ := h
  have hw : w.setCell ⟨p, 2, none⟩ (.int .i64 n) = setBlk w p [.slice (some ⟨gd, 0, none⟩) D.dur.length D.dur.length, vp, .int .i64 n] := setCell_eq_setRow w p 2 _ _ (0, 0) _ h1
  have ho : ∀ k, k ≠ p → (w.setCell ⟨p, 2, none⟩ (.int .i64 n)).heap[k]? = w.heap[k]? := fun k hk => by rw [hw]; exact setRow_other _ _ _ _ hk
  have hnd' := hnd
  simp only [List.nodup_cons, List.mem_cons, Option.mem_toList, not_or] at hnd'
  refine ⟨⟨⟨h0.dur, h0.pos, h0.max, h0.pend, hn.1, hn.2⟩, gd, vp, rfl, hnd, ?_, (ho gd (fun e => hnd'.1.1 e.symm)).trans h2, h3.1, ?_⟩, ?_⟩
  · rw [hw]; exact h1.set _
  · rcases h3.2 with h4 | ⟨g, cap, cur, rfl, hb, hg, h5⟩
    · exact .inl h4
    · exact .inr ⟨g, cap, cur, rfl, hb, (ho g (fun e => hnd'.1.2 (by simp [Value.ownBlock, e]))).trans hg, h5⟩
  · rw [hw]; exact (Only.refl _ _).setBlk (.inl (by simp)) _

set_option maxHeartbeats 1000000 in
theorem diskCall (w : World) (p : Nat) (D : Disk) (F : List Nat) (hD : DiskAt w p D F) :
    Calls Try.prog 45 #[.pointer (some ⟨p, 0, none⟩)] w fun e w' => e = .returned (.bool (D.left != 0)) ∧ DiskAt w' p D.tick F ∧ Only F w w' := by
  obtain ⟨gd, vp, hc0, hc1, hc2, hfz⟩ := hD.cells
  have hl1 := hD.1.left1
  have hl2 := hD.1.left2
  have hfz2 := hfz 2
  by_cases hz : D.left = 0
  · have ht : D.tick = D := by cases D; simp_all [Disk.tick]
    have hb : (D.left != 0) = false := by simp [hz]
    rw [ht, hb]
    rw [hz] at hc2
    have hDH := Lib.hid hD
    clear hD hfz ht hb hz
    go_enter Try.func45, Try.ntmps45
    go_wp2_with fail
    go_ret
    exact ⟨rfl, hDH.out, Only.refl _ _⟩
  · have hb : (D.left != 0) = true := by simp [hz]
    have hz0 : (D.left == 0) = false := by simp [hz]
    rw [hb]
    by_cases hp : 0 < D.left
    · have ht : D.tick = { D with left := D.left - 1 } := by simp [Disk.tick, hp]
      have hst := Lib.hid (hD.setLeft (D.left - 1) (by omega))
      rw [ht]
      clear hD hfz ht hb hz
      generalize D.left = n at *
      go_enter Try.func45, Try.ntmps45
      go_wp2_with fail
      go_ret
      exact ⟨rfl, hst.out.1, hst.out.2⟩
    · have ht : D.tick = D := by unfold Disk.tick; rw [if_neg hp]
      have hDH := Lib.hid hD
      rw [ht]
      clear hD hfz ht hb hz
      generalize hn : D.left = n at *
      clear hn
      go_enter Try.func45, Try.ntmps45
      go_wp2_with fail
      go_ret
      exact ⟨rfl, hDH.out, Only.refl _ _⟩

def zsec : Value := .agg (List.replicate 64 (Value.int .u8 0)).toArray
theorem zeroSec : (Try.prog.info? 90).map (fun i => (i.zero, i.size, i.bytes)) = some (some zsec, 64, 64) := by kernel_rfl
theorem madeCells_same (v : Value) (n k : Nat) (hk : 0 < k) : (madeCells (List.replicate k v).toArray n).toList = List.replicate n v := by
  unfold madeCells
  apply List.ext_getElem
  · simp
  · intro i h1 h2
    have : i % k < k := Nat.mod_lt _ hk
    simp [this]
theorem durCells_zero (n : Nat) : durCells (List.replicate n (List.replicate 64 0)) = List.replicate (n * 64) (Value.int .u8 0) := by
  unfold durCells
  induction n with
  | zero => simp
  | succ n ih => rw [List.replicate_succ, List.map_cons, List.flatten_cons, ih, Nat.succ_mul, Nat.add_comm, ← List.replicate_append_replicate]; simp [B8]

set_option maxHeartbeats 1000000 in
theorem diskNewBad (w : World) (n : Int) (h : n < 1 ∨ 65536 < n) : Calls Try.prog 21 #[.int .i64 n] w fun e w' => e = .returned (.tuple #[.pointer none, .int .i64 2]) ∧ w = w' := by
  by_cases h1 : n < 1
  · clear h
    go_enter Try.func21, Try.ntmps21
    go_wp2_with fail
    go_ret2
    exact ⟨rfl, rfl⟩
  · have h2 : 65536 < n := by omega
    clear h
    go_enter Try.func21, Try.ntmps21
    go_wp2_with fail
    go_ret2
    exact ⟨rfl, rfl⟩

set_option maxRecDepth 100000 in
set_option maxHeartbeats 1000000 in
theorem diskNew (w : World) (n : Nat) (h1 : 1 ≤ n) (h2 : n ≤ 65536) :
    Calls Try.prog 21 #[.int .i64 n] w fun e w' => ∃ p F, e = .returned (.tuple #[.pointer (some ⟨p, 0, none⟩), .int .i64 0]) ∧ DiskAt w' p (Disk.zero n) F ∧ Ext w w' ∧ ∀ k ∈ F, w.heap.size ≤ k := by
  obtain ⟨i0, hi, hz0, hz1, hz2⟩ := info_parts zeroSec
  have hi' := Lib.hid hi
  have hz0' := Lib.hid hz0
  have hz1' := Lib.hid hz1
  have hz2' := Lib.hid hz2
  clear hi hz0 hz1 hz2
  go_enter Try.func21, Try.ntmps21
  go_wp2_with (at_make; refine wpList_make_full _ rfl _ _ 84 rfl w.heap.size 90 i0 zsec 64 Try.underlying84 hi'.out hz0'.out hz1'.out .i64 .i64 _ _ n rfl rfl rfl rfl (by rw [hz2'.out]; omega) (by unfold maxLen; omega) (Nat.le_refl _) ?_)
  rename_i x cs heq
  intro w1 hown hgrow
  have hcs : (madeCells cs (n * 64)).toList = durCells (List.replicate n (List.replicate 64 0)) := by
    have : cs = (List.replicate 64 (Value.int .u8 0)).toArray := by
      unfold zsec at heq
      exact (Value.agg.inj heq).symm
    rw [this, durCells_zero]
    exact madeCells_same _ _ 64 (by omega)
  rw [hcs] at hown
  have hext : Ext w w1 := (Below.refl _ _).grown hgrow (Nat.le_refl _) (fun k hk => by cases hk)
  have hblk : Blk w1 w.heap.size (durCells (List.replicate n (List.replicate 64 0))) 90 := by
    rcases hown.2 with ⟨h, _⟩ | ⟨g, cap, cur, h, _, hg, h3, _, h5, h6⟩
    · simp at h
    · simp only [Value.slice.injEq, Option.some.injEq, Addr.mk.injEq, and_true, true_and] at h
      obtain ⟨rfl, rfl⟩ := h
      rw [List.take_of_length_le (by rw [Array.length_toList, h5]; exact Nat.le_refl _)] at h6
      rw [← h6]
      simpa using hg
  have hlt := hblk.lt
  have hblkH := Lib.hid hblk
  have hexH := Lib.hid hext
  clear hown hgrow heq hcs hblk hext
  go_wp2_with fail
  go_ret2
  refine ⟨w1.heap.size, [w1.heap.size, w.heap.size], rfl, ⟨Disk.zero_ok h1 h2, w.heap.size, .slice none 0 0, rfl, ?_, ?_, ?_, ?_⟩, hexH.out.alloc hexH.out.size _, ?_⟩
  · simp; omega
  · have := blk_new w1 [.slice (some ⟨w.heap.size, 0, none⟩) n n, .slice none 0 0, .int .i64 (-1)] 87
    simpa [Disk.zero] using this
  · exact hblkH.out.ext ((Below.refl _ _).alloc (Nat.le_refl _) _)
  · exact World.ownsRow_nil _ _ _ _
  · intro k hk
    have := hexH.out.size
    simp at hk
    omega
end Go.Proofs.Ytkannfkjnohdlaa
/- disk.Write -/
namespace Go.Proofs.Ytkannfkjnohdlaa
open Go.RowKit Go.Pm

/-- sixty-four zero bytes -/
def z64 : List Value := List.replicate 64 (.int .u8 0)
theorem z64_len : z64.length = 64 := by unfold z64; simp
theorem z64_b8 : z64 = (List.replicate 64 (0 : UInt8)).map B8 := by unfold z64; simp [B8]
theorem z64_drop (k : Nat) : z64.drop k = List.replicate (64 - k) (.int .u8 0) := by unfold z64; rw [List.drop_replicate]
theorem buildW (x : Int) (w : World) : (Instr.build 92 #[(0, .int .i64 x)]).run Try.prog w = .ok (.agg (.int .i64 x :: z64).toArray) w := by kernel_rfl
theorem allocW (w : World) : (Instr.alloc 92 true (.tuple #[])).run Try.prog w = .ok (.pointer (some ⟨w.heap.size, 0, none⟩)) (w.alloc (.cells (.int .i64 0 :: z64).toArray 92)) := by kernel_rfl
theorem wideW : Wide Try.prog 92 65 := ⟨fun w => by kernel_rfl, by kernel_rfl⟩
theorem wideS : Wide Try.prog 90 64 := ⟨fun w => by kernel_rfl, by kernel_rfl⟩
theorem faW0 (b off : Nat) (w : World) : (Instr.fieldAt 92 (.pointer (some ⟨b, off, none⟩)) 0).run Try.prog w = .ok (.pointer (some ⟨b, off, none⟩)) w := by kernel_rfl
theorem faW1 (b off : Nat) (w : World) : (Instr.fieldAt 92 (.pointer (some ⟨b, off, none⟩)) 1).run Try.prog w = .ok (.pointer (some ⟨b, off + 1, none⟩)) w := by kernel_rfl
theorem faD0 (b off : Nat) (w : World) : (Instr.fieldAt 87 (.pointer (some ⟨b, off, none⟩)) 0).run Try.prog w = .ok (.pointer (some ⟨b, off, none⟩)) w := by kernel_rfl
theorem faD1 (b off : Nat) (w : World) : (Instr.fieldAt 87 (.pointer (some ⟨b, off, none⟩)) 1).run Try.prog w = .ok (.pointer (some ⟨b, off + 1, none⟩)) w := by kernel_rfl
theorem faD2 (b off : Nat) (w : World) : (Instr.fieldAt 87 (.pointer (some ⟨b, off, none⟩)) 2).run Try.prog w = .ok (.pointer (some ⟨b, off + 2, none⟩)) w := by kernel_rfl
theorem slS (b off : Nat) (w : World) : (Instr.sliceAt 90 (.pointer (some ⟨b, off, none⟩)) none none none).run Try.prog w = .ok (.slice (some ⟨b, off, none⟩) 64 64) w := by kernel_rfl
theorem naP (w : World) : (isAgg 85).run Try.prog w = .ok false w := by kernel_rfl
theorem naI (w : World) : (isAgg 3).run Try.prog w = .ok false w := by kernel_rfl
theorem naS (w : World) : (isAgg 84).run Try.prog w = .ok false w := by kernel_rfl
theorem elemW : Elem Try.prog 85 92 (.agg (.int .i64 0 :: z64).toArray) 65 72 := ⟨Try.underlying85, info_parts (by kernel_rfl), by unfold z64; simp [Value.cells], by decide⟩

theorem nsec_int (l : List UInt8) : ((l.length : Int) + 64 - 1) / 64 = (Disk.nsec l : Int) := by unfold Disk.nsec; omega

set_option maxRecDepth 100000 in
set_option maxHeartbeats 1000000 in
theorem diskWriteBad (w : World) (p : Nat) (D : Disk) (F : List Nat) (at_ : Int) (a : Option Addr) (n cap : Nat) (l : List UInt8) (hD : DiskAt w p D F) (ha : -9223372036854775808 ≤ at_ ∧ at_ ≤ 9223372036854775807) (hn : l.length = n) (hm : n ≤ 1000000000) (hh : D.has at_ (Disk.nsec l) = false) :
    Calls Try.prog 22 #[.pointer (some ⟨p, 0, none⟩), .int .i64 at_, .slice a n cap] w fun e w' => e = .returned (.int .i64 2) ∧ w = w' := by
  subst hn
  have hDH := Lib.hid hD
  have hns := Lib.hid (nsec_int l)
  have hhH := Lib.hid hh
  clear hD hh
  go_enter Try.func22, Try.ntmps22
  go_wp2_with fail
  rw [hns.out]
  refine (diskHas w p D F at_ _ hDH.out ha).mono ?_
  rintro e w' ⟨rfl, rfl⟩
  rw [hhH.out]
  go_wp2_with fail
  go_ret
  exact ⟨rfl, rfl⟩

set_option maxRecDepth 100000 in
set_option maxHeartbeats 1000000 in
theorem diskWriteOff (w : World) (p : Nat) (D : Disk) (F : List Nat) (at_ : Int) (a : Option Addr) (n cap : Nat) (l : List UInt8) (hD : DiskAt w p D F) (ha : -9223372036854775808 ≤ at_ ∧ at_ ≤ 9223372036854775807) (hn : l.length = n) (hm : n ≤ 1000000000) (hh : D.has at_ (Disk.nsec l) = true) (hl : D.left = 0) :
    Calls Try.prog 22 #[.pointer (some ⟨p, 0, none⟩), .int .i64 at_, .slice a n cap] w fun e w' => e = .returned (.int .i64 20) ∧ DiskAt w' p D F ∧ Only F w w' := by
  subst hn
  have hDH := Lib.hid hD
  have hns := Lib.hid (nsec_int l)
  have hhH := Lib.hid hh
  have ht : Hid (D.tick = D) := by show D.tick = D; unfold Disk.tick; rw [if_neg (by omega)]
  have hb : Hid ((D.left != 0) = false) := by show (D.left != 0) = false; simp [hl]
  clear hD hh hl
  go_enter Try.func22, Try.ntmps22
  go_wp2_with fail
  rw [hns.out]
  refine (diskHas w p D F at_ _ hDH.out ha).mono ?_
  rintro e w' ⟨rfl, rfl⟩
  rw [hhH.out]
  go_wp2_with fail
  refine (diskCall w p D F hDH.out).mono ?_
  rintro e w1 ⟨rfl, hD1, ho1⟩
  rw [hb.out]
  rw [ht.out] at hD1
  have hD1 := Lib.hid hD1
  have ho1 := Lib.hid ho1
  go_wp2_with fail
  go_ret
  exact ⟨rfl, hD1.out, ho1.out⟩

/-- what copy brings over, and what the write's cells are then -/
theorem copyCells (l : List UInt8) (i n' : Nat) (hn : (l.drop (64 * i)).length = n') : ∃ cs : List Value, cs = ((l.drop (64 * i)).map B8).take 64 ∧ cs.length = Nat.min n' 64 ∧ cs ++ z64.drop cs.length = (Disk.sector l i).map B8 ∧ cs.length ≤ n' := by
  refine ⟨_, rfl, by simp [← hn, Nat.min_comm], ?_, by simp [← hn]; omega⟩
  unfold Disk.sector Disk.pad
  rw [← List.map_take, List.map_append, List.length_map, z64_drop, List.map_replicate]
  rfl


set_option maxRecDepth 100000 in
/-- b[k:] of bytes -/
theorem run_from {w W : World} {S : Nat → Prop} {a : Option Addr} {n c : Nat} {l : List UInt8} (k : Nat) (hn : l.length = n) (hok : SliceOk a n c) (hb : Bytes w S a l) (hk : k ≤ n) :
    ∃ a', (Instr.sliceAt 24 (.slice a n c) (some (.int .i64 (k : Int))) none none).run Try.prog W = .ok (.slice a' (n - k) (c - k)) W ∧ SliceOk a' (n - k) (c - k) ∧ Bytes w S a' (l.drop k) := by
  have hs : ∀ w, (sizeOf (Try.prog.elem 24)).run Try.prog w = .ok 1 w := fun w => by kernel_rfl
  have hle := hok.le
  have hmx := hok.max
  refine ⟨if c = k then a else a.map (·.add (k * 1)), ?_, ⟨by omega, by omega, ?_⟩, ?_⟩
  · rw [run_sliceAt_slice W _ _ _ _ _ Try.underlying24, run_slice_l W _ a n c Try.underlying24 .i64 k (by omega) (by omega), hs]
    simp [sliced, Result.andThen]
  · split
    · intro h; omega
    · intro h
      have := hok.nil (by simpa using h)
      omega
  · intro i hi
    have hi' : k + i < l.length := by simp at hi; omega
    obtain ⟨b, off, h1, h2, h3⟩ := hb (k + i) hi'
    rw [if_neg (by omega)]
    subst h1
    refine ⟨b, off + k, ?_, h2, by rw [Nat.add_assoc, h3]; simp⟩
    have : (⟨b, off, none⟩ : Addr).add (k * 1) = ⟨b, off + k, none⟩ := by unfold Addr.add; split <;> simp_all
    rw [Option.map_some, this]

theorem pendCells_snoc (l : List (Nat × List UInt8)) (x : Nat × List UInt8) : pendCells (l ++ [x]) = pendCells l ++ wrCells x := by simp [pendCells]
theorem wrCells_one (x : Nat × List UInt8) : ∀ v ∈ wrCells x, v.oneCell' = true := by
  intro v hv
  simp only [wrCells, List.mem_cons] at hv
  rcases hv with rfl | hv
  · rfl
  · exact oneCell_bytes _ v hv

/-- the disk's parts, named -/
structure DiskParts (w : World) (p : Nat) (D : Disk) (F : List Nat) (gd : Nat) (vp : Value) : Prop where
  ok : D.Ok
  eqF : F = p :: gd :: (Value.ownBlock vp).toList
  nd : F.Nodup
  blk : Blk w p [.slice (some ⟨gd, 0, none⟩) D.dur.length D.dur.length, vp, .int .i64 D.left] 87
  dur : Blk w gd (durCells D.dur) 90
  pend : w.ownsRow 0 92 65 vp D.pend.length (pendCells D.pend)
theorem DiskAt.parts {w : World} {p : Nat} {D : Disk} {F : List Nat} (h : DiskAt w p D F) : ∃ gd vp, DiskParts w p D F gd vp := by
  obtain ⟨h0, gd, vp, h1, h2, h3, h4, h5⟩ := h
  exact ⟨gd, vp, h0, h1, h2, h3, h4, h5⟩
theorem DiskParts.at {w : World} {p : Nat} {D : Disk} {F : List Nat} {gd : Nat} {vp : Value} (h : DiskParts w p D F gd vp) : DiskAt w p D F := ⟨h.ok, gd, vp, h.eqF, h.nd, h.blk, h.dur, h.pend⟩

theorem add_step {b : Bool} {X Y : Prop} (hb : b = false) (h : Y) : if b = true then X else Y := by rw [hb]; exact h
theorem mem_step {b : Bool} {X Y : Prop} (hb : b = true) (h : X) : if b = true then X else Y := by rw [hb]; exact h
/-- what holds while a write is pushed on: nothing done; appended; stored -/
def PushJ (W : World) (p : Nat) (D : Disk) (F : List Nat) (vp : Value) (x : Nat × List UInt8) : List Value → World → Prop
  | [], w => Ext W w
  | [v], w => w.ownsRow 0 92 65 v (D.pend.length + 1) (pendCells D.pend ++ wrCells x) ∧ Only vp.ownBlock.toList W w ∧ (v.ownBlock = vp.ownBlock ∨ ∃ b, v.ownBlock = some b ∧ W.heap.size ≤ b)
  | _, w => ∃ F', DiskAt w p { D with pend := D.pend ++ [x] } F' ∧ Only F W w ∧ ∀ k ∈ F', k ∈ F ∨ W.heap.size ≤ k
theorem only_then {F : List Nat} {a b c : World} (h : Only F a b) (k : Ext b c) : Only F a c := h.trans (Only.of_ext (F := []) k) (fun i _ hi => by simp at hi)
theorem pushJ_ext {W : World} {p : Nat} {D : Disk} {F : List Nat} {vp : Value} {x : Nat × List UInt8} : ∀ vals w w', PushJ W p D F vp x vals w → Ext w w' → PushJ W p D F vp x vals w'
  | [], w, w', h, he => h.tr he
  | [v], w, w', ⟨h1, h2, h3⟩, he => ⟨ownsRow_ext h1 he, only_then h2 he, h3⟩
  | _ :: _ :: _, w, w', ⟨F', h1, h2, h3⟩, he => ⟨F', h1.ext he, only_then h2 he, h3⟩
/-- one element in a block of its own -/
def rowSP (L : List Value) : SP := ⟨fun w v => ∃ b, v = .slice (some ⟨b, 0, none⟩) 1 1 ∧ ∃ t, Blk w b L t, fun _ _ _ he ⟨b, h1, t, h2⟩ => ⟨b, h1, t, h2.ext he⟩⟩
theorem blk_src {w : World} {b : Nat} {L : List Value} {t : TypeId} (h : Blk w b L t) : Src w (some ⟨b, 0, none⟩) L := fun i hi => ⟨b, 0, rfl, by rw [h.cell]; simp [hi]⟩

theorem pushAppend {W w : World} {p : Nat} {D : Disk} {F : List Nat} {gd : Nat} {vp : Value} {x : Nat × List UInt8} {ty : TypeId} (hD : DiskParts W p D F gd vp) (hx : x.2.length = 64) (hl : D.pend.length ≤ 2000000000) (hJ : PushJ W p D F vp x [] w) {v : Value} (hv : (rowSP (wrCells x)).p w v) :
    ∃ v' w', (Builtin.append_ #[85, 85] ty #[vp, v]).run Try.prog w = .ok v' w' ∧ PushJ W p D F vp x ([] ++ [v']) w' := by
  obtain ⟨b, rfl, t, hb⟩ := hv
  obtain ⟨v', w', hr, h1, h2, h3⟩ := run_append_src2 (ty := ty) elemW (ownsRow_ext hD.pend hJ) (ad := some ⟨b, 0, none⟩) (m := 1) (c := 1) (news := wrCells x) ⟨by omega, by unfold maxLen; omega, by simp⟩ (by simp [wrCells, hx]) (blk_src hb) (wrCells_one x) (by simp only [maxLen]; omega) (by omega)
  refine ⟨v', w', hr, h1, ?_, ?_⟩
  · exact (Only.of_ext (F := vp.ownBlock.toList) hJ).grown h2 (fun k hk => .inl (by simp [hk]))
  · rcases h3 with h3 | ⟨b', h3, h4⟩
    · exact .inl h3
    · exact .inr ⟨b', h3, Nat.le_trans hJ.size h4⟩

theorem pushStore {W w : World} {p : Nat} {D : Disk} {F : List Nat} {gd : Nat} {vp : Value} {x : Nat × List UInt8} (hD : DiskParts W p D F gd vp) (hx : x.1 < D.dur.length ∧ x.2.length = 64) {v : Value} (hJ : PushJ W p D F vp x [v] w) :
    ∃ w', (Instr.storeAt 85 (.pointer (some ⟨p, 0 + 1, none⟩)) v).run Try.prog w = .ok () w' ∧ PushJ W p D F vp x ([v] ++ [undef]) w' := by
  obtain ⟨h1, h2, h3⟩ := hJ
  have hF := hD.eqF
  have hnd := hD.nd
  subst hF
  have hnd' := hnd
  simp only [List.nodup_cons, List.mem_cons, Option.mem_toList, not_or] at hnd'
  have hp : Blk w p [.slice (some ⟨gd, 0, none⟩) D.dur.length D.dur.length, vp, .int .i64 D.left] 87 := hD.blk.only h2 (by simpa using hnd'.1.2)
  have hg : Blk w gd (durCells D.dur) 90 := hD.dur.only h2 (by simpa using hnd'.2.1)
  have hpl := hD.blk.lt
  have hgl := hD.dur.lt
  have hne : ∀ b, v.ownBlock = some b → b ≠ p ∧ b ≠ gd := by
    intro b hb
    rcases h3 with h3 | ⟨b', h3, h4⟩
    · rw [h3] at hb
      exact ⟨fun e => hnd'.1.2 (e ▸ hb), fun e => hnd'.2.1 (e ▸ hb)⟩
    · rw [h3] at hb
      simp only [Option.some.injEq] at hb
      omega
  refine ⟨setBlk w p [.slice (some ⟨gd, 0, none⟩) D.dur.length D.dur.length, v, .int .i64 D.left], ?_, p :: gd :: v.ownBlock.toList, ⟨?_, gd, v, rfl, ?_, hp.set _, hg.setOther (fun e => hnd'.1.1 e.symm) _, ?_⟩, ?_, ?_⟩
  · have hsz : v.cells = #[v] := by
      rcases h1.2 with ⟨rfl, _⟩ | ⟨g, cap, cur, rfl, _⟩ <;> rfl
    have h1c : v.oneCell' = true := by
      rcases h1.2 with ⟨rfl, _⟩ | ⟨g, cap, cur, rfl, _⟩ <;> rfl
    have hst := run_storeCells_at Try.prog p 1 87 [v] 0 _ w hp (by simp) (by simpa using h1c)
    have hz : (sizeOf 85).run Try.prog w = .ok 1 w := by kernel_rfl
    simp only [Instr.storeAt, Instr.sureAddr, storeVar]
    simp [hsz, hz]
    simpa using hst
  · have := hD.ok
    refine ⟨this.dur, this.pos, this.max, fun q hq => ?_, this.left1, this.left2⟩
    simp only [List.mem_append, List.mem_singleton] at hq
    rcases hq with hq | rfl
    · exact this.pend q hq
    · exact hx
  · simp only [List.nodup_cons, List.mem_cons, Option.mem_toList, not_or]
    refine ⟨⟨hnd'.1.1, fun e => (hne p e).1 rfl⟩, fun e => (hne gd e).2 rfl, ?_⟩
    cases v.ownBlock <;> simp
  · simp only [List.length_append, List.length_singleton, pendCells_snoc]
    exact ownsRow_only h1 ((Only.refl [p] w).setBlk (.inl (by simp)) _) (fun b hb => by simpa using (hne b hb).1)
  · exact (h2.mono (fun k _ hk => by simp at hk ⊢; exact .inr (.inr hk))).setBlk (.inl (by simp)) _
  · intro k hk
    simp only [List.mem_cons, Option.mem_toList] at hk ⊢
    rcases hk with rfl | rfl | hk
    · simp
    · simp
    · rcases h3 with h3 | ⟨b', h3, h4⟩
      · rw [h3] at hk; exact .inl (.inr (.inr hk))
      · rw [h3] at hk
        simp only [Option.some.injEq] at hk
        exact .inr (by omega)

set_option maxRecDepth 100000 in
set_option maxHeartbeats 400000 in
theorem diskWriteOk (w : World) (p : Nat) (D : Disk) (F : List Nat) (at_ : Nat) (a : Option Addr) (n cap : Nat) (l : List UInt8) (S : Nat → Prop) (hD : DiskAt w p D F) (hn : l.length = n) (hok : SliceOk a n cap) (hb : Bytes w S a l) (hS : ∀ k, S k → k < w.heap.size ∧ k ∉ F)
    (hh : D.has at_ (Disk.nsec l) = true) (hl : D.left ≠ 0) (hpl : D.pend.length ≤ 1000000000) :
    Calls Try.prog 22 #[.pointer (some ⟨p, 0, none⟩), .int .i64 (at_ : Int), .slice a n cap] w fun e w' => e = .returned (.int .i64 0) ∧ ∃ F', DiskAt w' p (D.write at_ l) F' ∧ Only F w w' ∧ ∀ k ∈ F', k ∈ F ∨ w.heap.size ≤ k := by
  subst hn
  have hfit : 1 ≤ Disk.nsec l ∧ at_ + Disk.nsec l ≤ D.dur.length := by
    simp only [Disk.has, Bool.and_eq_true, decide_eq_true_eq] at hh
    omega
  have hmx := hD.1.max
  have hm : l.length ≤ 10000000 := by unfold Disk.nsec at hfit; omega
  have hDH := Lib.hid hD
  have hns := Lib.hid (nsec_int l)
  have hhH := Lib.hid hh
  have hbH : Hid ((D.left != 0) = true) := by show (D.left != 0) = true; simp [hl]
  have hokH := Lib.hid hok
  have hbyH := Lib.hid hb
  have hSH := Lib.hid hS
  clear hD hh hl hb hok hS
  go_enter Try.func22, Try.ntmps22
  go_wp2_with fail
  rw [hns.out]
  refine (diskHas w p D F at_ _ hDH.out (by omega)).mono ?_
  rintro e w' ⟨rfl, rfl⟩
  rw [hhH.out]
  go_wp2_with fail
  refine (diskCall w p D F hDH.out).mono ?_
  rintro e w1 ⟨rfl, hD1, ho1⟩
  rw [hbH.out]
  have hD1 := Lib.hid hD1
  have ho1 := Lib.hid ho1
  go_wp2_with fail
  go_loopw [1, 2] (fun x b wr => ∃ (i : Nat) (a' : Option Addr) (n' c' : Nat) (Fi : List Nat), i ≤ Disk.nsec l ∧ x = .int .i64 ((at_ + i : Nat) : Int) ∧ b = .slice a' n' c' ∧ (l.drop (64 * i)).length = n' ∧ SliceOk a' n' c' ∧ Bytes w S a' (l.drop (64 * i)) ∧
      DiskAt wr p { D.tick with pend := D.pend ++ Disk.writesOf at_ l i } Fi ∧ Only F w wr ∧ ∀ k ∈ Fi, k ∈ F ∨ w.heap.size ≤ k) (fun x _ _ => at_ + Disk.nsec l - (intOf x).toNat)
  case atStart => exact ⟨0, a, l.length, cap, F, by omega, rfl, rfl, by simp, hokH.out, by simpa using hbyH.out, by simp only [Disk.writesOf, List.range_zero, List.map_nil, List.append_nil]; exact hD1.out, ho1.out, fun k hk => .inl hk⟩
  case round =>
    obtain ⟨i, a', n', c', Fi, hi, rfl, rfl, hn', hok', hby', hDi, hoi, hFi⟩ := hrel
    by_cases hlt : i < Disk.nsec l
    · have hnpos : 0 < n' := by rw [← hn']; simp [Disk.nsec] at hlt ⊢; omega
      have hnle : n' ≤ 10000000 := by rw [← hn']; simp; omega
      have hby2 := hby'.only hoi hSH.out
      -- the new write, in a block of its own
      obtain ⟨sec, hsec⟩ : ∃ sec, sec = Disk.sector l i := ⟨_, rfl⟩
      have hcells := copyCells l i n' hn'
      rw [← hsec] at hcells
      obtain ⟨cs, hcs1, hcs2, hcs3, hcs4⟩ := hcells
      have hsecl : sec.length = 64 := by rw [hsec]; exact Disk.sector_length l i
      have hW1 : Blk (wr.alloc (.cells (.int .i64 ((at_ + i : Nat) : Int) :: z64).toArray 92)) wr.heap.size ([.int .i64 ((at_ + i : Nat) : Int)] ++ z64.take cs.length ++ z64.drop cs.length) 92 := by
        rw [List.append_assoc, List.take_append_drop]; exact blk_new _ _ _
      have hsrc1 : Src (wr.alloc (.cells (.int .i64 ((at_ + i : Nat) : Int) :: z64).toArray 92)) a' cs := by
        rw [hcs1]
        exact fun j hj => (hby2.frame (w' := wr.alloc (.cells (.int .i64 ((at_ + i : Nat) : Int) :: z64).toArray 92)) (fun b hb => heap_old _ _ b (Nat.lt_of_lt_of_le (hSH.out b hb).1 hoi.size))).src.take _ j hj
      have hcopy := run_copy_mid (P := Try.prog) (dT := 24) (ty := 3) (dLen := 64) (dCap := 64) (sCap := c') Try.underlying24 (by kernel_rfl) hW1 1 rfl (by rw [List.length_take, z64_len, hcs2]; exact Nat.min_eq_left (Nat.min_le_right _ _)) hcs2 hok' hsrc1 (by rw [hcs1]; exact fun u hu => oneCell_bytes _ u (List.mem_of_mem_take hu))
      have hW2 : setBlk (wr.alloc (.cells (.int .i64 ((at_ + i : Nat) : Int) :: z64).toArray 92)) wr.heap.size ([.int .i64 ((at_ + i : Nat) : Int)] ++ cs ++ z64.drop cs.length) = wr.alloc (.cells (wrCells (at_ + i, sec)).toArray 92) := by
        unfold setBlk wrCells
        rw [World.setRow_alloc_new, List.append_assoc, hcs3]
        rfl
      rw [hW2] at hcopy
      have hst := run_store_mid (P := Try.prog) (t := 92) (b := wr.heap.size) (off := 0) (pre := []) (mid := .int .i64 0 :: z64) (post := []) (new := .int .i64 ((at_ + i : Nat) : Int) :: z64) (w := wr.alloc (.cells (.int .i64 0 :: z64).toArray 92)) (e := 92)
        (by rw [List.length_cons, z64_len]; exact wideW.size) (by simpa using blk_new wr (.int .i64 0 :: z64) 92) rfl rfl (by unfold z64; simp [Value.oneCell'])
      have hW1' : setBlk (wr.alloc (.cells (.int .i64 0 :: z64).toArray 92)) wr.heap.size ([] ++ (.int .i64 ((at_ + i : Nat) : Int) :: z64) ++ []) = wr.alloc (.cells (.int .i64 ((at_ + i : Nat) : Int) :: z64).toArray 92) := by
        unfold setBlk
        rw [World.setRow_alloc_new]
        simp
      rw [hW1'] at hst
      have hcl := hcs2
      have hstH := Lib.hid hst
      have hcopyH := Lib.hid hcopy
      have hDiH := Lib.hid hDi
      have hoiH := Lib.hid hoi
      have hFiH := Lib.hid hFi
      have hbyiH := Lib.hid hby'
      have hokiH := Lib.hid hok'
      have hn'H := Lib.hid hn'
      have hcs2H := Lib.hid hcs2
      have hsecH := Lib.hid hsec
      have hle64 : cs.length ≤ 64 := by rw [hcs2]; exact Nat.min_le_right _ _
      clear hst hcopy hDi hoi hFi hby' hok' hn' hcs1 hcs2 hcs3 hW1 hW2 hW1' hsrc1 hby2 hsec hcl
      go_upto_region 6 with (fail)
      refine wp_region_lit ?_
      refine wpl_ex rfl (ex_move (v := .int .i64 ((at_ + i : Nat) : Int)) rfl rfl) ?_
      refine wpl_ex rfl (ex_build1 rfl rfl (buildW _ _)) ?_
      refine wpl_ex rfl (ex_alloc rfl (allocW _)) ?_
      refine wpl_exU rfl (ex_store rfl rfl rfl hstH.out) ?_
      refine wpList_nil ?_
      simp only [Act.put, List.setIfInBounds_toArray, List.set_cons_succ, List.set_cons_zero]
      go_upto_region 7 with (fail)
      refine wp_region_lit ?_
      refine wpl_ex rfl (ex_field rfl rfl (faW1 _ _ _)) ?_
      refine wpl_ex rfl (ex_slice rfl rfl rfl rfl rfl (slS _ _ _)) ?_
      refine wpl_ex rfl (ex_move (v := .slice a' n' c') rfl rfl) ?_
      refine wpl_ex rfl (ex_copy rfl rfl rfl hcopyH.out) ?_
      refine wpl_ex rfl (ex_assign (v := .int .i64 (cs.length : Int)) rfl rfl) ?_
      refine wpList_nil ?_
      simp only [Act.put, List.setIfInBounds_toArray, List.set_cons_succ, List.set_cons_zero]
      go_upto_region 8 with (fail)
      obtain ⟨gd, vp, hDp⟩ := (hDiH.out.ext ((Below.refl wr.heap.size wr).alloc (Nat.le_refl _) (.cells (wrCells (at_ + i, sec)).toArray 92))).parts
      have hnb : Blk (wr.alloc (.cells (wrCells (at_ + i, sec)).toArray 92)) wr.heap.size (wrCells (at_ + i, sec)) 92 := blk_new _ _ _
      have hW2size : wr.heap.size ≤ (wr.alloc (.cells (wrCells (at_ + i, sec)).toArray 92)).heap.size := by simp
      have hoW2 := hoiH.out.alloc (.cells (wrCells (at_ + i, sec)).toArray 92)
      have hpl2 : (D.pend ++ Disk.writesOf at_ l i).length ≤ 1000000000 + 65536 := by simp [Disk.writesOf]; omega
      obtain ⟨Di, hDie⟩ : ∃ Di : Disk, Di = { D.tick with pend := D.pend ++ Disk.writesOf at_ l i } := ⟨_, rfl⟩
      rw [← hDie] at hDp
      have hDil : Di.pend.length ≤ 1000000000 + 65536 := by rw [hDie]; exact hpl2
      have hDid : at_ + i < Di.dur.length := by rw [hDie]; show at_ + i < D.dur.length; omega
      have hwl : (wrCells (at_ + i, sec)).length = 65 := by simp [wrCells, hsecl]
      obtain ⟨x, hx⟩ : ∃ x, x = (at_ + i, sec) := ⟨_, rfl⟩
      rw [← hx] at hDp hnb hW2size hoW2 hwl ⊢
      generalize wr.alloc (.cells (wrCells x).toArray 92) = W2 at *
      have hc1 : ∀ w, Ext W2 w → w.cell? ⟨p, 0 + 1, none⟩ = some vp := fun w he => by rw [(hDp.blk.ext he).cell]; rfl
      refine wp_region_chain mixed [SP.eq (.pointer (some ⟨p, 0, none⟩)), SP.eq (.pointer (some ⟨p, 0, none⟩)), SP.eq (.pointer (some ⟨p, 0, none⟩)), SP.eq (.pointer (some ⟨p, 0 + 1, none⟩)), SP.eq vp, SP.eq (.agg (wrCells x).toArray), rowSP (wrCells x),
        SP.any, SP.eq (.pointer (some ⟨p, 0, none⟩)), SP.eq (.pointer (some ⟨p, 0 + 1, none⟩)), SP.any] [7, 10] (PushJ W2 p Di Fi vp x) 45 rfl (by kernel_rfl) (Ext.rfl' _) pushJ_ext ⟨?_, ?_, ?_, ?_, ?_, ?_, ?_, ?_, ?_, ?_, ?_, trivial⟩ ?_
      · exact fun a w vals hJ hR => add_step rfl (Ex.adds' (ex_move rfl (hR.keep 0 rfl)) rfl rfl)
      · exact fun a w vals hJ hR => add_step rfl (Ex.adds' (ex_move rfl (hR.keep 0 rfl)) rfl rfl)
      · exact fun a w vals hJ hR => add_step rfl (Ex.adds' (ex_nil rfl (hR.pred 1 31 rfl rfl rfl rfl)) rfl rfl)
      · exact fun a w vals hJ hR => add_step rfl (Ex.adds' (ex_field rfl (hR.pred 2 32 rfl rfl rfl rfl) (faD1 _ _ _)) rfl rfl)
      · intro a w vals hJ hR
        obtain rfl : vals = [] := List.eq_nil_of_length_eq_zero (Nat.le_zero.1 (hR.hi 7 (by simp) rfl))
        exact add_step rfl (Ex.adds' (ex_load rfl (hR.pred 3 33 rfl rfl rfl rfl) (run_load1 naP (hc1 w hJ))) rfl rfl)
      · intro a w vals hJ hR
        obtain rfl : vals = [] := List.eq_nil_of_length_eq_zero (Nat.le_zero.1 (hR.hi 7 (by simp) rfl))
        refine add_step rfl (Ex.adds' (ex_load rfl (hR.keep 7 rfl) (run_load_mid (pre := []) (post := []) (mid := wrCells x) (by rw [hwl]; exact wideW) (by simpa using hnb.ext hJ) rfl)) rfl rfl)
      · intro a w vals hJ hR
        exact add_step rfl (Ex.adds (ex_row1 rfl (hR.pred 5 35 rfl rfl rfl rfl) (run_row1 elemW (wrCells x) hwl (by omega))) rfl ((Below.refl _ _).alloc (Nat.le_refl _) _) ⟨w.heap.size, rfl, _, blk_new _ _ _⟩)
      · refine fun a w vals hJ hR => mem_step rfl fun hvl => ?_
        obtain rfl : vals = [] := List.eq_nil_of_length_eq_zero hvl
        obtain ⟨v', w', hr, hJ'⟩ := pushAppend (ty := 85) hDp (by rw [hx]; exact hsecl) (by omega) hJ (hR.pred 6 36 rfl rfl rfl rfl)
        exact Ex.mem (ex_append rfl (hR.pred 4 34 rfl rfl rfl rfl) rfl hr) rfl hJ'
      · exact fun a w vals hJ hR => add_step rfl (Ex.adds' (ex_nil rfl (hR.old 0 30 rfl rfl rfl).choose_spec) rfl rfl)
      · exact fun a w vals hJ hR => add_step rfl (Ex.adds' (ex_field rfl (hR.pred 8 38 rfl rfl rfl rfl) (faD1 _ _ _)) rfl rfl)
      · refine fun a w vals hJ hR => mem_step rfl fun hvl => ?_
        obtain ⟨v', rfl⟩ : ∃ v', vals = [v'] := by
          match vals, hvl with
          | [v], _ => exact ⟨v, rfl⟩
        obtain ⟨w', hr, hJ'⟩ := pushStore hDp (by rw [hx]; exact ⟨hDid, hsecl⟩) hJ
        exact ExU.mem (ex_store rfl (hR.pred 9 39 rfl rfl rfl rfl) (hR.val 7 37 rfl rfl rfl) hr) rfl hJ'
      · intro vs w3 vals hlen hvl hJ hF
        obtain ⟨F3, hD3, ho3, hF3⟩ : ∃ F', DiskAt w3 p { Di with pend := Di.pend ++ [x] } F' ∧ Only Fi W2 w3 ∧ ∀ k ∈ F', k ∈ Fi ∨ W2.heap.size ≤ k := by
          match vals, hvl with
          | [v1, v2], _ => exact hJ
        clear hF hJ hc1
        obtain ⟨v0, vs0, rfl, hl0⟩ := len_succ (n := 10) hlen
        obtain ⟨v1, vs1, rfl, hl1⟩ := len_succ (n := 9) hl0
        obtain ⟨v2, vs2, rfl, hl2⟩ := len_succ (n := 8) hl1
        obtain ⟨v3, vs3, rfl, hl3⟩ := len_succ (n := 7) hl2
        obtain ⟨v4, vs4, rfl, hl4⟩ := len_succ (n := 6) hl3
        obtain ⟨v5, vs5, rfl, hl5⟩ := len_succ (n := 5) hl4
        obtain ⟨v6, vs6, rfl, hl6⟩ := len_succ (n := 4) hl5
        obtain ⟨v7, vs7, rfl, hl7⟩ := len_succ (n := 3) hl6
        obtain ⟨v8, vs8, rfl, hl8⟩ := len_succ (n := 2) hl7
        obtain ⟨v9, vs9, rfl, hl9⟩ := len_succ (n := 1) hl8
        obtain ⟨v10, vs10, rfl, hl10⟩ := len_succ (n := 0) hl9
        obtain rfl := List.eq_nil_of_length_eq_zero hl10
        clear hlen hl0 hl1 hl2 hl3 hl4 hl5 hl6 hl7 hl8 hl9 hl10
        simp only [putAll, Act.put, List.setIfInBounds_toArray, List.set_cons_succ, List.set_cons_zero]
        obtain ⟨a2, hcut, hok2, hby2⟩ := run_from (W := w3) cs.length hn'H.out hokiH.out hbyiH.out hcs4
        go_upto_region 9 with (fail)
        refine wp_region_lit ?_
        refine wpl_ex rfl (ex_move (v := .slice a' n' c') rfl rfl) ?_
        refine wpl_ex rfl (ex_move (v := .int .i64 (cs.length : Int)) rfl rfl) ?_
        refine wpl_ex rfl (ex_slice rfl rfl rfl rfl rfl hcut) ?_
        refine wpl_ex rfl (ex_assign (v := .slice a2 (n' - cs.length) (c' - cs.length)) rfl rfl) ?_
        refine wpList_nil ?_
        simp only [Act.put, List.setIfInBounds_toArray, List.set_cons_succ, List.set_cons_zero]
        go_wp2_with fail
        have hcs2 := hcs2H.out
        have hn' := hn'H.out
        have hmn : cs.length = min n' 64 := hcs2
        have hlen : (l.drop (64 * (i + 1))).length = n' - cs.length := by rw [List.length_drop] at hn' ⊢; omega
        have hdrop : (l.drop (64 * i)).drop cs.length = l.drop (64 * (i + 1)) := by
          rw [List.drop_drop]
          by_cases h64 : 64 ≤ n'
          · rw [show cs.length = 64 by omega, Nat.mul_succ]
          · rw [List.drop_eq_nil_of_le (by rw [List.length_drop] at hn'; omega), List.drop_eq_nil_of_le (by rw [List.length_drop] at hn'; omega)]
        have hFi := hFiH.out
        have hsec := hsecH.out
        refine ⟨⟨i + 1, a2, n' - cs.length, c' - cs.length, F3, by omega, by simp; omega, rfl, hlen, hok2, by rw [← hdrop]; exact hby2, ?_, ?_, ?_⟩, ?_⟩
        · have e : ({ Di with pend := Di.pend ++ [x] } : Disk) = { D.tick with pend := D.pend ++ Disk.writesOf at_ l (i + 1) } := by
            rw [hDie, hx, hsec]
            simp [Disk.writesOf, List.range_succ]
          rw [← e]; exact hD3
        · exact hoW2.trans ho3 (fun j hj hjf => by rcases hFi j hjf with h | h; exact h; omega)
        · intro k hk
          have := hoiH.out.size
          rcases hF3 k hk with h | h
          · exact hFi k h
          · exact .inr (by omega)
        · simp only [intOf]
          omega
    · obtain rfl : i = Disk.nsec l := by omega
      have hn0 : n' = 0 := by rw [← hn']; simp [Disk.nsec]; omega
      subst hn0
      have hDi := Lib.hid hDi
      have hoi := Lib.hid hoi
      have hFi := Lib.hid hFi
      clear hn' hok' hby'
      go_wp2_with fail
      go_ret
      exact ⟨rfl, Fi, hDi.out, hoi.out, hFi.out⟩
end Go.Proofs.Ytkannfkjnohdlaa
