/- One operation's run, by its kind, with the values told; and the operations that turn memory, over what is one's own. -/
import Derived.Test.YtffmbdagjpdieaaGreatDoorSl
import Derived.IntWalk
namespace Go.Pm
open Go.RowKit

theorem then_normal {X : Act → World → Prop} {Q : Exit → Act → World → Prop} {a : Act} {w : World} (h : X a w) : Exit.then X Q .normal a w := h
theorem then_exit {X : Act → World → Prop} {Q : Exit → Act → World → Prop} {a : Act} {w : World} {id : Nat} (h : Q (.exit id) a w) : Exit.then X Q (.exit id) a w := h
theorem then_ret {X : Act → World → Prop} {Q : Exit → Act → World → Prop} {a : Act} {w : World} (h : Q .ret a w) : Exit.then X Q .ret a w := h
theorem blk_normal {id : Nat} {Q : Exit → Act → World → Prop} {a : Act} {w : World} (h : Q .normal a w) : Exit.inBlock id Q .normal a w := h
theorem blk_hit {id : Nat} {Q : Exit → Act → World → Prop} {a : Act} {w : World} (h : Q .normal a w) : Exit.inBlock id Q (.exit id) a w := by simp only [Exit.inBlock, if_true]; exact h
theorem blk_miss {id j : Nat} {Q : Exit → Act → World → Prop} {a : Act} {w : World} (hn : (j == id) = false) (h : Q (.exit j) a w) : Exit.inBlock id Q (.exit j) a w := by
  have : j ≠ id := by simpa using hn
  simp only [Exit.inBlock, this, if_false]; exact h
theorem blk_ret {id : Nat} {Q : Exit → Act → World → Prop} {a : Act} {w : World} (h : Q .ret a w) : Exit.inBlock id Q .ret a w := h

theorem i64_in {n : Int} (h : -9223372036854775808 ≤ n ∧ n ≤ 9223372036854775807) : IntKind.i64.wrap n = n := IntWalk.i64_in n h
theorem u8_in {n : Int} (h : 0 ≤ n ∧ n ≤ 255) : IntKind.u8.wrap n = n := by
  have : IntKind.wrap .u8 n = n % 256 := by simp [IntKind.wrap, IntKind.signed, IntKind.bits]
  rw [this]; omega
theorem u32_in {n : Int} (h : 0 ≤ n ∧ n ≤ 4294967295) : IntKind.u32.wrap n = n := by
  have : IntKind.wrap .u32 n = n % 4294967296 := by simp [IntKind.wrap, IntKind.signed, IntKind.bits]
  rw [this]; omega
theorem u64_in {n : Int} (h : 0 ≤ n ∧ n ≤ 18446744073709551615) : IntKind.u64.wrap n = n := by
  have : IntKind.wrap .u64 n = n % 18446744073709551616 := by simp [IntKind.wrap, IntKind.signed, IntKind.bits]
  rw [this]; omega

section
variable {P : Program} {a : Act} {w w' : World} {o : Oper} {v : Value} {x y z : Operand} {t u : TypeId} {p q r : Value} {k : IntKind} {m n : Int} {b : Bool}
theorem ex_lss (ho : o.op = .binOp .lss t x y u) (hx : a.eval x = .int k m) (hy : a.eval y = .int k n) (hb : decide (m < n) = b) : Ex P a o w (.bool b) w := by
  subst hb; unfold Ex; simp [execOp, ho, hx, hy, eqGuard, binOp, Op.intCmp]
theorem ex_leq (ho : o.op = .binOp .leq t x y u) (hx : a.eval x = .int k m) (hy : a.eval y = .int k n) (hb : decide (m ≤ n) = b) : Ex P a o w (.bool b) w := by
  subst hb; unfold Ex; simp [execOp, ho, hx, hy, eqGuard, binOp, Op.intCmp]
theorem ex_gtr (ho : o.op = .binOp .gtr t x y u) (hx : a.eval x = .int k m) (hy : a.eval y = .int k n) (hb : decide (m > n) = b) : Ex P a o w (.bool b) w := by
  subst hb; unfold Ex; simp [execOp, ho, hx, hy, eqGuard, binOp, Op.intCmp]
theorem ex_geq (ho : o.op = .binOp .geq t x y u) (hx : a.eval x = .int k m) (hy : a.eval y = .int k n) (hb : decide (m ≥ n) = b) : Ex P a o w (.bool b) w := by
  subst hb; unfold Ex; simp [execOp, ho, hx, hy, eqGuard, binOp, Op.intCmp]
theorem ex_eql (ho : o.op = .binOp .eql t x y u) (hx : a.eval x = .int k m) (hy : a.eval y = .int k n) (hb : decide (m = n) = b) : Ex P a o w (.bool b) w := by
  subst hb; unfold Ex; simp [execOp, ho, hx, hy, eqGuard, binOp, Op.intCmp]; rfl
theorem ex_neq (ho : o.op = .binOp .neq t x y u) (hx : a.eval x = .int k m) (hy : a.eval y = .int k n) (hb : decide (m ≠ n) = b) : Ex P a o w (.bool b) w := by
  subst hb; unfold Ex; simp [execOp, ho, hx, hy, eqGuard, binOp, Op.intCmp]; rfl
theorem ex_add (ho : o.op = .binOp .add t x y u) (hx : a.eval x = .int k m) (hy : a.eval y = .int k n) {s : Int} (hs : k.wrap (m + n) = s) : Ex P a o w (.int k s) w := by
  subst hs; unfold Ex; simp [execOp, ho, hx, hy, eqGuard, binOp, Op.intArith]
theorem ex_sub (ho : o.op = .binOp .sub t x y u) (hx : a.eval x = .int k m) (hy : a.eval y = .int k n) {s : Int} (hs : k.wrap (m - n) = s) : Ex P a o w (.int k s) w := by
  subst hs; unfold Ex; simp [execOp, ho, hx, hy, eqGuard, binOp, Op.intArith]
theorem ex_mul (ho : o.op = .binOp .mul t x y u) (hx : a.eval x = .int k m) (hy : a.eval y = .int k n) {s : Int} (hs : k.wrap (m * n) = s) : Ex P a o w (.int k s) w := by
  subst hs; unfold Ex; simp [execOp, ho, hx, hy, eqGuard, binOp, Op.intArith]
theorem ex_quo (ho : o.op = .binOp .quo t x y u) (hx : a.eval x = .int k m) (hy : a.eval y = .int k n) (h0 : n ≠ 0) {s : Int} (hs : k.wrap (m.tdiv n) = s) : Ex P a o w (.int k s) w := by
  subst hs; unfold Ex; simp [execOp, ho, hx, hy, eqGuard, binOp, Op.intDiv, h0]
theorem ex_rem (ho : o.op = .binOp .rem t x y u) (hx : a.eval x = .int k m) (hy : a.eval y = .int k n) (h0 : n ≠ 0) {s : Int} (hs : m.tmod n = s) : Ex P a o w (.int k s) w := by
  subst hs; unfold Ex; simp [execOp, ho, hx, hy, eqGuard, binOp, Op.intDiv, h0]
theorem ex_bits {op : BinOp} (ho : o.op = .binOp op t x y u) (hx : a.eval x = .int k m) (hy : a.eval y = .int k n) (hop : (op == .and || op == .or || op == .xor) = true) {s : Int} (hs : (Op.intBits op k m n).run P w = .ok (.int k s) w) : Ex P a o w (.int k s) w := by
  unfold Ex
  cases op <;> simp at hop <;> simp [execOp, ho, hx, hy, eqGuard, binOp, hs]
theorem ex_shl {k2 : IntKind} (ho : o.op = .binOp .shl t x y u) (hx : a.eval x = .int k m) (hy : a.eval y = .int k2 n) (h0 : 0 ≤ n) {s : Int} (hs : k.wrap (m * 2 ^ (min n.toNat k.bits)) = s) : Ex P a o w (.int k s) w := by
  subst hs; unfold Ex; simp [execOp, ho, hx, hy, eqGuard, binOp, Op.shift, show ¬ n < 0 by omega]
theorem ex_shr {k2 : IntKind} (ho : o.op = .binOp .shr t x y u) (hx : a.eval x = .int k m) (hy : a.eval y = .int k2 n) (h0 : 0 ≤ n) {s : Int} (hs : m.fdiv (2 ^ (min n.toNat k.bits)) = s) : Ex P a o w (.int k s) w := by
  subst hs; unfold Ex; simp [execOp, ho, hx, hy, eqGuard, binOp, Op.shift, show ¬ n < 0 by omega]
theorem ex_not (ho : o.op = .unOp .not t x) (hx : a.eval x = .bool b) {c : Bool} (hc : (!b) = c) : Ex P a o w (.bool c) w := by
  subst hc; unfold Ex; simp [execOp, ho, hx, Op.unary]
theorem ex_neg (ho : o.op = .unOp .neg t x) (hx : a.eval x = .int k m) {s : Int} (hs : k.wrap (0 - m) = s) : Ex P a o w (.int k s) w := by
  subst hs; unfold Ex; simp [execOp, ho, hx, Op.unary, Op.intArith]
theorem ex_int {k2 : IntKind} {d : TypeDesc} (h1 : P.underlying t = some d) (h2 : P.underlying u = some (.int k2)) (ho : o.op = .convert t u x) (hx : a.eval x = .int k m) {s : Int} (hs : k2.wrap m = s) : Ex P a o w (.int k2 s) w := by
  subst hs; unfold Ex; simp [execOp, ho, hx, convert, run_underlying h1, run_underlying h2, Conv.intToInt]
theorem ex_extract {vs : Array Value} {i : Nat} (ho : o.op = .extract x i) (hx : a.eval x = .tuple vs) (hv : vs[i]? = some v) : Ex P a o w v w := by
  unfold Ex; simp [execOp, ho, hx, Instr.extract, hv]
theorem ex_make (ho : o.op = .makeSlice t x y) (hx : a.eval x = p) (hy : a.eval y = q) (hr : (Instr.makeSlice t p q).run P w = .ok v w') : Ex P a o w v w' := by unfold Ex; simp [execOp, ho, hx, hy, hr]
theorem ex_pick (ho : o.op = .pick x y z) (hx : a.eval x = .bool b) (hy : a.eval (if b then y else z) = v) : Ex P a o w v w := by
  unfold Ex; cases b <;> simp [execOp, ho, hx, asBool] at hy ⊢ <;> simp [hy]
theorem ex_pisnil {c : Bool} (ht : P.underlying t = some (.pointer (P.pointee t))) {ad : Option Addr} (ho : o.op = .binOp .eql t x y u) (hx : a.eval x = .pointer ad) (hy : a.eval y = .pointer none) (hc : ad.isNone = c) : Ex P a o w (.bool c) w := by
  have hg : (eqGuard .eql t x y (.pointer ad) (.pointer none)).run P w = .ok () w := by simp [eqGuard]
  have hr : (binOp .eql t (.pointer ad) (.pointer none)).run P w = .ok (.bool c) w := by simp [binOp, run_equal_pointer_nil w t ad ht, hc]
  unfold Ex; simp [execOp, ho, hx, hy, hg, hr]
theorem ex_pnonnil {c : Bool} (ht : P.underlying t = some (.pointer (P.pointee t))) {ad : Option Addr} (ho : o.op = .binOp .neq t x y u) (hx : a.eval x = .pointer ad) (hy : a.eval y = .pointer none) (hc : ad.isSome = c) : Ex P a o w (.bool c) w := by
  have hg : (eqGuard .neq t x y (.pointer ad) (.pointer none)).run P w = .ok () w := by simp [eqGuard]
  have hr : (binOp .neq t (.pointer ad) (.pointer none)).run P w = .ok (.bool c) w := by simp [binOp, run_equal_pointer_nil w t ad ht, ← hc]
  unfold Ex; simp [execOp, ho, hx, hy, hg, hr]
theorem ex_len0 {pa : Option Addr} {l c : Nat} {e : TypeId} (ht : P.underlying t = some (.slice e)) (ho : o.op = .call { callee := .builtin .len, args := #[x], argTypes := #[t] }) (hx : a.eval x = .slice pa l c) : Ex P a o w (.int .i64 l) w := by
  unfold Ex; simp [execOp, ho, hx, resolve, invoke, builtin, Builtin.len_, run_underlying ht, goInt]
theorem ex_lenStr {l : List UInt8} (ht : P.underlying t = some .string) (ho : o.op = .call { callee := .builtin .len, args := #[x], argTypes := #[t] }) (hx : a.eval x = .string ⟨l.toArray⟩) : Ex P a o w (.int .i64 l.length) w := by
  have hs : (ByteArray.mk l.toArray).size = l.length := rfl
  unfold Ex; simp [execOp, ho, hx, resolve, invoke, builtin, Builtin.len_, run_underlying ht, goInt, hs]
theorem ex_min2 (ho : o.op = .call { callee := .builtin .min, args := #[x, y], argTypes := #[t, u] }) (hx : a.eval x = .int k m) (hy : a.eval y = .int k n) {s : Int} (hs : (if n < m then n else m) = s) : Ex P a o w (.int k s) w := by
  subst hs; unfold Ex; simp [execOp, ho, hx, hy, resolve, invoke, builtin, Builtin.min_, Builtin.min2]
theorem ex_max2 (ho : o.op = .call { callee := .builtin .max, args := #[x, y], argTypes := #[t, u] }) (hx : a.eval x = .int k m) (hy : a.eval y = .int k n) {s : Int} (hs : (if n > m then n else m) = s) : Ex P a o w (.int k s) w := by
  subst hs; unfold Ex; simp [execOp, ho, hx, hy, resolve, invoke, builtin, Builtin.max_, Builtin.max2]
theorem ex_seql {s s' : List UInt8} (ho : o.op = .binOp .eql t x y u) (hx : a.eval x = .string ⟨s.toArray⟩) (hy : a.eval y = .string ⟨s'.toArray⟩) (hb : decide (s = s') = b) : Ex P a o w (.bool b) w := by
  subst hb; unfold Ex; simp [execOp, ho, hx, hy, eqGuard, binOp, Op.stringOp]; try (rw [Bool.eq_iff_iff]; simp)
theorem ex_sneq {s s' : List UInt8} (ho : o.op = .binOp .neq t x y u) (hx : a.eval x = .string ⟨s.toArray⟩) (hy : a.eval y = .string ⟨s'.toArray⟩) (hb : decide (s ≠ s') = b) : Ex P a o w (.bool b) w := by
  subst hb; unfold Ex; simp [execOp, ho, hx, hy, eqGuard, binOp, Op.stringOp]; try (rw [Bool.eq_iff_iff]; simp)
end

/-- a row of one's own (Go's slice from its block's beginning, or nil) -/
@[reducible] def Res.row (e : TypeId) (size : Nat) (v : Value) (n : Nat) (xs : List Value) : Res :=
  ⟨v.ownBlock.toList, fun w => w.ownsRow 0 e size v n xs, fun w w' h hr => ⟨hr.1, by
    rcases hr.2 with h4 | ⟨g, cap, cur, rfl, hb, hg, h5⟩
    · exact .inl h4
    · exact .inr ⟨g, cap, cur, rfl, hb, (h g (by simp [Value.ownBlock])).trans hg, h5⟩⟩⟩

theorem wn {ops : Array Oper} {a : Act} {o : Oper} (hg : o.guard = none) : Region.wanted o (yielded ops a.tmps) = true := by simp [Region.wanted, hg]
theorem tr {f : FuncId} : Fence.wide.fn f := trivial
section
variable {F : Fence} {n : Nat} {P : Program} {ops : Array Oper} {Q : Exit → Act → World → Prop} {a : Act} {w w' : World} {rest : List Oper} {o : Oper} {v : Value}
theorem wpi_exUG (hF : ∀ f, F.fn f) (hg : Region.wanted o (yielded ops a.tmps) = true) (hd : isDefer o = false) (hr : ExU P a o w w') (h : wpListIn F n P ops Q rest (a.put o.dst undef) w') : wpListIn F n P ops Q (o :: rest) a w := by
  refine wpListIn_step fun K hK => ?_
  rw [if_pos hg]
  exact ⟨fun f _ => hF f, by rw [Oper.semAt_eq _ _ _ (not_defer hd), show (execOp a.eval o).run P w = _ from hr]; exact hK _ _ h⟩
/-- a function, called (guarded or not) -/
theorem wpi_callG {f : FuncId} {xs : Array Operand} {ts : Array TypeId} {args : Array Value} (hf : Callable P f) (hF : ∀ f, F.fn f) (hC : ∀ (f : FuncId) (args : Array Value) (w : World) (R : Ending → World → Prop), Calls P f args w R → CallsIn F (n - 1) P f args w R) (hdp : F.depth = none) (hg : Region.wanted o (yielded ops a.tmps) = true)
    (ho : o.op = .call { callee := .value (.func f), args := xs, argTypes := ts }) (hx : xs.map a.eval = args) (hc : Calls P f args w fun e w' => ∃ v, e = .returned v ∧ wpListIn F n P ops Q rest (a.put o.dst v) w') : wpListIn F n P ops Q (o :: rest) a w := by
  refine wpListIn_step fun K hK => ?_
  rw [if_pos hg]
  refine ⟨fun f _ => hF f, ?_⟩
  have hd : isDefer o = false := by unfold isDefer; rw [ho]
  obtain ⟨fn, h1, h2, h3⟩ := hf
  have : execOp a.eval o = callFunc f (#[] ++ xs.map a.eval ++ #[]) := by
    obtain ⟨d, op, ty, pos, af, gd⟩ := o
    simp only at ho
    subst ho
    rfl
  have hb : ¬ fn.body = none := by intro h; rw [h] at h3; cases h3
  have hn : ¬ fn.name = "runtime.NumGoroutine" := by simpa using h2
  have hr : (execOp a.eval o).run P w = .ok (.enter f args) w := by rw [this, hx]; simp [callFunc, h1, hn, hb]
  rw [Oper.semAt_eq _ _ _ (not_defer hd), hr, Oper.uponIn_enter]
  refine ⟨fun e => by simp [hdp] at e, hC _ _ _ _ (hc.mono ?_)⟩
  rintro e w' ⟨v, rfl, hh⟩
  exact hK _ _ hh
end
theorem Inv.load {B : Base} {H : List Res} {w : World} (hv : Inv B H w) (k off : Nat) {b : Nat} {L : List Value} {t : TypeId} (hk : H[k]? = some (Res.cell b L t)) {v : Value} (hc : L[off]? = some v) : w.cell? ⟨b, off, none⟩ = some v :=
  (Blk.cell (hv.get k hk : Blk w b L t) off).trans hc
section mem
variable {F : Fence} {n : Nat} {P : Program} {ops : Array Oper} {Q : Exit → Act → World → Prop} {a : Act} {w w' : World} {rest : List Oper} {o : Oper} {v : Value} {B : Base} {H : List Res} {t e : TypeId} {x y : Operand} {p q : Value} {L : List Value}
theorem sl_alloc (hF : ∀ f, F.fn f) (hg : Region.wanted o (yielded ops a.tmps) = true) (ho : o.op = .alloc t) (hv : Inv B H w) (hz : ∀ w, (Instr.alloc t true (.tuple #[])).run P w = .ok (.pointer (some ⟨w.heap.size, 0, none⟩)) (w.alloc (.cells L.toArray t)))
    (h : ∀ b w', Inv B (Res.cell b L t :: H) w' → wpListIn F n P ops Q rest (a.put o.dst (.pointer (some ⟨b, 0, none⟩))) w') : wpListIn F n P ops Q (o :: rest) a w :=
  wpi_exG hF hg (by unfold isDefer; rw [ho]) (ex_alloc ho (hz w)) (h _ _ (hv.alloc L t))
theorem sl_box (hF : ∀ f, F.fn f) (hg : Region.wanted o (yielded ops a.tmps) = true) (ho : o.op = .box t x) (hx : a.eval x = p) (hv : Inv B H w) (hz : ∀ w, (Instr.box t p).run P w = .ok (.pointer (some ⟨w.heap.size, 0, none⟩)) (w.alloc (.cells L.toArray t)))
    (h : ∀ b w', Inv B (Res.cell b L t :: H) w' → wpListIn F n P ops Q rest (a.put o.dst (.pointer (some ⟨b, 0, none⟩))) w') : wpListIn F n P ops Q (o :: rest) a w :=
  wpi_exG hF hg (by unfold isDefer; rw [ho]) (ex_box ho hx (hz w)) (h _ _ (hv.alloc L t))
theorem run_store1 {b off : Nat} {e : TypeId} (hz : (P.info? t).map (·.size) = some 1) (hb : Blk w b L e) (ho : off < L.length) (hc : v.cells = #[v]) (h1 : v.oneCell' = true) :
    (Instr.storeAt t (.pointer (some ⟨b, off, none⟩)) v).run P w = .ok () (setBlk w b (L.set off v)) := by
  have hst := run_storeCells_at P b off e [v] 0 _ _ hb (by simp; omega) (by simpa using h1)
  have hl : L.set off v = L.take off ++ v :: L.drop (off + 1) := by rw [List.set_eq_take_append_cons_drop, if_pos ho]
  simp only [Instr.storeAt, Instr.sureAddr, storeVar]
  simp [hc, Go.Pm.run_sizeOf hz]
  rw [hl]
  simpa using hst
theorem perm_set {α : Type} : ∀ (k : Nat) (l : List α) (x y : α), l[k]? = some x → (y :: l.eraseIdx k).Perm (l.set k y)
  | 0, z :: l, x, y, h => List.Perm.refl _
  | k + 1, z :: l, x, y, h => by
    have := perm_set k l x y (by simpa using h)
    exact (List.Perm.swap _ _ _).trans (List.Perm.cons z this)
  | _, [], x, y, h => by simp at h
/-- the block at place k, written anew -/
theorem Inv.putAt (hv : Inv B H w) (k : Nat) {b : Nat} (hk : H[k]? = some (Res.cell b L t)) (L' : List Value) : Inv B (H.set k (Res.cell b L' t)) (setBlk w b L') :=
  ((hv.front k hk).put L').perm (perm_set k H _ _ hk)
/-- one cell of the block at place k, written -/
theorem sl_storeAt (k : Nat) {b off : Nat} {L' : List Value} (hF : ∀ f, F.fn f) (hg : Region.wanted o (yielded ops a.tmps) = true) (ho : o.op = .store t x y) (hx : a.eval x = .pointer (some ⟨b, off, none⟩)) (hy : a.eval y = v) (hv : Inv B H w) (hk : H[k]? = some (Res.cell b L e)) (hz : (P.info? t).map (·.size) = some 1)
    (hoff : off < L.length) (hc : v.cells = #[v]) (h1 : v.oneCell' = true) (hL : L.set off v = L') (h : ∀ w', Inv B (H.set k (Res.cell b L' e)) w' → wpListIn F n P ops Q rest (a.put o.dst undef) w') : wpListIn F n P ops Q (o :: rest) a w := by
  subst hL
  exact wpi_exUG hF hg (by unfold isDefer; rw [ho]) (ex_store ho hx hy (run_store1 hz (hv.get k hk : Blk w b L e) hoff hc h1)) (h _ (hv.putAt k hk _))
/-- several cells of the block at place k, written -/
theorem sl_storeNAt (k : Nat) {b off : Nat} {new L' pre mid post : List Value} (hF : ∀ f, F.fn f) (hg : Region.wanted o (yielded ops a.tmps) = true) (ho : o.op = .store t x y) (hx : a.eval x = .pointer (some ⟨b, off, none⟩)) (hy : a.eval y = .agg new.toArray) (hv : Inv B H w) (hk : H[k]? = some (Res.cell b L e))
    (hz : (P.info? t).map (·.size) = some new.length) (hL : L = pre ++ mid ++ post) (hoff : pre.length = off) (hn : new.length = mid.length) (h1 : ∀ v ∈ new, v.oneCell' = true) (hL' : pre ++ new ++ post = L')
    (h : ∀ w', Inv B (H.set k (Res.cell b L' e)) w' → wpListIn F n P ops Q rest (a.put o.dst undef) w') : wpListIn F n P ops Q (o :: rest) a w := by
  subst hL'; subst hL
  exact wpi_exUG hF hg (by unfold isDefer; rw [ho]) (ex_store ho hx hy (run_store_mid hz (hv.get k hk : Blk w b _ e) hoff hn h1)) (h _ (hv.putAt k hk _))
/-- one cell of the first block, written -/
theorem sl_store {b off : Nat} {L' : List Value} (hF : ∀ f, F.fn f) (hg : Region.wanted o (yielded ops a.tmps) = true) (ho : o.op = .store t x y) (hx : a.eval x = .pointer (some ⟨b, off, none⟩)) (hy : a.eval y = v) (hv : Inv B (Res.cell b L e :: H) w) (hz : (P.info? t).map (·.size) = some 1)
    (hoff : off < L.length) (hc : v.cells = #[v]) (h1 : v.oneCell' = true) (hL : L.set off v = L') (h : ∀ w', Inv B (Res.cell b L' e :: H) w' → wpListIn F n P ops Q rest (a.put o.dst undef) w') : wpListIn F n P ops Q (o :: rest) a w := by
  subst hL
  exact wpi_exUG hF hg (by unfold isDefer; rw [ho]) (ex_store ho hx hy (run_store1 hz hv.head hoff hc h1)) (h _ (hv.put _))
/-- several cells of the first block, written -/
theorem sl_storeN {b off : Nat} {new L' pre mid post : List Value} (hF : ∀ f, F.fn f) (hg : Region.wanted o (yielded ops a.tmps) = true) (ho : o.op = .store t x y) (hx : a.eval x = .pointer (some ⟨b, off, none⟩)) (hy : a.eval y = .agg new.toArray) (hv : Inv B (Res.cell b L e :: H) w)
    (hz : (P.info? t).map (·.size) = some new.length) (hL : L = pre ++ mid ++ post) (hoff : pre.length = off) (hn : new.length = mid.length) (h1 : ∀ v ∈ new, v.oneCell' = true) (hL' : pre ++ new ++ post = L')
    (h : ∀ w', Inv B (Res.cell b L' e :: H) w' → wpListIn F n P ops Q rest (a.put o.dst undef) w') : wpListIn F n P ops Q (o :: rest) a w := by
  subst hL'; subst hL
  exact wpi_exUG hF hg (by unfold isDefer; rw [ho]) (ex_store ho hx hy (run_store_mid hz hv.head hoff hn h1)) (h _ (hv.put _))
/-- make -/
theorem sl_make {len cap : Nat} {i : TypeInfo} {z : Value} (hF : ∀ f, F.fn f) (hg : Region.wanted o (yielded ops a.tmps) = true) (ho : o.op = .makeSlice t x y) (hx : a.eval x = .int .i64 len) (hy : a.eval y = .int .i64 cap) (ht : P.underlying t = some (.slice e)) (hi : P.info? e = some i) (hz : i.zero = some z) (hlc : len ≤ cap) (hcm : cap ≤ maxLen) (hby : cap * i.bytes ≤ 140737488355328) (hv : Inv B H w)
    (h : ∀ b w', Inv B (Res.cell b (madeCells z.cells (cap * i.size)).toList e :: H) w' → wpListIn F n P ops Q rest (a.put o.dst (.slice (some ⟨b, 0, none⟩) len cap)) w') : wpListIn F n P ops Q (o :: rest) a w := by
  unfold maxLen at hcm
  have hr := run_make (P := P) w t e i z ht hi hz .i64 .i64 len cap (by omega) (by omega) (by rw [Int.mul_comm, ← Int.natCast_mul]; omega) (by omega)
  refine wpi_exG hF hg (by unfold isDefer; rw [ho]) (ex_make ho hx hy hr) ?_
  have := h _ _ (hv.alloc (madeCells z.cells (cap * i.size)).toList e)
  simpa using this
theorem madeCells_one {z : Value} (hz : z.cells = #[z]) (k : Nat) : (madeCells z.cells k).toList = List.replicate k z := by
  unfold madeCells
  apply List.ext_getElem
  · simp
  · intro i h1 h2
    simp [hz]
    rw [Nat.mod_one]; rfl
/-- make, of elements of one cell -/
theorem sl_make1 {len cap bytes : Nat} {z : Value} (hF : ∀ f, F.fn f) (hg : Region.wanted o (yielded ops a.tmps) = true) (ho : o.op = .makeSlice t x y) (hx : a.eval x = .int .i64 len) (hy : a.eval y = .int .i64 cap) (ht : P.underlying t = some (.slice e)) (hi : (P.info? e).map (fun i => (i.zero, i.size, i.bytes)) = some (some z, 1, bytes)) (hz1 : z.cells = #[z])
    (hlc : len ≤ cap) (hcm : cap ≤ maxLen) (hby : cap * bytes ≤ 140737488355328) (hv : Inv B H w) (h : ∀ b w', Inv B (Res.cell b (List.replicate cap z) e :: H) w' → wpListIn F n P ops Q rest (a.put o.dst (.slice (some ⟨b, 0, none⟩) len cap)) w') : wpListIn F n P ops Q (o :: rest) a w := by
  obtain ⟨i, hi, hh⟩ := Option.map_eq_some_iff.1 hi
  simp only [Prod.mk.injEq] at hh
  refine sl_make hF hg ho hx hy ht hi hh.1 hlc hcm (by rw [hh.2.2]; exact hby) hv (fun b w' hi' => h b w' ?_)
  rw [hh.2.1, Nat.mul_one, madeCells_one hz1] at hi'
  exact hi'
theorem run_idx {g off l c k size : Nat} (ht : P.underlying t = some (.slice (P.elem t))) (hs : ∀ w, (sizeOf (P.elem t)).run P w = .ok size w) (hk : k < l) :
    (Instr.indexAt t (.slice (some ⟨g, off, none⟩) l c) (.int .i64 (k : Int))).run P w = .ok (.pointer (some ⟨g, off + k * size, none⟩)) w := by
  rw [run_indexAt_slice (h := ht), if_pos (by omega), hs]
  have : (⟨g, off, none⟩ : Addr).add (k * size) = ⟨g, off + k * size, none⟩ := by unfold Addr.add; split <;> simp_all
  simp [Result.andThen, this]
theorem run_idx1 {g off l c k : Nat} (ht : P.underlying t = some (.slice (P.elem t))) (hs : ∀ w, (sizeOf (P.elem t)).run P w = .ok 1 w) (hk : k < l) :
    (Instr.indexAt t (.slice (some ⟨g, off, none⟩) l c) (.int .i64 (k : Int))).run P w = .ok (.pointer (some ⟨g, off + k, none⟩)) w := by
  have := run_idx (w := w) (g := g) (off := off) (l := l) (c := c) ht hs hk
  rwa [Nat.mul_one] at this
/-- append to the first row -/
theorem sl_append {ad : Option Addr} {m c k size bytes : Nat} {zv : Value} {xs news : List Value} (hF : ∀ f, F.fn f) (hg : Region.wanted o (yielded ops a.tmps) = true) (ho : o.op = .call { callee := .builtin .append, args := #[x, y], argTypes := #[t, t] }) (hx : a.eval x = v) (hy : a.eval y = .slice ad m c) (E : Elem P t e zv size bytes)
    (hv : Inv B (Res.row e size v k xs :: H) w) (hok : SliceOk ad m c) (hl : news.length = m * size) (hsrc : Src w ad news) (h1 : ∀ u ∈ news, u.oneCell' = true) (h63 : k + m ≤ maxLen) (hbytes : (k + m) * bytes ≤ 140737488355328)
    (h : ∀ v' w', Inv B (Res.row e size v' (k + m) (xs ++ news) :: H) w' → wpListIn F n P ops Q rest (a.put o.dst v') w') : wpListIn F n P ops Q (o :: rest) a w := by
  obtain ⟨v', w', hr, h2, h3, h4⟩ := run_append_src2 (ty := o.type) E hv.head hok hl hsrc h1 h63 hbytes
  have hex : Ex P a o w v' w' := by
    unfold Ex; simp [execOp, ho, resolve, invoke, builtin, hx, hy, hr]
  refine wpi_exG hF hg (by unfold isDefer; rw [ho]) hex (h v' w' (hv.upd _ ((Only.refl _ _).grown h3 (fun k hk => .inl (by simp [hk]))) h2 (fun b hb => ?_) (fun b hb => ?_) ?_))
  · simp only [Option.mem_toList] at hb
    rcases h4 with h4 | ⟨b', h4, h5⟩
    · left; simp only [Option.mem_toList]; rw [← h4]; exact hb
    · right; rw [h4] at hb; simp at hb; omega
  · simp only [Option.mem_toList] at hb
    exact (h2.lt b hb).2
  · show v'.ownBlock.toList.Nodup
    cases v'.ownBlock with
    | none => exact List.nodup_nil
    | some g => exact List.nodup_cons.2 ⟨by simp, List.nodup_nil⟩
end mem
end Go.Pm
