/- SlotsKeep: its arguments; bools compared; aggregates from the base. -/
import Derived.Test.YtkannfkjnohdlaaKeepMath2
import Derived.Test.YtkannfkjnohdlaaDiskLimit
import Derived.Test.YtkannfkjnohdlaaArgs
namespace Go.Pm
open Go.RowKit
section
variable {P : Program} {o : Oper} {a : Act} {w : World} {t u : TypeId} {x y : Operand}
theorem ex_beql {p q b : Bool} (ht : P.underlying t = some .bool) (ho : o.op = .binOp .eql t x y u) (hx : a.eval x = .bool p) (hy : a.eval y = .bool q) (hb : (p == q) = b) : Ex P a o w (.bool b) w := by
  subst hb
  have he : (Op.equal t (.bool p) (.bool q)).run P w = .ok (p == q) w := run_equal_bool w t p q ht
  unfold Ex; simp [execOp, ho, hx, hy, eqGuard, binOp, he]
theorem wanted_undef {ops : Array Oper} {j d : Nat} {b : Bool} (hgd : o.guard = some (j, b)) (hd : (ops[j]?).bind (·.dst) = some d) (h : a.tmps.getD d undef = undef) : Region.wanted o (yielded ops a.tmps) = false := by
  have hy : yielded ops a.tmps j = none := by
    unfold yielded
    rw [hd]
    simp only [Option.bind_some]
    rw [Array.getD_eq_getD_getElem?] at h
    cases h2 : a.tmps[d]? with
    | none => rfl
    | some x => rw [h2] at h; simp only [Option.getD_some] at h; rw [h]; rfl
  unfold Region.wanted
  rw [hgd]
  simp [hy]
theorem run_load_cells {b off : Nat} {xs : List Value} (hw : Wide P t xs.length) (h : ∀ j v, xs[j]? = some v → w.cell? ⟨b, off + j, none⟩ = some v) :
    (Instr.loadAt t (.pointer (some ⟨b, off, none⟩))).run P w = .ok (.agg xs.toArray) w := by
  have hl := run_loadCells_list (P := P) w ⟨b, off, none⟩ xs (fun j v hv => by
    have : (⟨b, off, none⟩ : Addr).add j = ⟨b, off + j, none⟩ := by unfold Addr.add; split <;> simp_all
    rw [this, h j v hv])
  simp [Instr.loadAt, Instr.sureAddr, loadVar, hw.agg, run_sizeOf hw.size, hl]
end
end Go.Pm
namespace Go.Proofs.Ytkannfkjnohdlaa
open Go.RowKit Go.Pm
theorem wrap12 (z : Int) : ∃ (r : Int) (n : Nat), z.tmod 12 = r ∧ -12 < r ∧ r < 12 ∧ (r + 12).tmod 12 = (n : Int) - 1 ∧ 1 ≤ n ∧ n ≤ 12 := by
  have h1 := Int.tmod_lt_of_pos z (show (0 : Int) < 12 by decide)
  have h2 : -12 < z.tmod 12 := by
    have := Int.tmod_lt_of_pos (-z) (show (0 : Int) < 12 by decide)
    rw [Int.neg_tmod] at this
    omega
  refine ⟨_, ((z.tmod 12 + 12) % 12 + 1).toNat, rfl, h2, h1, ?_, by omega, by omega⟩
  rw [Int.tmod_eq_emod_of_nonneg (by omega)]
  omega
theorem wrap9 (z : Int) : ∃ (r m : Int), z.tmod 9 = r ∧ -9 < r ∧ r < 9 ∧ (r + 9).tmod 9 = m ∧ m ≤ 9 := by
  have h1 := Int.tmod_lt_of_pos z (show (0 : Int) < 9 by decide)
  have h2 : -9 < z.tmod 9 := by
    have := Int.tmod_lt_of_pos (-z) (show (0 : Int) < 9 by decide)
    rw [Int.neg_tmod] at this
    omega
  refine ⟨_, (z.tmod 9 + 9) % 9, rfl, h2, h1, ?_, by omega⟩
  rw [Int.tmod_eq_emod_of_nonneg (by omega)]
abbrev actTy : Ty := .pair (.int .i64) (.pair (.int .i64) (.pair (.pair (.int .i64) (.pair (.slice (.int .u8)) .unit)) (.pair (.slice (.int .i64)) .unit)))
def RdActs8 (B : Base) (a : Option Addr) (n : Nat) : Prop := ∀ i, i < n → ∃ (b off : Nat) (kd nn xs : Int) (xb : List UInt8) (ks : List Int) (ax : Option Addr) (cx : Nat) (ak : Option Addr) (ck : Nat), a = some ⟨b, off, none⟩ ∧
  (∀ H w, Inv B H w → ∀ j v, [.int .i64 kd, .int .i64 nn, .int .i64 xs, .slice ax xb.length cx, .slice ak ks.length ck][j]? = some v → w.cell? ⟨b, off + i * 5 + j, none⟩ = some v) ∧
  SliceOk ax xb.length cx ∧ RdV B [] ax (xb.map B8) ∧ RdV B [] ak (ks.map intV) ∧ ∀ k ∈ ks, -9223372036854775808 ≤ k ∧ k ≤ 9223372036854775807
theorem rep_acts8 {W : World} {cs : List Value} {l : List actTy.den} (h : Rep W (· < W.heap.size) (.slice actTy) cs l) :
    ∃ a cap, cs = [.slice a l.length cap] ∧ SliceOk a l.length cap ∧ RdActs8 (Base.of W) a l.length := by
  obtain ⟨a, cap, h1, h2, h4⟩ := h
  refine ⟨a, cap, h1, h2, fun i hi => ?_⟩
  obtain ⟨b, off, xs, e1, e2, e3, e4, e5⟩ := h4 i hi
  match xs, e3 with
  | [x0, x1, x2, x3, x4], _ =>
    obtain ⟨⟨k1, _⟩, ⟨m1, _⟩, ⟨⟨s1, _⟩, hbody, _⟩, hkeep, _⟩ := e5
    obtain ⟨ax, cx, f1, f2, f3⟩ := rep_bytes.1 hbody
    obtain ⟨ak, ck, g1, g2, g3, g4⟩ := rep_ints hkeep
    have k1' : [x0] = _ := k1
    have m1' : [x1] = _ := m1
    have s1' : [x2] = _ := s1
    have f1' : [x3] = _ := f1
    have g1' : [x4] = _ := g1
    simp only [List.cons.injEq, and_true] at k1' m1' s1' f1' g1'
    subst k1' m1' s1' f1' g1'
    refine ⟨b, off, encInt .i64 l[i].1, encInt .i64 l[i].2.1, encInt .i64 l[i].2.2.1.1, l[i].2.2.1.2.1, l[i].2.2.2.1, ax, cx, ak, ck, e1, fun H w hv j v hj => ?_, f2, rdV_of W f3.src, rdV_of W g3, g4⟩
    obtain ⟨hj1, hj2⟩ := List.getElem?_eq_some_iff.1 hj
    have := e4 j hj1
    rw [← hj2]
    refine Eq.trans ?_ this
    exact World.cell?_of_block (by rw [Array.getElem?_eq_getElem e2]; exact hv.base.blk b _ (Array.getElem?_eq_getElem e2))
end Go.Proofs.Ytkannfkjnohdlaa
