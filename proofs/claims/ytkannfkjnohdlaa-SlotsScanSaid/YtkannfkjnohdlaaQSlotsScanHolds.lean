/- SlotsScan, for every input: the law returns true and leaves what was there alone. -/
import Derived.Test.YtkannfkjnohdlaaRows
import Derived.Test.YtkannfkjnohdlaaMsA
import Derived.Test.YtkannfkjnohdlaaMsJ
import Derived.JoinedAt
namespace Go.Proofs.Ytkannfkjnohdlaa.slotsScan
open Go.RowKit Go.WideShapes Go.ChangeShapes Go.ChangeAt Go.Pm
theorem own : ownKnob Try.prog.godebug = none := by kernel_rfl
theorem laidOut : laidOutB Try.prog = true := by kernel_rfl
theorem fits3 : Fits Try.prog 9 3 (.int .i64) := Try.underlying3
theorem fits24 : Fits Try.prog 9 24 (.slice (.int .u8)) := ⟨5, Try.underlying24, by kernel_rfl, by decide, Try.underlying5⟩
set_option maxRecDepth 100000 in
theorem lifted (os : Os) (started : os.Started) (H : Type) (enc : TypeId × Value → H) :
    ReturnsInHanded {} Try.checked os 9 .any (Rows.slotsScanSpec.pre6 enc Try.prog Try.f9 Rows.slotsScanRow.domain false) (Rows.slotsScanSpec.post enc Try.prog Try.f9 false true false false) := by
  refine returnsInHanded_of_change (C := Try.checked) own started (by kernel_rfl) Try.func9
    (ChangeSpec.witness6 (enc := enc) (C := Try.checked) false ⟨#[], #[.slice none 0 0, .slice none 0 0, .int .i64 0], []⟩ 8 (by kernel_rfl) (by kernel_rfl) (by kernel_rfl) (by kernel_rfl)) ?_
  intro W base args ds gs before hval hW _ _
  have hW' : DataW.Whole enc Try.prog Try.f9.params.toList [] false W args.toList ds gs before := hW
  obtain ⟨p, q, hA, -⟩ := hW
  have hA : DataW.TrodAll enc Try.prog W 0 (fun _ => true) true Try.f9.params.toList args.toList ds p := hA
  have hval : ∀ (j : Nat) t v, Try.f9.params[j]? = some t → args[j]? = some v → Value.okWide Try.prog W .any base t v := hval
  rw [Try.params9] at hA hval
  obtain ⟨v0, vs0, d0, ds0, p0, q0, hargs, rfl, rfl, t0, r0⟩ := trodAll_cons hA
  obtain ⟨v1, vs1, d1, ds1, p1, q1, rfl, rfl, rfl, t1, r1⟩ := trodAll_cons r0
  obtain ⟨v2, vs2, d2, ds2, p2, q2, rfl, rfl, rfl, t2, r2⟩ := trodAll_cons r1
  obtain ⟨rfl, rfl, rfl⟩ := trodAll_nil r2
  obtain rfl : args = #[v0, v1, v2] := by cases args; simp_all
  refine law_post (s := Rows.slotsScanSpec) laidOut (fun t ht => ?_) 4 rfl Try.underlying4 rfl rfl hW' ?_
  · rw [Try.params9] at ht
    revert t
    exact of_decide_eq_true (by kernel_rfl)
  obtain ⟨c0, x0, rfl, h0⟩ := arg_rep fits24 (hval 0 24 v0 rfl rfl) t0
  obtain ⟨c1, x1, rfl, h1⟩ := arg_rep fits24 (hval 1 24 v1 rfl rfl) t1
  obtain ⟨c2, x2, rfl, h2⟩ := arg_rep fits3 (hval 2 3 v2 rfl rfl) t2
  clear hval hW'
  obtain ⟨a, ca, rfl, hok, hb⟩ := rep_bytes.1 h0
  obtain ⟨b, cb, rfl, hok1, hb1⟩ := rep_bytes.1 h1
  obtain ⟨rfl, hw2⟩ := h2
  refine (slotsScanMain (Base.of W) [] W a b ca cb x0 x1 x2 (bounds_i64 hw2) hok hok1 (rdV_of W hb.src) (rdV_of W hb1.src) (Inv.start W)).mono ?_
  rintro e w' ⟨he, hi⟩
  exact ⟨he, ext_of hi⟩
theorem holds : Rows.SlotsScanSaid :=
  OpenClaim.holds_of_wide 9 Try.f9 rfl rfl rfl rfl rfl rfl rfl ⟨rfl, rfl, rfl, rfl, rfl⟩ rfl rfl rfl rfl rfl (by kernel_rfl) Try.func9 (by kernel_rfl)
    (of_decide_eq_true (by kernel_rfl)) (by unfold Func.isWrapper; rw [if_neg (of_decide_eq_false (by kernel_rfl))]; exact ⟨rfl, rfl⟩)
    (fun os started H enc _ => lifted os started H enc)
end Go.Proofs.Ytkannfkjnohdlaa.slotsScan
theorem Go.Proofs.Ytkannfkjnohdlaa.slotsScan_holds : Go.Proofs.Ytkannfkjnohdlaa.Rows.SlotsScanSaid := Go.Proofs.Ytkannfkjnohdlaa.slotsScan.holds
