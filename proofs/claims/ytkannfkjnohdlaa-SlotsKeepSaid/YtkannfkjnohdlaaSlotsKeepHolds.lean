/- SlotsKeep, for every input: the law returns true and leaves what was there alone. -/
import Derived.Test.YtkannfkjnohdlaaRows
import Derived.Test.YtkannfkjnohdlaaLaw
import Derived.Test.YtkannfkjnohdlaaLawSlotsKeep
import Derived.JoinedAt
namespace Go.Proofs.Ytkannfkjnohdlaa.slotsKeep
open Go.RowKit Go.WideShapes Go.ChangeShapes Go.ChangeAt Go.Pm
theorem own : ownKnob Try.prog.godebug = none := by kernel_rfl
theorem laidOut : laidOutB Try.prog = true := by kernel_rfl
theorem fits3 : Fits Try.prog 9 3 (.int .i64) := Try.underlying3
theorem fits67 : Fits Try.prog 9 67 (.slice (.pair (.int .i64) (.pair (.int .i64) (.pair (.pair (.int .i64) (.pair (.slice (.int .u8)) .unit)) (.pair (.slice (.int .i64)) .unit))))) := ⟨69, Try.underlying67, by kernel_rfl, by decide, ⟨_, Try.underlying69, by kernel_rfl, ⟨rfl, by kernel_rfl, Try.underlying3, ⟨rfl, by kernel_rfl, Try.underlying3, ⟨rfl, by kernel_rfl, ⟨_, Try.underlying55, by kernel_rfl, ⟨rfl, by kernel_rfl, Try.underlying3, ⟨rfl, by kernel_rfl, ⟨5, Try.underlying24, by kernel_rfl, by decide, Try.underlying5⟩, trivial⟩⟩⟩, ⟨rfl, by kernel_rfl, ⟨3, Try.underlying44, by kernel_rfl, by decide, Try.underlying3⟩, trivial⟩⟩⟩⟩⟩⟩
set_option maxRecDepth 100000 in
theorem lifted (os : Os) (started : os.Started) (H : Type) (enc : TypeId × Value → H) :
    ReturnsInHanded {} Try.checked os 11 .any (Rows.slotsKeepSpec.pre6 enc Try.prog Try.f11 Rows.slotsKeepRow.domain false) (Rows.slotsKeepSpec.post enc Try.prog Try.f11 false true false false) := by
  refine returnsInHanded_of_change (C := Try.checked) own started (by kernel_rfl) Try.func11
    (ChangeSpec.witness6 (enc := enc) (C := Try.checked) false ⟨#[], #[.int .i64 0, .slice none 0 0], []⟩ 8 (by kernel_rfl) (by kernel_rfl) (by kernel_rfl) (by kernel_rfl)) ?_
  intro W base args ds gs before hval hW _ _
  have hW' : DataW.Whole enc Try.prog Try.f11.params.toList [] false W args.toList ds gs before := hW
  obtain ⟨p, q, hA, -⟩ := hW
  have hA : DataW.TrodAll enc Try.prog W 0 (fun _ => true) true Try.f11.params.toList args.toList ds p := hA
  have hval : ∀ (j : Nat) t v, Try.f11.params[j]? = some t → args[j]? = some v → Value.okWide Try.prog W .any base t v := hval
  rw [Try.params11] at hA hval
  obtain ⟨v0, vs0, d0, ds0, p0, q0, hargs, rfl, rfl, t0, r0⟩ := trodAll_cons hA
  obtain ⟨v1, vs1, d1, ds1, p1, q1, rfl, rfl, rfl, t1, r1⟩ := trodAll_cons r0
  obtain ⟨rfl, rfl, rfl⟩ := trodAll_nil r1
  obtain rfl : args = #[v0, v1] := by cases args; simp_all
  refine law_post (s := Rows.slotsKeepSpec) laidOut (fun t ht => ?_) 4 rfl Try.underlying4 rfl rfl hW' ?_
  · rw [Try.params11] at ht
    revert t
    exact of_decide_eq_true (by kernel_rfl)
  obtain ⟨c0, x0, rfl, h0⟩ := arg_rep fits3 (hval 0 3 v0 rfl rfl) t0
  obtain ⟨c1, x1, rfl, h1⟩ := arg_rep fits67 (hval 1 67 v1 rfl rfl) t1
  clear hval hW'
  obtain ⟨rfl, hw0⟩ := h0
  obtain ⟨a, ca, rfl, hok, hrd⟩ := rep_acts8 h1
  refine (slotsKeepMain (Base.of W) [] W x0 a x1.length ca hrd (Inv.start W)).mono ?_
  rintro e w' ⟨he, hi⟩
  exact ⟨he, ext_of hi⟩
theorem holds : Rows.SlotsKeepSaid :=
  OpenClaim.holds_of_wide 11 Try.f11 rfl rfl rfl rfl rfl rfl rfl ⟨rfl, rfl, rfl, rfl, rfl⟩ rfl rfl rfl rfl rfl (by kernel_rfl) Try.func11 (by kernel_rfl)
    (of_decide_eq_true (by kernel_rfl)) (by unfold Func.isWrapper; rw [if_neg (of_decide_eq_false (by kernel_rfl))]; exact ⟨rfl, rfl⟩)
    (fun os started H enc _ => lifted os started H enc)
end Go.Proofs.Ytkannfkjnohdlaa.slotsKeep
theorem Go.Proofs.Ytkannfkjnohdlaa.slotsKeep_holds : Go.Proofs.Ytkannfkjnohdlaa.Rows.SlotsKeepSaid := Go.Proofs.Ytkannfkjnohdlaa.slotsKeep.holds
