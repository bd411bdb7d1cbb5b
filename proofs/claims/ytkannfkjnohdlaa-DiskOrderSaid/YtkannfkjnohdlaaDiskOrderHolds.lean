/- DiskOrder, for every input: the law returns true and leaves what was there alone. -/
import Derived.Test.YtkannfkjnohdlaaRows
import Derived.Test.YtkannfkjnohdlaaLaw
import Derived.Test.YtkannfkjnohdlaaLawDiskOrder
import Derived.Test.YtkannfkjnohdlaaArgs
import Derived.JoinedAt
namespace Go.Proofs.Ytkannfkjnohdlaa.diskOrder
open Go.RowKit Go.WideShapes Go.ChangeShapes Go.ChangeAt Go.Pm
theorem own : ownKnob Try.prog.godebug = none := by kernel_rfl
theorem laidOut : laidOutB Try.prog = true := by kernel_rfl
theorem fits3 : Fits Try.prog 9 3 (.int .i64) := Try.underlying3
theorem fits44 : Fits Try.prog 9 44 (.slice (.int .i64)) := ⟨3, Try.underlying44, by kernel_rfl, by decide, Try.underlying3⟩
set_option maxRecDepth 100000 in
theorem lifted (os : Os) (started : os.Started) (H : Type) (enc : TypeId × Value → H) :
    ReturnsInHanded {} Try.checked os 8 .any (Rows.diskOrderSpec.pre6 enc Try.prog Try.f8 Rows.diskOrderRow.domain false) (Rows.diskOrderSpec.post enc Try.prog Try.f8 false true false false) := by
  refine returnsInHanded_of_change (C := Try.checked) own started (by kernel_rfl) Try.func8
    (ChangeSpec.witness6 (enc := enc) (C := Try.checked) false ⟨#[], #[.int .i64 0, .slice none 0 0], []⟩ 8 (by kernel_rfl) (by kernel_rfl) (by kernel_rfl) (by kernel_rfl)) ?_
  intro W base args ds gs before hval hW _ _
  have hW' : DataW.Whole enc Try.prog Try.f8.params.toList [] false W args.toList ds gs before := hW
  obtain ⟨p, q, hA, -⟩ := hW
  have hA : DataW.TrodAll enc Try.prog W 0 (fun _ => true) true Try.f8.params.toList args.toList ds p := hA
  have hval : ∀ (j : Nat) t v, Try.f8.params[j]? = some t → args[j]? = some v → Value.okWide Try.prog W .any base t v := hval
  rw [Try.params8] at hA hval
  obtain ⟨v0, vs0, d0, ds0, p0, q0, hargs, rfl, rfl, t0, r0⟩ := trodAll_cons hA
  obtain ⟨v1, vs1, d1, ds1, p1, q1, rfl, rfl, rfl, t1, r1⟩ := trodAll_cons r0
  obtain ⟨rfl, rfl, rfl⟩ := trodAll_nil r1
  obtain rfl : args = #[v0, v1] := by cases args; simp_all
  refine law_post (s := Rows.diskOrderSpec) laidOut (fun t ht => ?_) 4 rfl Try.underlying4 rfl rfl hW' ?_
  · rw [Try.params8] at ht
    revert t
    exact of_decide_eq_true (by kernel_rfl)
  obtain ⟨c0, x0, rfl, h0⟩ := arg_rep fits3 (hval 0 3 v0 rfl rfl) t0
  obtain ⟨c1, x1, rfl, h1⟩ := arg_rep fits44 (hval 1 44 v1 rfl rfl) t1
  clear hval hW'
  obtain ⟨rfl, hw0⟩ := h0
  obtain ⟨a, cap, rfl, hok, hsrc, hw1⟩ := rep_ints h1
  refine (diskOrderMain (Base.of W) [] W x0 a x1.length cap x1 rfl (rdV_of W hsrc) hw1 (Inv.start W)).mono ?_
  rintro e w' ⟨he, hi⟩
  exact ⟨he, ext_of hi⟩
theorem holds : Rows.DiskOrderSaid :=
  OpenClaim.holds_of_wide 8 Try.f8 rfl rfl rfl rfl rfl rfl rfl ⟨rfl, rfl, rfl, rfl, rfl⟩ rfl rfl rfl rfl rfl (by kernel_rfl) Try.func8 (by kernel_rfl)
    (of_decide_eq_true (by kernel_rfl)) (by unfold Func.isWrapper; rw [if_neg (of_decide_eq_false (by kernel_rfl))]; exact ⟨rfl, rfl⟩)
    (fun os started H enc _ => lifted os started H enc)
end Go.Proofs.Ytkannfkjnohdlaa.diskOrder
theorem Go.Proofs.Ytkannfkjnohdlaa.diskOrder_holds : Go.Proofs.Ytkannfkjnohdlaa.Rows.DiskOrderSaid := Go.Proofs.Ytkannfkjnohdlaa.diskOrder.holds
