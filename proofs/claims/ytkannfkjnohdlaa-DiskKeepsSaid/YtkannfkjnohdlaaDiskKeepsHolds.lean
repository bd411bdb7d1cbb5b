/- DiskKeeps, for every input: the law returns true and leaves what was there alone. -/
import Derived.Test.YtkannfkjnohdlaaRows
import Derived.Test.YtkannfkjnohdlaaLaw
import Derived.Test.YtkannfkjnohdlaaLawDiskKeeps
import Derived.Test.YtkannfkjnohdlaaArgs
import Derived.JoinedAt
namespace Go.Proofs.Ytkannfkjnohdlaa.diskKeeps
open Go.RowKit Go.WideShapes Go.ChangeShapes Go.ChangeAt Go.Pm
theorem own : ownKnob Try.prog.godebug = none := by kernel_rfl
theorem laidOut : laidOutB Try.prog = true := by kernel_rfl
theorem fits24 : Fits Try.prog 9 24 (.slice (.int .u8)) := ⟨5, Try.underlying24, by kernel_rfl, by decide, Try.underlying5⟩
theorem fits35 : Fits Try.prog 9 35 (.slice (.slice (.int .i64))) := ⟨44, Try.underlying35, by kernel_rfl, by decide, ⟨3, Try.underlying44, by kernel_rfl, by decide, Try.underlying3⟩⟩
set_option maxRecDepth 100000 in
theorem lifted (os : Os) (started : os.Started) (H : Type) (enc : TypeId × Value → H) :
    ReturnsInHanded {} Try.checked os 7 .any (Rows.diskKeepsSpec.pre6 enc Try.prog Try.f7 Rows.diskKeepsRow.domain false) (Rows.diskKeepsSpec.post enc Try.prog Try.f7 false true false false) := by
  refine returnsInHanded_of_change (C := Try.checked) own started (by kernel_rfl) Try.func7
    (ChangeSpec.witness6 (enc := enc) (C := Try.checked) false ⟨#[], #[.slice none 0 0, .slice none 0 0], []⟩ 8 (by kernel_rfl) (by kernel_rfl) (by kernel_rfl) (by kernel_rfl)) ?_
  intro W base args ds gs before hval hW _ _
  have hW' : DataW.Whole enc Try.prog Try.f7.params.toList [] false W args.toList ds gs before := hW
  obtain ⟨p, q, hA, -⟩ := hW
  have hA : DataW.TrodAll enc Try.prog W 0 (fun _ => true) true Try.f7.params.toList args.toList ds p := hA
  have hval : ∀ (j : Nat) t v, Try.f7.params[j]? = some t → args[j]? = some v → Value.okWide Try.prog W .any base t v := hval
  rw [Try.params7] at hA hval
  obtain ⟨v0, vs0, d0, ds0, p0, q0, hargs, rfl, rfl, t0, r0⟩ := trodAll_cons hA
  obtain ⟨v1, vs1, d1, ds1, p1, q1, rfl, rfl, rfl, t1, r1⟩ := trodAll_cons r0
  obtain ⟨rfl, rfl, rfl⟩ := trodAll_nil r1
  obtain rfl : args = #[v0, v1] := by cases args; simp_all
  refine law_post (s := Rows.diskKeepsSpec) laidOut (fun t ht => ?_) 4 rfl Try.underlying4 rfl rfl hW' ?_
  · rw [Try.params7] at ht
    revert t
    exact of_decide_eq_true (by kernel_rfl)
  obtain ⟨c0, x0, rfl, h0⟩ := arg_rep fits24 (hval 0 24 v0 rfl rfl) t0
  obtain ⟨c1, x1, rfl, h1⟩ := arg_rep fits35 (hval 1 35 v1 rfl rfl) t1
  clear hval hW'
  obtain ⟨a, ca, rfl, hok, hb⟩ := rep_bytes.1 h0
  obtain ⟨b, cb, rfl, hok1, hsrc, hw1⟩ := rep_intss h1
  refine (diskKeepsMain (Base.of W) [] W a x0.length ca x0 b x1.length cb x1 rfl rfl (rdV_of W hb.src) hsrc hw1 (Inv.start W)).mono ?_
  rintro e w' ⟨he, hi⟩
  exact ⟨he, ext_of hi⟩
theorem holds : Rows.DiskKeepsSaid :=
  OpenClaim.holds_of_wide 7 Try.f7 rfl rfl rfl rfl rfl rfl rfl ⟨rfl, rfl, rfl, rfl, rfl⟩ rfl rfl rfl rfl rfl (by kernel_rfl) Try.func7 (by kernel_rfl)
    (of_decide_eq_true (by kernel_rfl)) (by unfold Func.isWrapper; rw [if_neg (of_decide_eq_false (by kernel_rfl))]; exact ⟨rfl, rfl⟩)
    (fun os started H enc _ => lifted os started H enc)
end Go.Proofs.Ytkannfkjnohdlaa.diskKeeps
theorem Go.Proofs.Ytkannfkjnohdlaa.diskKeeps_holds : Go.Proofs.Ytkannfkjnohdlaa.Rows.DiskKeepsSaid := Go.Proofs.Ytkannfkjnohdlaa.diskKeeps.holds
