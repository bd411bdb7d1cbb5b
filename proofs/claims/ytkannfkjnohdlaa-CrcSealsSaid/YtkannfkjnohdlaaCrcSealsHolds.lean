/- CrcSeals, for every input: the law returns true and leaves what was there alone. -/
import Derived.Test.YtkannfkjnohdlaaRows
import Derived.Test.YtkannfkjnohdlaaLaw
import Derived.Test.YtkannfkjnohdlaaCrcSeals
import Derived.JoinedAt
namespace Go.Proofs.Ytkannfkjnohdlaa.crcSeals
open Go.RowKit Go.WideShapes Go.ChangeShapes Go.ChangeAt Go.Pm
theorem own : ownKnob Try.prog.godebug = none := by kernel_rfl
theorem laidOut : laidOutB Try.prog = true := by kernel_rfl
theorem fits24 : Fits Try.prog 9 24 (.slice (.int .u8)) := ⟨5, Try.underlying24, by kernel_rfl, by decide, Try.underlying5⟩
set_option maxRecDepth 100000 in
theorem lifted (os : Os) (started : os.Started) (H : Type) (enc : TypeId × Value → H) :
    ReturnsInHanded {} Try.checked os 6 .any (Rows.crcSealsSpec.pre6 enc Try.prog Try.f6 Rows.crcSealsRow.domain false) (Rows.crcSealsSpec.post enc Try.prog Try.f6 false true false false) := by
  refine returnsInHanded_of_change (C := Try.checked) own started (by kernel_rfl) Try.func6
    (ChangeSpec.witness6 (enc := enc) (C := Try.checked) false ⟨#[], #[.slice none 0 0, .slice none 0 0], []⟩ 8 (by kernel_rfl) (by kernel_rfl) (by kernel_rfl) (by kernel_rfl)) ?_
  intro W base args ds gs before hval hW _ _
  have hW' : DataW.Whole enc Try.prog Try.f6.params.toList [] false W args.toList ds gs before := hW
  obtain ⟨p, q, hA, -⟩ := hW
  have hA : DataW.TrodAll enc Try.prog W 0 (fun _ => true) true Try.f6.params.toList args.toList ds p := hA
  have hval : ∀ (j : Nat) t v, Try.f6.params[j]? = some t → args[j]? = some v → Value.okWide Try.prog W .any base t v := hval
  rw [Try.params6] at hA hval
  obtain ⟨v0, vs0, d0, ds0, p0, q0, hargs, rfl, rfl, t0, r0⟩ := trodAll_cons hA
  obtain ⟨v1, vs1, d1, ds1, p1, q1, rfl, rfl, rfl, t1, r1⟩ := trodAll_cons r0
  obtain ⟨rfl, rfl, rfl⟩ := trodAll_nil r1
  obtain rfl : args = #[v0, v1] := by cases args; simp_all
  refine law_post (s := Rows.crcSealsSpec) laidOut (fun t ht => ?_) 4 rfl Try.underlying4 rfl rfl hW' ?_
  · rw [Try.params6] at ht
    revert t
    exact of_decide_eq_true (by kernel_rfl)
  obtain ⟨c0, x0, rfl, h0⟩ := arg_rep fits24 (hval 0 24 v0 rfl rfl) t0
  obtain ⟨c1, x1, rfl, h1⟩ := arg_rep fits24 (hval 1 24 v1 rfl rfl) t1
  clear hval hW'
  obtain ⟨a, ca, rfl, hok, hb⟩ := rep_bytes.1 h0
  obtain ⟨b, cb, rfl, hok2, hb2⟩ := rep_bytes.1 h1
  by_cases hbig : 2000 < x0.length ∨ 2000 < x1.length
  · exact crcSealsBig W a b ca cb x0 x1 hok hok2 hbig
  · exact crcSealsMain W a b ca cb x0 x1 hok hok2 (by omega) (by omega) hb hb2
theorem holds : Rows.CrcSealsSaid :=
  OpenClaim.holds_of_wide 6 Try.f6 rfl rfl rfl rfl rfl rfl rfl ⟨rfl, rfl, rfl, rfl, rfl⟩ rfl rfl rfl rfl rfl (by kernel_rfl) Try.func6 (by kernel_rfl)
    (of_decide_eq_true (by kernel_rfl)) (by unfold Func.isWrapper; rw [if_neg (of_decide_eq_false (by kernel_rfl))]; exact ⟨rfl, rfl⟩)
    (fun os started H enc _ => lifted os started H enc)
end Go.Proofs.Ytkannfkjnohdlaa.crcSeals
theorem Go.Proofs.Ytkannfkjnohdlaa.crcSeals_holds : Go.Proofs.Ytkannfkjnohdlaa.Rows.CrcSealsSaid := Go.Proofs.Ytkannfkjnohdlaa.crcSeals.holds
