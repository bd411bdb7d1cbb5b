/- StorePrunes, for every input: the law returns true and leaves what was there alone. -/
import Derived.Test.YtffmbdagjpdieaaRows
import Derived.Test.YtffmbdagjpdieaaSpA
import Derived.Test.YtffmbdagjpdieaaSpM
import Derived.JoinedAt
set_option maxRecDepth 100000
namespace Go.Proofs.Ytffmbdagjpdieaa.storePrunes
open Go.RowKit Go.WideShapes Go.ChangeShapes Go.ChangeAt Go.Pm
theorem own : ownKnob Try.prog.godebug = none := by kernel_rfl
theorem laidOut : laidOutB Try.prog = true := by kernel_rfl
theorem fits22 : Fits Try.prog 9 22 (.slice (.slice (.pair .str (.pair (.pair (.int .i64) (.pair .bool (.pair (.int .i64) (.pair (.pair (.int .i64) (.pair .str (.pair (.slice (.pair .str (.pair .str .unit))) (.pair (.slice .str) (.pair (.slice (.pair (.int .i64) (.pair .str .unit))) .unit))))) .unit)))) .unit)))) := ⟨27, Try.underlying22, by kernel_rfl, by decide, ⟨40, Try.underlying27, by kernel_rfl, by decide, ⟨_, Try.underlying40, by kernel_rfl, ⟨rfl, by kernel_rfl, Try.underlying9, ⟨rfl, by kernel_rfl, ⟨_, Try.underlying38, by kernel_rfl, ⟨rfl, by kernel_rfl, Try.underlying3, ⟨rfl, by kernel_rfl, Try.underlying4, ⟨rfl, by kernel_rfl, Try.underlying3, ⟨rfl, by kernel_rfl, ⟨_, Try.underlying36, by kernel_rfl, ⟨rfl, by kernel_rfl, Try.underlying3, ⟨rfl, by kernel_rfl, Try.underlying9, ⟨rfl, by kernel_rfl, ⟨83, Try.underlying32, by kernel_rfl, by decide, ⟨_, Try.underlying83, by kernel_rfl, ⟨rfl, by kernel_rfl, Try.underlying9, ⟨rfl, by kernel_rfl, Try.underlying9, trivial⟩⟩⟩⟩, ⟨rfl, by kernel_rfl, ⟨9, Try.underlying33, by kernel_rfl, by decide, Try.underlying9⟩, ⟨rfl, by kernel_rfl, ⟨85, Try.underlying34, by kernel_rfl, by decide, ⟨_, Try.underlying85, by kernel_rfl, ⟨rfl, by kernel_rfl, Try.underlying3, ⟨rfl, by kernel_rfl, Try.underlying9, trivial⟩⟩⟩⟩, trivial⟩⟩⟩⟩⟩⟩, trivial⟩⟩⟩⟩⟩, trivial⟩⟩⟩⟩⟩
theorem fits49 : Fits Try.prog 9 49 (.arr 2 (.int .i64)) := ⟨3, Try.underlying49, by kernel_rfl, by kernel_rfl, Try.underlying3⟩
set_option maxHeartbeats 4000000 in
theorem lifted (os : Os) (started : os.Started) (H : Type) (enc : TypeId × Value → H) :
  ReturnsInHanded {} Try.checked os 5 .any (Rows.storePrunesSpec.pre6 enc Try.prog Try.f5 Rows.storePrunesRow.domain false) (Rows.storePrunesSpec.post enc Try.prog Try.f5 false true false false) := by
 refine returnsInHanded_of_change (C := Try.checked) own started (by kernel_rfl) Try.func5
  (ChangeSpec.witness6 (enc := enc) (C := Try.checked) false ⟨#[], #[.slice none 0 0, .agg #[.int .i64 0, .int .i64 0], .agg #[.int .i64 0, .int .i64 0]], []⟩ 8 (by kernel_rfl) (by kernel_rfl) (by kernel_rfl) (by kernel_rfl)) ?_
 intro W base args ds gs before hval hW _ _
 have hW' : DataW.Whole enc Try.prog Try.f5.params.toList [] false W args.toList ds gs before := hW
 obtain ⟨p, q, hA, -⟩ := hW
 have hA : DataW.TrodAll enc Try.prog W 0 (fun _ => true) true Try.f5.params.toList args.toList ds p := hA
 have hval : ∀ (j : Nat) t v, Try.f5.params[j]? = some t → args[j]? = some v → Value.okWide Try.prog W .any base t v := hval
 rw [Try.params5] at hA hval
 obtain ⟨v0, vs0, d0, ds0, p0, q0, hargs, rfl, rfl, t0, r0⟩ := trodAll_cons hA
 obtain ⟨v1, vs1, d1, ds1, p1, q1, rfl, rfl, rfl, t1, r1⟩ := trodAll_cons r0
 obtain ⟨v2, vs2, d2, ds2, p2, q2, rfl, rfl, rfl, t2, r2⟩ := trodAll_cons r1
 obtain ⟨rfl, rfl, rfl⟩ := trodAll_nil r2
 obtain rfl : args = #[v0, v1, v2] := by cases args; simp_all
 refine law_post (s := Rows.storePrunesSpec) laidOut (fun t ht => ?_) 4 rfl Try.underlying4 rfl rfl hW' ?_
 ·rw [Try.params5] at ht
  revert t
  exact of_decide_eq_true (by kernel_rfl)
 obtain ⟨c0, x0, rfl, h0⟩ := arg_rep fits22 (hval 0 22 v0 rfl rfl) t0
 obtain ⟨c1, x1, rfl, h1⟩ := arg_rep fits49 (hval 1 49 v1 rfl rfl) t1
 obtain ⟨c2, x2, rfl, h2⟩ := arg_rep fits49 (hval 2 49 v2 rfl rfl) t2
 clear hval hW'
 obtain ⟨a, ca, xs, ll, rfl, hrd, hw⟩ := rep_wssL h0
 obtain ⟨s0, s9, rfl, rfl, hb⟩ := rep_arr2 h1
 obtain ⟨c0, c1, rfl, rfl, -⟩ := rep_arr2 h2
 change Calls _ _ #[Value.slice a ll.length ca, Value.agg #[Value.int .i64 s0, Value.int .i64 s9], Value.agg #[Value.int .i64 c0, Value.int .i64 c1]] _ _
 have h9 := storePrunesMain (Base.of W) [] W a ca ll xs s0 s9 c0 c1 hb hrd hw (Inv.start W)
 refine Calls.mono h9 ?_
 rintro e w' ⟨he, hi⟩
 exact ⟨he, ext_of hi⟩
theorem holds : Rows.StorePrunesSaid :=
 OpenClaim.holds_of_wide 5 Try.f5 rfl rfl rfl rfl rfl rfl rfl ⟨rfl, rfl, rfl, rfl, rfl⟩ rfl rfl rfl rfl rfl (by kernel_rfl) Try.func5 (by kernel_rfl)
  (of_decide_eq_true (by kernel_rfl)) (by unfold Func.isWrapper; rw [if_neg (of_decide_eq_false (by kernel_rfl))]; exact ⟨rfl, rfl⟩)
  (fun os started H enc _ => lifted os started H enc)
end Go.Proofs.Ytffmbdagjpdieaa.storePrunes
theorem Go.Proofs.Ytffmbdagjpdieaa.storePrunes_holds : Go.Proofs.Ytffmbdagjpdieaa.Rows.StorePrunesSaid := Go.Proofs.Ytffmbdagjpdieaa.storePrunes.holds
