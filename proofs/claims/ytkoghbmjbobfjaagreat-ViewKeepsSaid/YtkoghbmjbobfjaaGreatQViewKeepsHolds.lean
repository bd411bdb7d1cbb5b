/- ViewKeeps, for every input: the law returns true and leaves what was there alone. -/
import Derived.Test.YtkoghbmjbobfjaaGreatRows
import Derived.Test.YtkoghbmjbobfjaaGreatVwKeepA
import Derived.Test.YtkoghbmjbobfjaaGreatVwKeepJ
import Derived.JoinedAt
set_option maxRecDepth 100000
namespace Go.Proofs.YtkoghbmjbobfjaaGreat.viewKeeps
open Go.RowKit Go.WideShapes Go.ChangeShapes Go.ChangeAt Go.Pm
theorem own : ownKnob Tryz.prog.godebug = none := by kernel_rfl
theorem laidOut : laidOutB Tryz.prog = true := by kernel_rfl
theorem fits3 : Fits Tryz.prog 9 3 (.int .i64) := Tryz.underlying3
theorem fits22 : Fits Tryz.prog 9 22 (.slice (.pair .str (.pair (.pair (.int .i64) (.pair .str (.pair (.slice (.pair .str (.pair .str .unit))) (.pair (.slice .str) (.pair (.slice (.pair (.int .i64) (.pair .str .unit))) .unit))))) (.pair (.int .i64) (.pair (.int .i64) .unit))))) := ⟨37, Tryz.underlying22, by kernel_rfl, by decide, ⟨_, Tryz.underlying37, by kernel_rfl, ⟨rfl, by kernel_rfl, Tryz.underlying9, ⟨rfl, by kernel_rfl, ⟨_, Tryz.underlying35, by kernel_rfl, ⟨rfl, by kernel_rfl, Tryz.underlying3, ⟨rfl, by kernel_rfl, Tryz.underlying9, ⟨rfl, by kernel_rfl, ⟨97, Tryz.underlying32, by kernel_rfl, by decide, ⟨_, Tryz.underlying97, by kernel_rfl, ⟨rfl, by kernel_rfl, Tryz.underlying9, ⟨rfl, by kernel_rfl, Tryz.underlying9, trivial⟩⟩⟩⟩, ⟨rfl, by kernel_rfl, ⟨9, Tryz.underlying29, by kernel_rfl, by decide, Tryz.underlying9⟩, ⟨rfl, by kernel_rfl, ⟨99, Tryz.underlying33, by kernel_rfl, by decide, ⟨_, Tryz.underlying99, by kernel_rfl, ⟨rfl, by kernel_rfl, Tryz.underlying3, ⟨rfl, by kernel_rfl, Tryz.underlying9, trivial⟩⟩⟩⟩, trivial⟩⟩⟩⟩⟩⟩, ⟨rfl, by kernel_rfl, Tryz.underlying3, ⟨rfl, by kernel_rfl, Tryz.underlying3, trivial⟩⟩⟩⟩⟩⟩
set_option maxHeartbeats 4000000 in
theorem lifted (os : Os) (started : os.Started) (H : Type) (enc : TypeId × Value → H) :
  ReturnsInHanded {} Tryz.checked os 3 .any (Rows.viewKeepsSpec.pre6 enc Tryz.prog Tryz.f3 Rows.viewKeepsRow.domain false) (Rows.viewKeepsSpec.post enc Tryz.prog Tryz.f3 false true false false) := by
 refine returnsInHanded_of_change (C := Tryz.checked) own started (by kernel_rfl) Tryz.func3
  (ChangeSpec.witness6 (enc := enc) (C := Tryz.checked) false ⟨#[], #[.slice none 0 0, .int .i64 0], []⟩ 8 (by kernel_rfl) (by kernel_rfl) (by kernel_rfl) (by kernel_rfl)) ?_
 intro W base args ds gs before hval hW _ _
 have hW' : DataW.Whole enc Tryz.prog Tryz.f3.params.toList [] false W args.toList ds gs before := hW
 obtain ⟨p, q, hA, -⟩ := hW
 have hA : DataW.TrodAll enc Tryz.prog W 0 (fun _ => true) true Tryz.f3.params.toList args.toList ds p := hA
 have hval : ∀ (j : Nat) t v, Tryz.f3.params[j]? = some t → args[j]? = some v → Value.okWide Tryz.prog W .any base t v := hval
 rw [Tryz.params3] at hA hval
 obtain ⟨v0, vs0, d0, ds0, p0, q0, hargs, rfl, rfl, t0, r0⟩ := trodAll_cons hA
 obtain ⟨v1, vs1, d1, ds1, p1, q1, rfl, rfl, rfl, t1, r1⟩ := trodAll_cons r0
 obtain ⟨rfl, rfl, rfl⟩ := trodAll_nil r1
 obtain rfl : args = #[v0, v1] := by cases args; simp_all
 refine law_post (s := Rows.viewKeepsSpec) laidOut (fun t ht => ?_) 4 rfl Tryz.underlying4 rfl rfl hW' ?_
 ·rw [Tryz.params3] at ht
  revert t
  exact of_decide_eq_true (by kernel_rfl)
 obtain ⟨c0, x0, rfl, h0⟩ := arg_rep fits22 (hval 0 22 v0 rfl rfl) t0
 obtain ⟨c1, x1, rfl, h1⟩ := arg_rep fits3 (hval 1 3 v1 rfl rfl) t1
 clear hval hW'
 obtain ⟨a, ca, n, rfl, hr⟩ := rep_acts20 h0
 obtain ⟨rfl, hw1⟩ := h1
 change Calls _ _ #[Value.slice a n ca, Value.int .i64 x1] _ _
 have h9 := viewKeepsMain (Base.of W) [] W a n ca x1 hr (Inv.start W)
 refine Calls.mono h9 ?_
 rintro e w' ⟨he, hi⟩
 exact ⟨he, ext_of hi⟩
theorem holds : Rows.ViewKeepsSaid :=
 OpenClaim.holds_of_wide 3 Tryz.f3 rfl rfl rfl rfl rfl rfl rfl ⟨rfl, rfl, rfl, rfl, rfl⟩ rfl rfl rfl rfl rfl (by kernel_rfl) Tryz.func3 (by kernel_rfl)
  (of_decide_eq_true (by kernel_rfl)) (by unfold Func.isWrapper; rw [if_neg (of_decide_eq_false (by kernel_rfl))]; exact ⟨rfl, rfl⟩)
  (fun os started H enc _ => lifted os started H enc)
end Go.Proofs.YtkoghbmjbobfjaaGreat.viewKeeps
theorem Go.Proofs.YtkoghbmjbobfjaaGreat.viewKeeps_holds : Go.Proofs.YtkoghbmjbobfjaaGreat.Rows.ViewKeepsSaid := Go.Proofs.YtkoghbmjbobfjaaGreat.viewKeeps.holds
