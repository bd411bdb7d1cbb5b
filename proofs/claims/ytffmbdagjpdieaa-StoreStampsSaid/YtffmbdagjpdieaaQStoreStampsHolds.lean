/- StoreStamps, for every input: the law returns true and leaves what was there alone. -/
import Derived.Test.YtffmbdagjpdieaaRows
import Derived.Test.YtffmbdagjpdieaaStA
import Derived.Test.YtffmbdagjpdieaaStM
import Derived.Test.YtffmbdagjpdieaaStH
import Derived.JoinedAt
set_option maxRecDepth 100000
namespace Go.Proofs.Ytffmbdagjpdieaa.storeStamps
open Go.RowKit Go.WideShapes Go.ChangeShapes Go.ChangeAt Go.Pm
theorem own : ownKnob Try.prog.godebug = none := by kernel_rfl
theorem laidOut : laidOutB Try.prog = true := by kernel_rfl
theorem fits22 : Fits Try.prog 9 22 (.slice (.slice (.pair .str (.pair (.pair (.int .i64) (.pair .bool (.pair (.int .i64) (.pair (.pair (.int .i64) (.pair .str (.pair (.slice (.pair .str (.pair .str .unit))) (.pair (.slice .str) (.pair (.slice (.pair (.int .i64) (.pair .str .unit))) .unit))))) .unit)))) .unit)))) := ⟨27, Try.underlying22, by kernel_rfl, by decide, ⟨40, Try.underlying27, by kernel_rfl, by decide, ⟨_, Try.underlying40, by kernel_rfl, ⟨rfl, by kernel_rfl, Try.underlying9, ⟨rfl, by kernel_rfl, ⟨_, Try.underlying38, by kernel_rfl, ⟨rfl, by kernel_rfl, Try.underlying3, ⟨rfl, by kernel_rfl, Try.underlying4, ⟨rfl, by kernel_rfl, Try.underlying3, ⟨rfl, by kernel_rfl, ⟨_, Try.underlying36, by kernel_rfl, ⟨rfl, by kernel_rfl, Try.underlying3, ⟨rfl, by kernel_rfl, Try.underlying9, ⟨rfl, by kernel_rfl, ⟨83, Try.underlying32, by kernel_rfl, by decide, ⟨_, Try.underlying83, by kernel_rfl, ⟨rfl, by kernel_rfl, Try.underlying9, ⟨rfl, by kernel_rfl, Try.underlying9, trivial⟩⟩⟩⟩, ⟨rfl, by kernel_rfl, ⟨9, Try.underlying33, by kernel_rfl, by decide, Try.underlying9⟩, ⟨rfl, by kernel_rfl, ⟨85, Try.underlying34, by kernel_rfl, by decide, ⟨_, Try.underlying85, by kernel_rfl, ⟨rfl, by kernel_rfl, Try.underlying3, ⟨rfl, by kernel_rfl, Try.underlying9, trivial⟩⟩⟩⟩, trivial⟩⟩⟩⟩⟩⟩, trivial⟩⟩⟩⟩⟩, trivial⟩⟩⟩⟩⟩
set_option maxHeartbeats 4000000 in
theorem lifted (os : Os) (started : os.Started) (H : Type) (enc : TypeId × Value → H) :
  ReturnsInHanded {} Try.checked os 3 .any (Rows.storeStampsSpec.pre6 enc Try.prog Try.f3 Rows.storeStampsRow.domain false) (Rows.storeStampsSpec.post enc Try.prog Try.f3 false true false false) := by
 refine returnsInHanded_of_change (C := Try.checked) own started (by kernel_rfl) Try.func3
  (ChangeSpec.witness6 (enc := enc) (C := Try.checked) false ⟨#[], #[.slice none 0 0], []⟩ 8 (by kernel_rfl) (by kernel_rfl) (by kernel_rfl) (by kernel_rfl)) ?_
 intro W base args ds gs before hval hW _ _
 have hW' : DataW.Whole enc Try.prog Try.f3.params.toList [] false W args.toList ds gs before := hW
 obtain ⟨p, q, hA, -⟩ := hW
 have hA : DataW.TrodAll enc Try.prog W 0 (fun _ => true) true Try.f3.params.toList args.toList ds p := hA
 have hval : ∀ (j : Nat) t v, Try.f3.params[j]? = some t → args[j]? = some v → Value.okWide Try.prog W .any base t v := hval
 rw [Try.params3] at hA hval
 obtain ⟨v0, vs0, d0, ds0, p0, q0, hargs, rfl, rfl, t0, r0⟩ := trodAll_cons hA
 obtain ⟨rfl, rfl, rfl⟩ := trodAll_nil r0
 obtain rfl : args = #[v0] := by cases args; simp_all
 refine law_post (s := Rows.storeStampsSpec) laidOut (fun t ht => ?_) 4 rfl Try.underlying4 rfl rfl hW' ?_
 ·rw [Try.params3] at ht
  revert t
  exact of_decide_eq_true (by kernel_rfl)
 obtain ⟨c0, x0, rfl, h0⟩ := arg_rep fits22 (hval 0 22 v0 rfl rfl) t0
 clear hval hW'
 obtain ⟨a, ca, xs, ll, rfl, hrd, hw⟩ := rep_wssL h0
 change Calls _ _ #[Value.slice a ll.length ca] _ _
 have h9 := storeStampsMain (Base.of W) [] W a ca ll xs hrd hw (Inv.start W)
 refine Calls.mono h9 ?_
 rintro e w' ⟨he, hi⟩
 exact ⟨he, ext_of hi⟩
theorem holds : Rows.StoreStampsSaid :=
 OpenClaim.holds_of_wide 3 Try.f3 rfl rfl rfl rfl rfl rfl rfl ⟨rfl, rfl, rfl, rfl, rfl⟩ rfl rfl rfl rfl rfl (by kernel_rfl) Try.func3 (by kernel_rfl)
  (of_decide_eq_true (by kernel_rfl)) (by unfold Func.isWrapper; rw [if_neg (of_decide_eq_false (by kernel_rfl))]; exact ⟨rfl, rfl⟩)
  (fun os started H enc _ => lifted os started H enc)
end Go.Proofs.Ytffmbdagjpdieaa.storeStamps
theorem Go.Proofs.Ytffmbdagjpdieaa.storeStamps_holds : Go.Proofs.Ytffmbdagjpdieaa.Rows.StoreStampsSaid := Go.Proofs.Ytffmbdagjpdieaa.storeStamps.holds
