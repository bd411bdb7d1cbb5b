/- StoreOld, for every input: the law returns true and leaves what was there alone. -/
import Derived.Test.YtffmbdagjpdieaaRows
import Derived.Test.YtffmbdagjpdieaaSoA
import Derived.Test.YtffmbdagjpdieaaSoM
import Derived.Test.YtffmbdagjpdieaaSoL
import Derived.JoinedAt
set_option maxRecDepth 100000
namespace Go.Proofs.Ytffmbdagjpdieaa.storeOld
open Go.RowKit Go.WideShapes Go.ChangeShapes Go.ChangeAt Go.Pm
theorem own : ownKnob Try.prog.godebug = none := by kernel_rfl
theorem laidOut : laidOutB Try.prog = true := by kernel_rfl
theorem fits3 : Fits Try.prog 9 3 (.int .i64) := Try.underlying3
theorem fits22 : Fits Try.prog 9 22 (.slice (.slice (.pair .str (.pair (.pair (.int .i64) (.pair .bool (.pair (.int .i64) (.pair (.pair (.int .i64) (.pair .str (.pair (.slice (.pair .str (.pair .str .unit))) (.pair (.slice .str) (.pair (.slice (.pair (.int .i64) (.pair .str .unit))) .unit))))) .unit)))) .unit)))) := ⟨27, Try.underlying22, by kernel_rfl, by decide, ⟨40, Try.underlying27, by kernel_rfl, by decide, ⟨_, Try.underlying40, by kernel_rfl, ⟨rfl, by kernel_rfl, Try.underlying9, ⟨rfl, by kernel_rfl, ⟨_, Try.underlying38, by kernel_rfl, ⟨rfl, by kernel_rfl, Try.underlying3, ⟨rfl, by kernel_rfl, Try.underlying4, ⟨rfl, by kernel_rfl, Try.underlying3, ⟨rfl, by kernel_rfl, ⟨_, Try.underlying36, by kernel_rfl, ⟨rfl, by kernel_rfl, Try.underlying3, ⟨rfl, by kernel_rfl, Try.underlying9, ⟨rfl, by kernel_rfl, ⟨83, Try.underlying32, by kernel_rfl, by decide, ⟨_, Try.underlying83, by kernel_rfl, ⟨rfl, by kernel_rfl, Try.underlying9, ⟨rfl, by kernel_rfl, Try.underlying9, trivial⟩⟩⟩⟩, ⟨rfl, by kernel_rfl, ⟨9, Try.underlying33, by kernel_rfl, by decide, Try.underlying9⟩, ⟨rfl, by kernel_rfl, ⟨85, Try.underlying34, by kernel_rfl, by decide, ⟨_, Try.underlying85, by kernel_rfl, ⟨rfl, by kernel_rfl, Try.underlying3, ⟨rfl, by kernel_rfl, Try.underlying9, trivial⟩⟩⟩⟩, trivial⟩⟩⟩⟩⟩⟩, trivial⟩⟩⟩⟩⟩, trivial⟩⟩⟩⟩⟩
set_option maxHeartbeats 4000000 in
theorem lifted (os : Os) (started : os.Started) (H : Type) (enc : TypeId × Value → H) :
  ReturnsInHanded {} Try.checked os 4 .any (Rows.storeOldSpec.pre6 enc Try.prog Try.f4 Rows.storeOldRow.domain false) (Rows.storeOldSpec.post enc Try.prog Try.f4 false true false false) := by
 refine returnsInHanded_of_change (C := Try.checked) own started (by kernel_rfl) Try.func4
  (ChangeSpec.witness6 (enc := enc) (C := Try.checked) false ⟨#[], #[.slice none 0 0, .int .i64 0, .int .i64 0], []⟩ 8 (by kernel_rfl) (by kernel_rfl) (by kernel_rfl) (by kernel_rfl)) ?_
 intro W base args ds gs before hval hW _ _
 have hW' : DataW.Whole enc Try.prog Try.f4.params.toList [] false W args.toList ds gs before := hW
 obtain ⟨p, q, hA, -⟩ := hW
 have hA : DataW.TrodAll enc Try.prog W 0 (fun _ => true) true Try.f4.params.toList args.toList ds p := hA
 have hval : ∀ (j : Nat) t v, Try.f4.params[j]? = some t → args[j]? = some v → Value.okWide Try.prog W .any base t v := hval
 rw [Try.params4] at hA hval
 obtain ⟨v0, vs0, d0, ds0, p0, q0, hargs, rfl, rfl, t0, r0⟩ := trodAll_cons hA
 obtain ⟨v1, vs1, d1, ds1, p1, q1, rfl, rfl, rfl, t1, r1⟩ := trodAll_cons r0
 obtain ⟨v2, vs2, d2, ds2, p2, q2, rfl, rfl, rfl, t2, r2⟩ := trodAll_cons r1
 obtain ⟨rfl, rfl, rfl⟩ := trodAll_nil r2
 obtain rfl : args = #[v0, v1, v2] := by cases args; simp_all
 refine law_post (s := Rows.storeOldSpec) laidOut (fun t ht => ?_) 4 rfl Try.underlying4 rfl rfl hW' ?_
 ·rw [Try.params4] at ht
  revert t
  exact of_decide_eq_true (by kernel_rfl)
 obtain ⟨c0, x0, rfl, h0⟩ := arg_rep fits22 (hval 0 22 v0 rfl rfl) t0
 obtain ⟨c1, x1, rfl, h1⟩ := arg_rep fits3 (hval 1 3 v1 rfl rfl) t1
 obtain ⟨c2, x2, rfl, h2⟩ := arg_rep fits3 (hval 2 3 v2 rfl rfl) t2
 clear hval hW'
 obtain ⟨a, ca, xs, ll, rfl, hrd, hw⟩ := rep_wssL h0
 obtain ⟨rfl, hw1⟩ := h1
 obtain ⟨rfl, hw2⟩ := h2
 change Calls _ _ #[Value.slice a ll.length ca, Value.int .i64 x1, Value.int .i64 x2] _ _
 refine Calls.mono (?h9 : Calls _ _ _ _ fun e w' => e = Ending.returned (Value.bool true) ∧ Go.Pm.Inv (Base.of W) [] w') ?h8
 case h9 =>
  cases ll with
  | nil => exact storeOldNil (Base.of W) [] W a ca x1 x2 (Inv.start W)
  | cons l ll => exact storeOldMain (Base.of W) [] W a ca (l :: ll) xs x1 x2 (Nat.succ_pos _) hrd hw (Inv.start W)
 case h8 =>
  rintro e w' ⟨he, hi⟩
  exact ⟨he, ext_of hi⟩
theorem holds : Rows.StoreOldSaid :=
 OpenClaim.holds_of_wide 4 Try.f4 rfl rfl rfl rfl rfl rfl rfl ⟨rfl, rfl, rfl, rfl, rfl⟩ rfl rfl rfl rfl rfl (by kernel_rfl) Try.func4 (by kernel_rfl)
  (of_decide_eq_true (by kernel_rfl)) (by unfold Func.isWrapper; rw [if_neg (of_decide_eq_false (by kernel_rfl))]; exact ⟨rfl, rfl⟩)
  (fun os started H enc _ => lifted os started H enc)
end Go.Proofs.Ytffmbdagjpdieaa.storeOld
theorem Go.Proofs.Ytffmbdagjpdieaa.storeOld_holds : Go.Proofs.Ytffmbdagjpdieaa.Rows.StoreOldSaid := Go.Proofs.Ytffmbdagjpdieaa.storeOld.holds
