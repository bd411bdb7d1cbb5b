/- TxnOwn, for every input: the law returns true and leaves what was there alone. -/
import Derived.Test.YtkoghbmjbobfjaaGreatRows
import Derived.Test.YtkoghbmjbobfjaaGreatTxOwnA
import Derived.Test.YtkoghbmjbobfjaaGreatTxOwnJ
import Derived.JoinedAt
set_option maxRecDepth 100000
namespace Go.Proofs.YtkoghbmjbobfjaaGreat.txnOwn
open Go.RowKit Go.WideShapes Go.ChangeShapes Go.ChangeAt Go.Pm
theorem own : ownKnob Tryz.prog.godebug = none := by kernel_rfl
theorem laidOut : laidOutB Tryz.prog = true := by kernel_rfl
theorem fits64 : Fits Tryz.prog 9 64 (.slice (.pair (.int .i64) (.pair (.int .i64) (.pair (.int .i64) (.pair (.pair .str (.pair (.pair (.int .i64) (.pair .bool (.pair (.int .i64) (.pair (.pair (.int .i64) (.pair .str (.pair (.slice (.pair .str (.pair .str .unit))) (.pair (.slice .str) (.pair (.slice (.pair (.int .i64) (.pair .str .unit))) .unit))))) .unit)))) .unit)) (.pair (.int .i64) .unit)))))) := ⟨79, Tryz.underlying64, by kernel_rfl, by decide, ⟨_, Tryz.underlying79, by kernel_rfl, ⟨rfl, by kernel_rfl, Tryz.underlying3, ⟨rfl, by kernel_rfl, Tryz.underlying3, ⟨rfl, by kernel_rfl, Tryz.underlying3, ⟨rfl, by kernel_rfl, ⟨_, Tryz.underlying77, by kernel_rfl, ⟨rfl, by kernel_rfl, Tryz.underlying9, ⟨rfl, by kernel_rfl, ⟨_, Tryz.underlying45, by kernel_rfl, ⟨rfl, by kernel_rfl, Tryz.underlying3, ⟨rfl, by kernel_rfl, Tryz.underlying4, ⟨rfl, by kernel_rfl, Tryz.underlying3, ⟨rfl, by kernel_rfl, ⟨_, Tryz.underlying35, by kernel_rfl, ⟨rfl, by kernel_rfl, Tryz.underlying3, ⟨rfl, by kernel_rfl, Tryz.underlying9, ⟨rfl, by kernel_rfl, ⟨97, Tryz.underlying32, by kernel_rfl, by decide, ⟨_, Tryz.underlying97, by kernel_rfl, ⟨rfl, by kernel_rfl, Tryz.underlying9, ⟨rfl, by kernel_rfl, Tryz.underlying9, trivial⟩⟩⟩⟩, ⟨rfl, by kernel_rfl, ⟨9, Tryz.underlying29, by kernel_rfl, by decide, Tryz.underlying9⟩, ⟨rfl, by kernel_rfl, ⟨99, Tryz.underlying33, by kernel_rfl, by decide, ⟨_, Tryz.underlying99, by kernel_rfl, ⟨rfl, by kernel_rfl, Tryz.underlying3, ⟨rfl, by kernel_rfl, Tryz.underlying9, trivial⟩⟩⟩⟩, trivial⟩⟩⟩⟩⟩⟩, trivial⟩⟩⟩⟩⟩, trivial⟩⟩⟩, ⟨rfl, by kernel_rfl, Tryz.underlying3, trivial⟩⟩⟩⟩⟩⟩⟩
set_option maxHeartbeats 4000000 in
theorem lifted (os : Os) (started : os.Started) (H : Type) (enc : TypeId × Value → H) :
  ReturnsInHanded {} Tryz.checked os 4 .any (Rows.txnOwnSpec.pre6 enc Tryz.prog Tryz.f4 Rows.txnOwnRow.domain false) (Rows.txnOwnSpec.post enc Tryz.prog Tryz.f4 false true false false) := by
 refine returnsInHanded_of_change (C := Tryz.checked) own started (by kernel_rfl) Tryz.func4
  (ChangeSpec.witness6 (enc := enc) (C := Tryz.checked) false ⟨#[], #[.slice none 0 0], []⟩ 8 (by kernel_rfl) (by kernel_rfl) (by kernel_rfl) (by kernel_rfl)) ?_
 intro W base args ds gs before hval hW _ _
 have hW' : DataW.Whole enc Tryz.prog Tryz.f4.params.toList [] false W args.toList ds gs before := hW
 obtain ⟨p, q, hA, -⟩ := hW
 have hA : DataW.TrodAll enc Tryz.prog W 0 (fun _ => true) true Tryz.f4.params.toList args.toList ds p := hA
 have hval : ∀ (j : Nat) t v, Tryz.f4.params[j]? = some t → args[j]? = some v → Value.okWide Tryz.prog W .any base t v := hval
 rw [Tryz.params4] at hA hval
 obtain ⟨v0, vs0, d0, ds0, p0, q0, hargs, rfl, rfl, t0, r0⟩ := trodAll_cons hA
 obtain ⟨rfl, rfl, rfl⟩ := trodAll_nil r0
 obtain rfl : args = #[v0] := by cases args; simp_all
 refine law_post (s := Rows.txnOwnSpec) laidOut (fun t ht => ?_) 4 rfl Tryz.underlying4 rfl rfl hW' ?_
 ·rw [Tryz.params4] at ht
  revert t
  exact of_decide_eq_true (by kernel_rfl)
 obtain ⟨c0, x0, rfl, h0⟩ := arg_rep fits64 (hval 0 64 v0 rfl rfl) t0
 clear hval hW'
 obtain ⟨a, ca, n, rfl, hr⟩ := rep_acts18 h0
 change Calls _ _ #[Value.slice a n ca] _ _
 have h9 := txnOwnMain (Base.of W) [] W a n ca hr (Inv.start W)
 refine Calls.mono h9 ?_
 rintro e w' ⟨he, hi⟩
 exact ⟨he, ext_of hi⟩
theorem holds : Rows.TxnOwnSaid :=
 OpenClaim.holds_of_wide 4 Tryz.f4 rfl rfl rfl rfl rfl rfl rfl ⟨rfl, rfl, rfl, rfl, rfl⟩ rfl rfl rfl rfl rfl (by kernel_rfl) Tryz.func4 (by kernel_rfl)
  (of_decide_eq_true (by kernel_rfl)) (by unfold Func.isWrapper; rw [if_neg (of_decide_eq_false (by kernel_rfl))]; exact ⟨rfl, rfl⟩)
  (fun os started H enc _ => lifted os started H enc)
end Go.Proofs.YtkoghbmjbobfjaaGreat.txnOwn
theorem Go.Proofs.YtkoghbmjbobfjaaGreat.txnOwn_holds : Go.Proofs.YtkoghbmjbobfjaaGreat.Rows.TxnOwnSaid := Go.Proofs.YtkoghbmjbobfjaaGreat.txnOwn.holds
