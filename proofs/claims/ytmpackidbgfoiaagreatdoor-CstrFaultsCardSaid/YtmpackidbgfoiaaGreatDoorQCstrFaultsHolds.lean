/- CstrFaults, for every input: the law returns true and leaves what was there alone. -/
import Derived.Test.YtmpackidbgfoiaaGreatDoorRows
import Derived.Test.YtmpackidbgfoiaaGreatDoorCards
import Derived.Test.YtmpackidbgfoiaaGreatDoorTie
import Derived.Test.YtmpackidbgfoiaaGreatDoorCtFauA
import Derived.Test.YtmpackidbgfoiaaGreatDoorCtFauP
import Derived.Test.YtmpackidbgfoiaaGreatDoorCtFauI
import Derived.JoinedAt
import Derived.ChangeSame
import Derived.ChangeVars
import Derived.JoinedOf
import Derived.LaidLaws
import Derived.LaidHandle
import Derived.LaidMore
import Derived.Stop.Joined
import Derived.SevenTiedAt
set_option maxRecDepth 100000
set_option maxHeartbeats 16000000
set_option synthInstance.maxSize 4096
set_option synthInstance.maxHeartbeats 400000
namespace Go.Proofs.YtmpackidbgfoiaaGreatDoor.cstrFaults
open Go.RowKit Go.WideShapes Go.ChangeShapes Go.ChangeAt Go.Pm
theorem own : ownKnob Tryz.prog.godebug = none := by kernel_rfl
theorem laidOut : laidOutB Tryz.prog = true := by kernel_rfl
def laidL : List (String × DataW Unit) := [("math/bits.deBruijn32tab", Rows.laid_math_bits_deBruijn32tab), ("math/bits.deBruijn64tab", Rows.laid_math_bits_deBruijn64tab), ("internal/strconv.uint64pow10", Rows.laid_internal_strconv_uint64pow10), ("strconv.ErrRange", Rows.laid_strconv_ErrRange), ("strconv.ErrSyntax", Rows.laid_strconv_ErrSyntax)]
theorem door_met (os : Os) (args : Array Value) : laidMetH Tryz.prog laidL ((World.doorLaid Tryz.prog 62 os).forCall (fun _ _ => 0) ⟨#[], args, []⟩).memory :=
 laidMetH_of_parts3 (fuel := 8) (laidMet_of_run' 8 (by kernel_rfl) (by kernel_rfl)) (by kernel_rfl) (by kernel_rfl)
theorem fits3 : Fits Tryz.prog 9 3 (.int .i64) := Tryz.underlying3
theorem fits22 : Fits Tryz.prog 9 22 (.slice (.pair .str (.pair (.pair (.int .i64) (.pair .str (.pair (.slice (.pair .str (.pair .str .unit))) (.pair (.slice .str) (.pair (.slice (.pair (.int .i64) (.pair .str .unit))) .unit))))) (.pair (.int .i64) .unit)))) := ⟨62, Tryz.underlying22, by kernel_rfl, by decide, ⟨_, Tryz.underlying62, by kernel_rfl, ⟨rfl, by kernel_rfl, Tryz.underlying9, ⟨rfl, by kernel_rfl, ⟨_, Tryz.underlying60, by kernel_rfl, ⟨rfl, by kernel_rfl, Tryz.underlying3, ⟨rfl, by kernel_rfl, Tryz.underlying9, ⟨rfl, by kernel_rfl, ⟨100, Tryz.underlying57, by kernel_rfl, by decide, ⟨_, Tryz.underlying100, by kernel_rfl, ⟨rfl, by kernel_rfl, Tryz.underlying9, ⟨rfl, by kernel_rfl, Tryz.underlying9, trivial⟩⟩⟩⟩, ⟨rfl, by kernel_rfl, ⟨9, Tryz.underlying23, by kernel_rfl, by decide, Tryz.underlying9⟩, ⟨rfl, by kernel_rfl, ⟨102, Tryz.underlying58, by kernel_rfl, by decide, ⟨_, Tryz.underlying102, by kernel_rfl, ⟨rfl, by kernel_rfl, Tryz.underlying3, ⟨rfl, by kernel_rfl, Tryz.underlying9, trivial⟩⟩⟩⟩, trivial⟩⟩⟩⟩⟩⟩, ⟨rfl, by kernel_rfl, Tryz.underlying3, trivial⟩⟩⟩⟩⟩
theorem fits25 : Fits Tryz.prog 9 25 (.pair (.int .i64) (.pair (.slice .str) .unit)) := ⟨_, Tryz.underlying25, by kernel_rfl, ⟨rfl, by kernel_rfl, Tryz.underlying3, ⟨rfl, by kernel_rfl, ⟨9, Tryz.underlying23, by kernel_rfl, by decide, Tryz.underlying9⟩, trivial⟩⟩⟩
theorem lifted (os : Os) (started : os.Started) (H : Type) (enc : TypeId × Value → H) :
  ReturnsInHanded {} Tryz.checked os 3 .any (fun w args => (Rows.cstrFaultsSpec.pre enc Tryz.prog Tryz.f3 [] false w args ∧ laidMetH Tryz.prog laidL w) ∧ sizedMet enc Tryz.prog Tryz.f3 (OpenSpec.ofChange Rows.cstrFaultsSpec) false w args) (Rows.cstrFaultsSpec.post enc Tryz.prog Tryz.f3 false true false false) := by
 refine returnsInHanded_of_change_and (C := Tryz.checked) (X := fun w _ => laidMetH Tryz.prog laidL w) (fun _ _ _ hh h => h.of_heap hh) own started (by kernel_rfl) Tryz.func3
  (ChangeSpec.witness_shaped (enc := enc) (C := Tryz.checked) (os := os) (X := fun w _ => laidMetH Tryz.prog laidL w) false (World.doorLaid Tryz.prog 62 os) #[vN, .agg #[vI 0, vN], vI 0] 8 rfl (World.shaped_of_RefB (by kernel_rfl) (by kernel_rfl)) (by kernel_rfl) (by kernel_rfl) (by kernel_rfl) (door_met os _)) ?_
 intro W base args ds gs before hval hW _ _ hL _
 have hW' : DataW.Whole enc Tryz.prog Tryz.f3.params.toList [] false W args.toList ds gs before := hW
 obtain ⟨p, q, hA, -⟩ := hW
 have hA : DataW.TrodAll enc Tryz.prog W 0 (fun _ => true) true Tryz.f3.params.toList args.toList ds p := hA
 have hval : ∀ (j : Nat) t v, Tryz.f3.params[j]? = some t → args[j]? = some v → Value.okWide Tryz.prog W .any base t v := hval
 rw [Tryz.params3] at hA hval
 obtain ⟨v0, vs0, d0, ds0, p0, q0, hargs, rfl, rfl, t0, r0⟩ := trodAll_cons hA
 obtain ⟨v1, vs1, d1, ds1, p1, q1, rfl, rfl, rfl, t1, r1⟩ := trodAll_cons r0
 obtain ⟨v2, vs2, d2, ds2, p2, q2, rfl, rfl, rfl, t2, r2⟩ := trodAll_cons r1
 obtain ⟨rfl, rfl, rfl⟩ := trodAll_nil r2
 obtain rfl : args = #[v0, v1, v2] := by cases args; simp_all
 refine law_post (s := Rows.cstrFaultsSpec) laidOut (fun t ht => ?_) 4 rfl Tryz.underlying4 rfl rfl hW' ?_
 ·rw [Tryz.params3] at ht
  revert t
  exact of_decide_eq_true (by kernel_rfl)
 obtain ⟨c0, x0, rfl, h0⟩ := arg_rep fits22 (hval 0 22 v0 rfl rfl) t0
 obtain ⟨c1, x1, rfl, h1⟩ := arg_rep fits25 (hval 1 25 v1 rfl rfl) t1
 obtain ⟨c2, x2, rfl, h2⟩ := arg_rep fits3 (hval 2 3 v2 rfl rfl) t2
 clear hval hW'
 obtain ⟨a, ca, n, rfl, hkr⟩ := rep_keys h0
 obtain ⟨b, cb, rfl, hb0, hb1, hokx, hrx, hxl⟩ := rep_cmd h1
 obtain ⟨rfl, hw2⟩ := h2
 change Calls _ _ #[Value.slice a n ca, Value.agg #[vI x1.1, Value.slice b x1.2.1.length cb], vI x2] _ _
 have h9 := lawFaultsMain (Base.of W) [] W a n ca hkr x1.1 b cb x1.2.1 hokx hrx hxl x2 (numAll hL) (Inv.start W)
 refine Calls.mono h9 ?_
 rintro e w' ⟨he, hi⟩
 exact ⟨he, ext_of hi⟩
theorem holds : Rows.CstrFaultsSaid :=
 OpenClaim.holds_of_wide 3 Tryz.f3 rfl rfl rfl rfl rfl rfl rfl ⟨rfl, rfl, rfl, rfl, rfl⟩ rfl rfl rfl rfl rfl (by kernel_rfl) Tryz.func3 (by kernel_rfl)
  (of_decide_eq_true (by kernel_rfl)) (by unfold Func.isWrapper; rw [if_neg (of_decide_eq_false (by kernel_rfl))]; exact ⟨rfl, rfl⟩)
  (fun os started H enc _ => lifted os started H enc)
end Go.Proofs.YtmpackidbgfoiaaGreatDoor.cstrFaults
theorem Go.Proofs.YtmpackidbgfoiaaGreatDoor.cstrFaults_holds : Go.Proofs.YtmpackidbgfoiaaGreatDoor.Rows.CstrFaultsCardSaid :=
 Claim7.holds_tied_plain_at .later [] [.data, .data, .data, .sentinel, .sentinel] true (true, "4d0b5330fc47c1890070501044b3425fd1a5f5fced2e248d430e2b80321e19f3") true
  Go.Proofs.YtmpackidbgfoiaaGreatDoor.cstrFaults.holds (fun _ h => by cases h) (by kernel_rfl) (fun _ h => by cases h) Go.Proofs.YtmpackidbgfoiaaGreatDoor.cstrFaults_row_tie rfl ⟨rfl, rfl⟩ (by kernel_rfl) rfl
  (fun f fn hf hfn => by
   obtain rfl : f = 3 := Option.some.inj ((show Go.Proofs.Tryz.prog.funcNamed "pentimento/pentimentolaw21.CstrFaults" = some 3 by kernel_rfl).symm.trans hf) |>.symm
   obtain rfl : fn = Go.Proofs.Tryz.f3 := (Option.some.inj (Go.Proofs.Tryz.func3.symm.trans hfn)).symm
   exact ⟨by kernel_rfl, fun j t ht => by
    rw [Go.Proofs.Tryz.params3] at ht
    have hm : t ∈ [22, 25, 3] := by simpa using Array.mem_of_getElem? ht
    have hall : ([22, 25, 3].all fun u => !Go.Proofs.Tryz.prog.wantsStandIn u) = true := by kernel_rfl
    exact (show Go.Proofs.Tryz.prog.wantsStandIn t = false by simpa using List.all_eq_true.1 hall t hm)⟩)
  (by kernel_rfl)
