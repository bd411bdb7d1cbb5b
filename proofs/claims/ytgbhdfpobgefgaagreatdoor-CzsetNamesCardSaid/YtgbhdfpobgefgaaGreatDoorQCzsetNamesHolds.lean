/- CzsetNames, for every input: the law returns true and leaves what was there alone. -/
import Derived.Test.YtgbhdfpobgefgaaGreatDoorRows
import Derived.Test.YtgbhdfpobgefgaaGreatDoorCards
import Derived.Test.YtgbhdfpobgefgaaGreatDoorTie
import Derived.Test.YtgbhdfpobgefgaaGreatDoorCzNamA
import Derived.Test.YtgbhdfpobgefgaaGreatDoorCzNamP
import Derived.JoinedAt
import Derived.ChangeSame
import Derived.ChangeVars
import Derived.JoinedOf
import Derived.LaidLaws
import Derived.LaidHandle
import Derived.LaidMore
import Derived.Stop.Joined
import Derived.SevenTiedAt
set_option maxRecDepth 100000
set_option maxHeartbeats 16000000
set_option synthInstance.maxSize 65536
set_option synthInstance.maxHeartbeats 4000000
namespace Go.Proofs.YtgbhdfpobgefgaaGreatDoor.czsetNames
open Go.RowKit Go.WideShapes Go.ChangeShapes Go.ChangeAt Go.Pm
theorem own : ownKnob Tryz.prog.godebug = none := by kernel_rfl
theorem laidOut : laidOutB Tryz.prog = true := by kernel_rfl
def laidL : List (String × DataW Unit) := [("math/bits.deBruijn32tab", Rows.laid_math_bits_deBruijn32tab), ("math/bits.deBruijn64tab", Rows.laid_math_bits_deBruijn64tab), ("internal/strconv.uint64pow10", Rows.laid_internal_strconv_uint64pow10), ("strconv.ErrRange", Rows.laid_strconv_ErrRange), ("strconv.ErrSyntax", Rows.laid_strconv_ErrSyntax)]
theorem door_met (os : Os) (args : Array Value) : laidMetH Tryz.prog laidL ((World.doorLaid Tryz.prog 62 os).forCall (fun _ _ => 0) ⟨#[], args, []⟩).memory :=
 laidMetH_of_parts3 (fuel := 8) (laidMet_of_run' 8 (by kernel_rfl) (by kernel_rfl)) (by kernel_rfl) (by kernel_rfl)
theorem fits9 : Fits Tryz.prog 9 9 .str := Tryz.underlying9
theorem fits22 : Fits Tryz.prog 9 22 (.slice .str) := ⟨9, Tryz.underlying22, by kernel_rfl, by decide, Tryz.underlying9⟩
theorem lifted (os : Os) (started : os.Started) (H : Type) (enc : TypeId × Value → H) :
  ReturnsInHanded {} Tryz.checked os 4 .any (fun w args => (Rows.czsetNamesSpec.pre enc Tryz.prog Tryz.f4 [] false w args ∧ laidMetH Tryz.prog laidL w) ∧ sizedMet enc Tryz.prog Tryz.f4 (OpenSpec.ofChange Rows.czsetNamesSpec) false w args) (Rows.czsetNamesSpec.post enc Tryz.prog Tryz.f4 false true false false) := by
 refine returnsInHanded_of_change_and (C := Tryz.checked) (X := fun w _ => laidMetH Tryz.prog laidL w) (fun _ _ _ hh h => h.of_heap hh) own started (by kernel_rfl) Tryz.func4
  (ChangeSpec.witness_shaped (enc := enc) (C := Tryz.checked) (os := os) (X := fun w _ => laidMetH Tryz.prog laidL w) false (World.doorLaid Tryz.prog 62 os) #[.string ⟨#[]⟩, vN] 8 rfl (World.shaped_of_RefB (by kernel_rfl) (by kernel_rfl)) (by kernel_rfl) (by kernel_rfl) (by kernel_rfl) (door_met os _)) ?_
 intro W base args ds gs before hval hW _ _ hL _;have hW' : DataW.Whole enc Tryz.prog Tryz.f4.params.toList [] false W args.toList ds gs before := hW;obtain ⟨p, q, hA, -⟩ := hW;have hA : DataW.TrodAll enc Tryz.prog W 0 (fun _ => true) true Tryz.f4.params.toList args.toList ds p := hA;have hval : ∀ (j : Nat) t v, Tryz.f4.params[j]? = some t → args[j]? = some v → Value.okWide Tryz.prog W .any base t v := hval;rw [Tryz.params4] at hA hval;obtain ⟨v0, vs0, d0, ds0, p0, q0, hargs, rfl, rfl, t0, r0⟩ := trodAll_cons hA;obtain ⟨v1, vs1, d1, ds1, p1, q1, rfl, rfl, rfl, t1, r1⟩ := trodAll_cons r0;obtain ⟨rfl, rfl, rfl⟩ := trodAll_nil r1;obtain rfl : args = #[v0, v1] := by cases args; simp_all
 refine law_post (s := Rows.czsetNamesSpec) laidOut (fun t ht => ?_) 4 rfl Tryz.underlying4 rfl rfl hW' ?_
 ·rw [Tryz.params4] at ht
  revert t
  exact of_decide_eq_true (by kernel_rfl)
 obtain ⟨c0, x0, rfl, h0⟩ := arg_rep fits9 (hval 0 9 v0 rfl rfl) t0;obtain ⟨c1, x1, rfl, h1⟩ := arg_rep fits22 (hval 1 22 v1 rfl rfl) t1;clear hval hW';obtain ⟨rfl, hmax⟩ := h0;obtain ⟨a, ca, rfl, hok, hr, hb⟩ := rep_textsM h1;refine (lawNamesMain (Base.of W) [] W x0 a ca x1 hr hok hb (numAll hL) (Inv.start W)).mono ?_;rintro e w' ⟨he, hi⟩;exact ⟨he, ext_of hi⟩
theorem holds : Rows.CzsetNamesSaid :=
 OpenClaim.holds_of_wide 4 Tryz.f4 rfl rfl rfl rfl rfl rfl rfl ⟨rfl, rfl, rfl, rfl, rfl⟩ rfl rfl rfl rfl rfl (by kernel_rfl) Tryz.func4 (by kernel_rfl)
  (of_decide_eq_true (by kernel_rfl)) (by unfold Func.isWrapper; rw [if_neg (of_decide_eq_false (by kernel_rfl))]; exact ⟨rfl, rfl⟩)
  (fun os started H enc _ => lifted os started H enc)
end Go.Proofs.YtgbhdfpobgefgaaGreatDoor.czsetNames
theorem Go.Proofs.YtgbhdfpobgefgaaGreatDoor.czsetNames_holds : Go.Proofs.YtgbhdfpobgefgaaGreatDoor.Rows.CzsetNamesCardSaid :=
 Claim7.holds_tied_plain_at .later [] [.data, .data, .data, .sentinel, .sentinel] true (true, "a6f74aa9b2a2d89a712104ad5a156bcbe2c3f2b276097d9c383e740f1db65167") true
  Go.Proofs.YtgbhdfpobgefgaaGreatDoor.czsetNames.holds (fun _ h => by cases h) (by kernel_rfl) (fun _ h => by cases h) Go.Proofs.YtgbhdfpobgefgaaGreatDoor.czsetNames_row_tie rfl ⟨rfl, rfl⟩ (by kernel_rfl) rfl
  (fun f fn hf hfn => by
   obtain rfl : f = 4 := Option.some.inj ((show Go.Proofs.Tryz.prog.funcNamed "pentimento/pentimentolaw25.CzsetNames" = some 4 by kernel_rfl).symm.trans hf) |>.symm;obtain rfl : fn = Go.Proofs.Tryz.f4 := (Option.some.inj (Go.Proofs.Tryz.func4.symm.trans hfn)).symm;exact ⟨by kernel_rfl, fun j t ht => by
    rw [Go.Proofs.Tryz.params4] at ht;have hm : t ∈ [9, 22] := by simpa using Array.mem_of_getElem? ht
    have hall : ([9, 22].all fun u => !Go.Proofs.Tryz.prog.wantsStandIn u) = true := by kernel_rfl
    exact (show Go.Proofs.Tryz.prog.wantsStandIn t = false by simpa using List.all_eq_true.1 hall t hm)⟩)
  (by kernel_rfl)
