/- The reference's Right of sets, hashes, sorted sets. -/
import Derived.Test.YtmhdpjifhfoabaaGreatDoorClFauC
import Derived.Test.YtmhdpjifhfoabaaGreatDoorClFauG
import Derived.Test.YtmhdpjifhfoabaaGreatDoorClFauB
import Derived.Test.YtmhdpjifhfoabaaGreatDoorRows
import Derived.Test.YtmhdpjifhfoabaaGreatDoorClFauH
import Derived.Test.YtmhdpjifhfoabaaGreatDoorClFauF
import Derived.Lib.LaidTab
import Derived.LaidSub
import Derived.Lib.ItoaNum
import Derived.Deep.LoopGhost
import Derived.Test.YtmhdpjifhfoabaaGreatDoorClFauE
import Derived.Lib.ParseIntBTie
set_option maxRecDepth 100000
set_option maxHeartbeats 16000000
set_option synthInstance.maxSize 4096
set_option synthInstance.maxHeartbeats 400000
namespace Go.Proofs.YtmhdpjifhfoabaaGreatDoor
open Go.RowKit Go.Pm
theorem s30callable62 : Callable Tryz.prog 62 := cb Tryz.func62 (by kernel_rfl)
theorem refSetRight (B : Base) (H : List Res) (w : World) (ad : Option Addr) (c : Nat) (l : List (List UInt8)) (hr : RdV B [] ad (textCells l)) (hm : l.length ≤ 1000000) (hv : Inv B H w) :
  Calls Tryz.prog 54 #[.slice ad l.length c] w fun e w' => ∃ b, e = .returned (.bool b) ∧ (b = true ↔ SetOk l) ∧ Inv B H w' := by
 refine cW Tryz.func54 rfl Tryz.ntmps54 ?_
 simp only [al]
 refine sK fun _ k1 => rL (uA rfl ?_)
 refine uW k1 (sK fun _ k2 => ?_)
 refine sK fun _ k3 => rL (uA rfl ?_)
 refine uW k3 (bB ?_)
 gi_loopw [3] (fun x3 wr => ∃ (i : Nat), x3 = vI i ∧ i ≤ l.length ∧ (∀ k, k < i → SetAt l k) ∧ Inv B H wr) (fun x3 _ => l.length - (intOf x3).toNat)
 case atStart => exact ⟨0, rfl, Nat.zero_le _, fun k h => by omega, hv⟩
 case round =>
  obtain ⟨i, rfl, hi, hall, hv⟩ := hrel
  refine sK fun _ k5 => sK fun _ k6 => rL (uM rfl ?_)
  refine uM rfl ?_
  refine uG (vI (l.length : Int)) rfl (ex_len0 Tryz.underlying22 rfl rfl) ?_
  by_cases hb7 : (i : Int) < (l.length : Int)
  ·refine uG (.bool true) rfl (ex_lss rfl rfl rfl (qT hb7)) (uW k6 ?_)
   refine cT rfl (kS ?_)
   refine tK k5 (sK fun _ k8 => ?_)
   refine bB (sK fun _ k9 => ?_)
   obtain ⟨x, hx⟩ : ∃ x, l[i]? = some x := ⟨_, List.getElem?_eq_getElem (show i < l.length by omega)⟩
   obtain ⟨bb, bo, had, hrdx⟩ := text_reads hr hx
   subst had
   refine rW mixed [19] [0,1,2,3,4,5,6,7,8,9,10,11,12,13,14,15,16,17,18,19,20,21,22] 36 rfl (by kernel_rfl) hv ?_
   simp only [qm, opAt]
   refine dM (.slice (some ⟨bb, bo, none⟩) l.length c) rfl (dM (vI i) rfl ?_)
   refine dG (.pointer (some ⟨bb, bo + i, none⟩)) rfl (ex_index rfl rfl rfl (run_idx1 (k := i) Tryz.underlying22 s9es22 (by omega))) ?_
   simp only [zP, po]
   refine dL _ rfl (fun hv => ex_load rfl rfl (run_load1 s9na9 (hrdx _ _ _ (Base.Le.refl _) no_res hv 0 _ rfl))) (dG (vI (x.length : Int)) rfl (ex_lenStr Tryz.underlying9 rfl rfl) ?_)
   by_cases hb10 : (x.length : Int) > 4096
   ·refine dG (.bool true) rfl (ex_gtr rfl rfl rfl (qT hb10)) ?_
    simp only [zP, po]
    refine dM (.bool true) rfl (dP rfl ?_)
    refine dP rfl ?_
    simp only [zP, po]
    refine dP rfl (dP rfl ?_)
    refine dP rfl ?_
    simp only [zP, po]
    refine dP rfl (dP rfl ?_)
    refine dP rfl ?_
    simp only [zP, po]
    refine dP rfl (dP rfl ?_)
    refine dP rfl ?_
    simp only [zP, po]
    refine dP rfl (dP rfl ?_)
    refine dP rfl ?_
    simp only [zP, po]
    refine dP rfl (dK true (.bool true) rfl ?_)
    refine dE fun w11 hv => ?_
    simp only [zP, po]
    refine tK k9 (cT rfl ?_)
    refine sK fun _ k12 => rL (uA rfl ?_)
    refine uW k12 (rR ?_)
    refine bZ (tR ?_)
    refine tR (bZ ?_)
    refine tR (bR rfl rfl ?_)
    exact ⟨false, rfl, ⟨fun h => (by cases h), fun h => by have := (h.2 i x hx).1; omega⟩, hv⟩
   refine dG (.bool false) rfl (ex_gtr rfl rfl rfl (qF hb10)) ?_
   simp only [zP, po]
   refine dM (.bool false) rfl (dM (vI i) rfl ?_)
   by_cases hb13 : (i : Int) > 0
   ·obtain ⟨j, hj⟩ : ∃ j : Nat, i = j + 1 := ⟨i - 1, by omega⟩
    obtain ⟨y, hy⟩ : ∃ x, l[j]? = some x := ⟨_, List.getElem?_eq_getElem (show j < l.length by omega)⟩
    obtain ⟨b9, o9, had9, hrdy⟩ := text_reads hr hy
    cases had9
    have hyl := (hall j (by omega) y hy).1
    skip
    refine dG (.bool true) rfl (ex_gtr rfl rfl rfl (qT hb13)) ?_
    simp only [zP, po]
    refine dM (.bool true) rfl (dM (.slice (some ⟨bb, bo, none⟩) l.length c) rfl ?_)
    refine dM (vI i) rfl ?_
    simp only [zP, po]
    refine dG (vI j) rfl (ex_sub rfl rfl rfl (by rw [i64_in (by omega)]; omega)) (dG (.pointer (some ⟨bb, bo + j, none⟩)) rfl (ex_index rfl rfl rfl (run_idx1 (k := j) Tryz.underlying22 s9es22 (by omega))) ?_)
    refine dL _ rfl (fun hv => ex_load rfl rfl (run_load1 s9na9 (hrdy _ _ _ (Base.Le.refl _) no_res hv 0 _ rfl))) ?_
    simp only [zP, po]
    refine dM (.slice (some ⟨bb, bo, none⟩) l.length c) rfl (dM (vI i) rfl ?_)
    refine dG (.pointer (some ⟨bb, bo + i, none⟩)) rfl (ex_index rfl rfl rfl (run_idx1 (k := i) Tryz.underlying22 s9es22 (by omega))) ?_
    simp only [zP, po]
    refine dL _ rfl (fun hv => ex_load rfl rfl (run_load1 s9na9 (hrdx _ _ _ (Base.Le.refl _) no_res hv 0 _ rfl))) (dS rfl fun w14 hv => ?_)
    by_cases hb15 : Op.bytesLess y x = true
    ·refine mC s30callable62 rfl ((calls_bool (refLess B _ _ y x (by omega) hv) hb15).mono ?_) rfl
     rintro e w16 ⟨rfl, hv⟩
     refine ⟨_, rfl, dW hv ?_⟩
     refine dG (.bool false) rfl (ex_not rfl rfl rfl) ?_
     simp only [zP, po]
     refine dK true (.bool false) rfl (dK false (.bool false) rfl ?_)
     refine dE fun w17 hv => ?_
     simp only [zP, po]
     refine tK k9 (cF rfl ?_)
     refine kS (bN ?_)
     refine tK k8 (rL ?_)
     refine uM rfl ?_
     refine uG (vI ((i + 1 : Nat) : Int)) rfl (ex_add rfl rfl rfl (by rw [i64_in (by omega)]; omega)) (uA rfl ?_)
     refine uZ (then_normal ?_)
     go_roundw
     case rel => exact ⟨i + 1, rfl, by omega, fun k hk => (by
        rcases Nat.lt_or_ge k i with h | h
        ·exact hall k h
        obtain rfl : k = i := by omega
        intro x' hx'
        rw [hx] at hx'; cases hx'
        refine ⟨by omega, fun j' y' hj' hy' => ?_⟩
        rw [show j' = j by omega, hy] at hy'; cases hy'; exact hb15), hv⟩
     case measure => show l.length - (((i + 1 : Nat) : Int)).toNat < l.length - ((i : Int)).toNat; omega
    refine mC s30callable62 rfl ((calls_bool (refLess B _ _ y x (by omega) hv) (by simpa using hb15)).mono ?_) rfl
    rintro e w18 ⟨rfl, hv⟩
    refine ⟨_, rfl, dW hv ?_⟩
    refine dG (.bool true) rfl (ex_not rfl rfl rfl) ?_
    simp only [zP, po]
    refine dK true (.bool true) rfl (dK false (.bool true) rfl ?_)
    refine dE fun w19 hv => ?_
    simp only [zP, po]
    refine tK k9 (cT rfl ?_)
    refine sK fun _ k20 => rL (uA rfl ?_)
    refine uW k20 (rR ?_)
    refine bZ (tR ?_)
    refine tR (bZ ?_)
    refine tR (bR rfl rfl ?_)
    exact ⟨false, rfl, ⟨fun h => (by cases h), fun h => absurd ((h.2 i x hx).2 j y (by omega) hy) hb15⟩, hv⟩
   refine dG (.bool false) rfl (ex_gtr rfl rfl rfl (qF hb13)) ?_
   simp only [zP, po]
   refine dM (.bool false) rfl (dP rfl ?_)
   refine dP rfl ?_
   simp only [zP, po]
   refine dP rfl (dP rfl ?_)
   refine dP rfl ?_
   simp only [zP, po]
   refine dP rfl (dP rfl ?_)
   refine dP rfl ?_
   simp only [zP, po]
   refine dP rfl (dP rfl ?_)
   refine dP rfl ?_
   simp only [zP, po]
   refine dK false (.bool false) rfl (dK false (.bool false) rfl ?_)
   refine dE fun w21 hv => ?_
   simp only [zP, po]
   refine tK k9 (cF rfl ?_)
   refine kS (bN ?_)
   refine tK k8 (rL ?_)
   refine uM rfl ?_
   refine uG (vI ((i + 1 : Nat) : Int)) rfl (ex_add rfl rfl rfl (by rw [i64_in (by omega)]; omega)) (uA rfl ?_)
   refine uZ (then_normal ?_)
   go_roundw
   case rel => exact ⟨i + 1, rfl, by omega, fun k hk => (by
      rcases Nat.lt_or_ge k i with h | h
      ·exact hall k h
      obtain rfl : k = i := by omega
      intro x' hx'
      rw [hx] at hx'; cases hx'
      refine ⟨by omega, fun j' y' hj' hy' => ?_⟩
      omega), hv⟩
   case measure => show l.length - (((i + 1 : Nat) : Int)).toNat < l.length - ((i : Int)).toNat; omega
  refine uG (.bool false) rfl (ex_lss rfl rfl rfl (qF hb7)) (uW k6 ?_)
  refine cF rfl (xE ?_)
  refine tX (tX ?_)
  refine bH (tK k2 ?_)
  refine sK fun _ k22 => rL (uM rfl ?_)
  refine uG (vI (l.length : Int)) rfl (ex_len0 Tryz.underlying22 rfl rfl) ?_
  refine uG (.bool (decide ((l.length : Int) ≤ 512))) rfl (ex_leq rfl rfl rfl rfl) (uA rfl ?_)
  refine uW k22 (rR ?_)
  refine bR rfl rfl ?_
  obtain rfl : i = l.length := by omega
  exact ⟨_, rfl, ⟨fun h9 => ⟨by first | omega | (have h8 : (l.length : Int) ≤ 512 := (by simpa using h9); omega), fun k x hx => hall k (List.getElem?_eq_some_iff.1 hx).1 x hx⟩, fun h9 => by have h8 := h9.1; first | rfl | (rw [decide_eq_true_iff]; omega)⟩, hv⟩
theorem refHashRight (B : Base) (H : List Res) (w : World) (ad : Option Addr) (c : Nat) (l : List (List UInt8 × List UInt8)) (hr : RdV B [] ad (pairCells l)) (hm : l.length ≤ 1000000) (hv : Inv B H w) :
  Calls Tryz.prog 53 #[.slice ad l.length c] w fun e w' => ∃ b, e = .returned (.bool b) ∧ (b = true ↔ HashOk l) ∧ Inv B H w' := by
 refine cW Tryz.func53 rfl Tryz.ntmps53 ?_
 simp only [al]
 refine sK fun _ k1 => rL (uA rfl ?_)
 refine uW k1 (sK fun _ k2 => ?_)
 refine sK fun _ k3 => rL (uM rfl ?_)
 refine uG (vI (l.length : Int)) rfl (ex_len0 Tryz.underlying75 rfl rfl) ?_
 by_cases hb4 : (l.length : Int) > 512
 ·refine uG (.bool true) rfl (ex_gtr rfl rfl rfl (qT hb4)) (uW k3 ?_)
  refine cT rfl (sK fun _ k5 => ?_)
  refine rL (uA rfl ?_)
  refine uW k5 (rR ?_)
  refine tR (bR rfl rfl ?_)
  exact ⟨false, rfl, ⟨fun h => (by cases h), fun h => by have := h.1; omega⟩, hv⟩
 refine uG (.bool false) rfl (ex_gtr rfl rfl rfl (qF hb4)) (uW k3 ?_)
 refine cF rfl (kS ?_)
 refine tK k2 (sK fun _ k6 => ?_)
 refine sK fun _ k7 => rL (uA rfl ?_)
 refine uW k7 (bB ?_)
 gi_loopw [3] (fun x3 wr => ∃ (i : Nat), x3 = vI i ∧ i ≤ l.length ∧ (∀ k, k < i → HashAt l k) ∧ Inv B H wr) (fun x3 _ => l.length - (intOf x3).toNat)
 case atStart => exact ⟨0, rfl, Nat.zero_le _, fun k h => by omega, hv⟩
 case round =>
  obtain ⟨i, rfl, hi, hall, hv⟩ := hrel
  refine sK fun _ k9 => sK fun _ k10 => rL (uM rfl ?_)
  refine uM rfl ?_
  refine uG (vI (l.length : Int)) rfl (ex_len0 Tryz.underlying75 rfl rfl) ?_
  by_cases hb11 : (i : Int) < (l.length : Int)
  ·refine uG (.bool true) rfl (ex_lss rfl rfl rfl (qT hb11)) (uW k10 ?_)
   refine cT rfl (kS ?_)
   refine tK k9 (sK fun _ k12 => ?_)
   refine bB (sK fun _ k13 => ?_)
   obtain ⟨x, hx⟩ : ∃ x, l[i]? = some x := ⟨_, List.getElem?_eq_getElem (show i < l.length by omega)⟩
   obtain ⟨bb, bo, had, hrdx⟩ := pair_reads hr hx
   subst had
   refine rW mixed [31] [0,1,2,3,4,5,6,7,8,9,10,11,12,13,14,15,16,17,18,19,20,21,22,23,24,25,26,27,28,29,30,31,32,33,34] 48 rfl (by kernel_rfl) hv ?_
   simp only [qm, opAt]
   refine dM (.slice (some ⟨bb, bo, none⟩) l.length c) rfl (dM (vI i) rfl ?_)
   refine dG (.pointer (some ⟨bb, bo + i * 2, none⟩)) rfl (ex_index rfl rfl rfl (run_idx (k := i) Tryz.underlying75 s10es75 (by omega))) ?_
   simp only [zP, po]
   refine dG (.pointer (some ⟨bb, bo + i * 2, none⟩)) rfl (ex_field rfl rfl (s10fa116_0 _ _ _)) (dL _ rfl (fun hv => ex_load rfl rfl (run_load1 s9na9 (hrdx _ _ _ (Base.Le.refl _) no_res hv 0 _ rfl))) ?_)
   refine dG (vI (x.1.length : Int)) rfl (ex_lenStr Tryz.underlying9 rfl rfl) ?_
   simp only [zP, po]
   by_cases hb14 : (x.1.length : Int) > 4096
   ·refine dG (.bool true) rfl (ex_gtr rfl rfl rfl (qT hb14)) (dM (.bool true) rfl ?_)
    refine dP rfl ?_
    simp only [zP, po]
    refine dP rfl (dP rfl ?_)
    refine dP rfl ?_
    simp only [zP, po]
    refine dP rfl (dP rfl ?_)
    refine dP rfl ?_
    simp only [zP, po]
    refine dK true (.bool true) rfl (dM (.bool true) rfl ?_)
    refine dP rfl ?_
    simp only [zP, po]
    refine dP rfl (dP rfl ?_)
    refine dP rfl ?_
    simp only [zP, po]
    refine dP rfl (dP rfl ?_)
    refine dP rfl ?_
    simp only [zP, po]
    refine dP rfl (dP rfl ?_)
    refine dP rfl ?_
    simp only [zP, po]
    refine dP rfl (dP rfl ?_)
    refine dP rfl ?_
    simp only [zP, po]
    refine dP rfl (dP rfl ?_)
    refine dP rfl ?_
    simp only [zP, po]
    refine dP rfl (dK true (.bool true) rfl ?_)
    refine dE fun w15 hv => ?_
    simp only [zP, po]
    refine tK k13 (cT rfl ?_)
    refine sK fun _ k16 => rL (uA rfl ?_)
    refine uW k16 (rR ?_)
    refine bZ (tR ?_)
    refine tR (bZ ?_)
    refine tR (bR rfl rfl ?_)
    exact ⟨false, rfl, ⟨fun h => (by cases h), fun h => by have := (h.2 i x hx).1; omega⟩, hv⟩
   refine dG (.bool false) rfl (ex_gtr rfl rfl rfl (qF hb14)) (dM (.bool false) rfl ?_)
   refine dM (.slice (some ⟨bb, bo, none⟩) l.length c) rfl ?_
   simp only [zP, po]
   refine dM (vI i) rfl (dG (.pointer (some ⟨bb, bo + i * 2, none⟩)) rfl (ex_index rfl rfl rfl (run_idx (k := i) Tryz.underlying75 s10es75 (by omega))) ?_)
   refine dG (.pointer (some ⟨bb, bo + i * 2 + 1, none⟩)) rfl (ex_field rfl rfl (s10fa116_1 _ _ _)) ?_
   simp only [zP, po]
   refine dL _ rfl (fun hv => ex_load rfl rfl (run_load1 s9na9 (hrdx _ _ _ (Base.Le.refl _) no_res hv 1 _ rfl))) (dG (vI (x.2.length : Int)) rfl (ex_lenStr Tryz.underlying9 rfl rfl) ?_)
   by_cases hb17 : (x.2.length : Int) > 4096
   ·refine dG (.bool true) rfl (ex_gtr rfl rfl rfl (qT hb17)) ?_
    simp only [zP, po]
    refine dK false (.bool true) rfl (dM (.bool true) rfl ?_)
    refine dP rfl ?_
    simp only [zP, po]
    refine dP rfl (dP rfl ?_)
    refine dP rfl ?_
    simp only [zP, po]
    refine dP rfl (dP rfl ?_)
    refine dP rfl ?_
    simp only [zP, po]
    refine dP rfl (dP rfl ?_)
    refine dP rfl ?_
    simp only [zP, po]
    refine dP rfl (dP rfl ?_)
    refine dP rfl ?_
    simp only [zP, po]
    refine dP rfl (dP rfl ?_)
    refine dP rfl ?_
    simp only [zP, po]
    refine dP rfl (dK true (.bool true) rfl ?_)
    refine dE fun w18 hv => ?_
    simp only [zP, po]
    refine tK k13 (cT rfl ?_)
    refine sK fun _ k19 => rL (uA rfl ?_)
    refine uW k19 (rR ?_)
    refine bZ (tR ?_)
    refine tR (bZ ?_)
    refine tR (bR rfl rfl ?_)
    exact ⟨false, rfl, ⟨fun h => (by cases h), fun h => by have := (h.2 i x hx).1; omega⟩, hv⟩
   refine dG (.bool false) rfl (ex_gtr rfl rfl rfl (qF hb17)) ?_
   simp only [zP, po]
   refine dK false (.bool false) rfl (dM (.bool false) rfl ?_)
   refine dM (vI i) rfl ?_
   simp only [zP, po]
   by_cases hb20 : (i : Int) > 0
   ·obtain ⟨j, hj⟩ : ∃ j : Nat, i = j + 1 := ⟨i - 1, by omega⟩
    obtain ⟨y, hy⟩ : ∃ x, l[j]? = some x := ⟨_, List.getElem?_eq_getElem (show j < l.length by omega)⟩
    obtain ⟨b9, o9, had9, hrdy⟩ := pair_reads hr hy
    cases had9
    have hyl := (hall j (by omega) y hy).1
    skip
    refine dG (.bool true) rfl (ex_gtr rfl rfl rfl (qT hb20)) (dM (.bool true) rfl ?_)
    refine dM (.slice (some ⟨bb, bo, none⟩) l.length c) rfl ?_
    simp only [zP, po]
    refine dM (vI i) rfl (dG (vI j) rfl (ex_sub rfl rfl rfl (by rw [i64_in (by omega)]; omega)) ?_)
    refine dG (.pointer (some ⟨bb, bo + j * 2, none⟩)) rfl (ex_index rfl rfl rfl (run_idx (k := j) Tryz.underlying75 s10es75 (by omega))) ?_
    simp only [zP, po]
    refine dG (.pointer (some ⟨bb, bo + j * 2, none⟩)) rfl (ex_field rfl rfl (s10fa116_0 _ _ _)) (dL _ rfl (fun hv => ex_load rfl rfl (run_load1 s9na9 (hrdy _ _ _ (Base.Le.refl _) no_res hv 0 _ rfl))) ?_)
    refine dM (.slice (some ⟨bb, bo, none⟩) l.length c) rfl ?_
    simp only [zP, po]
    refine dM (vI i) rfl (dG (.pointer (some ⟨bb, bo + i * 2, none⟩)) rfl (ex_index rfl rfl rfl (run_idx (k := i) Tryz.underlying75 s10es75 (by omega))) ?_)
    refine dG (.pointer (some ⟨bb, bo + i * 2, none⟩)) rfl (ex_field rfl rfl (s10fa116_0 _ _ _)) ?_
    simp only [zP, po]
    refine dL _ rfl (fun hv => ex_load rfl rfl (run_load1 s9na9 (hrdx _ _ _ (Base.Le.refl _) no_res hv 0 _ rfl))) (dS rfl fun w21 hv => ?_)
    by_cases hb22 : Op.bytesLess y.1 x.1 = true
    ·refine mC s30callable62 rfl ((calls_bool (refLess B _ _ y.1 x.1 (by omega) hv) hb22).mono ?_) rfl
     rintro e w23 ⟨rfl, hv⟩
     refine ⟨_, rfl, dW hv ?_⟩
     refine dG (.bool false) rfl (ex_not rfl rfl rfl) ?_
     simp only [zP, po]
     refine dK true (.bool false) rfl (dK false (.bool false) rfl ?_)
     refine dE fun w24 hv => ?_
     simp only [zP, po]
     refine tK k13 (cF rfl ?_)
     refine kS (bN ?_)
     refine tK k12 (rL ?_)
     refine uM rfl ?_
     refine uG (vI ((i + 1 : Nat) : Int)) rfl (ex_add rfl rfl rfl (by rw [i64_in (by omega)]; omega)) (uA rfl ?_)
     refine uZ (then_normal ?_)
     go_roundw
     case rel => exact ⟨i + 1, rfl, by omega, fun k hk => (by
        rcases Nat.lt_or_ge k i with h | h
        ·exact hall k h
        obtain rfl : k = i := by omega
        intro x' hx'
        rw [hx] at hx'; cases hx'
        refine ⟨by omega, fun j' y' hj' hy' => ?_⟩
        rw [show j' = j by omega, hy] at hy'; cases hy'; exact hb22), hv⟩
     case measure => show l.length - (((i + 1 : Nat) : Int)).toNat < l.length - ((i : Int)).toNat; omega
    refine mC s30callable62 rfl ((calls_bool (refLess B _ _ y.1 x.1 (by omega) hv) (by simpa using hb22)).mono ?_) rfl
    rintro e w25 ⟨rfl, hv⟩
    refine ⟨_, rfl, dW hv ?_⟩
    refine dG (.bool true) rfl (ex_not rfl rfl rfl) ?_
    simp only [zP, po]
    refine dK true (.bool true) rfl (dK false (.bool true) rfl ?_)
    refine dE fun w26 hv => ?_
    simp only [zP, po]
    refine tK k13 (cT rfl ?_)
    refine sK fun _ k27 => rL (uA rfl ?_)
    refine uW k27 (rR ?_)
    refine bZ (tR ?_)
    refine tR (bZ ?_)
    refine tR (bR rfl rfl ?_)
    exact ⟨false, rfl, ⟨fun h => (by cases h), fun h => absurd ((h.2 i x hx).2 j y (by omega) hy) hb22⟩, hv⟩
   refine dG (.bool false) rfl (ex_gtr rfl rfl rfl (qF hb20)) (dM (.bool false) rfl ?_)
   refine dP rfl ?_
   simp only [zP, po]
   refine dP rfl (dP rfl ?_)
   refine dP rfl ?_
   simp only [zP, po]
   refine dP rfl (dP rfl ?_)
   refine dP rfl ?_
   simp only [zP, po]
   refine dP rfl (dP rfl ?_)
   refine dP rfl ?_
   simp only [zP, po]
   refine dP rfl (dP rfl ?_)
   refine dP rfl ?_
   simp only [zP, po]
   refine dK false (.bool false) rfl (dK false (.bool false) rfl ?_)
   refine dE fun w28 hv => ?_
   simp only [zP, po]
   refine tK k13 (cF rfl ?_)
   refine kS (bN ?_)
   refine tK k12 (rL ?_)
   refine uM rfl ?_
   refine uG (vI ((i + 1 : Nat) : Int)) rfl (ex_add rfl rfl rfl (by rw [i64_in (by omega)]; omega)) (uA rfl ?_)
   refine uZ (then_normal ?_)
   go_roundw
   case rel => exact ⟨i + 1, rfl, by omega, fun k hk => (by
      rcases Nat.lt_or_ge k i with h | h
      ·exact hall k h
      obtain rfl : k = i := by omega
      intro x' hx'
      rw [hx] at hx'; cases hx'
      refine ⟨by omega, fun j' y' hj' hy' => ?_⟩
      omega), hv⟩
   case measure => show l.length - (((i + 1 : Nat) : Int)).toNat < l.length - ((i : Int)).toNat; omega
  refine uG (.bool false) rfl (ex_lss rfl rfl rfl (qF hb11)) (uW k10 ?_)
  refine cF rfl (xE ?_)
  refine tX (tX ?_)
  refine bH (tK k6 ?_)
  refine sK fun _ k29 => rL (uA rfl ?_)
  refine uW k29 (rR ?_)
  refine bR rfl rfl ?_
  obtain rfl : i = l.length := by omega
  exact ⟨_, rfl, ⟨fun h9 => ⟨by first | omega | (have h8 : (l.length : Int) ≤ 512 := (by simpa using h9); omega), fun k x hx => hall k (List.getElem?_eq_some_iff.1 hx).1 x hx⟩, fun h9 => by have h8 := h9.1; first | rfl | (rw [decide_eq_true_iff]; omega)⟩, hv⟩
def beforeB (a b : Int × List UInt8) : Bool := decide (a.1 < b.1) || (decide (a.1 = b.1) && Op.bytesLess a.2 b.2)
theorem before_cmp (a b : Int × List UInt8) : beforeB a b = true ↔ cmpM a b < 0 := by
 unfold beforeB cmpM
 rcases Int.lt_trichotomy a.1 b.1 with h | h | h
 ·have hI : cmpI a.1 b.1 = -1 := by unfold cmpI; rw [if_pos h]
  rw [hI, qT h]; simp [orI]
 ·have hI : cmpI a.1 b.1 = 0 := by unfold cmpI; rw [if_neg (by omega), if_neg (by omega)]
  rw [hI, qT h, qF (show ¬ a.1 < b.1 by omega)]
  simp only [orI, ne_eq, not_true_eq_false, if_false, Bool.false_or, Bool.true_and]
  unfold cmpS
  cases h1 : Op.bytesLess a.2 b.2 with
  | true => simp
  | false => cases h2 : Op.bytesLess b.2 a.2 <;> simp
 have hI : cmpI a.1 b.1 = 1 := by unfold cmpI; rw [if_neg (by omega), if_pos h]
 rw [hI, qF (show ¬ a.1 < b.1 by omega), qF (show ¬ a.1 = b.1 by omega)]; simp [orI]
theorem nodup_place {l : List (Int × List UInt8)} : (l.map memName).Nodup ↔ ∀ (i j : Nat) x y, i < j → l[i]? = some x → l[j]? = some y → x.2 ≠ y.2 := by
 unfold List.Nodup
 rw [List.pairwise_iff_getElem]
 constructor
 ·intro h i j x y hij hx hy e
  obtain ⟨hi, rfl⟩ := List.getElem?_eq_some_iff.1 hx
  obtain ⟨hj, rfl⟩ := List.getElem?_eq_some_iff.1 hy
  exact h i j (by rw [List.length_map]; exact hi) (by rw [List.length_map]; exact hj) hij (by rw [List.getElem_map, List.getElem_map]; exact e)
 intro h i j hi hj hij e
 rw [List.length_map] at hi hj
 rw [List.getElem_map, List.getElem_map] at e
 exact h i j _ _ hij (List.getElem?_eq_getElem hi) (List.getElem?_eq_getElem hj) e
theorem refBefore (B : Base) (H : List Res) (w : World) (a b : Int × List UInt8) (hl : a.2.length ≤ 5000) (hv : Inv B H w) :
  Calls Tryz.prog 85 #[.agg #[vI a.1, vS a.2], .agg #[vI b.1, vS b.2]] w fun e w' => e = .returned (.bool (beforeB a b)) ∧ Inv B H w' := by
 refine cW Tryz.func85 rfl Tryz.ntmps85 ?_
 simp only [al]
 refine sK fun _ k1 => rL (sl_box (L := [vI a.1, vS a.2]) tV (wn rfl) rfl rfl hv (fun w => by kernel_rfl) (fun b2 w3 hv => ?_))
 refine sl_box (L := [vI b.1, vS b.2]) tV (wn rfl) rfl rfl hv (fun w => by kernel_rfl) (fun b4 w5 hv => ?_)
 refine uA rfl (uW k1 ?_)
 refine sK fun _ k6 => rL (uF (vP b2) rfl (s11fa118_0 _ _ _) ?_)
 refine uL _ rfl (run_load1 s2na3 (hv.load 1 0 rfl rfl)) ?_
 refine uF (vP b4) rfl (s11fa118_0 _ _ _) ?_
 refine uL _ rfl (run_load1 s2na3 (hv.load 0 0 rfl rfl)) ?_
 by_cases hb7 : a.1 < b.1
 ·refine uG (.bool true) rfl (ex_lss rfl rfl rfl (qT hb7)) (uM rfl ?_)
  iterate 12 refine uP rfl ?_
  refine uK rfl (uA rfl ?_)
  refine uW k6 (rR ?_)
  refine bR rfl rfl (⟨congrArg (fun b => Ending.returned (Value.bool b)) (by unfold beforeB; simp [*]), (hv.kp [] 0 2)⟩)
 refine uG (.bool false) rfl (ex_lss rfl rfl rfl (qF hb7)) (uM rfl ?_)
 refine uF (vP b2) rfl (s11fa118_0 _ _ _) ?_
 refine uL _ rfl (run_load1 s2na3 (hv.load 1 0 rfl rfl)) ?_
 refine uF (vP b4) rfl (s11fa118_0 _ _ _) ?_
 refine uL _ rfl (run_load1 s2na3 (hv.load 0 0 rfl rfl)) ?_
 by_cases hb8 : a.1 = b.1
 ·refine uG (.bool true) rfl (ex_eql rfl rfl rfl (qT hb8)) ?_
  refine uM rfl ?_
  refine uF (.pointer (some ⟨b2, 1, none⟩)) rfl (s9fa118_1 _ _ _) ?_
  refine uL _ rfl (run_load1 s9na9 (hv.load 1 1 rfl rfl)) ?_
  refine uF (.pointer (some ⟨b4, 1, none⟩)) rfl (s9fa118_1 _ _ _) ?_
  refine uL _ rfl (run_load1 s9na9 (hv.load 0 1 rfl rfl)) ?_
  refine xC s30callable62 rfl ((refLess B _ _ a.2 b.2 (by omega) hv).mono ?_) rfl
  rintro e w9 ⟨rfl, hv⟩
  refine ⟨_, rfl, ?_⟩
  refine uK rfl (uK rfl ?_)
  refine uA rfl (uW k6 ?_)
  refine rR (bR rfl rfl ?_)
  exact ⟨congrArg (fun b => Ending.returned (Value.bool b)) (by unfold beforeB; simp [*]), (hv.kp [] 0 2)⟩
 refine uG (.bool false) rfl (ex_eql rfl rfl rfl (qF hb8)) ?_
 refine uM rfl ?_
 iterate 5 refine uP rfl ?_
 refine uK rfl (uK rfl ?_)
 refine uA rfl (uW k6 ?_)
 refine rR (bR rfl rfl ?_)
 exact ⟨congrArg (fun b => Ending.returned (Value.bool b)) (by unfold beforeB; simp [*]), (hv.kp [] 0 2)⟩
def FirstZ (l : List (Int × List UInt8)) (s : List UInt8) (i : Nat) : Prop := (∃ x, l[i]? = some x ∧ x.2 = s) ∧ ∀ (j : Nat) y, j < i → l[j]? = some y → y.2 ≠ s
open Classical in
noncomputable def zAt (l : List (Int × List UInt8)) (s : List UInt8) : Int := if h : ∃ i, FirstZ l s i then ((Classical.choose h : Nat) : Int) else -1
theorem zAt_of {l : List (Int × List UInt8)} {s : List UInt8} {i : Nat} (h : FirstZ l s i) : zAt l s = (i : Int) := by
 have hex : ∃ i, FirstZ l s i := ⟨i, h⟩
 have h2 := Classical.choose_spec hex
 unfold zAt
 rw [dif_pos hex]
 obtain ⟨⟨x, hx, hxs⟩, h1⟩ := h
 obtain ⟨⟨y, hy, hys⟩, h3⟩ := h2
 rcases Nat.lt_trichotomy (Classical.choose hex) i with h4 | h4 | h4
 ·exact absurd hys (h1 _ y h4 hy)
 ·rw [h4]
 exact absurd hxs (h3 _ x h4 hx)
theorem zAt_no {l : List (Int × List UInt8)} {s : List UInt8} (h : ∀ x ∈ l, x.2 ≠ s) : zAt l s = -1 := by
 unfold zAt
 rw [dif_neg]
 rintro ⟨i, ⟨x, hx, hxs⟩, -⟩
 exact h x (List.mem_of_getElem? hx) hxs
theorem zAt_here {l : List (Int × List UInt8)} {i : Nat} {x : Int × List UInt8} (_ : l[i]? = some x) (h : zAt l x.2 = (i : Int)) : ∀ (j : Nat) y, j < i → l[j]? = some y → y.2 ≠ x.2 := by
 have hex : ∃ i, FirstZ l x.2 i := by
  refine Classical.byContradiction fun hno => ?_
  unfold zAt at h
  rw [dif_neg hno] at h
  omega
 have h2 := Classical.choose_spec hex
 unfold zAt at h
 rw [dif_pos hex] at h
 have h3 : Classical.choose hex = i := by omega
 rw [h3] at h2
 exact h2.2
theorem refZat (B : Base) (H : List Res) (w : World) (ad : Option Addr) (c : Nat) (l : List (Int × List UInt8)) (s : List UInt8) (hr : RdV B [] ad (memCells l)) (hm : l.length ≤ 1000000) (hv : Inv B H w) :
  Calls Tryz.prog 86 #[.slice ad l.length c, vS s] w fun e w' => e = .returned (vI (zAt l s)) ∧ Inv B H w' := by
 refine cW Tryz.func86 rfl Tryz.ntmps86 ?_
 simp only [al]
 refine sK fun _ k1 => rL (uA rfl ?_)
 refine uW k1 (sK fun _ k2 => ?_)
 refine sK fun _ k3 => rL (uA rfl ?_)
 refine uW k3 (bB ?_)
 gi_loopw [5] (fun x5 wr => ∃ (i : Nat), x5 = vI i ∧ i ≤ l.length ∧ (∀ (j : Nat) y, j < i → l[j]? = some y → y.2 ≠ s) ∧ Inv B H wr) (fun x5 _ => l.length - (intOf x5).toNat)
 case atStart => exact ⟨0, rfl, Nat.zero_le _, fun j y h => by omega, hv⟩
 case round =>
  obtain ⟨i, rfl, hi, hno, hv⟩ := hrel
  refine sK fun _ k5 => sK fun _ k6 => rL (uM rfl ?_)
  refine uM rfl ?_
  refine uG (vI (l.length : Int)) rfl (ex_len0 Tryz.underlying76 rfl rfl) ?_
  by_cases hb7 : (i : Int) < (l.length : Int)
  ·refine uG (.bool true) rfl (ex_lss rfl rfl rfl (qT hb7)) (uW k6 ?_)
   refine cT rfl (kS ?_)
   refine tK k5 (sK fun _ k8 => ?_)
   refine bB (sK fun _ k9 => ?_)
   obtain ⟨x, hx⟩ : ∃ x, l[i]? = some x := ⟨_, List.getElem?_eq_getElem (show i < l.length by omega)⟩
   obtain ⟨bb, bo, had, hrdx⟩ := mem_reads hr hx
   subst had
   refine rL (uM rfl ?_)
   refine uM rfl ?_
   refine uG (.pointer (some ⟨bb, bo + i * 2, none⟩)) rfl (ex_index rfl rfl rfl (run_idx (k := i) Tryz.underlying76 s9es76 (by omega))) ?_
   refine uF (.pointer (some ⟨bb, bo + i * 2 + 1, none⟩)) rfl (s9fa118_1 _ _ _) ?_
   refine uL _ rfl (run_load1 s9na9 (hrdx _ _ _ (Base.Le.refl _) no_res hv 1 _ rfl)) (uM rfl ?_)
   by_cases hb10 : x.2 = s
   ·refine uG (.bool true) rfl (ex_seql rfl rfl rfl (qT hb10)) (uW k9 ?_)
    refine cT rfl (sK fun _ k11 => ?_)
    refine rL (uM rfl ?_)
    refine uA rfl (uW k11 ?_)
    refine rR (bZ ?_)
    refine tR (tR ?_)
    refine bZ (tR ?_)
    refine bR rfl rfl (⟨by rw [zAt_of ⟨⟨x, hx, hb10⟩, hno⟩]; rfl, hv⟩)
   refine uG (.bool false) rfl (ex_seql rfl rfl rfl (qF hb10)) (uW k9 ?_)
   refine cF rfl (kS ?_)
   refine bN (tK k8 ?_)
   refine rL (uM rfl ?_)
   refine uG (vI ((i + 1 : Nat) : Int)) rfl (ex_add rfl rfl rfl (by rw [i64_in (by omega)]; omega)) (uA rfl ?_)
   refine uZ (then_normal ?_)
   go_roundw
   case rel => exact ⟨i + 1, rfl, by omega, fun j y hj hy => (by
      rcases Nat.lt_or_ge j i with h | h
      ·exact hno j y h hy
      rw [show j = i by omega, hx] at hy; cases hy; exact hb10), hv⟩
   case measure => show l.length - (((i + 1 : Nat) : Int)).toNat < l.length - ((i : Int)).toNat; omega
  refine uG (.bool false) rfl (ex_lss rfl rfl rfl (qF hb7)) (uW k6 ?_)
  refine cF rfl (xE ?_)
  refine tX (tX ?_)
  refine bH (tK k2 ?_)
  refine sK fun _ k12 => rL (uA rfl ?_)
  refine uW k12 (rR ?_)
  refine bR rfl rfl ?_
  obtain rfl : i = l.length := by omega
  exact ⟨by rw [zAt_no (fun x hx => by obtain ⟨j, hj⟩ := List.mem_iff_getElem?.1 hx; exact hno j x (List.getElem?_eq_some_iff.1 hj).1 hj)]; rfl, hv⟩
def ZAt (l : List (Int × List UInt8)) (i : Nat) : Prop := (∀ x, l[i]? = some x → x.2.length ≤ 4096) ∧ (∀ x, l[i]? = some x → ∀ (j : Nat) y, i = j + 1 → l[j]? = some y → cmpM y x < 0) ∧ ∀ x, l[i]? = some x → ∀ (j : Nat) y, j < i → l[j]? = some y → y.2 ≠ x.2
theorem zset_ok {l : List (Int × List UInt8)} (h : l.length ≤ 512) (ha : ∀ k, k < l.length → ZAt l k) : ZsetOk l := by
 refine ⟨h, List.any_eq_false.2 fun x hx => ?_, fun i x hx => (ha i (List.getElem?_eq_some_iff.1 hx).1).2.1 x hx, nodup_place.2 fun i j x y hij hx hy => (ha j (List.getElem?_eq_some_iff.1 hy).1).2.2 y hy i x hij hx⟩
 obtain ⟨j, hj⟩ := List.mem_iff_getElem?.1 hx
 have := (ha j (List.getElem?_eq_some_iff.1 hj).1).1 x hj
 simp; omega
theorem s30callable85 : Callable Tryz.prog 85 := cb Tryz.func85 (by kernel_rfl)
theorem s30callable86 : Callable Tryz.prog 86 := cb Tryz.func86 (by kernel_rfl)
theorem refZsetRight (B : Base) (H : List Res) (w : World) (ad : Option Addr) (c : Nat) (l : List (Int × List UInt8)) (hr : RdV B [] ad (memCells l)) (hm : l.length ≤ 1000000) (hv : Inv B H w) :
  Calls Tryz.prog 55 #[.slice ad l.length c] w fun e w' => ∃ b, e = .returned (.bool b) ∧ (b = true ↔ ZsetOk l) ∧ Inv B H w' := by
 refine cW Tryz.func55 rfl Tryz.ntmps55 ?_
 simp only [al]
 refine sK fun _ k1 => rL (uA rfl ?_)
 refine uW k1 (sK fun _ k2 => ?_)
 refine sK fun _ k3 => rL (uA rfl ?_)
 refine uW k3 (bB ?_)
 gi_loopw [3] (fun x3 wr => ∃ (i : Nat), x3 = vI i ∧ i ≤ l.length ∧ (∀ k, k < i → ZAt l k) ∧ Inv B H wr) (fun x3 _ => l.length - (intOf x3).toNat)
 case atStart => exact ⟨0, rfl, Nat.zero_le _, fun k h => by omega, hv⟩
 case round =>
  obtain ⟨i, rfl, hi, hall, hv⟩ := hrel
  refine sK fun _ k5 => sK fun _ k6 => rL (uM rfl ?_)
  refine uM rfl ?_
  refine uG (vI (l.length : Int)) rfl (ex_len0 Tryz.underlying76 rfl rfl) ?_
  by_cases hb7 : (i : Int) < (l.length : Int)
  ·refine uG (.bool true) rfl (ex_lss rfl rfl rfl (qT hb7)) (uW k6 ?_)
   refine cT rfl (kS ?_)
   refine tK k5 (sK fun _ k8 => ?_)
   refine bB (sK fun _ k9 => ?_)
   obtain ⟨x, hx⟩ : ∃ x, l[i]? = some x := ⟨_, List.getElem?_eq_getElem (show i < l.length by omega)⟩
   obtain ⟨bb, bo, had, hrdx⟩ := mem_reads hr hx
   subst had
   refine rW mixed [20, 31] [0,1,2,3,4,5,6,7,8,9,10,11,12,13,14,15,16,17,18,19,20,21,22,23,24,25,26,27,28,29,30,32,31,33,34] 48 rfl (by kernel_rfl) hv ?_
   simp only [qm, opAt]
   refine dM (.slice (some ⟨bb, bo, none⟩) l.length c) rfl (dM (vI i) rfl ?_)
   refine dG (.pointer (some ⟨bb, bo + i * 2, none⟩)) rfl (ex_index rfl rfl rfl (run_idx (k := i) Tryz.underlying76 s9es76 (by omega))) ?_
   simp only [zP, po]
   refine dG (.pointer (some ⟨bb, bo + i * 2 + 1, none⟩)) rfl (ex_field rfl rfl (s9fa118_1 _ _ _)) (dL _ rfl (fun hv => ex_load rfl rfl (run_load1 s9na9 (hrdx _ _ _ (Base.Le.refl _) no_res hv 1 _ rfl))) ?_)
   refine dG (vI (x.2.length : Int)) rfl (ex_lenStr Tryz.underlying9 rfl rfl) ?_
   simp only [zP, po]
   by_cases hb10 : (x.2.length : Int) > 4096
   ·refine dG (.bool true) rfl (ex_gtr rfl rfl rfl (qT hb10)) (dM (.bool true) rfl ?_)
    refine dP rfl ?_
    simp only [zP, po]
    refine dP rfl (dP rfl ?_)
    refine dP rfl ?_
    simp only [zP, po]
    refine dP rfl (dP rfl ?_)
    refine dP rfl ?_
    simp only [zP, po]
    refine dP rfl (dP rfl ?_)
    refine dP rfl ?_
    simp only [zP, po]
    refine dP rfl (dP rfl ?_)
    refine dP rfl ?_
    simp only [zP, po]
    refine dP rfl (dP rfl ?_)
    refine dK true (.bool true) rfl ?_
    simp only [zP, po]
    refine dM (.bool true) rfl (dP rfl ?_)
    refine dP rfl ?_
    simp only [zP, po]
    refine dP rfl (dP rfl ?_)
    refine dP rfl ?_
    simp only [zP, po]
    refine dP rfl (dP rfl ?_)
    refine dP rfl ?_
    simp only [zP, po]
    refine dP rfl (dK true (.bool true) rfl ?_)
    refine dE fun w11 hv => ?_
    simp only [zP, po]
    refine tK k9 (cT rfl ?_)
    refine sK fun _ k12 => rL (uA rfl ?_)
    refine uW k12 (rR ?_)
    refine bZ (tR ?_)
    refine tR (bZ ?_)
    refine tR (bR rfl rfl ?_)
    exact ⟨false, rfl, ⟨fun h => (by cases h), fun h => by have h8 := List.any_eq_false.1 h.2.1 x (List.mem_of_getElem? hx); simp at h8; omega⟩, hv⟩
   refine dG (.bool false) rfl (ex_gtr rfl rfl rfl (qF hb10)) (dM (.bool false) rfl ?_)
   refine dM (vI i) rfl ?_
   simp only [zP, po]
   by_cases hb13 : (i : Int) > 0
   ·obtain ⟨j, hj⟩ : ∃ j : Nat, i = j + 1 := ⟨i - 1, by omega⟩
    obtain ⟨y, hy⟩ : ∃ x, l[j]? = some x := ⟨_, List.getElem?_eq_getElem (show j < l.length by omega)⟩
    obtain ⟨b9, o9, had9, hrdy⟩ := mem_reads hr hy
    cases had9
    have hyl := (hall j (by omega)).1 y hy
    skip
    refine dG (.bool true) rfl (ex_gtr rfl rfl rfl (qT hb13)) (dM (.bool true) rfl ?_)
    refine dM (.slice (some ⟨bb, bo, none⟩) l.length c) rfl ?_
    simp only [zP, po]
    refine dM (vI i) rfl (dG (vI j) rfl (ex_sub rfl rfl rfl (by rw [i64_in (by omega)]; omega)) ?_)
    refine dG (.pointer (some ⟨bb, bo + j * 2, none⟩)) rfl (ex_index rfl rfl rfl (run_idx (k := j) Tryz.underlying76 s9es76 (by omega))) ?_
    simp only [zP, po]
    refine dL (.agg #[vI y.1, vS y.2]) rfl (fun hv => ex_load rfl rfl (run_loadR (cs := [vI y.1, vS y.2]) s9wd118 (Reads.mid (pre := []) (mid := [vI y.1, vS y.2]) (post := []) hrdy _ _ _ (Base.Le.refl _) no_res hv))) (dM (.slice (some ⟨bb, bo, none⟩) l.length c) rfl ?_)
    refine dM (vI i) rfl ?_
    simp only [zP, po]
    refine dG (.pointer (some ⟨bb, bo + i * 2, none⟩)) rfl (ex_index rfl rfl rfl (run_idx (k := i) Tryz.underlying76 s9es76 (by omega))) (dL (.agg #[vI x.1, vS x.2]) rfl (fun hv => ex_load rfl rfl (run_loadR (cs := [vI x.1, vS x.2]) s9wd118 (Reads.mid (pre := []) (mid := [vI x.1, vS x.2]) (post := []) hrdx _ _ _ (Base.Le.refl _) no_res hv))) ?_)
    refine dS rfl fun w14 hv => ?_
    by_cases hb15 : beforeB y x = true
    ·refine mC s30callable85 rfl ((calls_bool (refBefore B _ _ y x (by omega) hv) hb15).mono ?_) rfl
     rintro e w16 ⟨rfl, hv⟩
     refine ⟨_, rfl, dW hv ?_⟩
     simp only [zP, po]
     refine dG (.bool false) rfl (ex_not rfl rfl rfl) (dK true (.bool false) rfl ?_)
     refine dK false (.bool false) rfl ?_
     simp only [zP, po]
     refine dM (.bool false) rfl (dM (.slice (some ⟨bb, bo, none⟩) l.length c) rfl ?_)
     refine dM (.slice (some ⟨bb, bo, none⟩) l.length c) rfl ?_
     simp only [zP, po]
     refine dM (vI i) rfl (dG (.pointer (some ⟨bb, bo + i * 2, none⟩)) rfl (ex_index rfl rfl rfl (run_idx (k := i) Tryz.underlying76 s9es76 (by omega))) ?_)
     refine dG (.pointer (some ⟨bb, bo + i * 2 + 1, none⟩)) rfl (ex_field rfl rfl (s9fa118_1 _ _ _)) ?_
     simp only [zP, po]
     refine dL _ rfl (fun hv => ex_load rfl rfl (run_load1 s9na9 (hrdx _ _ _ (Base.Le.refl _) no_res hv 1 _ rfl))) (dM (vI i) rfl ?_)
     refine dS rfl fun w17 hv => mC s30callable86 rfl ((refZat B _ _ _ c l x.2 hr hm hv).mono ?_) rfl
     rintro e w18 ⟨rfl, hv⟩
     refine ⟨_, rfl, dW hv ?_⟩
     simp only [zP, po]
     refine dG (.bool (decide ((zAt l x.2) ≠ (i : Int)))) rfl (ex_neq rfl rfl rfl rfl) (dK false (.bool (decide ((zAt l x.2) ≠ (i : Int)))) rfl ?_)
     refine dE fun w19 hv => ?_
     simp only [zP, po]
     refine tK k9 (wpIn_cond_split (t := decide ((zAt l x.2) ≠ (i : Int))) rfl (fun hc20 => ?_) (fun hc20 => ?_))
     ·refine sK fun _ k21 => rL (uA rfl ?_)
      refine uW k21 (rR ?_)
      refine bZ (tR ?_)
      refine tR (bZ ?_)
      refine tR (bR rfl rfl ?_)
      exact ⟨false, rfl, ⟨fun h => (by cases h), fun h => by
       have h5 : zAt l x.2 ≠ (i : Int) := by simpa using hc20
       exact absurd (zAt_of ⟨⟨x, hx, rfl⟩, fun j y hj hy => nodup_place.1 h.2.2.2 j i y x hj hy hx⟩) h5⟩, hv⟩
     refine kS (bN ?_)
     refine tK k8 (rL ?_)
     refine uM rfl ?_
     refine uG (vI ((i + 1 : Nat) : Int)) rfl (ex_add rfl rfl rfl (by rw [i64_in (by omega)]; omega)) (uA rfl ?_)
     refine uZ (then_normal ?_)
     go_roundw
     case rel => exact ⟨i + 1, rfl, by omega, fun k hk => (by
        rcases Nat.lt_or_ge k i with h | h
        ·exact hall k h
        obtain rfl : k = i := by omega
        refine ⟨fun x' hx' => ?_, fun x' hx' j' y' hj' hy' => ?_, fun x' hx' j' y' hj' hy' => ?_⟩ <;> (rw [hx] at hx'; cases hx')
        ·omega
        ·rw [show j' = j by omega, hy] at hy'; cases hy'; exact (before_cmp _ _).1 hb15
        have h5 : zAt l x.2 = (k : Int) := by simpa using hc20
        exact zAt_here hx h5 j' y' hj' hy'), hv⟩
     case measure => show l.length - (((i + 1 : Nat) : Int)).toNat < l.length - ((i : Int)).toNat; omega
    refine mC s30callable85 rfl ((calls_bool (refBefore B _ _ y x (by omega) hv) (by simpa using hb15)).mono ?_) rfl
    rintro e w22 ⟨rfl, hv⟩
    refine ⟨_, rfl, dW hv ?_⟩
    simp only [zP, po]
    refine dG (.bool true) rfl (ex_not rfl rfl rfl) (dK true (.bool true) rfl ?_)
    refine dK false (.bool true) rfl ?_
    simp only [zP, po]
    refine dM (.bool true) rfl (dP rfl ?_)
    refine dP rfl ?_
    simp only [zP, po]
    refine dP rfl (dP rfl ?_)
    refine dP rfl ?_
    simp only [zP, po]
    refine dP rfl (dP rfl ?_)
    refine dP rfl ?_
    simp only [zP, po]
    refine dP rfl (dK true (.bool true) rfl ?_)
    refine dE fun w23 hv => ?_
    simp only [zP, po]
    refine tK k9 (cT rfl ?_)
    refine sK fun _ k24 => rL (uA rfl ?_)
    refine uW k24 (rR ?_)
    refine bZ (tR ?_)
    refine tR (bZ ?_)
    refine tR (bR rfl rfl ?_)
    exact ⟨false, rfl, ⟨fun h => (by cases h), fun h => absurd ((before_cmp _ _).2 (h.2.2.1 i x hx j y (by omega) hy)) hb15⟩, hv⟩
   refine dG (.bool false) rfl (ex_gtr rfl rfl rfl (qF hb13)) (dM (.bool false) rfl ?_)
   refine dP rfl ?_
   simp only [zP, po]
   refine dP rfl (dP rfl ?_)
   refine dP rfl ?_
   simp only [zP, po]
   refine dP rfl (dP rfl ?_)
   refine dP rfl ?_
   simp only [zP, po]
   refine dP rfl (dP rfl ?_)
   refine dP rfl ?_
   simp only [zP, po]
   refine dP rfl (dK false (.bool false) rfl ?_)
   refine dK false (.bool false) rfl ?_
   simp only [zP, po]
   refine dM (.bool false) rfl (dM (.slice (some ⟨bb, bo, none⟩) l.length c) rfl ?_)
   refine dM (.slice (some ⟨bb, bo, none⟩) l.length c) rfl ?_
   simp only [zP, po]
   refine dM (vI i) rfl (dG (.pointer (some ⟨bb, bo + i * 2, none⟩)) rfl (ex_index rfl rfl rfl (run_idx (k := i) Tryz.underlying76 s9es76 (by omega))) ?_)
   refine dG (.pointer (some ⟨bb, bo + i * 2 + 1, none⟩)) rfl (ex_field rfl rfl (s9fa118_1 _ _ _)) ?_
   simp only [zP, po]
   refine dL _ rfl (fun hv => ex_load rfl rfl (run_load1 s9na9 (hrdx _ _ _ (Base.Le.refl _) no_res hv 1 _ rfl))) (dM (vI i) rfl ?_)
   refine dS rfl fun w25 hv => mC s30callable86 rfl ((refZat B _ _ _ c l x.2 hr hm hv).mono ?_) rfl
   rintro e w26 ⟨rfl, hv⟩
   refine ⟨_, rfl, dW hv ?_⟩
   simp only [zP, po]
   refine dG (.bool (decide ((zAt l x.2) ≠ (i : Int)))) rfl (ex_neq rfl rfl rfl rfl) (dK false (.bool (decide ((zAt l x.2) ≠ (i : Int)))) rfl ?_)
   refine dE fun w27 hv => ?_
   simp only [zP, po]
   refine tK k9 (wpIn_cond_split (t := decide ((zAt l x.2) ≠ (i : Int))) rfl (fun hc28 => ?_) (fun hc28 => ?_))
   ·refine sK fun _ k29 => rL (uA rfl ?_)
    refine uW k29 (rR ?_)
    refine bZ (tR ?_)
    refine tR (bZ ?_)
    refine tR (bR rfl rfl ?_)
    exact ⟨false, rfl, ⟨fun h => (by cases h), fun h => by
     have h5 : zAt l x.2 ≠ (i : Int) := by simpa using hc28
     exact absurd (zAt_of ⟨⟨x, hx, rfl⟩, fun j y hj hy => nodup_place.1 h.2.2.2 j i y x hj hy hx⟩) h5⟩, hv⟩
   refine kS (bN ?_)
   refine tK k8 (rL ?_)
   refine uM rfl ?_
   refine uG (vI ((i + 1 : Nat) : Int)) rfl (ex_add rfl rfl rfl (by rw [i64_in (by omega)]; omega)) (uA rfl ?_)
   refine uZ (then_normal ?_)
   go_roundw
   case rel => exact ⟨i + 1, rfl, by omega, fun k hk => (by
      rcases Nat.lt_or_ge k i with h | h
      ·exact hall k h
      obtain rfl : k = i := by omega
      refine ⟨fun x' hx' => ?_, fun x' hx' j' y' hj' hy' => ?_, fun x' hx' j' y' hj' hy' => ?_⟩ <;> (rw [hx] at hx'; cases hx')
      ·omega
      ·omega
      have h5 : zAt l x.2 = (k : Int) := by simpa using hc28
      exact zAt_here hx h5 j' y' hj' hy'), hv⟩
   case measure => show l.length - (((i + 1 : Nat) : Int)).toNat < l.length - ((i : Int)).toNat; omega
  refine uG (.bool false) rfl (ex_lss rfl rfl rfl (qF hb7)) (uW k6 ?_)
  refine cF rfl (xE ?_)
  refine tX (tX ?_)
  refine bH (tK k2 ?_)
  refine sK fun _ k30 => rL (uM rfl ?_)
  refine uG (vI (l.length : Int)) rfl (ex_len0 Tryz.underlying76 rfl rfl) ?_
  refine uG (.bool (decide ((l.length : Int) ≤ 512))) rfl (ex_leq rfl rfl rfl rfl) (uA rfl ?_)
  refine uW k30 (rR ?_)
  refine bR rfl rfl ?_
  obtain rfl : i = l.length := by omega
  exact ⟨_, rfl, by rw [decide_eq_true_iff]; exact ⟨fun h9 => zset_ok (by omega) hall, fun h9 => by have := h9.1; omega⟩, hv⟩
theorem llen {l : List (List UInt8)} (h : listRight l = true) : l.length ≤ 512 := by
 unfold listRight at h
 rw [Bool.and_eq_true, decide_eq_true_iff] at h
 exact h.1
theorem lleft {l : List (List UInt8)} (h : listRight l = true) (i : Nat) (x : List UInt8) (hx : l[i]? = some x) : x.length ≤ 4096 := by
 unfold listRight at h
 rw [Bool.and_eq_true, Bool.not_eq_true', List.any_eq_false] at h
 have := h.2 x (List.mem_of_getElem? hx)
 simp at this
 omega
theorem lright {l : List (List UInt8)} (h : l.length ≤ 512) (hno : ∀ j x, j < l.length → l[j]? = some x → x.length ≤ 4096) : listRight l = true := by
 unfold listRight
 rw [qT h, Bool.true_and, Bool.not_eq_true', List.any_eq_false]
 intro x hx
 obtain ⟨j, hj⟩ := List.mem_iff_getElem?.1 hx
 have := hno j x (List.getElem?_eq_some_iff.1 hj).1 hj
 simp; omega
theorem refRight_0 (B : Base) (H : List Res) (w : World) (v : Val) (ap at2 az : Option Addr) (cp ct cz : Nat) (_ : RdV B [] ap (pairCells v.pairs)) (_ : RdV B [] at2 (textCells v.texts)) (_ : RdV B [] az (memCells v.zset)) (_ : v.pairs.length ≤ 1000000) (_ : v.texts.length ≤ 1000000) (_ : v.zset.length ≤ 1000000) (hk : v.kind < 1 ∨ 5 < v.kind) (hv : Inv B H w) :
  Calls Tryz.prog 29 #[.agg #[vI v.kind, vS v.text, .slice ap v.pairs.length cp, .slice at2 v.texts.length ct, .slice az v.zset.length cz]] w fun e w' => ∃ b, e = .returned (.bool b) ∧ (b = true ↔ ValOk v) ∧ Inv B H w' := by
 refine cW Tryz.func29 rfl Tryz.ntmps29 ?_
 simp only [al]
 refine sK fun _ k1 => rL (sl_box (L := [vI v.kind, vS v.text, .slice ap v.pairs.length cp, .slice at2 v.texts.length ct, .slice az v.zset.length cz]) tV (wn rfl) rfl rfl hv (fun w => by kernel_rfl) (fun b2 w3 hv => ?_))
 refine uA rfl (uW k1 ?_)
 refine sK fun _ k4 => sK fun _ k5 => rL (uF (vP b2) rfl (s12fa78_0 _ _ _) ?_)
 refine uL _ rfl (run_load1 s2na3 (hv.load 0 0 rfl rfl)) ?_
 by_cases hb6 : v.kind < 1
 ·refine uG (.bool true) rfl (ex_lss rfl rfl rfl (qT hb6)) (uM rfl ?_)
  iterate 3 refine uP rfl ?_
  refine uK rfl (uM rfl ?_)
  iterate 8 refine uP rfl ?_
  refine uK rfl (uM rfl ?_)
  iterate 9 refine uP rfl ?_
  refine uK rfl (uM rfl ?_)
  iterate 14 refine uP rfl ?_
  refine uK rfl (uM rfl ?_)
  iterate 9 refine uP rfl ?_
  refine uK rfl (uW k5 ?_)
  refine cT rfl (sK fun _ k7 => ?_)
  refine rL (uA rfl ?_)
  refine uW k7 (rR ?_)
  refine tR (bR rfl rfl ?_)
  exact ⟨false, rfl, ⟨fun h => (by cases h), fun h => by rcases h with ⟨h1, h2, h3, h4, h5⟩ | ⟨h1, h2, h3, h4, h5, h6⟩ | ⟨h1, h2, h3, h4, h5, h6⟩ | ⟨h1, h2, h3, h4, h5, h6⟩ | ⟨h1, h2, h3, h4, h5, h6⟩ <;> first | omega | contradiction | (have h9 := hv.2 h3; cases h9)⟩, (hv.kp [] 0 1)⟩
 refine uG (.bool false) rfl (ex_lss rfl rfl rfl (qF hb6)) (uM rfl ?_)
 refine uF (vP b2) rfl (s12fa78_0 _ _ _) ?_
 refine uL _ rfl (run_load1 s2na3 (hv.load 0 0 rfl rfl)) ?_
 refine uG (.bool true) rfl (ex_gtr rfl rfl rfl (qT (by omega))) (uK rfl ?_)
 refine uM rfl ?_
 iterate 8 refine uP rfl ?_
 refine uK rfl (uM rfl ?_)
 iterate 9 refine uP rfl ?_
 refine uK rfl (uM rfl ?_)
 iterate 14 refine uP rfl ?_
 refine uK rfl (uM rfl ?_)
 iterate 9 refine uP rfl ?_
 refine uK rfl (uW k5 ?_)
 refine cT rfl (sK fun _ k8 => ?_)
 refine rL (uA rfl ?_)
 refine uW k8 (rR ?_)
 refine tR (bR rfl rfl ?_)
 exact ⟨false, rfl, ⟨fun h => (by cases h), fun h => by rcases h with ⟨h1, h2, h3, h4, h5⟩ | ⟨h1, h2, h3, h4, h5, h6⟩ | ⟨h1, h2, h3, h4, h5, h6⟩ | ⟨h1, h2, h3, h4, h5, h6⟩ | ⟨h1, h2, h3, h4, h5, h6⟩ <;> first | omega | contradiction | (have h9 := hv.2 h3; cases h9)⟩, (hv.kp [] 0 1)⟩
theorem refRight_1 (B : Base) (H : List Res) (w : World) (v : Val) (ap at2 az : Option Addr) (cp ct cz : Nat) (_ : RdV B [] ap (pairCells v.pairs)) (_ : RdV B [] at2 (textCells v.texts)) (_ : RdV B [] az (memCells v.zset)) (hpm : v.pairs.length ≤ 1000000) (htm : v.texts.length ≤ 1000000) (hzm : v.zset.length ≤ 1000000) (hk : v.kind = 1) (hv : Inv B H w) :
  Calls Tryz.prog 29 #[.agg #[vI v.kind, vS v.text, .slice ap v.pairs.length cp, .slice at2 v.texts.length ct, .slice az v.zset.length cz]] w fun e w' => ∃ b, e = .returned (.bool b) ∧ (b = true ↔ ValOk v) ∧ Inv B H w' := by
 refine cW Tryz.func29 rfl Tryz.ntmps29 ?_
 simp only [al]
 refine sK fun _ k1 => rL (sl_box (L := [vI v.kind, vS v.text, .slice ap v.pairs.length cp, .slice at2 v.texts.length ct, .slice az v.zset.length cz]) tV (wn rfl) rfl rfl hv (fun w => by kernel_rfl) (fun b2 w3 hv => ?_))
 refine uA rfl (uW k1 ?_)
 refine sK fun _ k4 => sK fun _ k5 => rL (uF (vP b2) rfl (s12fa78_0 _ _ _) ?_)
 refine uL _ rfl (run_load1 s2na3 (hv.load 0 0 rfl rfl)) ?_
 refine uG (.bool false) rfl (ex_lss rfl rfl rfl (qF (by omega))) (uM rfl ?_)
 refine uF (vP b2) rfl (s12fa78_0 _ _ _) ?_
 refine uL _ rfl (run_load1 s2na3 (hv.load 0 0 rfl rfl)) ?_
 refine uG (.bool false) rfl (ex_gtr rfl rfl rfl (qF (by omega))) (uK rfl ?_)
 refine uM rfl ?_
 refine uF (vP b2) rfl (s12fa78_0 _ _ _) ?_
 refine uL _ rfl (run_load1 s2na3 (hv.load 0 0 rfl rfl)) ?_
 refine uG (.bool false) rfl (ex_neq rfl rfl rfl (qF (by omega))) ?_
 refine uM rfl ?_
 iterate 3 refine uP rfl ?_
 refine uK rfl (uK rfl ?_)
 refine uM rfl ?_
 refine uF (vP b2) rfl (s12fa78_0 _ _ _) ?_
 refine uL _ rfl (run_load1 s2na3 (hv.load 0 0 rfl rfl)) ?_
 refine uG (.bool true) rfl (ex_neq rfl rfl rfl (qT (by omega))) ?_
 refine uM rfl ?_
 refine uF (.pointer (some ⟨b2, 2, none⟩)) rfl (s1fa78_2 _ _ _) ?_
 refine uL _ rfl (run_load1 s1na75 (hv.load 0 2 rfl rfl)) ?_
 refine uG (vI (v.pairs.length : Int)) rfl (ex_len0 Tryz.underlying75 rfl rfl) ?_
 by_cases hb6 : (v.pairs.length : Int) > 0
 ·refine uG (.bool true) rfl (ex_gtr rfl rfl rfl (qT hb6)) ?_
  refine uK rfl (uK rfl ?_)
  refine uM rfl ?_
  iterate 14 refine uP rfl ?_
  refine uK rfl (uM rfl ?_)
  iterate 9 refine uP rfl ?_
  refine uK rfl (uW k5 ?_)
  refine cT rfl (sK fun _ k7 => ?_)
  refine rL (uA rfl ?_)
  refine uW k7 (rR ?_)
  refine tR (bR rfl rfl ?_)
  exact ⟨false, rfl, ⟨fun h => (by cases h), fun h => by rcases h with ⟨h1, h2, h3, h4, h5⟩ | ⟨h1, h2, h3, h4, h5, h6⟩ | ⟨h1, h2, h3, h4, h5, h6⟩ | ⟨h1, h2, h3, h4, h5, h6⟩ | ⟨h1, h2, h3, h4, h5, h6⟩ <;> first | omega | contradiction | (have h9 := hv.2 h3; cases h9)⟩, (hv.kp [] 0 1)⟩
 refine uG (.bool false) rfl (ex_gtr rfl rfl rfl (qF hb6)) ?_
 refine uK rfl (uK rfl ?_)
 refine uM rfl ?_
 refine uF (vP b2) rfl (s12fa78_0 _ _ _) ?_
 refine uL _ rfl (run_load1 s2na3 (hv.load 0 0 rfl rfl)) ?_
 refine uG (.bool true) rfl (ex_neq rfl rfl rfl (qT (by omega))) ?_
 refine uM rfl ?_
 refine uF (vP b2) rfl (s12fa78_0 _ _ _) ?_
 refine uL _ rfl (run_load1 s2na3 (hv.load 0 0 rfl rfl)) ?_
 refine uG (.bool true) rfl (ex_neq rfl rfl rfl (qT (by omega))) ?_
 refine uK rfl ?_
 refine uM rfl ?_
 refine uF (.pointer (some ⟨b2, 3, none⟩)) rfl (s1fa78_3 _ _ _) ?_
 refine uL _ rfl (run_load1 s1na22 (hv.load 0 3 rfl rfl)) ?_
 refine uG (vI (v.texts.length : Int)) rfl (ex_len0 Tryz.underlying22 rfl rfl) ?_
 by_cases hb8 : (v.texts.length : Int) > 0
 ·refine uG (.bool true) rfl (ex_gtr rfl rfl rfl (qT hb8)) ?_
  refine uK rfl (uK rfl ?_)
  refine uM rfl ?_
  iterate 9 refine uP rfl ?_
  refine uK rfl (uW k5 ?_)
  refine cT rfl (sK fun _ k9 => ?_)
  refine rL (uA rfl ?_)
  refine uW k9 (rR ?_)
  refine tR (bR rfl rfl ?_)
  exact ⟨false, rfl, ⟨fun h => (by cases h), fun h => by rcases h with ⟨h1, h2, h3, h4, h5⟩ | ⟨h1, h2, h3, h4, h5, h6⟩ | ⟨h1, h2, h3, h4, h5, h6⟩ | ⟨h1, h2, h3, h4, h5, h6⟩ | ⟨h1, h2, h3, h4, h5, h6⟩ <;> first | omega | contradiction | (have h9 := hv.2 h3; cases h9)⟩, (hv.kp [] 0 1)⟩
 refine uG (.bool false) rfl (ex_gtr rfl rfl rfl (qF hb8)) ?_
 refine uK rfl (uK rfl ?_)
 refine uM rfl ?_
 refine uF (vP b2) rfl (s12fa78_0 _ _ _) ?_
 refine uL _ rfl (run_load1 s2na3 (hv.load 0 0 rfl rfl)) ?_
 refine uG (.bool true) rfl (ex_neq rfl rfl rfl (qT (by omega))) ?_
 refine uM rfl ?_
 refine uF (.pointer (some ⟨b2, 4, none⟩)) rfl (s1fa78_4 _ _ _) ?_
 refine uL _ rfl (run_load1 s1na76 (hv.load 0 4 rfl rfl)) ?_
 refine uG (vI (v.zset.length : Int)) rfl (ex_len0 Tryz.underlying76 rfl rfl) ?_
 by_cases hb10 : (v.zset.length : Int) > 0
 ·refine uG (.bool true) rfl (ex_gtr rfl rfl rfl (qT hb10)) ?_
  refine uK rfl (uK rfl ?_)
  refine uW k5 (cT rfl ?_)
  refine sK fun _ k11 => rL (uA rfl ?_)
  refine uW k11 (rR ?_)
  refine tR (bR rfl rfl ?_)
  exact ⟨false, rfl, ⟨fun h => (by cases h), fun h => by rcases h with ⟨h1, h2, h3, h4, h5⟩ | ⟨h1, h2, h3, h4, h5, h6⟩ | ⟨h1, h2, h3, h4, h5, h6⟩ | ⟨h1, h2, h3, h4, h5, h6⟩ | ⟨h1, h2, h3, h4, h5, h6⟩ <;> first | omega | contradiction | (have h9 := hv.2 h3; cases h9)⟩, (hv.kp [] 0 1)⟩
 refine uG (.bool false) rfl (ex_gtr rfl rfl rfl (qF hb10)) ?_
 refine uK rfl (uK rfl ?_)
 refine uW k5 (cF rfl ?_)
 refine kS (tK k4 ?_)
 refine sK fun _ k12 => sK fun _ k13 => rL (uF (vP b2) rfl (s12fa78_0 _ _ _) ?_)
 refine uL _ rfl (run_load1 s2na3 (hv.load 0 0 rfl rfl)) (uW k13 ?_)
 refine bB (sK fun _ k14 => ?_)
 refine rL (uG (.bool true) rfl (ex_eql rfl rfl rfl (qT (by omega))) ?_)
 refine uA rfl (uW k14 ?_)
 refine cT rfl (sK fun _ k15 => ?_)
 refine rL (uF (.pointer (some ⟨b2, 1, none⟩)) rfl (s12fa78_1 _ _ _) ?_)
 refine uL _ rfl (run_load1 s9na9 (hv.load 0 1 rfl rfl)) ?_
 refine uG (vI (v.text.length : Int)) rfl (ex_lenStr Tryz.underlying9 rfl rfl) ?_
 refine uG (.bool (decide ((v.text.length : Int) ≤ 4096))) rfl (ex_leq rfl rfl rfl rfl) (uA rfl ?_)
 refine uW k15 (rR ?_)
 refine bZ (tR ?_)
 refine bR rfl rfl (⟨_, rfl, by rw [decide_eq_true_iff]; exact ⟨fun h9 => .inl ⟨by omega, by omega, by omega, by omega, by omega⟩, fun h => by rcases h with ⟨h1, h2, h3, h4, h5⟩ | ⟨h1, h2, h3, h4, h5, h6⟩ | ⟨h1, h2, h3, h4, h5, h6⟩ | ⟨h1, h2, h3, h4, h5, h6⟩ | ⟨h1, h2, h3, h4, h5, h6⟩ <;> first | omega | (have h9 := llen h3; omega)⟩, (hv.kp [] 0 1)⟩)
theorem s31callable53 : Callable Tryz.prog 53 := cb Tryz.func53 (by kernel_rfl)
theorem refRight_2 (B : Base) (H : List Res) (w : World) (v : Val) (ap at2 az : Option Addr) (cp ct cz : Nat) (hrp : RdV B [] ap (pairCells v.pairs)) (_ : RdV B [] at2 (textCells v.texts)) (_ : RdV B [] az (memCells v.zset)) (hpm : v.pairs.length ≤ 1000000) (htm : v.texts.length ≤ 1000000) (hzm : v.zset.length ≤ 1000000) (hk : v.kind = 2) (hv : Inv B H w) :
  Calls Tryz.prog 29 #[.agg #[vI v.kind, vS v.text, .slice ap v.pairs.length cp, .slice at2 v.texts.length ct, .slice az v.zset.length cz]] w fun e w' => ∃ b, e = .returned (.bool b) ∧ (b = true ↔ ValOk v) ∧ Inv B H w' := by
 refine cW Tryz.func29 rfl Tryz.ntmps29 ?_
 simp only [al]
 refine sK fun _ k1 => rL (sl_box (L := [vI v.kind, vS v.text, .slice ap v.pairs.length cp, .slice at2 v.texts.length ct, .slice az v.zset.length cz]) tV (wn rfl) rfl rfl hv (fun w => by kernel_rfl) (fun b2 w3 hv => ?_))
 refine uA rfl (uW k1 ?_)
 refine sK fun _ k4 => sK fun _ k5 => rL (uF (vP b2) rfl (s12fa78_0 _ _ _) ?_)
 refine uL _ rfl (run_load1 s2na3 (hv.load 0 0 rfl rfl)) ?_
 refine uG (.bool false) rfl (ex_lss rfl rfl rfl (qF (by omega))) (uM rfl ?_)
 refine uF (vP b2) rfl (s12fa78_0 _ _ _) ?_
 refine uL _ rfl (run_load1 s2na3 (hv.load 0 0 rfl rfl)) ?_
 refine uG (.bool false) rfl (ex_gtr rfl rfl rfl (qF (by omega))) (uK rfl ?_)
 refine uM rfl ?_
 refine uF (vP b2) rfl (s12fa78_0 _ _ _) ?_
 refine uL _ rfl (run_load1 s2na3 (hv.load 0 0 rfl rfl)) ?_
 refine uG (.bool true) rfl (ex_neq rfl rfl rfl (qT (by omega))) ?_
 refine uM rfl ?_
 refine uF (.pointer (some ⟨b2, 1, none⟩)) rfl (s12fa78_1 _ _ _) ?_
 refine uL _ rfl (run_load1 s9na9 (hv.load 0 1 rfl rfl)) ?_
 by_cases hb6 : v.text ≠ ([] : List UInt8)
 ·refine uG (.bool true) rfl (ex_sneq rfl rfl rfl (qT hb6)) ?_
  refine uK rfl (uK rfl ?_)
  refine uM rfl ?_
  iterate 9 refine uP rfl ?_
  refine uK rfl (uM rfl ?_)
  iterate 14 refine uP rfl ?_
  refine uK rfl (uM rfl ?_)
  iterate 9 refine uP rfl ?_
  refine uK rfl (uW k5 ?_)
  refine cT rfl (sK fun _ k7 => ?_)
  refine rL (uA rfl ?_)
  refine uW k7 (rR ?_)
  refine tR (bR rfl rfl ?_)
  exact ⟨false, rfl, ⟨fun h => (by cases h), fun h => by rcases h with ⟨h1, h2, h3, h4, h5⟩ | ⟨h1, h2, h3, h4, h5, h6⟩ | ⟨h1, h2, h3, h4, h5, h6⟩ | ⟨h1, h2, h3, h4, h5, h6⟩ | ⟨h1, h2, h3, h4, h5, h6⟩ <;> first | omega | contradiction | (have h9 := hv.2 h3; cases h9)⟩, (hv.kp [] 0 1)⟩
 refine uG (.bool false) rfl (ex_sneq rfl rfl rfl (qF hb6)) ?_
 refine uK rfl (uK rfl ?_)
 refine uM rfl ?_
 refine uF (vP b2) rfl (s12fa78_0 _ _ _) ?_
 refine uL _ rfl (run_load1 s2na3 (hv.load 0 0 rfl rfl)) ?_
 refine uG (.bool false) rfl (ex_neq rfl rfl rfl (qF (by omega))) ?_
 refine uM rfl ?_
 iterate 4 refine uP rfl ?_
 refine uK rfl (uK rfl ?_)
 refine uM rfl ?_
 refine uF (vP b2) rfl (s12fa78_0 _ _ _) ?_
 refine uL _ rfl (run_load1 s2na3 (hv.load 0 0 rfl rfl)) ?_
 refine uG (.bool true) rfl (ex_neq rfl rfl rfl (qT (by omega))) ?_
 refine uM rfl ?_
 refine uF (vP b2) rfl (s12fa78_0 _ _ _) ?_
 refine uL _ rfl (run_load1 s2na3 (hv.load 0 0 rfl rfl)) ?_
 refine uG (.bool true) rfl (ex_neq rfl rfl rfl (qT (by omega))) ?_
 refine uK rfl ?_
 refine uM rfl ?_
 refine uF (.pointer (some ⟨b2, 3, none⟩)) rfl (s1fa78_3 _ _ _) ?_
 refine uL _ rfl (run_load1 s1na22 (hv.load 0 3 rfl rfl)) ?_
 refine uG (vI (v.texts.length : Int)) rfl (ex_len0 Tryz.underlying22 rfl rfl) ?_
 by_cases hb8 : (v.texts.length : Int) > 0
 ·refine uG (.bool true) rfl (ex_gtr rfl rfl rfl (qT hb8)) ?_
  refine uK rfl (uK rfl ?_)
  refine uM rfl ?_
  iterate 9 refine uP rfl ?_
  refine uK rfl (uW k5 ?_)
  refine cT rfl (sK fun _ k9 => ?_)
  refine rL (uA rfl ?_)
  refine uW k9 (rR ?_)
  refine tR (bR rfl rfl ?_)
  exact ⟨false, rfl, ⟨fun h => (by cases h), fun h => by rcases h with ⟨h1, h2, h3, h4, h5⟩ | ⟨h1, h2, h3, h4, h5, h6⟩ | ⟨h1, h2, h3, h4, h5, h6⟩ | ⟨h1, h2, h3, h4, h5, h6⟩ | ⟨h1, h2, h3, h4, h5, h6⟩ <;> first | omega | contradiction | (have h9 := hv.2 h3; cases h9)⟩, (hv.kp [] 0 1)⟩
 refine uG (.bool false) rfl (ex_gtr rfl rfl rfl (qF hb8)) ?_
 refine uK rfl (uK rfl ?_)
 refine uM rfl ?_
 refine uF (vP b2) rfl (s12fa78_0 _ _ _) ?_
 refine uL _ rfl (run_load1 s2na3 (hv.load 0 0 rfl rfl)) ?_
 refine uG (.bool true) rfl (ex_neq rfl rfl rfl (qT (by omega))) ?_
 refine uM rfl ?_
 refine uF (.pointer (some ⟨b2, 4, none⟩)) rfl (s1fa78_4 _ _ _) ?_
 refine uL _ rfl (run_load1 s1na76 (hv.load 0 4 rfl rfl)) ?_
 refine uG (vI (v.zset.length : Int)) rfl (ex_len0 Tryz.underlying76 rfl rfl) ?_
 by_cases hb10 : (v.zset.length : Int) > 0
 ·refine uG (.bool true) rfl (ex_gtr rfl rfl rfl (qT hb10)) ?_
  refine uK rfl (uK rfl ?_)
  refine uW k5 (cT rfl ?_)
  refine sK fun _ k11 => rL (uA rfl ?_)
  refine uW k11 (rR ?_)
  refine tR (bR rfl rfl ?_)
  exact ⟨false, rfl, ⟨fun h => (by cases h), fun h => by rcases h with ⟨h1, h2, h3, h4, h5⟩ | ⟨h1, h2, h3, h4, h5, h6⟩ | ⟨h1, h2, h3, h4, h5, h6⟩ | ⟨h1, h2, h3, h4, h5, h6⟩ | ⟨h1, h2, h3, h4, h5, h6⟩ <;> first | omega | contradiction | (have h9 := hv.2 h3; cases h9)⟩, (hv.kp [] 0 1)⟩
 refine uG (.bool false) rfl (ex_gtr rfl rfl rfl (qF hb10)) ?_
 refine uK rfl (uK rfl ?_)
 refine uW k5 (cF rfl ?_)
 refine kS (tK k4 ?_)
 refine sK fun _ k12 => sK fun _ k13 => rL (uF (vP b2) rfl (s12fa78_0 _ _ _) ?_)
 refine uL _ rfl (run_load1 s2na3 (hv.load 0 0 rfl rfl)) (uW k13 ?_)
 refine bB (sK fun _ k14 => ?_)
 refine rL (uG (.bool false) rfl (ex_eql rfl rfl rfl (qF (by omega))) ?_)
 refine uA rfl (uW k14 ?_)
 refine cF rfl (sK fun _ k15 => ?_)
 refine rL (uG (.bool true) rfl (ex_eql rfl rfl rfl (qT (by omega))) ?_)
 refine uA rfl (uW k15 ?_)
 refine cT rfl (sK fun _ k16 => ?_)
 refine rL (uF (.pointer (some ⟨b2, 2, none⟩)) rfl (s1fa78_2 _ _ _) ?_)
 refine uL _ rfl (run_load1 s1na75 (hv.load 0 2 rfl rfl)) ?_
 refine uG (vI (v.pairs.length : Int)) rfl (ex_len0 Tryz.underlying75 rfl rfl) ?_
 by_cases hb17 : (v.pairs.length : Int) > 0
 ·refine uG (.bool true) rfl (ex_gtr rfl rfl rfl (qT hb17)) (uM rfl ?_)
  refine uF (.pointer (some ⟨b2, 2, none⟩)) rfl (s1fa78_2 _ _ _) ?_
  refine uL _ rfl (run_load1 s1na75 (hv.load 0 2 rfl rfl)) ?_
  refine xC s31callable53 rfl ((refHashRight B _ _ _ _ _ hrp hpm hv).mono ?_) rfl
  rintro e w19 ⟨bl18, rfl, hbl18, hv⟩
  refine ⟨_, rfl, ?_⟩
  cases bl18
  ·refine uK rfl (uA rfl ?_)
   refine uW k16 (rR ?_)
   refine bZ (tR ?_)
   refine bR rfl rfl (⟨false, rfl, ⟨fun h => (by cases h), fun h => by rcases h with ⟨h1, h2, h3, h4, h5⟩ | ⟨h1, h2, h3, h4, h5, h6⟩ | ⟨h1, h2, h3, h4, h5, h6⟩ | ⟨h1, h2, h3, h4, h5, h6⟩ | ⟨h1, h2, h3, h4, h5, h6⟩ <;> first | omega | contradiction | (have h9 := hbl18.2 h3; cases h9)⟩, (hv.kp [] 0 1)⟩)
  refine uK rfl (uA rfl ?_)
  refine uW k16 (rR ?_)
  refine bZ (tR ?_)
  refine bR rfl rfl (⟨true, rfl, ⟨fun _ => .inr (.inl ⟨by omega, by omega, hbl18.1 rfl, Classical.not_not.1 hb6, by omega, by omega⟩), fun _ => rfl⟩, (hv.kp [] 0 1)⟩)
 refine uG (.bool false) rfl (ex_gtr rfl rfl rfl (qF hb17)) (uM rfl ?_)
 iterate 3 refine uP rfl ?_
 refine uK rfl (uA rfl ?_)
 refine uW k16 (rR ?_)
 refine bZ (tR ?_)
 refine bR rfl rfl (⟨false, rfl, ⟨fun h => (by cases h), fun h => by rcases h with ⟨h1, h2, h3, h4, h5⟩ | ⟨h1, h2, h3, h4, h5, h6⟩ | ⟨h1, h2, h3, h4, h5, h6⟩ | ⟨h1, h2, h3, h4, h5, h6⟩ | ⟨h1, h2, h3, h4, h5, h6⟩ <;> first | omega | contradiction | (have h9 := hv.2 h3; cases h9)⟩, (hv.kp [] 0 1)⟩)
theorem refRight_3 (B : Base) (H : List Res) (w : World) (v : Val) (ap at2 az : Option Addr) (cp ct cz : Nat) (_ : RdV B [] ap (pairCells v.pairs)) (hrt : RdV B [] at2 (textCells v.texts)) (_ : RdV B [] az (memCells v.zset)) (hpm : v.pairs.length ≤ 1000000) (htm : v.texts.length ≤ 1000000) (hzm : v.zset.length ≤ 1000000) (hk : v.kind = 3) (hv : Inv B H w) :
  Calls Tryz.prog 29 #[.agg #[vI v.kind, vS v.text, .slice ap v.pairs.length cp, .slice at2 v.texts.length ct, .slice az v.zset.length cz]] w fun e w' => ∃ b, e = .returned (.bool b) ∧ (b = true ↔ ValOk v) ∧ Inv B H w' := by
 refine cW Tryz.func29 rfl Tryz.ntmps29 ?_
 simp only [al]
 refine sK fun _ k1 => rL (sl_box (L := [vI v.kind, vS v.text, .slice ap v.pairs.length cp, .slice at2 v.texts.length ct, .slice az v.zset.length cz]) tV (wn rfl) rfl rfl hv (fun w => by kernel_rfl) (fun b2 w3 hv => ?_))
 refine uA rfl (uW k1 ?_)
 refine sK fun _ k4 => sK fun _ k5 => rL (uF (vP b2) rfl (s12fa78_0 _ _ _) ?_)
 refine uL _ rfl (run_load1 s2na3 (hv.load 0 0 rfl rfl)) ?_
 refine uG (.bool false) rfl (ex_lss rfl rfl rfl (qF (by omega))) (uM rfl ?_)
 refine uF (vP b2) rfl (s12fa78_0 _ _ _) ?_
 refine uL _ rfl (run_load1 s2na3 (hv.load 0 0 rfl rfl)) ?_
 refine uG (.bool false) rfl (ex_gtr rfl rfl rfl (qF (by omega))) (uK rfl ?_)
 refine uM rfl ?_
 refine uF (vP b2) rfl (s12fa78_0 _ _ _) ?_
 refine uL _ rfl (run_load1 s2na3 (hv.load 0 0 rfl rfl)) ?_
 refine uG (.bool true) rfl (ex_neq rfl rfl rfl (qT (by omega))) ?_
 refine uM rfl ?_
 refine uF (.pointer (some ⟨b2, 1, none⟩)) rfl (s12fa78_1 _ _ _) ?_
 refine uL _ rfl (run_load1 s9na9 (hv.load 0 1 rfl rfl)) ?_
 by_cases hb6 : v.text ≠ ([] : List UInt8)
 ·refine uG (.bool true) rfl (ex_sneq rfl rfl rfl (qT hb6)) ?_
  refine uK rfl (uK rfl ?_)
  refine uM rfl ?_
  iterate 9 refine uP rfl ?_
  refine uK rfl (uM rfl ?_)
  iterate 14 refine uP rfl ?_
  refine uK rfl (uM rfl ?_)
  iterate 9 refine uP rfl ?_
  refine uK rfl (uW k5 ?_)
  refine cT rfl (sK fun _ k7 => ?_)
  refine rL (uA rfl ?_)
  refine uW k7 (rR ?_)
  refine tR (bR rfl rfl ?_)
  exact ⟨false, rfl, ⟨fun h => (by cases h), fun h => by rcases h with ⟨h1, h2, h3, h4, h5⟩ | ⟨h1, h2, h3, h4, h5, h6⟩ | ⟨h1, h2, h3, h4, h5, h6⟩ | ⟨h1, h2, h3, h4, h5, h6⟩ | ⟨h1, h2, h3, h4, h5, h6⟩ <;> first | omega | contradiction | (have h9 := hv.2 h3; cases h9)⟩, (hv.kp [] 0 1)⟩
 refine uG (.bool false) rfl (ex_sneq rfl rfl rfl (qF hb6)) ?_
 refine uK rfl (uK rfl ?_)
 refine uM rfl ?_
 refine uF (vP b2) rfl (s12fa78_0 _ _ _) ?_
 refine uL _ rfl (run_load1 s2na3 (hv.load 0 0 rfl rfl)) ?_
 refine uG (.bool true) rfl (ex_neq rfl rfl rfl (qT (by omega))) ?_
 refine uM rfl ?_
 refine uF (.pointer (some ⟨b2, 2, none⟩)) rfl (s1fa78_2 _ _ _) ?_
 refine uL _ rfl (run_load1 s1na75 (hv.load 0 2 rfl rfl)) ?_
 refine uG (vI (v.pairs.length : Int)) rfl (ex_len0 Tryz.underlying75 rfl rfl) ?_
 by_cases hb8 : (v.pairs.length : Int) > 0
 ·refine uG (.bool true) rfl (ex_gtr rfl rfl rfl (qT hb8)) ?_
  refine uK rfl (uK rfl ?_)
  refine uM rfl ?_
  iterate 14 refine uP rfl ?_
  refine uK rfl (uM rfl ?_)
  iterate 9 refine uP rfl ?_
  refine uK rfl (uW k5 ?_)
  refine cT rfl (sK fun _ k9 => ?_)
  refine rL (uA rfl ?_)
  refine uW k9 (rR ?_)
  refine tR (bR rfl rfl ?_)
  exact ⟨false, rfl, ⟨fun h => (by cases h), fun h => by rcases h with ⟨h1, h2, h3, h4, h5⟩ | ⟨h1, h2, h3, h4, h5, h6⟩ | ⟨h1, h2, h3, h4, h5, h6⟩ | ⟨h1, h2, h3, h4, h5, h6⟩ | ⟨h1, h2, h3, h4, h5, h6⟩ <;> first | omega | contradiction | (have h9 := hv.2 h3; cases h9)⟩, (hv.kp [] 0 1)⟩
 refine uG (.bool false) rfl (ex_gtr rfl rfl rfl (qF hb8)) ?_
 refine uK rfl (uK rfl ?_)
 refine uM rfl ?_
 refine uF (vP b2) rfl (s12fa78_0 _ _ _) ?_
 refine uL _ rfl (run_load1 s2na3 (hv.load 0 0 rfl rfl)) ?_
 refine uG (.bool false) rfl (ex_neq rfl rfl rfl (qF (by omega))) ?_
 refine uM rfl ?_
 iterate 3 refine uP rfl ?_
 refine uK rfl ?_
 refine uM rfl ?_
 iterate 4 refine uP rfl ?_
 refine uK rfl (uK rfl ?_)
 refine uM rfl ?_
 refine uF (vP b2) rfl (s12fa78_0 _ _ _) ?_
 refine uL _ rfl (run_load1 s2na3 (hv.load 0 0 rfl rfl)) ?_
 refine uG (.bool true) rfl (ex_neq rfl rfl rfl (qT (by omega))) ?_
 refine uM rfl ?_
 refine uF (.pointer (some ⟨b2, 4, none⟩)) rfl (s1fa78_4 _ _ _) ?_
 refine uL _ rfl (run_load1 s1na76 (hv.load 0 4 rfl rfl)) ?_
 refine uG (vI (v.zset.length : Int)) rfl (ex_len0 Tryz.underlying76 rfl rfl) ?_
 by_cases hb10 : (v.zset.length : Int) > 0
 ·refine uG (.bool true) rfl (ex_gtr rfl rfl rfl (qT hb10)) ?_
  refine uK rfl (uK rfl ?_)
  refine uW k5 (cT rfl ?_)
  refine sK fun _ k11 => rL (uA rfl ?_)
  refine uW k11 (rR ?_)
  refine tR (bR rfl rfl ?_)
  exact ⟨false, rfl, ⟨fun h => (by cases h), fun h => by rcases h with ⟨h1, h2, h3, h4, h5⟩ | ⟨h1, h2, h3, h4, h5, h6⟩ | ⟨h1, h2, h3, h4, h5, h6⟩ | ⟨h1, h2, h3, h4, h5, h6⟩ | ⟨h1, h2, h3, h4, h5, h6⟩ <;> first | omega | contradiction | (have h9 := hv.2 h3; cases h9)⟩, (hv.kp [] 0 1)⟩
 refine uG (.bool false) rfl (ex_gtr rfl rfl rfl (qF hb10)) ?_
 refine uK rfl (uK rfl ?_)
 refine uW k5 (cF rfl ?_)
 refine kS (tK k4 ?_)
 refine sK fun _ k12 => sK fun _ k13 => rL (uF (vP b2) rfl (s12fa78_0 _ _ _) ?_)
 refine uL _ rfl (run_load1 s2na3 (hv.load 0 0 rfl rfl)) (uW k13 ?_)
 refine bB (sK fun _ k14 => ?_)
 refine rL (uG (.bool false) rfl (ex_eql rfl rfl rfl (qF (by omega))) ?_)
 refine uA rfl (uW k14 ?_)
 refine cF rfl (sK fun _ k15 => ?_)
 refine rL (uG (.bool false) rfl (ex_eql rfl rfl rfl (qF (by omega))) ?_)
 refine uA rfl (uW k15 ?_)
 refine cF rfl (sK fun _ k16 => ?_)
 refine rL (uG (.bool false) rfl (ex_eql rfl rfl rfl (qF (by omega))) ?_)
 refine uA rfl (uW k16 ?_)
 refine cF rfl (sK fun _ k17 => ?_)
 refine rL (uG (.bool false) rfl (ex_eql rfl rfl rfl (qF (by omega))) ?_)
 refine uA rfl (uW k17 ?_)
 refine cF rfl (kS ?_)
 refine bN (tK k12 ?_)
 refine sK fun _ k18 => sK fun _ k19 => rL (uA rfl ?_)
 refine uW k19 (bB ?_)
 gi_loopw [3] (fun x3 wr => ∃ (i : Nat), x3 = vI i ∧ i ≤ v.texts.length ∧ (∀ j x, j < i → v.texts[j]? = some x → x.length ≤ 4096) ∧ Inv B (Res.cell b2 [vI v.kind, vS v.text, .slice ap v.pairs.length cp, .slice at2 v.texts.length ct, .slice az v.zset.length cz] 78 :: H) wr) (fun x3 _ => v.texts.length - (intOf x3).toNat)
 case atStart => exact ⟨0, rfl, Nat.zero_le _, fun j x h => by omega, hv⟩
 case round =>
  obtain ⟨i, rfl, hi, hno, hv⟩ := hrel
  refine sK fun _ k21 => sK fun _ k22 => rL (uM rfl ?_)
  refine uF (.pointer (some ⟨b2, 3, none⟩)) rfl (s1fa78_3 _ _ _) ?_
  refine uL _ rfl (run_load1 s1na22 (hv.load 0 3 rfl rfl)) ?_
  refine uG (vI (v.texts.length : Int)) rfl (ex_len0 Tryz.underlying22 rfl rfl) ?_
  by_cases hb23 : (i : Int) < (v.texts.length : Int)
  ·refine uG (.bool true) rfl (ex_lss rfl rfl rfl (qT hb23)) (uW k22 ?_)
   refine cT rfl (kS ?_)
   refine tK k21 (sK fun _ k24 => ?_)
   refine bB (sK fun _ k25 => ?_)
   obtain ⟨x, hx⟩ : ∃ x, v.texts[i]? = some x := ⟨_, List.getElem?_eq_getElem (show i < v.texts.length by omega)⟩
   obtain ⟨bb, bo, had, hrdx⟩ := text_reads hrt hx
   subst had
   refine rL (uF (.pointer (some ⟨b2, 3, none⟩)) rfl (s1fa78_3 _ _ _) ?_)
   refine uL _ rfl (run_load1 s1na22 (hv.load 0 3 rfl rfl)) (uM rfl ?_)
   refine uG (.pointer (some ⟨bb, bo + i, none⟩)) rfl (ex_index rfl rfl rfl (run_idx1 (k := i) Tryz.underlying22 s9es22 (by omega))) ?_
   refine uL _ rfl (run_load1 s9na9 (hrdx _ _ _ (Base.Le.refl _) no_res hv 0 _ rfl)) ?_
   refine uG (vI (x.length : Int)) rfl (ex_lenStr Tryz.underlying9 rfl rfl) ?_
   by_cases hb26 : (x.length : Int) > 4096
   ·refine uG (.bool true) rfl (ex_gtr rfl rfl rfl (qT hb26)) (uW k25 ?_)
    refine cT rfl (sK fun _ k27 => ?_)
    refine rL (uA rfl ?_)
    refine uW k27 (rR ?_)
    refine bZ (tR ?_)
    refine tR (bZ ?_)
    refine tR (bR rfl rfl ?_)
    exact ⟨false, rfl, ⟨fun h => (by cases h), fun h => by rcases h with ⟨h1, h2, h3, h4, h5⟩ | ⟨h1, h2, h3, h4, h5, h6⟩ | ⟨h1, h2, h3, h4, h5, h6⟩ | ⟨h1, h2, h3, h4, h5, h6⟩ | ⟨h1, h2, h3, h4, h5, h6⟩ <;> first | omega | contradiction | (have h9 := hv.2 h3; cases h9) | (have h9 := lleft h3 _ _ hx; omega)⟩, (hv.kp [] 0 1)⟩
   refine uG (.bool false) rfl (ex_gtr rfl rfl rfl (qF hb26)) (uW k25 ?_)
   refine cF rfl (kS ?_)
   refine bN (tK k24 ?_)
   refine rL (uM rfl ?_)
   refine uG (vI ((i + 1 : Nat) : Int)) rfl (ex_add rfl rfl rfl (by rw [i64_in (by omega)]; omega)) (uA rfl ?_)
   refine uZ (then_normal ?_)
   go_roundw
   case rel => exact ⟨i + 1, rfl, by omega, fun j x' hj hx' => (by
      rcases Nat.lt_or_ge j i with h | h
      ·exact hno j x' h hx'
      rw [show j = i by omega, hx] at hx'; cases hx'; omega), hv⟩
   case measure => show v.texts.length - (((i + 1 : Nat) : Int)).toNat < v.texts.length - ((i : Int)).toNat; omega
  refine uG (.bool false) rfl (ex_lss rfl rfl rfl (qF hb23)) (uW k22 ?_)
  refine cF rfl (xE ?_)
  refine tX (tX ?_)
  refine bH (tK k18 ?_)
  refine sK fun _ k28 => ?_
  obtain rfl : i = v.texts.length := by omega
  refine rL (uF (.pointer (some ⟨b2, 3, none⟩)) rfl (s1fa78_3 _ _ _) ?_)
  refine uL _ rfl (run_load1 s1na22 (hv.load 0 3 rfl rfl)) ?_
  refine uG (vI (v.texts.length : Int)) rfl (ex_len0 Tryz.underlying22 rfl rfl) ?_
  by_cases hb29 : (v.texts.length : Int) > 0
  ·refine uG (.bool true) rfl (ex_gtr rfl rfl rfl (qT hb29)) (uM rfl ?_)
   refine uF (.pointer (some ⟨b2, 3, none⟩)) rfl (s1fa78_3 _ _ _) ?_
   refine uL _ rfl (run_load1 s1na22 (hv.load 0 3 rfl rfl)) ?_
   refine uG (vI (v.texts.length : Int)) rfl (ex_len0 Tryz.underlying22 rfl rfl) ?_
   refine uG (.bool (decide ((v.texts.length : Int) ≤ 512))) rfl (ex_leq rfl rfl rfl rfl) (uK rfl ?_)
   refine uA rfl (uW k28 ?_)
   refine rR (bR rfl rfl ?_)
   exact ⟨_, rfl, by rw [decide_eq_true_iff]; exact ⟨fun h9 => .inr (.inr (.inl ⟨by omega, by omega, lright (by omega) hno, Classical.not_not.1 hb6, by omega, by omega⟩)), fun h => by rcases h with ⟨h1, h2, h3, h4, h5⟩ | ⟨h1, h2, h3, h4, h5, h6⟩ | ⟨h1, h2, h3, h4, h5, h6⟩ | ⟨h1, h2, h3, h4, h5, h6⟩ | ⟨h1, h2, h3, h4, h5, h6⟩ <;> first | omega | (have h9 := llen h3; omega)⟩, (hv.kp [] 0 1)⟩
  refine uG (.bool false) rfl (ex_gtr rfl rfl rfl (qF hb29)) (uM rfl ?_)
  iterate 4 refine uP rfl ?_
  refine uK rfl (uA rfl ?_)
  refine uW k28 (rR ?_)
  refine bR rfl rfl (⟨false, rfl, ⟨fun h => (by cases h), fun h => by rcases h with ⟨h1, h2, h3, h4, h5⟩ | ⟨h1, h2, h3, h4, h5, h6⟩ | ⟨h1, h2, h3, h4, h5, h6⟩ | ⟨h1, h2, h3, h4, h5, h6⟩ | ⟨h1, h2, h3, h4, h5, h6⟩ <;> first | omega | contradiction | (have h9 := hv.2 h3; cases h9)⟩, (hv.kp [] 0 1)⟩)
theorem s31callable54 : Callable Tryz.prog 54 := cb Tryz.func54 (by kernel_rfl)
theorem refRight_4 (B : Base) (H : List Res) (w : World) (v : Val) (ap at2 az : Option Addr) (cp ct cz : Nat) (_ : RdV B [] ap (pairCells v.pairs)) (hrt : RdV B [] at2 (textCells v.texts)) (_ : RdV B [] az (memCells v.zset)) (hpm : v.pairs.length ≤ 1000000) (htm : v.texts.length ≤ 1000000) (hzm : v.zset.length ≤ 1000000) (hk : v.kind = 4) (hv : Inv B H w) :
  Calls Tryz.prog 29 #[.agg #[vI v.kind, vS v.text, .slice ap v.pairs.length cp, .slice at2 v.texts.length ct, .slice az v.zset.length cz]] w fun e w' => ∃ b, e = .returned (.bool b) ∧ (b = true ↔ ValOk v) ∧ Inv B H w' := by
 refine cW Tryz.func29 rfl Tryz.ntmps29 ?_
 simp only [al]
 refine sK fun _ k1 => rL (sl_box (L := [vI v.kind, vS v.text, .slice ap v.pairs.length cp, .slice at2 v.texts.length ct, .slice az v.zset.length cz]) tV (wn rfl) rfl rfl hv (fun w => by kernel_rfl) (fun b2 w3 hv => ?_))
 refine uA rfl (uW k1 ?_)
 refine sK fun _ k4 => sK fun _ k5 => rL (uF (vP b2) rfl (s12fa78_0 _ _ _) ?_)
 refine uL _ rfl (run_load1 s2na3 (hv.load 0 0 rfl rfl)) ?_
 refine uG (.bool false) rfl (ex_lss rfl rfl rfl (qF (by omega))) (uM rfl ?_)
 refine uF (vP b2) rfl (s12fa78_0 _ _ _) ?_
 refine uL _ rfl (run_load1 s2na3 (hv.load 0 0 rfl rfl)) ?_
 refine uG (.bool false) rfl (ex_gtr rfl rfl rfl (qF (by omega))) (uK rfl ?_)
 refine uM rfl ?_
 refine uF (vP b2) rfl (s12fa78_0 _ _ _) ?_
 refine uL _ rfl (run_load1 s2na3 (hv.load 0 0 rfl rfl)) ?_
 refine uG (.bool true) rfl (ex_neq rfl rfl rfl (qT (by omega))) ?_
 refine uM rfl ?_
 refine uF (.pointer (some ⟨b2, 1, none⟩)) rfl (s12fa78_1 _ _ _) ?_
 refine uL _ rfl (run_load1 s9na9 (hv.load 0 1 rfl rfl)) ?_
 by_cases hb6 : v.text ≠ ([] : List UInt8)
 ·refine uG (.bool true) rfl (ex_sneq rfl rfl rfl (qT hb6)) ?_
  refine uK rfl (uK rfl ?_)
  refine uM rfl ?_
  iterate 9 refine uP rfl ?_
  refine uK rfl (uM rfl ?_)
  iterate 14 refine uP rfl ?_
  refine uK rfl (uM rfl ?_)
  iterate 9 refine uP rfl ?_
  refine uK rfl (uW k5 ?_)
  refine cT rfl (sK fun _ k7 => ?_)
  refine rL (uA rfl ?_)
  refine uW k7 (rR ?_)
  refine tR (bR rfl rfl ?_)
  exact ⟨false, rfl, ⟨fun h => (by cases h), fun h => by rcases h with ⟨h1, h2, h3, h4, h5⟩ | ⟨h1, h2, h3, h4, h5, h6⟩ | ⟨h1, h2, h3, h4, h5, h6⟩ | ⟨h1, h2, h3, h4, h5, h6⟩ | ⟨h1, h2, h3, h4, h5, h6⟩ <;> first | omega | contradiction | (have h9 := hv.2 h3; cases h9)⟩, (hv.kp [] 0 1)⟩
 refine uG (.bool false) rfl (ex_sneq rfl rfl rfl (qF hb6)) ?_
 refine uK rfl (uK rfl ?_)
 refine uM rfl ?_
 refine uF (vP b2) rfl (s12fa78_0 _ _ _) ?_
 refine uL _ rfl (run_load1 s2na3 (hv.load 0 0 rfl rfl)) ?_
 refine uG (.bool true) rfl (ex_neq rfl rfl rfl (qT (by omega))) ?_
 refine uM rfl ?_
 refine uF (.pointer (some ⟨b2, 2, none⟩)) rfl (s1fa78_2 _ _ _) ?_
 refine uL _ rfl (run_load1 s1na75 (hv.load 0 2 rfl rfl)) ?_
 refine uG (vI (v.pairs.length : Int)) rfl (ex_len0 Tryz.underlying75 rfl rfl) ?_
 by_cases hb8 : (v.pairs.length : Int) > 0
 ·refine uG (.bool true) rfl (ex_gtr rfl rfl rfl (qT hb8)) ?_
  refine uK rfl (uK rfl ?_)
  refine uM rfl ?_
  iterate 14 refine uP rfl ?_
  refine uK rfl (uM rfl ?_)
  iterate 9 refine uP rfl ?_
  refine uK rfl (uW k5 ?_)
  refine cT rfl (sK fun _ k9 => ?_)
  refine rL (uA rfl ?_)
  refine uW k9 (rR ?_)
  refine tR (bR rfl rfl ?_)
  exact ⟨false, rfl, ⟨fun h => (by cases h), fun h => by rcases h with ⟨h1, h2, h3, h4, h5⟩ | ⟨h1, h2, h3, h4, h5, h6⟩ | ⟨h1, h2, h3, h4, h5, h6⟩ | ⟨h1, h2, h3, h4, h5, h6⟩ | ⟨h1, h2, h3, h4, h5, h6⟩ <;> first | omega | contradiction | (have h9 := hv.2 h3; cases h9)⟩, (hv.kp [] 0 1)⟩
 refine uG (.bool false) rfl (ex_gtr rfl rfl rfl (qF hb8)) ?_
 refine uK rfl (uK rfl ?_)
 refine uM rfl ?_
 refine uF (vP b2) rfl (s12fa78_0 _ _ _) ?_
 refine uL _ rfl (run_load1 s2na3 (hv.load 0 0 rfl rfl)) ?_
 refine uG (.bool true) rfl (ex_neq rfl rfl rfl (qT (by omega))) ?_
 refine uM rfl ?_
 refine uF (vP b2) rfl (s12fa78_0 _ _ _) ?_
 refine uL _ rfl (run_load1 s2na3 (hv.load 0 0 rfl rfl)) ?_
 refine uG (.bool false) rfl (ex_neq rfl rfl rfl (qF (by omega))) ?_
 refine uK rfl ?_
 refine uM rfl ?_
 iterate 4 refine uP rfl ?_
 refine uK rfl (uK rfl ?_)
 refine uM rfl ?_
 refine uF (vP b2) rfl (s12fa78_0 _ _ _) ?_
 refine uL _ rfl (run_load1 s2na3 (hv.load 0 0 rfl rfl)) ?_
 refine uG (.bool true) rfl (ex_neq rfl rfl rfl (qT (by omega))) ?_
 refine uM rfl ?_
 refine uF (.pointer (some ⟨b2, 4, none⟩)) rfl (s1fa78_4 _ _ _) ?_
 refine uL _ rfl (run_load1 s1na76 (hv.load 0 4 rfl rfl)) ?_
 refine uG (vI (v.zset.length : Int)) rfl (ex_len0 Tryz.underlying76 rfl rfl) ?_
 by_cases hb10 : (v.zset.length : Int) > 0
 ·refine uG (.bool true) rfl (ex_gtr rfl rfl rfl (qT hb10)) ?_
  refine uK rfl (uK rfl ?_)
  refine uW k5 (cT rfl ?_)
  refine sK fun _ k11 => rL (uA rfl ?_)
  refine uW k11 (rR ?_)
  refine tR (bR rfl rfl ?_)
  exact ⟨false, rfl, ⟨fun h => (by cases h), fun h => by rcases h with ⟨h1, h2, h3, h4, h5⟩ | ⟨h1, h2, h3, h4, h5, h6⟩ | ⟨h1, h2, h3, h4, h5, h6⟩ | ⟨h1, h2, h3, h4, h5, h6⟩ | ⟨h1, h2, h3, h4, h5, h6⟩ <;> first | omega | contradiction | (have h9 := hv.2 h3; cases h9)⟩, (hv.kp [] 0 1)⟩
 refine uG (.bool false) rfl (ex_gtr rfl rfl rfl (qF hb10)) ?_
 refine uK rfl (uK rfl ?_)
 refine uW k5 (cF rfl ?_)
 refine kS (tK k4 ?_)
 refine sK fun _ k12 => sK fun _ k13 => rL (uF (vP b2) rfl (s12fa78_0 _ _ _) ?_)
 refine uL _ rfl (run_load1 s2na3 (hv.load 0 0 rfl rfl)) (uW k13 ?_)
 refine bB (sK fun _ k14 => ?_)
 refine rL (uG (.bool false) rfl (ex_eql rfl rfl rfl (qF (by omega))) ?_)
 refine uA rfl (uW k14 ?_)
 refine cF rfl (sK fun _ k15 => ?_)
 refine rL (uG (.bool false) rfl (ex_eql rfl rfl rfl (qF (by omega))) ?_)
 refine uA rfl (uW k15 ?_)
 refine cF rfl (sK fun _ k16 => ?_)
 refine rL (uG (.bool true) rfl (ex_eql rfl rfl rfl (qT (by omega))) ?_)
 refine uA rfl (uW k16 ?_)
 refine cT rfl (sK fun _ k17 => ?_)
 refine rL (uF (.pointer (some ⟨b2, 3, none⟩)) rfl (s1fa78_3 _ _ _) ?_)
 refine uL _ rfl (run_load1 s1na22 (hv.load 0 3 rfl rfl)) ?_
 refine uG (vI (v.texts.length : Int)) rfl (ex_len0 Tryz.underlying22 rfl rfl) ?_
 by_cases hb18 : (v.texts.length : Int) > 0
 ·refine uG (.bool true) rfl (ex_gtr rfl rfl rfl (qT hb18)) (uM rfl ?_)
  refine uF (.pointer (some ⟨b2, 3, none⟩)) rfl (s1fa78_3 _ _ _) ?_
  refine uL _ rfl (run_load1 s1na22 (hv.load 0 3 rfl rfl)) ?_
  refine xC s31callable54 rfl ((refSetRight B _ _ _ _ _ hrt htm hv).mono ?_) rfl
  rintro e w20 ⟨bl19, rfl, hbl19, hv⟩
  refine ⟨_, rfl, ?_⟩
  cases bl19
  ·refine uK rfl (uA rfl ?_)
   refine uW k17 (rR ?_)
   refine bZ (tR ?_)
   refine bR rfl rfl (⟨false, rfl, ⟨fun h => (by cases h), fun h => by rcases h with ⟨h1, h2, h3, h4, h5⟩ | ⟨h1, h2, h3, h4, h5, h6⟩ | ⟨h1, h2, h3, h4, h5, h6⟩ | ⟨h1, h2, h3, h4, h5, h6⟩ | ⟨h1, h2, h3, h4, h5, h6⟩ <;> first | omega | contradiction | (have h9 := hbl19.2 h3; cases h9)⟩, (hv.kp [] 0 1)⟩)
  refine uK rfl (uA rfl ?_)
  refine uW k17 (rR ?_)
  refine bZ (tR ?_)
  refine bR rfl rfl (⟨true, rfl, ⟨fun _ => .inr (.inr (.inr (.inl ⟨by omega, by omega, hbl19.1 rfl, Classical.not_not.1 hb6, by omega, by omega⟩))), fun _ => rfl⟩, (hv.kp [] 0 1)⟩)
 refine uG (.bool false) rfl (ex_gtr rfl rfl rfl (qF hb18)) (uM rfl ?_)
 iterate 3 refine uP rfl ?_
 refine uK rfl (uA rfl ?_)
 refine uW k17 (rR ?_)
 refine bZ (tR ?_)
 refine bR rfl rfl (⟨false, rfl, ⟨fun h => (by cases h), fun h => by rcases h with ⟨h1, h2, h3, h4, h5⟩ | ⟨h1, h2, h3, h4, h5, h6⟩ | ⟨h1, h2, h3, h4, h5, h6⟩ | ⟨h1, h2, h3, h4, h5, h6⟩ | ⟨h1, h2, h3, h4, h5, h6⟩ <;> first | omega | contradiction | (have h9 := hv.2 h3; cases h9)⟩, (hv.kp [] 0 1)⟩)
theorem s31callable55 : Callable Tryz.prog 55 := cb Tryz.func55 (by kernel_rfl)
theorem refRight_5 (B : Base) (H : List Res) (w : World) (v : Val) (ap at2 az : Option Addr) (cp ct cz : Nat) (_ : RdV B [] ap (pairCells v.pairs)) (_ : RdV B [] at2 (textCells v.texts)) (hrz : RdV B [] az (memCells v.zset)) (hpm : v.pairs.length ≤ 1000000) (htm : v.texts.length ≤ 1000000) (hzm : v.zset.length ≤ 1000000) (hk : v.kind = 5) (hv : Inv B H w) :
  Calls Tryz.prog 29 #[.agg #[vI v.kind, vS v.text, .slice ap v.pairs.length cp, .slice at2 v.texts.length ct, .slice az v.zset.length cz]] w fun e w' => ∃ b, e = .returned (.bool b) ∧ (b = true ↔ ValOk v) ∧ Inv B H w' := by
 refine cW Tryz.func29 rfl Tryz.ntmps29 ?_
 simp only [al]
 refine sK fun _ k1 => rL (sl_box (L := [vI v.kind, vS v.text, .slice ap v.pairs.length cp, .slice at2 v.texts.length ct, .slice az v.zset.length cz]) tV (wn rfl) rfl rfl hv (fun w => by kernel_rfl) (fun b2 w3 hv => ?_))
 refine uA rfl (uW k1 ?_)
 refine sK fun _ k4 => sK fun _ k5 => rL (uF (vP b2) rfl (s12fa78_0 _ _ _) ?_)
 refine uL _ rfl (run_load1 s2na3 (hv.load 0 0 rfl rfl)) ?_
 refine uG (.bool false) rfl (ex_lss rfl rfl rfl (qF (by omega))) (uM rfl ?_)
 refine uF (vP b2) rfl (s12fa78_0 _ _ _) ?_
 refine uL _ rfl (run_load1 s2na3 (hv.load 0 0 rfl rfl)) ?_
 refine uG (.bool false) rfl (ex_gtr rfl rfl rfl (qF (by omega))) (uK rfl ?_)
 refine uM rfl ?_
 refine uF (vP b2) rfl (s12fa78_0 _ _ _) ?_
 refine uL _ rfl (run_load1 s2na3 (hv.load 0 0 rfl rfl)) ?_
 refine uG (.bool true) rfl (ex_neq rfl rfl rfl (qT (by omega))) ?_
 refine uM rfl ?_
 refine uF (.pointer (some ⟨b2, 1, none⟩)) rfl (s12fa78_1 _ _ _) ?_
 refine uL _ rfl (run_load1 s9na9 (hv.load 0 1 rfl rfl)) ?_
 by_cases hb6 : v.text ≠ ([] : List UInt8)
 ·refine uG (.bool true) rfl (ex_sneq rfl rfl rfl (qT hb6)) ?_
  refine uK rfl (uK rfl ?_)
  refine uM rfl ?_
  iterate 9 refine uP rfl ?_
  refine uK rfl (uM rfl ?_)
  iterate 14 refine uP rfl ?_
  refine uK rfl (uM rfl ?_)
  iterate 9 refine uP rfl ?_
  refine uK rfl (uW k5 ?_)
  refine cT rfl (sK fun _ k7 => ?_)
  refine rL (uA rfl ?_)
  refine uW k7 (rR ?_)
  refine tR (bR rfl rfl ?_)
  exact ⟨false, rfl, ⟨fun h => (by cases h), fun h => by rcases h with ⟨h1, h2, h3, h4, h5⟩ | ⟨h1, h2, h3, h4, h5, h6⟩ | ⟨h1, h2, h3, h4, h5, h6⟩ | ⟨h1, h2, h3, h4, h5, h6⟩ | ⟨h1, h2, h3, h4, h5, h6⟩ <;> first | omega | contradiction | (have h9 := hv.2 h3; cases h9)⟩, (hv.kp [] 0 1)⟩
 refine uG (.bool false) rfl (ex_sneq rfl rfl rfl (qF hb6)) ?_
 refine uK rfl (uK rfl ?_)
 refine uM rfl ?_
 refine uF (vP b2) rfl (s12fa78_0 _ _ _) ?_
 refine uL _ rfl (run_load1 s2na3 (hv.load 0 0 rfl rfl)) ?_
 refine uG (.bool true) rfl (ex_neq rfl rfl rfl (qT (by omega))) ?_
 refine uM rfl ?_
 refine uF (.pointer (some ⟨b2, 2, none⟩)) rfl (s1fa78_2 _ _ _) ?_
 refine uL _ rfl (run_load1 s1na75 (hv.load 0 2 rfl rfl)) ?_
 refine uG (vI (v.pairs.length : Int)) rfl (ex_len0 Tryz.underlying75 rfl rfl) ?_
 by_cases hb8 : (v.pairs.length : Int) > 0
 ·refine uG (.bool true) rfl (ex_gtr rfl rfl rfl (qT hb8)) ?_
  refine uK rfl (uK rfl ?_)
  refine uM rfl ?_
  iterate 14 refine uP rfl ?_
  refine uK rfl (uM rfl ?_)
  iterate 9 refine uP rfl ?_
  refine uK rfl (uW k5 ?_)
  refine cT rfl (sK fun _ k9 => ?_)
  refine rL (uA rfl ?_)
  refine uW k9 (rR ?_)
  refine tR (bR rfl rfl ?_)
  exact ⟨false, rfl, ⟨fun h => (by cases h), fun h => by rcases h with ⟨h1, h2, h3, h4, h5⟩ | ⟨h1, h2, h3, h4, h5, h6⟩ | ⟨h1, h2, h3, h4, h5, h6⟩ | ⟨h1, h2, h3, h4, h5, h6⟩ | ⟨h1, h2, h3, h4, h5, h6⟩ <;> first | omega | contradiction | (have h9 := hv.2 h3; cases h9)⟩, (hv.kp [] 0 1)⟩
 refine uG (.bool false) rfl (ex_gtr rfl rfl rfl (qF hb8)) ?_
 refine uK rfl (uK rfl ?_)
 refine uM rfl ?_
 refine uF (vP b2) rfl (s12fa78_0 _ _ _) ?_
 refine uL _ rfl (run_load1 s2na3 (hv.load 0 0 rfl rfl)) ?_
 refine uG (.bool true) rfl (ex_neq rfl rfl rfl (qT (by omega))) ?_
 refine uM rfl ?_
 refine uF (vP b2) rfl (s12fa78_0 _ _ _) ?_
 refine uL _ rfl (run_load1 s2na3 (hv.load 0 0 rfl rfl)) ?_
 refine uG (.bool true) rfl (ex_neq rfl rfl rfl (qT (by omega))) ?_
 refine uK rfl ?_
 refine uM rfl ?_
 refine uF (.pointer (some ⟨b2, 3, none⟩)) rfl (s1fa78_3 _ _ _) ?_
 refine uL _ rfl (run_load1 s1na22 (hv.load 0 3 rfl rfl)) ?_
 refine uG (vI (v.texts.length : Int)) rfl (ex_len0 Tryz.underlying22 rfl rfl) ?_
 by_cases hb10 : (v.texts.length : Int) > 0
 ·refine uG (.bool true) rfl (ex_gtr rfl rfl rfl (qT hb10)) ?_
  refine uK rfl (uK rfl ?_)
  refine uM rfl ?_
  iterate 9 refine uP rfl ?_
  refine uK rfl (uW k5 ?_)
  refine cT rfl (sK fun _ k11 => ?_)
  refine rL (uA rfl ?_)
  refine uW k11 (rR ?_)
  refine tR (bR rfl rfl ?_)
  exact ⟨false, rfl, ⟨fun h => (by cases h), fun h => by rcases h with ⟨h1, h2, h3, h4, h5⟩ | ⟨h1, h2, h3, h4, h5, h6⟩ | ⟨h1, h2, h3, h4, h5, h6⟩ | ⟨h1, h2, h3, h4, h5, h6⟩ | ⟨h1, h2, h3, h4, h5, h6⟩ <;> first | omega | contradiction | (have h9 := hv.2 h3; cases h9)⟩, (hv.kp [] 0 1)⟩
 refine uG (.bool false) rfl (ex_gtr rfl rfl rfl (qF hb10)) ?_
 refine uK rfl (uK rfl ?_)
 refine uM rfl ?_
 refine uF (vP b2) rfl (s12fa78_0 _ _ _) ?_
 refine uL _ rfl (run_load1 s2na3 (hv.load 0 0 rfl rfl)) ?_
 refine uG (.bool false) rfl (ex_neq rfl rfl rfl (qF (by omega))) ?_
 refine uM rfl ?_
 iterate 4 refine uP rfl ?_
 refine uK rfl (uK rfl ?_)
 refine uW k5 (cF rfl ?_)
 refine kS (tK k4 ?_)
 refine sK fun _ k12 => sK fun _ k13 => rL (uF (vP b2) rfl (s12fa78_0 _ _ _) ?_)
 refine uL _ rfl (run_load1 s2na3 (hv.load 0 0 rfl rfl)) (uW k13 ?_)
 refine bB (sK fun _ k14 => ?_)
 refine rL (uG (.bool false) rfl (ex_eql rfl rfl rfl (qF (by omega))) ?_)
 refine uA rfl (uW k14 ?_)
 refine cF rfl (sK fun _ k15 => ?_)
 refine rL (uG (.bool false) rfl (ex_eql rfl rfl rfl (qF (by omega))) ?_)
 refine uA rfl (uW k15 ?_)
 refine cF rfl (sK fun _ k16 => ?_)
 refine rL (uG (.bool false) rfl (ex_eql rfl rfl rfl (qF (by omega))) ?_)
 refine uA rfl (uW k16 ?_)
 refine cF rfl (sK fun _ k17 => ?_)
 refine rL (uG (.bool true) rfl (ex_eql rfl rfl rfl (qT (by omega))) ?_)
 refine uA rfl (uW k17 ?_)
 refine cT rfl (sK fun _ k18 => ?_)
 refine rL (uF (.pointer (some ⟨b2, 4, none⟩)) rfl (s1fa78_4 _ _ _) ?_)
 refine uL _ rfl (run_load1 s1na76 (hv.load 0 4 rfl rfl)) ?_
 refine uG (vI (v.zset.length : Int)) rfl (ex_len0 Tryz.underlying76 rfl rfl) ?_
 by_cases hb19 : (v.zset.length : Int) > 0
 ·refine uG (.bool true) rfl (ex_gtr rfl rfl rfl (qT hb19)) (uM rfl ?_)
  refine uF (.pointer (some ⟨b2, 4, none⟩)) rfl (s1fa78_4 _ _ _) ?_
  refine uL _ rfl (run_load1 s1na76 (hv.load 0 4 rfl rfl)) ?_
  refine xC s31callable55 rfl ((refZsetRight B _ _ _ _ _ hrz hzm hv).mono ?_) rfl
  rintro e w21 ⟨bl20, rfl, hbl20, hv⟩
  refine ⟨_, rfl, ?_⟩
  cases bl20
  ·refine uK rfl (uA rfl ?_)
   refine uW k18 (rR ?_)
   refine bZ (tR ?_)
   refine bR rfl rfl (⟨false, rfl, ⟨fun h => (by cases h), fun h => by rcases h with ⟨h1, h2, h3, h4, h5⟩ | ⟨h1, h2, h3, h4, h5, h6⟩ | ⟨h1, h2, h3, h4, h5, h6⟩ | ⟨h1, h2, h3, h4, h5, h6⟩ | ⟨h1, h2, h3, h4, h5, h6⟩ <;> first | omega | contradiction | (have h9 := hbl20.2 h3; cases h9)⟩, (hv.kp [] 0 1)⟩)
  refine uK rfl (uA rfl ?_)
  refine uW k18 (rR ?_)
  refine bZ (tR ?_)
  refine bR rfl rfl (⟨true, rfl, ⟨fun _ => .inr (.inr (.inr (.inr (⟨by omega, by omega, hbl20.1 rfl, Classical.not_not.1 hb6, by omega, by omega⟩)))), fun _ => rfl⟩, (hv.kp [] 0 1)⟩)
 refine uG (.bool false) rfl (ex_gtr rfl rfl rfl (qF hb19)) (uM rfl ?_)
 iterate 3 refine uP rfl ?_
 refine uK rfl (uA rfl ?_)
 refine uW k18 (rR ?_)
 refine bZ (tR ?_)
 refine bR rfl rfl (⟨false, rfl, ⟨fun h => (by cases h), fun h => by rcases h with ⟨h1, h2, h3, h4, h5⟩ | ⟨h1, h2, h3, h4, h5, h6⟩ | ⟨h1, h2, h3, h4, h5, h6⟩ | ⟨h1, h2, h3, h4, h5, h6⟩ | ⟨h1, h2, h3, h4, h5, h6⟩ <;> first | omega | contradiction | (have h9 := hv.2 h3; cases h9)⟩, (hv.kp [] 0 1)⟩)
theorem refRight0 (B : Base) (H : List Res) (w : World) (v : Val) (ap at2 az : Option Addr) (cp ct cz : Nat) (hrp : RdV B [] ap (pairCells v.pairs)) (hrt : RdV B [] at2 (textCells v.texts)) (hrz : RdV B [] az (memCells v.zset)) (hpm : v.pairs.length ≤ 1000000) (htm : v.texts.length ≤ 1000000) (hzm : v.zset.length ≤ 1000000) (hv : Inv B H w) :
  Calls Tryz.prog 29 #[.agg #[vI v.kind, vS v.text, .slice ap v.pairs.length cp, .slice at2 v.texts.length ct, .slice az v.zset.length cz]] w fun e w' => ∃ b, e = .returned (.bool b) ∧ (b = true ↔ ValOk v) ∧ Inv B H w' := by
 by_cases h : v.kind < 1 ∨ 5 < v.kind
 ·exact refRight_0 B H w v ap at2 az cp ct cz hrp hrt hrz hpm htm hzm h hv
 rcases (show v.kind = 1 ∨ v.kind = 2 ∨ v.kind = 3 ∨ v.kind = 4 ∨ v.kind = 5 by omega) with h | h | h | h | h
 ·exact refRight_1 B H w v ap at2 az cp ct cz hrp hrt hrz hpm htm hzm h hv
 ·exact refRight_2 B H w v ap at2 az cp ct cz hrp hrt hrz hpm htm hzm h hv
 ·exact refRight_3 B H w v ap at2 az cp ct cz hrp hrt hrz hpm htm hzm h hv
 ·exact refRight_4 B H w v ap at2 az cp ct cz hrp hrt hrz hpm htm hzm h hv
 exact refRight_5 B H w v ap at2 az cp ct cz hrp hrt hrz hpm htm hzm h hv
theorem refRightV (B : Base) (H : List Res) (w : World) (v : Val) (p t z : Value) (h : ValAt B v p t z) (hv : Inv B H w) : Calls Tryz.prog 29 #[.agg (valCells v p t z).toArray] w fun e w' => ∃ b, e = .returned (.bool b) ∧ (b = true ↔ ValOk v) ∧ Inv B H w' := by
 obtain ⟨⟨ap, cp, rfl, -, hrp⟩, ⟨at2, ct, rfl, -, hrt⟩, ⟨az, cz, rfl, -, hrz⟩, hpm, htm, hzm⟩ := h
 exact refRight0 B H w v ap at2 az cp ct cz hrp hrt hrz hpm htm hzm hv
theorem valRd_at2 {B : Base} {v : Val} {p t z : Value} (h : ValRd B v p t z) (hs : ValSm v) : ValAt B v p t z := by
 obtain ⟨h1, h2, h3⟩ := hs
 exact ⟨h.p, h.t, h.z, by omega, by omega, by omega⟩
theorem keep_ok {M M' : List (List UInt8 × Ver)} {clk exp ec : Int} {key : List UInt8} {x : Val} (hk : key.length ≤ 256) (hp : FullV x → PutOk key x exp) (h : KeepI M clk key x exp ec M') : ec = 0 ∧ ((FullV x ∧ M' = updA M key ⟨0, false, exp, x⟩) ∨ (¬ FullV x ∧ DeadM M clk key ∧ M' = M) ∨ (¬ FullV x ∧ ¬ DeadM M clk key ∧ M' = updA M key gver)) := by
 rcases h with ⟨h1, -, h2, h3⟩ | ⟨h1, h2, -⟩ | ⟨h1, h2, h3, h4⟩ | ⟨h1, ⟨y, h2, h3⟩, ⟨-, h4, h5⟩ | ⟨h4, -⟩⟩
 ·exact ⟨h2, .inl ⟨h1, h3⟩⟩
 ·exact absurd (hp h1) h2
 ·exact ⟨h3, .inr (.inl ⟨h1, h2, h4⟩)⟩
 ·exact ⟨h4, .inr (.inr ⟨h1, (fun hd => by rw [hd y h2] at h3; cases h3), h5⟩)⟩
 omega
theorem rel_step {M M' : List (List UInt8 × Ver)} {K K' : List KeyR} {clk exp : Int} {key : List UInt8} {x : Val} (hR : RelVK M K) (hm : (FullV x ∧ M' = updA M key ⟨0, false, exp, x⟩) ∨ (¬ FullV x ∧ DeadM M clk key ∧ M' = M) ∨ (¬ FullV x ∧ ¬ DeadM M clk key ∧ M' = updA M key gver)) (hk : PutK K clk key x exp K') : RelVK M' K' := by
 rcases hk with ⟨hf, rfl⟩ | ⟨hf, hi⟩
 ·rcases hm with ⟨h, -⟩ | ⟨-, hd, rfl⟩ | ⟨-, hd, rfl⟩
  ·exact absurd h hf
  ·unfold delK; rw [hR.free hd]; exact hR
  have : (getK K clk key).isSome = true := by
   cases hg : getK K clk key with
   | some x => rfl
   | none => exact absurd (hR.dead hg) hd
  unfold delK; rw [this]; exact hR.del
 rcases hm with ⟨-, rfl⟩ | ⟨h, -⟩ | ⟨h, -⟩
 ·exact hR.put hi
 ·exact absurd hf h
 exact absurd hf h
structure KeysOk (M : List (List UInt8 × Ver)) (i : Nat) : Prop where
 nd : (M.map (·.1)).Nodup
 len : M.length ≤ i
 sh : ∀ k ∈ M.map (·.1), k.length ≤ 256
theorem KeysOk.upd {M : List (List UInt8 × Ver)} {i : Nat} (h : KeysOk M i) {k : List UInt8} (hk : k.length ≤ 256) (y : Ver) : KeysOk (updA M k y) (i + 1) := by
 refine ⟨by rw [updA_keys]; exact addKey_nodup h.nd, by have := updA_len M k y; have := h.len; omega, fun k9 hk9 => ?_⟩
 rw [updA_keys] at hk9
 unfold addKey at hk9
 split at hk9
 ·exact h.sh k9 hk9
 rcases List.mem_append.1 hk9 with h9 | h9
 ·exact h.sh k9 h9
 rw [List.mem_singleton.1 h9]; exact hk
theorem KeysOk.step {M M' : List (List UInt8 × Ver)} {i : Nat} {clk exp : Int} {key : List UInt8} {x : Val} (h : KeysOk M i) (hk : key.length ≤ 256) (hm : (FullV x ∧ M' = updA M key ⟨0, false, exp, x⟩) ∨ (¬ FullV x ∧ DeadM M clk key ∧ M' = M) ∨ (¬ FullV x ∧ ¬ DeadM M clk key ∧ M' = updA M key gver)) : KeysOk M' (i + 1) := by
 rcases hm with ⟨-, rfl⟩ | ⟨-, -, rfl⟩ | ⟨-, -, rfl⟩
 ·exact h.upd hk _
 ·exact ⟨h.nd, by have := h.len; omega, h.sh⟩
 exact h.upd hk _
theorem RelVK.short {M : List (List UInt8 × Ver)} {K : List KeyR} {i : Nat} (h : RelVK M K) (hk : KeysOk M i) : ∀ x ∈ K, x.name.length ≤ 1000 := fun x hx => by
 have h1 := h.of_ x hx
 have h2 : x.name ∈ M.map (·.1) := Classical.byContradiction fun h9 => by rw [(look_none M x.name).2 h9] at h1; cases h1
 have := hk.sh _ h2
 omega
theorem others_len {K : List KeyR} {key : List UInt8} : (others K key).length ≤ K.length := List.length_filter_le _ _
theorem putK_len {K K' : List KeyR} {clk exp : Int} {key : List UInt8} {x : Val} (h : PutK K clk key x exp K') : K'.length ≤ K.length + 1 := by
 rcases h with ⟨-, rfl⟩ | ⟨-, j, hj, rfl, -⟩
 ·unfold delK; split
  ·have := others_len (K := K) (key := key); omega
  omega
 have := others_len (K := K) (key := key)
 rw [List.length_append, List.length_cons, List.length_take, List.length_drop]; omega
def kver (k : KeyR) : Ver := ⟨0, false, k.exp, k.val⟩
section
variable {M : List (List UInt8 × Ver)} {clk kd : Int} {key : List UInt8} {y : Ver} {ec : Int} {k : KeyR}
end
theorem wordsEq (B : Base) (H : List Res) (w : World) (ad ad' : Option Addr) (c c' : Nat) {l l' : List (List UInt8)} (h : l = l') (hr : RdV B [] ad (textCells l)) (hr' : RdV B [] ad' (textCells l')) (hm : l'.length ≤ 1000000) (hv : Inv B H w) :
  Calls Tryz.prog 13 #[.slice ad l.length c, .slice ad' l'.length c'] w fun e w' => e = .returned (.bool true) ∧ Inv B H w' := by
 subst h
 exact refWords B H w ad ad' c c' l hr hr' hm hv
end Go.Proofs.YtmhdpjifhfoabaaGreatDoor
namespace Go.Pm
open Go.RowKit
def All2 {α β : Type} (R : α → β → Prop) : List α → List β → Prop
 | [], [] => True
 | a :: k, b :: l => R a b ∧ All2 R k l
 | _, _ => False
theorem rep_rowAux {W : World} {S : Nat → Prop} {t : Ty} {a : Option Addr} : ∀ (l : List t.den) (k : Nat), (∀ i (h : i < l.length), ∃ b off xs, a = some ⟨b, off, none⟩ ∧ S b ∧ xs.length = t.size ∧ (∀ j (h : j < xs.length), W.cell? ⟨b, off + (k + i) * t.size + j, none⟩ = some xs[j]) ∧ Rep W S t xs l[i]) →
  ∃ xss : List (List Value), All2 (fun xs d => xs.length = t.size ∧ Rep W S t xs d) xss l ∧ ∀ j (h : j < xss.flatten.length), ∃ b off, a = some ⟨b, off, none⟩ ∧ W.cell? ⟨b, off + k * t.size + j, none⟩ = some xss.flatten[j]
 | [], k, _ => ⟨[], trivial, fun j h => by simp at h⟩
 | d :: l, k, h => by
  obtain ⟨xss, h1, h2⟩ := rep_rowAux l (k + 1) (fun i hi => by
   obtain ⟨b, off, xs, e1, e2, e3, e4, e5⟩ := h (i + 1) (by simpa using hi)
   refine ⟨b, off, xs, e1, e2, e3, fun j hj => ?_, e5⟩
   rw [show k + 1 + i = k + (i + 1) by omega]
   exact e4 j hj)
  obtain ⟨b, off, xs, e1, e2, e3, e4, e5⟩ := h 0 (by simp)
  refine ⟨xs :: xss, ⟨⟨e3, e5⟩, h1⟩, fun j hj => ?_⟩
  rcases Nat.lt_or_ge j xs.length with hx | hx
  ·refine ⟨b, off, e1, ?_⟩
   have := e4 j hx
   rw [Nat.add_zero] at this
   rw [this]
   simp only [List.flatten_cons]
   rw [List.getElem_append_left hx]
  have hj' : j - xs.length < xss.flatten.length := by
   simp only [List.flatten_cons, List.length_append] at hj
   omega
  obtain ⟨b', off', f1, f2⟩ := h2 (j - xs.length) hj'
  refine ⟨b', off', f1, ?_⟩
  rw [show off' + k * t.size + j = off' + (k + 1) * t.size + (j - xs.length) by rw [Nat.succ_mul]; omega, f2]
  simp only [List.flatten_cons]
  rw [List.getElem_append_right hx]
theorem rep_row {W : World} {S : Nat → Prop} {t : Ty} {cs : List Value} {l : List t.den} (h : Rep W S (.slice t) cs l) :
  ∃ a cap xss, cs = [.slice a l.length cap] ∧ SliceOk a l.length cap ∧ RdV (Base.of W) [] a xss.flatten ∧ All2 (fun xs d => xs.length = t.size ∧ Rep W S t xs d) xss l := by
 obtain ⟨a, cap, h1, h2, h4⟩ := h
 obtain ⟨xss, h5, h6⟩ := rep_rowAux (t := t) l 0 (fun i hi => by
  obtain ⟨b, off, xs, e1, e2, e3, e4, e5⟩ := h4 i hi
  refine ⟨b, off, xs, e1, e2, e3, fun j hj => ?_, e5⟩
  rw [Nat.zero_add]
  exact e4 j hj)
 refine ⟨a, cap, xss, h1, h2, rdV_of W fun j hj => ?_, h5⟩
 obtain ⟨b, off, f1, f2⟩ := h6 j hj
 exact ⟨b, off, f1, by rw [← f2, Nat.zero_mul, Nat.add_zero]⟩
abbrev pairTy : Ty := .pair .str (.pair .str .unit)
abbrev memTy : Ty := .pair (.int .i64) (.pair .str .unit)
abbrev valTy : Ty := .pair (.int .i64) (.pair .str (.pair (.slice pairTy) (.pair (.slice .str) (.pair (.slice memTy) .unit))))
def valOf (d : valTy.den) : Val := ⟨d.1, d.2.1, d.2.2.1.map fun p => (p.1, p.2.1), d.2.2.2.1, d.2.2.2.2.1.map fun p => (p.1, p.2.1)⟩
theorem rep_pairs {W : World} {S : Nat → Prop} : ∀ {xss : List (List Value)} {l : List pairTy.den}, All2 (fun xs d => xs.length = pairTy.size ∧ Rep W S pairTy xs d) xss l → xss.flatten = pairCells (l.map fun p => (p.1, p.2.1))
 | [], [], _ => rfl
 | xs :: xss, d :: l, ⟨⟨h1, h2⟩, h⟩ => by
  have := rep_pairs h
  match xs, h1 with
  | [x0, x1], _ =>
   obtain ⟨⟨k1, _⟩, ⟨k2, _⟩, _⟩ := h2
   have k1' : [x0] = _ := k1
   have k2' : [x1] = _ := k2
   simp only [List.cons.injEq, and_true] at k1' k2'
   subst k1' k2'
   simp only [List.flatten_cons, this, List.map_cons, pairCells, List.flatMap_cons]
theorem rep_mems {W : World} {S : Nat → Prop} : ∀ {xss : List (List Value)} {l : List memTy.den}, All2 (fun xs d => xs.length = memTy.size ∧ Rep W S memTy xs d) xss l → xss.flatten = memCells (l.map fun p => (p.1, p.2.1))
 | [], [], _ => rfl
 | xs :: xss, d :: l, ⟨⟨h1, h2⟩, h⟩ => by
  have := rep_mems h
  match xs, h1 with
  | [x0, x1], _ =>
   obtain ⟨⟨k1, _⟩, ⟨k2, _⟩, _⟩ := h2
   have k1' : [x0] = _ := k1
   have k2' : [x1] = _ := k2
   simp only [List.cons.injEq, and_true] at k1' k2'
   subst k1' k2'
   simp only [List.flatten_cons, this, List.map_cons, memCells, List.flatMap_cons]
   rfl
theorem rep_texts {W : World} {S : Nat → Prop} : ∀ {xss : List (List Value)} {l : List (List UInt8)}, All2 (fun xs (d : Ty.str.den) => xs.length = Ty.str.size ∧ Rep W S .str xs d) xss l → xss.flatten = textCells l
 | [], [], _ => rfl
 | xs :: xss, d :: l, ⟨⟨h1, h2⟩, h⟩ => by
  have := rep_texts h
  match xs, h1 with
  | [x0], _ =>
   obtain ⟨k1, _⟩ := h2
   have k1' : [x0] = _ := k1
   simp only [List.cons.injEq, and_true] at k1'
   subst k1'
   simp only [List.flatten_cons, this, textCells, List.map_cons]
   rfl
theorem rep_val {W : World} {S : Nat → Prop} {k0 k1 k2 k3 k4 : Value} {d : valTy.den} (h : Rep W S valTy [k0, k1, k2, k3, k4] d) : k0 = .int .i64 (valOf d).kind ∧ k1 = strV (valOf d).text ∧ ValRd (Base.of W) (valOf d) k2 k3 k4 := by
 obtain ⟨⟨e0, _⟩, ⟨e1, _⟩, e2, e3, e4, _⟩ := h
 have e0' : [k0] = _ := e0
 have e1' : [k1] = _ := e1
 simp only [List.cons.injEq, and_true] at e0' e1'
 obtain ⟨a2, c2, x2, f2, g2, i2, j2⟩ := rep_row e2
 obtain ⟨a3, c3, x3, f3, g3, i3, j3⟩ := rep_row e3
 obtain ⟨a4, c4, x4, f4, g4, i4, j4⟩ := rep_row e4
 have f2' : [k2] = _ := f2
 have f3' : [k3] = _ := f3
 have f4' : [k4] = _ := f4
 simp only [List.cons.injEq, and_true] at f2' f3' f4'
 rw [rep_pairs j2] at i2
 rw [rep_texts j3] at i3
 rw [rep_mems j4] at i4
 refine ⟨e0', e1', ⟨a2, c2, ?_, ?_, i2⟩, ⟨a3, c3, f3', g3, i3⟩, ⟨a4, c4, ?_, ?_, i4⟩⟩
 ·rw [f2']; simp [valOf]
 ·simpa [valOf] using g2
 ·rw [f4']; simp [valOf]
 simpa [valOf] using g4
end Go.Pm
namespace Go.Proofs.YtmhdpjifhfoabaaGreatDoor
open Go
theorem tabOf {W : World} {l : List (String × DataW Unit)} (hl : l.filter (fun x => x.1 == "internal/strconv.uint64pow10") = [("internal/strconv.uint64pow10", Lib.tabData .u64 Lib.pow10Tab)]) (hL : laidMetH Tryz.prog l W) : Lib.TabIs Tryz.prog W "internal/strconv.uint64pow10" .u64 Lib.pow10Tab := by
 have h := hL.filter (fun x => x.1 == "internal/strconv.uint64pow10")
 rw [hl] at h
 have h2 := (laidMetH_iff.1 h).1
 have e : ([("internal/strconv.uint64pow10", (Lib.tabData .u64 Lib.pow10Tab : DataW Unit))].filter fun x => x.2.handleName?.isNone) = [("internal/strconv.uint64pow10", Lib.tabData .u64 Lib.pow10Tab)] := by kernel_rfl
 rw [e] at h2
 exact Lib.tabIs_of_head (g := 2) (t := 243) (e := 214) (n := 20) (by kernel_rfl) (by kernel_rfl) Tryz.underlying243 Tryz.underlying214 (by kernel_rfl) (by kernel_rfl) h2
open Go.RowKit Go.Pm
theorem parsesAny (B : Base) (H : List Res) (h1 : HasErr B 0) (h2 : HasErr B 1) : ParsesAny B H := fun w s hs hv => by
 obtain ⟨t1, v1, h1⟩ := h1
 obtain ⟨t2, v2, h2⟩ := h2
 have c1 := h1 B H w (Base.Le.refl _) hv
 have c2 := h2 B H w (Base.Le.refl _) hv
 have hmax : (ByteArray.mk s.toArray).size ≤ 20 := by show s.toArray.size ≤ 20; simpa using hs
 cases hp : Lib.parseIntB 64 s
 case ok n =>
  have hb := Lib.parseIntB_bounds hp
  have h : Calls Tryz.prog 107 #[vS s, vI 10, vI 64] w _ := Any.strconv_ParseInt_10_at64_ok Tryz.laysPI ⟨s.toArray⟩ (by omega) n hp w
  refine h.mono ?_
  rintro e w' ⟨rfl, hw⟩
  refine ⟨n, .nilIface, rfl, .inl rfl, by omega, fun m m0 m1 e9 => ⟨rfl, ?_⟩, ?_⟩
  ·rw [e9, parse_itoa m m0 m1] at hp
   cases hp; rfl
  rcases hw with rfl | ⟨t, rfl⟩
  ·exact hv
  exact hv.ext (bytesWorld_ext w _ t)
 ·skip
  have h : Calls Tryz.prog 107 #[vS s, vI 10, vI 64] w _ := Any.strconv_ParseInt_10_at64_syntax Tryz.laysPI ⟨s.toArray⟩ (by omega) hp _ w c1 (.inr ⟨_, _, rfl⟩)
  refine h.mono ?_
  rintro e w' ⟨N, rfl, -, -, hx⟩
  refine ⟨0, _, rfl, .inr ⟨_, _, rfl⟩, by omega, fun m m0 m1 e9 => ?_, hv.ext hx⟩
  rw [e9, parse_itoa m m0 m1] at hp
  cases hp
 case range =>
  have h : Calls Tryz.prog 107 #[vS s, vI 10, vI 64] w _ := Any.strconv_ParseInt_10_at64_range Tryz.laysPI ⟨s.toArray⟩ (by omega) hp _ w c2 (.inr ⟨_, _, rfl⟩)
  refine h.mono ?_
  rintro e w' ⟨N, rfl, -, -, hx⟩
  refine ⟨_, _, rfl, .inr ⟨_, _, rfl⟩, ?_, fun m m0 m1 e9 => ?_, hv.ext hx⟩
  ·unfold Lib.intSat
   split <;> decide
  rw [e9, parse_itoa m m0 m1] at hp
  cases hp
theorem numB {W : World} {l : List (String × DataW Unit)} (hl0 : l.filter (fun x => x.1 == "internal/strconv.uint64pow10") = [("internal/strconv.uint64pow10", Lib.tabData .u64 Lib.pow10Tab)])
  {n1 n2 : String} {d1 d2 : DataW Unit} (hl1 : l.filter (fun x => x.1 == "strconv.ErrSyntax") = [("strconv.ErrSyntax", .iface n1 d1)]) (he1 : ([("strconv.ErrSyntax", (DataW.iface n1 d1 : DataW Unit))].filter fun x => x.2.handleName?.isNone) = [("strconv.ErrSyntax", .iface n1 d1)])
  (hl2 : l.filter (fun x => x.1 == "strconv.ErrRange") = [("strconv.ErrRange", .iface n2 d2)]) (he2 : ([("strconv.ErrRange", (DataW.iface n2 d2 : DataW Unit))].filter fun x => x.2.handleName?.isNone) = [("strconv.ErrRange", .iface n2 d2)]) (hL : laidMetH Tryz.prog l W) : NumB (Base.of W) := by
 have ht := tabOf hl0 hL
 obtain ⟨u1, v1, h1⟩ := errOf hl1 he1 (g := 0) (t := 192) (by kernel_rfl) (by kernel_rfl) Tryz.underlying192 hL
 obtain ⟨u2, v2, h2⟩ := errOf hl2 he2 (g := 1) (t := 192) (by kernel_rfl) (by kernel_rfl) Tryz.underlying192 hL
 exact fun C H hC => ⟨formatsInt C H W hC ht, parsesAny C H ((hasErr_of h1).more hC) ((hasErr_of h2).more hC)⟩
end Go.Proofs.YtmhdpjifhfoabaaGreatDoor
namespace Go.Pm
open Go.RowKit
theorem rep_textsM {W : World} {S : Nat → Prop} {cs : List Value} {l : List (List UInt8)} (h : Rep W S (.slice .str) cs l) : ∃ a c, cs = [.slice a l.length c] ∧ SliceOk a l.length c ∧ RdV (Base.of W) [] a (textCells l) ∧ ∀ x ∈ l, x.length ≤ 9223372036854775807 := by
 have hb : ∀ x ∈ l, x.length ≤ 9223372036854775807 := by
  obtain ⟨a, cap, h1, h2, h4⟩ := h
  intro x hx
  obtain ⟨i, hi, rfl⟩ := List.getElem_of_mem hx
  obtain ⟨b, off, xs, e1, e2, e3, e4, e5⟩ := h4 i hi
  exact e5.2
 obtain ⟨a, c, xss, h1, h2, h3, h4⟩ := rep_row h
 rw [rep_texts h4] at h3
 exact ⟨a, c, h1, h2, h3, hb⟩
abbrev keyTy : Ty := .pair .str (.pair valTy (.pair (.int .i64) .unit))
def KeysRd (B : Base) (a : Option Addr) (n : Nat) : Prop := ∀ i, i < n → ∃ (b off : Nat) (key : List UInt8) (x : Val) (p t z : Value) (ex : Int), a = some ⟨b, off, none⟩ ∧
 Reads B [] b (off + i * 7) [strV key, vI x.kind, strV x.text, p, t, z, vI ex] ∧ ValRd B x p t z
theorem rep_keys {W : World} {cs : List Value} {l : List keyTy.den} (h : Rep W (· < W.heap.size) (.slice keyTy) cs l) :
  ∃ (a : Option Addr) (cap n : Nat), cs = [.slice a n cap] ∧ KeysRd (Base.of W) a n := by
 obtain ⟨a, cap, h1, h2, h4⟩ := h
 refine ⟨a, cap, l.length, h1, fun i hi => ?_⟩
 obtain ⟨b, off, xs, e1, e2, e3, e4, e5⟩ := h4 i hi
 match xs, e3 with
 | [x0, y4, y5, y6, y7, y8, x1], _ =>
  obtain ⟨⟨k1, _⟩, v1, ⟨m1, hm1⟩, _⟩ := e5
  have k1' : [x0] = _ := k1
  have m1' : [x1] = _ := m1
  simp only [List.cons.injEq, and_true] at k1' m1'
  obtain ⟨q1, q2, q3⟩ := rep_val (k0 := y4) (k1 := y5) (k2 := y6) (k3 := y7) (k4 := y8) v1
  subst k1' m1' q1 q2
  refine ⟨b, off, l[i].1, valOf l[i].2.1, y6, y7, y8, l[i].2.2.1, e1, ?_, q3⟩
  intro C K w hC hR hv j v hj
  obtain ⟨hj1, hj2⟩ := List.getElem?_eq_some_iff.1 hj
  simp only [List.length_cons, List.length_nil] at hj1
  have := e4 j hj1
  rw [← hj2]
  refine Eq.trans ?_ (this.trans ?_)
  ·exact World.cell?_of_block (by rw [Array.getElem?_eq_getElem e2]; exact hv.base.blk b _ (hC.blk b _ (Array.getElem?_eq_getElem e2)))
  match j, hj1 with
  | 0, _ | 1, _ | 2, _ | 3, _ | 4, _ | 5, _ | 6, _ => rfl
abbrev cmdTy : Ty := .pair (.int .i64) (.pair (.slice .str) .unit)
theorem rep_cmd {W : World} {S : Nat → Prop} {cs : List Value} {d : cmdTy.den} (h : Rep W S cmdTy cs d) : ∃ a c, cs = [vI d.1, .slice a d.2.1.length c] ∧ -9223372036854775808 ≤ d.1 ∧ d.1 ≤ 9223372036854775807 ∧ SliceOk a d.2.1.length c ∧ RdV (Base.of W) [] a (textCells d.2.1) ∧ ∀ x ∈ d.2.1, x.length ≤ 9223372036854775807 := by
 obtain ⟨⟨h1, hw⟩, h2, h3⟩ := h
 obtain ⟨a, c, e, hok, hr, hb⟩ := rep_textsM h2
 have hbd := bounds_i64 hw
 have h3' : (cs.drop 1).drop 1 = [] := h3
 have h1' : cs.take 1 = [vI d.1] := h1
 have e' : (cs.drop 1).take 1 = [.slice a d.2.1.length c] := e
 refine ⟨a, c, ?_, hbd.1, hbd.2, hok, hr, hb⟩
 match cs, h1', e', h3' with
 | [], h1', _, _ => cases h1'
 | [x], _, e', _ => cases e'
 | [x, y], h1', e', _ =>
  simp only [List.take, List.drop, List.cons.injEq, and_true] at h1' e'
  rw [h1', e']
 | x :: y :: z :: l, _, _, h3' => cases h3'
end Go.Pm
namespace Go.Proofs.YtmhdpjifhfoabaaGreatDoor
open Go.RowKit Go.Pm
def laidAll : List (String × DataW Unit) := [("math/bits.deBruijn32tab", Rows.laid_math_bits_deBruijn32tab), ("math/bits.deBruijn64tab", Rows.laid_math_bits_deBruijn64tab), ("internal/strconv.uint64pow10", Rows.laid_internal_strconv_uint64pow10), ("strconv.ErrRange", Rows.laid_strconv_ErrRange), ("strconv.ErrSyntax", Rows.laid_strconv_ErrSyntax)]
abbrev dSyn : DataW Unit := .ptr (.agg [.lit (.string [105, 110, 118, 97, 108, 105, 100, 32, 115, 121, 110, 116, 97, 120])])
abbrev dRan : DataW Unit := .ptr (.agg [.lit (.string [118, 97, 108, 117, 101, 32, 111, 117, 116, 32, 111, 102, 32, 114, 97, 110, 103, 101])])
theorem numAll {W : World} (hL : laidMetH Tryz.prog laidAll W) : NumB (Base.of W) :=
 numB (l := laidAll) (n1 := "*errors.errorString") (d1 := dSyn) (n2 := "*errors.errorString") (d2 := dRan) (by kernel_rfl) (by kernel_rfl) (by kernel_rfl) (by kernel_rfl) (by kernel_rfl) hL
end Go.Proofs.YtmhdpjifhfoabaaGreatDoor
