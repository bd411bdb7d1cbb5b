/- glob: class, divide, Match. -/
import Derived.Test.YtffnhfkkochnhaaGreatDoorChBakB
import Derived.Test.YtffnhfkkochnhaaGreatDoorChBakG
import Derived.Test.YtffnhfkkochnhaaGreatDoorRows
import Derived.Test.YtffnhfkkochnhaaGreatDoorChBakE
set_option maxRecDepth 100000
set_option maxHeartbeats 16000000
set_option synthInstance.maxSize 4096
set_option synthInstance.maxHeartbeats 400000
namespace Go.Proofs.YtffnhfkkochnhaaGreatDoor
open Go.RowKit Go.Pm
theorem chr_lt (p : List UInt8) (i : Nat) : chr p i < 256 := (p.getD i 0).toNat_lt
theorem litS_lt (p : List UInt8) (i : Nat) : (litS p i).1 < 256 := by unfold litS; split <;> exact chr_lt p _
theorem highS_lt (p : List UInt8) (i : Nat) {lo : Nat} (h : lo < 256) : (highS p i lo).1 < 256 := by
 unfold highS; split
 ·exact litS_lt p _
 exact h
theorem clsS_hyp {p : List UInt8} {i k0 : Nat} {neg : Bool} (hneg : neg = true ↔ (chr p i = 94 ∧ i < p.length)) (hk0 : (neg = true ∧ k0 = i + 1) ∨ (neg = false ∧ k0 = i)) : (neg = true ∧ k0 = i + 1 ∧ chr p i = 94 ∧ i < p.length) ∨ (neg = false ∧ k0 = i ∧ ¬ (chr p i = 94 ∧ i < p.length)) := by
 rcases hk0 with ⟨h1, h2⟩ | ⟨h1, h2⟩
 ·exact .inl ⟨h1, h2, hneg.1 h1⟩
 exact .inr ⟨h1, h2, fun h => by rw [hneg.2 h] at h1; cases h1⟩
theorem clsS_of {p : List UInt8} {i : Nat} {b : Bool} {j : Nat} (h : (b = true ∧ j = i + 1 ∧ chr p i = 94 ∧ i < p.length) ∨ (b = false ∧ j = i ∧ ¬ (chr p i = 94 ∧ i < p.length))) : clsS p i = classS p b j j w0 := by
 unfold clsS
 rcases h with ⟨rfl, rfl, h⟩ | ⟨rfl, rfl, h⟩
 ·rw [if_pos h]
 rw [if_neg h]
theorem gmal191 : AL Tryz.prog 191 [.bool false, .int .u64 0, .int .u64 0, .int .u64 0, .int .u64 0] := fun w => by kernel_rfl
theorem gmcallable113 : Callable Tryz.prog 113 := cb Tryz.func113 (by kernel_rfl)
theorem gmcallable114 : Callable Tryz.prog 114 := cb Tryz.func114 (by kernel_rfl)
theorem globClass (B : Base) (H : List Res) (w : World) (p : List UInt8) (hp : p.length ≤ 1000000) (i : Nat) (hi : i ≤ p.length) (hv : Inv B H w) :
  Calls Tryz.prog 103 #[vS p, vI i] w fun e w' => ∃ (pp : Part) (j : Nat) (b : Bool), e = .returned (.tuple #[.agg (partC pp).toArray, vI j, .bool b]) ∧ pp.star = false ∧ pp.ws.length = 4 ∧ ((b = true ∧ clsS p i = some (pp.ws, j)) ∨ (b = false ∧ clsS p i = none)) ∧ Inv B H w' := by
 refine cW Tryz.func103 rfl Tryz.ntmps103 ?_
 simp only [al]
 refine sK fun _ k1 => rL (sl_alloc tV (wn rfl) rfl hv gmal191 (fun b2 w3 hv => ?_))
 refine uA rfl (uA rfl ?_)
 refine uW k1 (sK fun _ k4 => ?_)
 refine rL (sl_alloc tV (wn rfl) rfl hv gmal191 (fun b5 w6 hv => ?_))
 refine uW k4 (sK fun K7 k7 => ?_)
 have hJ7 : ∀ (neg : Bool) (j12 j13 j14 j15 j16 j17 j18 j19 j20 j21 : Value) (w8 : World), (neg = true ↔ (chr p i = 94 ∧ i < p.length)) → Inv B (Res.cell b5 [.bool false, .int .u64 0, .int .u64 0, .int .u64 0, .int .u64 0] 191 :: Res.cell b2 [.bool false, .int .u64 0, .int .u64 0, .int .u64 0, .int .u64 0] 191 :: H) w8 → K7 { tmps := List.toArray (vS p :: vI i :: undef :: undef :: vP b2 :: vI 0 :: .bool false :: vP b5 :: .bool neg :: undef :: undef :: undef :: j12 :: j13 :: j14 :: j15 :: j16 :: j17 :: j18 :: j19 :: j20 :: j21 :: undef :: undef :: undef :: undef :: undef :: undef :: undef :: undef :: undef :: undef :: undef :: undef :: undef :: undef :: undef :: undef :: undef :: undef :: undef :: undef :: undef :: undef :: undef :: undef :: undef :: undef :: undef :: undef :: undef :: undef :: undef :: undef :: undef :: undef :: undef :: undef :: undef :: undef :: undef :: undef :: undef :: undef :: undef :: undef :: undef :: undef :: undef :: undef :: undef :: undef :: undef :: undef :: undef :: undef :: undef :: undef :: undef :: undef :: undef :: undef :: []), defers := [] } w8 := by
  intro neg j12 j13 j14 j15 j16 j17 j18 j19 j20 j21 w8 hneg hv
  refine k7 _ _ (sK fun K9 k9 => ?_)
  have hJ9 : ∀ (k0 : Nat) (j22 j23 j24 : Value) (w10 : World), ((neg = true ∧ k0 = i + 1) ∨ (neg = false ∧ k0 = i)) → Inv B (Res.cell b5 [.bool false, .int .u64 0, .int .u64 0, .int .u64 0, .int .u64 0] 191 :: Res.cell b2 [.bool false, .int .u64 0, .int .u64 0, .int .u64 0, .int .u64 0] 191 :: H) w10 → K9 { tmps := List.toArray (vS p :: vI k0 :: undef :: undef :: vP b2 :: vI 0 :: .bool false :: vP b5 :: .bool neg :: undef :: undef :: undef :: j12 :: j13 :: j14 :: j15 :: j16 :: j17 :: j18 :: j19 :: j20 :: j21 :: j22 :: j23 :: j24 :: undef :: undef :: undef :: undef :: undef :: undef :: undef :: undef :: undef :: undef :: undef :: undef :: undef :: undef :: undef :: undef :: undef :: undef :: undef :: undef :: undef :: undef :: undef :: undef :: undef :: undef :: undef :: undef :: undef :: undef :: undef :: undef :: undef :: undef :: undef :: undef :: undef :: undef :: undef :: undef :: undef :: undef :: undef :: undef :: undef :: undef :: undef :: undef :: undef :: undef :: undef :: undef :: undef :: undef :: undef :: undef :: undef :: []), defers := [] } w10 := by
   intro k0 j22 j23 j24 w10 hk0 hv
   refine k9 _ _ ?_
   have hk0l : k0 ≤ p.length := by
    rcases hk0 with ⟨h9, rfl⟩ | ⟨-, rfl⟩
    ·have := (hneg.1 h9).2; omega
    exact hi
   refine sK fun _ k11 => sK fun _ k12 => rL (uM rfl ?_)
   refine uA rfl (uW k12 ?_)
   refine bB ?_
   gi_loopw [1, 10, 11] (fun x1 x10 x11 wr => ∃ (k : Nat) (ws : W64), x1 = vI k ∧ ws.length = 4 ∧ k ≤ p.length ∧ classS p neg (k0) (k0) w0 = classS p neg (k0) k ws ∧ Inv B (Res.cell b5 (Value.bool false :: wordsV ws) 191 :: Res.cell b2 [.bool false, .int .u64 0, .int .u64 0, .int .u64 0, .int .u64 0] 191 :: H) wr) (fun x1 x10 x11 _ => p.length - (intOf x1).toNat)
   case atStart => exact ⟨k0, w0, rfl, rfl, by omega, rfl, ((hv.front 1 rfl).front 1 rfl)⟩
   case round =>
    obtain ⟨k, ws, rfl, hwl, hk, hcl, hv⟩ := hrel
    refine sK fun _ k14 => sK fun _ k15 => rL (uM rfl ?_)
    refine uM rfl ?_
    refine uG (vI (p.length : Int)) rfl (ex_lenStr Tryz.underlying9 rfl rfl) ?_
    by_cases hb16 : (k : Int) < (p.length : Int)
    ·refine uG (.bool true) rfl (ex_lss rfl rfl rfl (qT hb16)) (uW k15 ?_)
     refine cT rfl (kS ?_)
     refine tK k14 (bB ?_)
     refine sK fun _ k17 => sK fun _ k18 => rL (uM rfl ?_)
     refine uM rfl ?_
     obtain ⟨y19, hy19⟩ : ∃ y, p[k]? = some y := ⟨_, List.getElem?_eq_getElem (show k < p.length by omega)⟩
     have hy19c := chr_at hy19
     refine uG (.int .u8 (chr p (k) : Int)) rfl ((by rw [hy19c]; exact ex_sidx0 Tryz.underlying9 rfl rfl rfl hy19)) ?_
     by_cases hb20 : (chr p (k) : Int) = 93
     ·refine uG (.bool true) rfl (ex_eql rfl rfl rfl (qT hb20)) (uM rfl ?_)
      refine uM rfl ?_
      refine uM rfl ?_
      by_cases hb21 : (k : Int) > (k0 : Int)
      ·refine uG (.bool true) rfl (ex_gtr rfl rfl rfl (qT hb21)) (uK rfl ?_)
       refine uW k18 (cT rfl ?_)
       refine sK fun K22 k22 => ?_
       have hJ22 : ∀ (ws2 : W64) (j39 j40 j41 : Value) (w23 : World), (ws2 = (if neg then invW ws else ws)) → (ws2.length = 4) → Inv B (Res.cell b5 (Value.bool false :: wordsV ws2) 191 :: Res.cell b2 [.bool false, .int .u64 0, .int .u64 0, .int .u64 0, .int .u64 0] 191 :: H) w23 → K22 { tmps := List.toArray (vS p :: vI k :: undef :: undef :: vP b2 :: u5 :: u6 :: vP b5 :: .bool neg :: vI k0 :: u10 :: u11 :: j12 :: j13 :: j14 :: j15 :: j16 :: j17 :: j18 :: j19 :: j20 :: j21 :: j22 :: j23 :: j24 :: vI k0 :: vI k :: vS p :: vI (p.length : Int) :: .bool true :: vS p :: vI k :: .int .u8 (chr p (k) : Int) :: .bool true :: .bool true :: vI k :: vI k0 :: .bool true :: .bool true :: j39 :: j40 :: j41 :: u42 :: u43 :: u44 :: u45 :: u46 :: u47 :: u48 :: u49 :: u50 :: u51 :: u52 :: u53 :: u54 :: u55 :: u56 :: u57 :: u58 :: u59 :: u60 :: u61 :: u62 :: u63 :: u64 :: u65 :: u66 :: u67 :: u68 :: u69 :: u70 :: u71 :: u72 :: u73 :: u74 :: u75 :: u76 :: u77 :: u78 :: u79 :: u80 :: undef :: []), defers := [] } w23 := by
        intro ws2 j39 j40 j41 w23 hws2 hwl2 hv
        refine k22 _ _ (sK fun _ k24 => ?_)
        obtain ⟨pp, hpp⟩ : ∃ q : Part, q = ⟨false, ws2⟩ := ⟨_, rfl⟩
        have hpl : pp.ws.length = 4 := by rw [hpp]; exact hwl2
        rw [show (Value.bool false :: wordsV (ws2)) = partC pp from by rw [← part_cells hpl, hpp]] at hv
        simp only [partC] at hv
        refine rL (uL (.agg #[.bool pp.star, wv (pp.ws.getD 0 0#64), wv (pp.ws.getD 1 0#64), wv (pp.ws.getD 2 0#64), wv (pp.ws.getD 3 0#64)]) rfl (lM 0 glwd191 hv rfl rfl rfl rfl) ?_)
        refine uM rfl ?_
        refine uG (vI ((k + 1 : Nat) : Int)) rfl (ex_add rfl rfl rfl (by rw [i64_in (by omega)]; omega)) ?_
        refine xS 1 rfl hv glsz191 rfl (by exact ⟨rfl, rfl, rfl, rfl, rfl, trivial⟩) (fun w25 hv => ?_)
        simp only [zS, zO, sp] at hv
        refine uA rfl (uA rfl ?_)
        refine uW k24 (rR ?_)
        refine tR (bZ ?_)
        refine tR (bZ ?_)
        refine tR (bodyPost_ret (res_cell3 rfl rfl (lM 1 glwd191 hv rfl rfl rfl rfl)) rfl ?_)
        have e9 : clsS p i = some (pp.ws, k + 1) := by
         rw [clsS_of (clsS_hyp hneg hk0), hcl, classS_close p (by omega) ⟨by omega, by omega⟩, hpp, ← hws2]
        exact ⟨pp, k + 1, true, rfl, by rw [hpp], hpl, .inl ⟨rfl, e9⟩, (hv.kp [] 0 2)⟩
       refine sK fun _ k26 => rL (uM rfl ?_)
       refine uW k26 (wpIn_cond_split (t := neg) rfl (fun hc27 => ?_) (fun hc27 => ?_))
       ·refine rL (uF (.pointer (some ⟨b5, 1, none⟩)) rfl (glfa191_1 _ _ _) ?_)
        refine xC glcallable112 rfl ((setInvertC B _ _ _ false ws hwl hv).mono ?_) rfl
        rintro e w28 ⟨rfl, hv⟩
        refine ⟨_, rfl, uZ ?_⟩
        exact then_normal (hJ22 (invW ws) _ _ _ _ (by rw [hc27]; rfl) (invW_len.trans hwl) hv)
       refine kS (then_normal (hJ22 ws _ _ _ _ (by rw [hc27]; rfl) hwl hv))
      refine uG (.bool false) rfl (ex_gtr rfl rfl rfl (qF hb21)) (uK rfl ?_)
      refine uW k18 (cF rfl ?_)
      refine kS (tK k17 ?_)
      refine sK fun _ k29 => rL (uA rfl ?_)
      refine uA rfl (uW k29 ?_)
      refine sK fun _ k30 => rL (uM rfl ?_)
      refine uM rfl ?_
      refine xC gmcallable113 rfl ((globLiteral B _ _ p (k) (by omega) hp hv).mono ?_) rfl
      rintro e w31 ⟨rfl, hv⟩
      refine ⟨_, rfl, ?_⟩
      have hlg := litS_gt p (k)
      have hll := litS_le p (show k < p.length by omega)
      refine uM rfl (uE rfl ?_)
      refine uE rfl (uA rfl ?_)
      refine uA rfl (uW k30 ?_)
      refine sK fun _ k32 => rL (uM rfl ?_)
      refine uA rfl (uW k32 ?_)
      refine sK fun K33 k33 => ?_
      have hJ33 : ∀ (hh k2 : Nat) (j52 j53 j54 j55 j56 j57 j58 j59 j60 j61 j62 j63 j64 j65 j66 j67 j68 j69 j70 j71 j72 j73 j74 j75 j76 : Value) (w34 : World), (highS p (litS p k).2 (litS p k).1 = (hh, k2)) → Inv B (Res.cell b5 (Value.bool false :: wordsV ws) 191 :: Res.cell b2 [.bool false, .int .u64 0, .int .u64 0, .int .u64 0, .int .u64 0] 191 :: H) w34 → K33 { tmps := List.toArray (vS p :: vI k2 :: undef :: undef :: vP b2 :: u5 :: u6 :: vP b5 :: .bool neg :: vI k0 :: .int .u8 ((litS p (k)).1 : Int) :: .int .u8 (hh : Int) :: j12 :: j13 :: j14 :: j15 :: j16 :: j17 :: j18 :: j19 :: j20 :: j21 :: j22 :: j23 :: j24 :: vI k0 :: vI k :: vS p :: vI (p.length : Int) :: .bool true :: vS p :: vI k :: .int .u8 (chr p (k) : Int) :: .bool true :: .bool true :: vI k :: vI k0 :: .bool false :: .bool false :: u39 :: u40 :: u41 :: u42 :: u43 :: u44 :: .tuple #[.int .u8 ((litS p (k)).1 : Int), vI ((litS p (k)).2 : Int)] :: vS p :: vI k :: .tuple #[.int .u8 ((litS p (k)).1 : Int), vI ((litS p (k)).2 : Int)] :: .int .u8 ((litS p (k)).1 : Int) :: vI ((litS p (k)).2 : Int) :: .int .u8 ((litS p (k)).1 : Int) :: j52 :: j53 :: j54 :: j55 :: j56 :: j57 :: j58 :: j59 :: j60 :: j61 :: j62 :: j63 :: j64 :: j65 :: j66 :: j67 :: j68 :: j69 :: j70 :: j71 :: j72 :: j73 :: j74 :: j75 :: j76 :: u77 :: u78 :: u79 :: u80 :: undef :: []), defers := [] } w34 := by
       intro hh k2 j52 j53 j54 j55 j56 j57 j58 j59 j60 j61 j62 j63 j64 j65 j66 j67 j68 j69 j70 j71 j72 j73 j74 j75 j76 w34 hhs hv
       refine k33 _ _ ?_
       have hk2a : (litS p k).2 ≤ k2 := by have := highS_ge p (litS p k).2 (litS p k).1; rw [hhs] at this; exact this
       have hk2b : k2 ≤ p.length := by have := highS_le p (i := (litS p k).2) (lo := (litS p k).1) (by omega); rw [hhs] at this; exact this
       have hhl : hh < 256 := by have := highS_lt p (litS p k).2 (litS_lt p k); rw [hhs] at this; exact this
       refine rL (uF (.pointer (some ⟨b5, 1, none⟩)) rfl (glfa191_1 _ _ _) ?_)
       refine uM rfl (uM rfl ?_)
       refine xC gmcallable114 rfl ((setAddRangeC B _ _ _ false ws hwl ((litS p k).1) hh (litS_lt p _) hhl hv).mono ?_) rfl
       rintro e w35 ⟨rfl, hv⟩
       refine ⟨_, rfl, uZ ?_⟩
       refine bN (then_normal ?_)
       simp only [vP, vI, vS]
       go_roundw
       case rel => exact ⟨_, _, rfl, by unfold addRangeW; rw [addUpto_len]; exact hwl, by omega, by rw [hcl, classS_step p (by omega) (by omega), hhs], ((hv.front 1 rfl).front 1 rfl)⟩
       case measure => show p.length - (((k2 : Nat) : Int)).toNat < p.length - ((k : Int)).toNat; omega
      refine sK fun _ k36 => rL (uM rfl ?_)
      refine uG (vI (((litS p (k)).2 + 1 : Nat) : Int)) rfl (ex_add rfl rfl rfl (by rw [i64_in (by omega)]; omega)) (uM rfl ?_)
      refine uG (vI (p.length : Int)) rfl (ex_lenStr Tryz.underlying9 rfl rfl) ?_
      by_cases hb37 : (((litS p (k)).2 + 1 : Nat) : Int) < (p.length : Int)
      ·refine uG (.bool true) rfl (ex_lss rfl rfl rfl (qT hb37)) (uM rfl ?_)
       refine uM rfl ?_
       refine uM rfl ?_
       obtain ⟨y38, hy38⟩ : ∃ y, p[(litS p k).2]? = some y := ⟨_, List.getElem?_eq_getElem (show (litS p k).2 < p.length by omega)⟩
       have hy38c := chr_at hy38
       refine uG (.int .u8 (chr p ((litS p k).2) : Int)) rfl ((by rw [hy38c]; exact ex_sidx0 Tryz.underlying9 rfl rfl rfl hy38)) ?_
       by_cases hb39 : (chr p ((litS p k).2) : Int) = 45
       ·refine uG (.bool true) rfl (ex_eql rfl rfl rfl (qT hb39)) (uK rfl ?_)
        refine uM rfl ?_
        refine uM rfl ?_
        refine uM rfl ?_
        refine uG (vI (((litS p (k)).2 + 1 : Nat) : Int)) rfl (ex_add rfl rfl rfl (by rw [i64_in (by omega)]; omega)) ?_
        obtain ⟨y40, hy40⟩ : ∃ y, p[(litS p k).2 + 1]? = some y := ⟨_, List.getElem?_eq_getElem (show (litS p k).2 + 1 < p.length by omega)⟩
        have hy40c := chr_at hy40
        refine uG (.int .u8 (chr p ((litS p k).2 + 1) : Int)) rfl ((by rw [hy40c]; exact ex_sidx0 Tryz.underlying9 rfl rfl rfl hy40)) ?_
        by_cases hb41 : (chr p ((litS p k).2 + 1) : Int) ≠ 93
        ·refine uG (.bool true) rfl (ex_neq rfl rfl rfl (qT hb41)) (uK rfl ?_)
         refine uW k36 (cT rfl ?_)
         refine rL (uM rfl ?_)
         refine uM rfl ?_
         refine uG (vI (((litS p (k)).2 + 1 : Nat) : Int)) rfl (ex_add rfl rfl rfl (by rw [i64_in (by omega)]; omega)) ?_
         refine xC gmcallable113 rfl ((globLiteral B _ _ p (((litS p (k)).2 + 1 : Nat)) (by omega) hp hv).mono ?_) rfl
         rintro e w42 ⟨rfl, hv⟩
         refine ⟨_, rfl, ?_⟩
         have hlg2 := litS_gt p (((litS p (k)).2 + 1 : Nat))
         have hll2 := litS_le p (show ((litS p (k)).2 + 1 : Nat) < p.length by omega)
         refine uM rfl (uE rfl ?_)
         refine uE rfl (uA rfl ?_)
         refine uA rfl (uZ ?_)
         exact then_normal (hJ33 ((litS p (((litS p (k)).2 + 1 : Nat))).1) ((litS p (((litS p (k)).2 + 1 : Nat))).2) _ _ _ _ _ _ _ _ _ _ _ _ _ _ _ _ _ _ _ _ _ _ _ _ _ _ (if_pos ⟨by omega, by omega, by omega⟩) hv)
        refine uG (.bool false) rfl (ex_neq rfl rfl rfl (qF hb41)) (uK rfl ?_)
        refine uW k36 (cF rfl ?_)
        refine kS (then_normal (hJ33 ((litS p (k)).1) ((litS p (k)).2) _ _ _ _ _ _ _ _ _ _ _ _ _ _ _ _ _ _ _ _ _ _ _ _ _ _ (if_neg (by omega)) hv))
       refine uG (.bool false) rfl (ex_eql rfl rfl rfl (qF hb39)) (uK rfl ?_)
       refine uM rfl ?_
       iterate 5 refine uP rfl ?_
       refine uK rfl (uW k36 ?_)
       refine cF rfl (kS ?_)
       exact then_normal (hJ33 ((litS p (k)).1) ((litS p (k)).2) _ _ _ _ _ _ _ _ _ _ _ _ _ _ _ _ _ _ _ _ _ _ _ _ _ _ (if_neg (by omega)) hv)
      refine uG (.bool false) rfl (ex_lss rfl rfl rfl (qF hb37)) (uM rfl ?_)
      iterate 4 refine uP rfl ?_
      refine uK rfl (uM rfl ?_)
      iterate 5 refine uP rfl ?_
      refine uK rfl (uW k36 ?_)
      refine cF rfl (kS ?_)
      exact then_normal (hJ33 ((litS p (k)).1) ((litS p (k)).2) _ _ _ _ _ _ _ _ _ _ _ _ _ _ _ _ _ _ _ _ _ _ _ _ _ _ (if_neg (by omega)) hv)
     refine uG (.bool false) rfl (ex_eql rfl rfl rfl (qF hb20)) (uM rfl ?_)
     iterate 3 refine uP rfl ?_
     refine uK rfl (uW k18 ?_)
     refine cF rfl (kS ?_)
     refine tK k17 (sK fun _ k43 => ?_)
     refine rL (uA rfl ?_)
     refine uA rfl (uW k43 ?_)
     refine sK fun _ k44 => rL (uM rfl ?_)
     refine uM rfl ?_
     refine xC gmcallable113 rfl ((globLiteral B _ _ p (k) (by omega) hp hv).mono ?_) rfl
     rintro e w45 ⟨rfl, hv⟩
     refine ⟨_, rfl, ?_⟩
     have hlg := litS_gt p (k)
     have hll := litS_le p (show k < p.length by omega)
     refine uM rfl (uE rfl ?_)
     refine uE rfl (uA rfl ?_)
     refine uA rfl (uW k44 ?_)
     refine sK fun _ k46 => rL (uM rfl ?_)
     refine uA rfl (uW k46 ?_)
     refine sK fun K47 k47 => ?_
     have hJ47 : ∀ (hh k2 : Nat) (j52 j53 j54 j55 j56 j57 j58 j59 j60 j61 j62 j63 j64 j65 j66 j67 j68 j69 j70 j71 j72 j73 j74 j75 j76 : Value) (w48 : World), (highS p (litS p k).2 (litS p k).1 = (hh, k2)) → Inv B (Res.cell b5 (Value.bool false :: wordsV ws) 191 :: Res.cell b2 [.bool false, .int .u64 0, .int .u64 0, .int .u64 0, .int .u64 0] 191 :: H) w48 → K47 { tmps := List.toArray (vS p :: vI k2 :: undef :: undef :: vP b2 :: u5 :: u6 :: vP b5 :: .bool neg :: vI k0 :: .int .u8 ((litS p (k)).1 : Int) :: .int .u8 (hh : Int) :: j12 :: j13 :: j14 :: j15 :: j16 :: j17 :: j18 :: j19 :: j20 :: j21 :: j22 :: j23 :: j24 :: vI k0 :: vI k :: vS p :: vI (p.length : Int) :: .bool true :: vS p :: vI k :: .int .u8 (chr p (k) : Int) :: .bool false :: .bool false :: undef :: undef :: undef :: .bool false :: u39 :: u40 :: u41 :: u42 :: u43 :: u44 :: .tuple #[.int .u8 ((litS p (k)).1 : Int), vI ((litS p (k)).2 : Int)] :: vS p :: vI k :: .tuple #[.int .u8 ((litS p (k)).1 : Int), vI ((litS p (k)).2 : Int)] :: .int .u8 ((litS p (k)).1 : Int) :: vI ((litS p (k)).2 : Int) :: .int .u8 ((litS p (k)).1 : Int) :: j52 :: j53 :: j54 :: j55 :: j56 :: j57 :: j58 :: j59 :: j60 :: j61 :: j62 :: j63 :: j64 :: j65 :: j66 :: j67 :: j68 :: j69 :: j70 :: j71 :: j72 :: j73 :: j74 :: j75 :: j76 :: u77 :: u78 :: u79 :: u80 :: undef :: []), defers := [] } w48 := by
      intro hh k2 j52 j53 j54 j55 j56 j57 j58 j59 j60 j61 j62 j63 j64 j65 j66 j67 j68 j69 j70 j71 j72 j73 j74 j75 j76 w48 hhs hv
      refine k47 _ _ ?_
      have hk2a : (litS p k).2 ≤ k2 := by have := highS_ge p (litS p k).2 (litS p k).1; rw [hhs] at this; exact this
      have hk2b : k2 ≤ p.length := by have := highS_le p (i := (litS p k).2) (lo := (litS p k).1) (by omega); rw [hhs] at this; exact this
      have hhl : hh < 256 := by have := highS_lt p (litS p k).2 (litS_lt p k); rw [hhs] at this; exact this
      refine rL (uF (.pointer (some ⟨b5, 1, none⟩)) rfl (glfa191_1 _ _ _) ?_)
      refine uM rfl (uM rfl ?_)
      refine xC gmcallable114 rfl ((setAddRangeC B _ _ _ false ws hwl ((litS p k).1) hh (litS_lt p _) hhl hv).mono ?_) rfl
      rintro e w49 ⟨rfl, hv⟩
      refine ⟨_, rfl, uZ ?_⟩
      refine bN (then_normal ?_)
      simp only [vP, vI, vS]
      go_roundw
      case rel => exact ⟨_, _, rfl, by unfold addRangeW; rw [addUpto_len]; exact hwl, by omega, by rw [hcl, classS_step p (by omega) (by omega), hhs], ((hv.front 1 rfl).front 1 rfl)⟩
      case measure => show p.length - (((k2 : Nat) : Int)).toNat < p.length - ((k : Int)).toNat; omega
     refine sK fun _ k50 => rL (uM rfl ?_)
     refine uG (vI (((litS p (k)).2 + 1 : Nat) : Int)) rfl (ex_add rfl rfl rfl (by rw [i64_in (by omega)]; omega)) (uM rfl ?_)
     refine uG (vI (p.length : Int)) rfl (ex_lenStr Tryz.underlying9 rfl rfl) ?_
     by_cases hb51 : (((litS p (k)).2 + 1 : Nat) : Int) < (p.length : Int)
     ·refine uG (.bool true) rfl (ex_lss rfl rfl rfl (qT hb51)) (uM rfl ?_)
      refine uM rfl ?_
      refine uM rfl ?_
      obtain ⟨y52, hy52⟩ : ∃ y, p[(litS p k).2]? = some y := ⟨_, List.getElem?_eq_getElem (show (litS p k).2 < p.length by omega)⟩
      have hy52c := chr_at hy52
      refine uG (.int .u8 (chr p ((litS p k).2) : Int)) rfl ((by rw [hy52c]; exact ex_sidx0 Tryz.underlying9 rfl rfl rfl hy52)) ?_
      by_cases hb53 : (chr p ((litS p k).2) : Int) = 45
      ·refine uG (.bool true) rfl (ex_eql rfl rfl rfl (qT hb53)) (uK rfl ?_)
       refine uM rfl ?_
       refine uM rfl ?_
       refine uM rfl ?_
       refine uG (vI (((litS p (k)).2 + 1 : Nat) : Int)) rfl (ex_add rfl rfl rfl (by rw [i64_in (by omega)]; omega)) ?_
       obtain ⟨y54, hy54⟩ : ∃ y, p[(litS p k).2 + 1]? = some y := ⟨_, List.getElem?_eq_getElem (show (litS p k).2 + 1 < p.length by omega)⟩
       have hy54c := chr_at hy54
       refine uG (.int .u8 (chr p ((litS p k).2 + 1) : Int)) rfl ((by rw [hy54c]; exact ex_sidx0 Tryz.underlying9 rfl rfl rfl hy54)) ?_
       by_cases hb55 : (chr p ((litS p k).2 + 1) : Int) ≠ 93
       ·refine uG (.bool true) rfl (ex_neq rfl rfl rfl (qT hb55)) (uK rfl ?_)
        refine uW k50 (cT rfl ?_)
        refine rL (uM rfl ?_)
        refine uM rfl ?_
        refine uG (vI (((litS p (k)).2 + 1 : Nat) : Int)) rfl (ex_add rfl rfl rfl (by rw [i64_in (by omega)]; omega)) ?_
        refine xC gmcallable113 rfl ((globLiteral B _ _ p (((litS p (k)).2 + 1 : Nat)) (by omega) hp hv).mono ?_) rfl
        rintro e w56 ⟨rfl, hv⟩
        refine ⟨_, rfl, ?_⟩
        have hlg2 := litS_gt p (((litS p (k)).2 + 1 : Nat))
        have hll2 := litS_le p (show ((litS p (k)).2 + 1 : Nat) < p.length by omega)
        refine uM rfl (uE rfl ?_)
        refine uE rfl (uA rfl ?_)
        refine uA rfl (uZ ?_)
        exact then_normal (hJ47 ((litS p (((litS p (k)).2 + 1 : Nat))).1) ((litS p (((litS p (k)).2 + 1 : Nat))).2) _ _ _ _ _ _ _ _ _ _ _ _ _ _ _ _ _ _ _ _ _ _ _ _ _ _ (if_pos ⟨by omega, by omega, by omega⟩) hv)
       refine uG (.bool false) rfl (ex_neq rfl rfl rfl (qF hb55)) (uK rfl ?_)
       refine uW k50 (cF rfl ?_)
       refine kS (then_normal (hJ47 ((litS p (k)).1) ((litS p (k)).2) _ _ _ _ _ _ _ _ _ _ _ _ _ _ _ _ _ _ _ _ _ _ _ _ _ _ (if_neg (by omega)) hv))
      refine uG (.bool false) rfl (ex_eql rfl rfl rfl (qF hb53)) (uK rfl ?_)
      refine uM rfl ?_
      iterate 5 refine uP rfl ?_
      refine uK rfl (uW k50 ?_)
      refine cF rfl (kS ?_)
      exact then_normal (hJ47 ((litS p (k)).1) ((litS p (k)).2) _ _ _ _ _ _ _ _ _ _ _ _ _ _ _ _ _ _ _ _ _ _ _ _ _ _ (if_neg (by omega)) hv)
     refine uG (.bool false) rfl (ex_lss rfl rfl rfl (qF hb51)) (uM rfl ?_)
     iterate 4 refine uP rfl ?_
     refine uK rfl (uM rfl ?_)
     iterate 5 refine uP rfl ?_
     refine uK rfl (uW k50 ?_)
     refine cF rfl (kS ?_)
     exact then_normal (hJ47 ((litS p (k)).1) ((litS p (k)).2) _ _ _ _ _ _ _ _ _ _ _ _ _ _ _ _ _ _ _ _ _ _ _ _ _ _ (if_neg (by omega)) hv)
    refine uG (.bool false) rfl (ex_lss rfl rfl rfl (qF hb16)) (uW k15 ?_)
    refine cF rfl (xE ?_)
    refine tX (tX ?_)
    refine bH (tK k11 ?_)
    refine sK fun _ k57 => rL (uG (.agg #[.bool false, .int .u64 0, .int .u64 0, .int .u64 0, .int .u64 0]) rfl (ex_buildN (vs := #[]) rfl (by simp only [List.map_toArray, List.map_nil]) (by kernel_rfl)) ?_)
    refine xS 1 rfl hv glsz191 rfl (by exact ⟨rfl, rfl, rfl, rfl, rfl, trivial⟩) (fun w58 hv => ?_)
    simp only [zS, zO, sp] at hv
    refine uA rfl (uA rfl ?_)
    refine uW k57 (rR ?_)
    refine bodyPost_ret (res_cell3 rfl rfl (lM 1 glwd191 hv rfl rfl rfl rfl)) rfl ?_
    have e9 : clsS p i = none := by
     rw [clsS_of (clsS_hyp hneg hk0), hcl, classS_end p (by omega)]
    exact ⟨⟨false, w0⟩, 0, false, rfl, rfl, rfl, .inr ⟨rfl, e9⟩, (hv.kp [] 0 2)⟩
  refine sK fun _ k59 => rL (uM rfl ?_)
  refine uW k59 (wpIn_cond_split (t := neg) rfl (fun hc60 => ?_) (fun hc60 => ?_))
  ·refine rL (uM rfl ?_)
   refine uG (vI ((i + 1 : Nat) : Int)) rfl (ex_add rfl rfl rfl (by rw [i64_in (by omega)]; omega)) (uA rfl ?_)
   refine uZ (then_normal (hJ9 (i + 1 : Nat) _ _ _ _ (.inl ⟨hc60, rfl⟩) hv))
  refine kS (then_normal (hJ9 i _ _ _ _ (.inr ⟨hc60, rfl⟩) hv))
 have hw0 : ([.bool false, .int .u64 0, .int .u64 0, .int .u64 0, .int .u64 0]) = Value.bool false :: wordsV w0 := rfl
 rw [hw0] at hv
 refine rL (uM rfl ?_)
 refine uM rfl ?_
 refine uG (vI (p.length : Int)) rfl (ex_lenStr Tryz.underlying9 rfl rfl) ?_
 by_cases hb61 : (i : Int) < (p.length : Int)
 ·refine uG (.bool true) rfl (ex_lss rfl rfl rfl (qT hb61)) (uM rfl ?_)
  refine uM rfl ?_
  refine uM rfl ?_
  obtain ⟨y62, hy62⟩ : ∃ y, p[i]? = some y := ⟨_, List.getElem?_eq_getElem (show i < p.length by omega)⟩
  have hy62c := chr_at hy62
  refine uG (.int .u8 (chr p (i) : Int)) rfl ((by rw [hy62c]; exact ex_sidx0 Tryz.underlying9 rfl rfl rfl hy62)) ?_
  by_cases hb63 : (chr p (i) : Int) = 94
  ·refine uG (.bool true) rfl (ex_eql rfl rfl rfl (qT hb63)) (uK rfl ?_)
   refine uA rfl (uZ ?_)
   exact then_normal (hJ7 true _ _ _ _ _ _ _ _ _ _ _ (⟨fun _ => ⟨by omega, by omega⟩, fun _ => rfl⟩) hv)
  refine uG (.bool false) rfl (ex_eql rfl rfl rfl (qF hb63)) (uK rfl ?_)
  refine uA rfl (uZ ?_)
  exact then_normal (hJ7 false _ _ _ _ _ _ _ _ _ _ _ (⟨fun h9 => (by cases h9), fun h9 => (by omega)⟩) hv)
 refine uG (.bool false) rfl (ex_lss rfl rfl rfl (qF hb61)) (uM rfl ?_)
 iterate 4 refine uP rfl ?_
 refine uK rfl (uA rfl ?_)
 refine uZ (then_normal (hJ7 false _ _ _ _ _ _ _ _ _ _ _ (⟨fun h9 => (by cases h9), fun h9 => (by omega)⟩) hv))
theorem gdmk191 : (Tryz.prog.info? 191).map (fun i => (i.zero, i.size, i.bytes)) = some (some (.agg #[.bool false, .int .u64 0, .int .u64 0, .int .u64 0, .int .u64 0]), 5, 40) := by kernel_rfl
theorem gdel185 : Elem Tryz.prog 185 191 (.agg #[.bool false, .int .u64 0, .int .u64 0, .int .u64 0, .int .u64 0]) 5 40 := elem_of Tryz.underlying185 gdmk191 (by rfl) (by decide)
theorem gdcallable102 : Callable Tryz.prog 102 := cb Tryz.func102 (by kernel_rfl)
theorem gdcallable103 : Callable Tryz.prog 103 := cb Tryz.func103 (by kernel_rfl)
theorem gdal191 : AL Tryz.prog 191 [.bool false, .int .u64 0, .int .u64 0, .int .u64 0, .int .u64 0] := fun w => by kernel_rfl
theorem gdcallable104 : Callable Tryz.prog 104 := cb Tryz.func104 (by kernel_rfl)
theorem globDivide (B : Base) (H : List Res) (w : World) (p : List UInt8) (hp : p.length ≤ 1000000) (hv : Inv B H w) :
  Calls Tryz.prog 95 #[vS p] w fun e' w' => ∃ D ra rc q, B.Le D ∧ e' = .returned (.slice ra q.length rc) ∧ divS p true 0 = q ∧ q.length ≤ p.length ∧ PartsOk q ∧ SliceOk ra q.length rc ∧ RdV D [] ra (q.flatMap partC) ∧ Inv D H w' := by
 refine cW Tryz.func95 rfl Tryz.ntmps95 ?_
 simp only [al]
 refine sK fun _ k1 => rL (uA rfl ?_)
 refine uW k1 (sK fun _ k2 => ?_)
 refine rL (uA rfl ?_)
 refine uW k2 (sK fun _ k3 => ?_)
 refine rL (uA rfl ?_)
 refine uW k3 (sK fun _ k4 => ?_)
 refine sK fun _ k5 => rL (uA rfl ?_)
 refine uW k5 (bB ?_)
 gi_loopw [3, 4, 5] (fun x3 x4 x5 wr => ∃ (i : Nat) (q : List Part) (e : Bool) (ra : Option Addr) (rc : Nat), x3 = .slice ra q.length rc ∧ x4 = .bool e ∧ x5 = vI i ∧ i ≤ p.length ∧ q.length ≤ i ∧ PartsOk q ∧ divS p true 0 = q ++ divS p e i ∧ Inv B (Res.row 191 5 (.slice ra q.length rc) q.length (q.flatMap partC) :: H) wr) (fun x3 x4 x5 _ => p.length - (intOf x5).toNat)
 case atStart => exact ⟨0, [], true, none, 0, rfl, rfl, rfl, Nat.zero_le _, Nat.le_refl _, (fun x h => (by cases h)), rfl, hv.rowNil 191 5⟩
 case round =>
  obtain ⟨i, q, e, ra, rc, rfl, rfl, rfl, hi, hq, hpo, hdv, hv⟩ := hrel
  refine sK fun _ k7 => sK fun _ k8 => rL (uM rfl ?_)
  refine uM rfl ?_
  refine uG (vI (p.length : Int)) rfl (ex_lenStr Tryz.underlying9 rfl rfl) ?_
  by_cases hb9 : (i : Int) < (p.length : Int)
  ·refine uG (.bool true) rfl (ex_lss rfl rfl rfl (qT hb9)) (uW k8 ?_)
   refine cT rfl (kS ?_)
   refine tK k7 (bB ?_)
   refine sK fun _ k10 => rL (uM rfl ?_)
   refine uM rfl ?_
   obtain ⟨y11, hy11⟩ : ∃ y, p[i]? = some y := ⟨_, List.getElem?_eq_getElem (show i < p.length by omega)⟩
   have hy11c := chr_at hy11
   refine uG (.int .u8 (chr p (i) : Int)) rfl ((by rw [hy11c]; exact ex_sidx0 Tryz.underlying9 rfl rfl rfl hy11)) (uA rfl ?_)
   refine uW k10 (sK fun _ k12 => ?_)
   refine rL (uM rfl ?_)
   refine uG (vI ((i + 1 : Nat) : Int)) rfl (ex_add rfl rfl rfl (by rw [i64_in (by omega)]; omega)) (uA rfl ?_)
   refine uW k12 (bB ?_)
   refine sK fun _ k13 => rL (uM rfl ?_)
   by_cases hb14 : (chr p (i) : Int) = 42
   ·refine uG (.bool true) rfl (ex_eql rfl rfl rfl (qT hb14)) (uA rfl ?_)
    refine uW k13 (cT rfl ?_)
    refine rL (uM rfl ?_)
    refine uG (.agg #[.bool true, .int .u64 0, .int .u64 0, .int .u64 0, .int .u64 0]) rfl (ex_buildN (vs := #[(0, .bool true)]) rfl (by simp only [List.map_toArray, List.map_cons, List.map_nil]; rfl) (by kernel_rfl)) ?_
    refine sl_rowAgg (L := [.bool true, .int .u64 0, .int .u64 0, .int .u64 0, .int .u64 0]) tV (wn rfl) rfl rfl hv gdel185 rfl (by decide) (fun b15 w16 hv => ?_)
    simp only [zP, po]
    replace hv := hv.front 1 rfl
    simp only [eS, eZ] at hv
    refine sl_append (news := [.bool true, .int .u64 0, .int .u64 0, .int .u64 0, .int .u64 0]) tV (wn rfl) rfl rfl rfl gdel185 hv (ok_full (by omega)) rfl (rd_all (hv.get 1 rfl)) (by intro u hu; simp only [List.mem_cons, List.not_mem_nil, or_false] at hu; rcases hu with rfl | rfl | rfl | rfl | rfl <;> rfl) (by unfold maxLen; omega) (by omega) (fun rv17 w20 hv => ?_)
    obtain ⟨ra18, rc19, rfl⟩ := row_slice hv.head
    refine uA rfl (uZ ?_)
    refine bN (bN ?_)
    refine then_normal ?_
    go_roundw
    case rel => exact ⟨i + 1, q ++ [starP], e, _, _, by rw [List.length_append, List.length_singleton], rfl, rfl, by omega, by rw [List.length_append, List.length_singleton]; omega, fun x9 h9 => (List.mem_append.1 h9).elim (hpo x9) (fun h8 => by rw [List.mem_singleton.1 h8]; exact rfl), by rw [hdv, divS_star (by omega) (by omega), List.append_assoc]; rfl, by rw [List.length_append, List.length_singleton, ← parts_snoc]; exact (hv.kp [] 1 1)⟩
    case measure => show p.length - ((i + 1 : Nat) : Int).toNat < p.length - ((i : Int)).toNat; omega
   refine uG (.bool false) rfl (ex_eql rfl rfl rfl (qF hb14)) (uA rfl ?_)
   refine uW k13 (cF rfl ?_)
   refine sK fun _ k21 => rL (uM rfl ?_)
   by_cases hb22 : (chr p (i) : Int) = 63
   ·refine uG (.bool true) rfl (ex_eql rfl rfl rfl (qT hb22)) (uA rfl ?_)
    refine uW k21 (cT rfl ?_)
    refine rL (uM rfl ?_)
    refine xC gdcallable102 rfl ((globAny B _ _ hv).mono ?_) rfl
    rintro e w23 ⟨rfl, hv⟩
    refine ⟨_, rfl, ?_⟩
    simp only [zP, po]
    refine sl_rowAgg (L := [.bool anyP.star, wv (anyP.ws.getD 0 0#64), wv (anyP.ws.getD 1 0#64), wv (anyP.ws.getD 2 0#64), wv (anyP.ws.getD 3 0#64)]) tV (wn rfl) rfl rfl hv gdel185 rfl (by decide) (fun b24 w25 hv => ?_)
    simp only [zP, po]
    replace hv := hv.front 1 rfl
    simp only [eS, eZ] at hv
    refine sl_append (news := [.bool anyP.star, wv (anyP.ws.getD 0 0#64), wv (anyP.ws.getD 1 0#64), wv (anyP.ws.getD 2 0#64), wv (anyP.ws.getD 3 0#64)]) tV (wn rfl) rfl rfl rfl gdel185 hv (ok_full (by omega)) rfl (rd_all (hv.get 1 rfl)) (by intro u hu; simp only [List.mem_cons, List.not_mem_nil, or_false] at hu; rcases hu with rfl | rfl | rfl | rfl | rfl <;> rfl) (by unfold maxLen; omega) (by omega) (fun rv26 w29 hv => ?_)
    obtain ⟨ra27, rc28, rfl⟩ := row_slice hv.head
    refine uA rfl (uZ ?_)
    refine bN (bN ?_)
    refine then_normal ?_
    go_roundw
    case rel => exact ⟨i + 1, q ++ [anyP], e, _, _, by rw [List.length_append, List.length_singleton], rfl, rfl, by omega, by rw [List.length_append, List.length_singleton]; omega, fun x9 h9 => (List.mem_append.1 h9).elim (hpo x9) (fun h8 => by rw [List.mem_singleton.1 h8]; exact invW_len), by rw [hdv, divS_any (by omega) (by omega), List.append_assoc]; rfl, by rw [List.length_append, List.length_singleton, ← parts_snoc]; exact (hv.kp [] 1 1)⟩
    case measure => show p.length - ((i + 1 : Nat) : Int).toNat < p.length - ((i : Int)).toNat; omega
   refine uG (.bool false) rfl (ex_eql rfl rfl rfl (qF hb22)) (uA rfl ?_)
   refine uW k21 (cF rfl ?_)
   refine sK fun _ k30 => rL (uM rfl ?_)
   by_cases hb31 : (chr p (i) : Int) = 91
   ·refine uG (.bool true) rfl (ex_eql rfl rfl rfl (qT hb31)) (uM rfl ?_)
    refine uM rfl (uK rfl ?_)
    refine uA rfl (uW k30 ?_)
    refine wpIn_cond_split (t := e) rfl (fun hc32 => ?_) (fun hc32 => ?_)
    ·refine sK fun _ k33 => rL (uM rfl ?_)
     refine uM rfl ?_
     refine xC gdcallable103 rfl ((globClass B _ _ p hp (i + 1) (by omega) hv).mono ?_) rfl
     rintro e w34 ⟨pp, j, b, rfl, hps, hpl, hcl, hv⟩
     refine ⟨_, rfl, ?_⟩
     rcases hcl with ⟨rfl, hcl⟩ | ⟨rfl, hcl⟩
     ·have hjl := clsS_le p hcl
      refine uM rfl (uE rfl ?_)
      refine uE rfl (uE rfl ?_)
      refine sl_alloc tV (wn rfl) rfl hv gdal191 (fun b35 w36 hv => ?_)
      simp only [zP, po]
      refine xS 0 rfl hv glsz191 rfl (by exact ⟨rfl, rfl, rfl, rfl, rfl, trivial⟩) (fun w37 hv => ?_)
      simp only [zO] at hv
      refine uA rfl (uA rfl ?_)
      refine uW k33 (sK fun _ k38 => ?_)
      refine sK fun _ k39 => rL (uM rfl ?_)
      refine uG (.bool false) rfl (ex_not rfl rfl rfl) (uW k39 ?_)
      refine cF rfl (kS ?_)
      refine tK k38 (sK fun _ k40 => ?_)
      refine rL (uM rfl ?_)
      refine uL (.agg #[.bool pp.star, wv (pp.ws.getD 0 0#64), wv (pp.ws.getD 1 0#64), wv (pp.ws.getD 2 0#64), wv (pp.ws.getD 3 0#64)]) rfl (lM 0 glwd191 hv rfl rfl rfl rfl) ?_
      refine sl_rowAgg (L := [.bool pp.star, wv (pp.ws.getD 0 0#64), wv (pp.ws.getD 1 0#64), wv (pp.ws.getD 2 0#64), wv (pp.ws.getD 3 0#64)]) tV (wn rfl) rfl rfl hv gdel185 rfl (by decide) (fun b41 w42 hv => ?_)
      simp only [zP, po]
      replace hv := hv.front 2 rfl
      simp only [eS, eZ] at hv
      refine sl_append (news := [.bool pp.star, wv (pp.ws.getD 0 0#64), wv (pp.ws.getD 1 0#64), wv (pp.ws.getD 2 0#64), wv (pp.ws.getD 3 0#64)]) tV (wn rfl) rfl rfl rfl gdel185 hv (ok_full (by omega)) rfl (rd_all (hv.get 1 rfl)) (by intro u hu; simp only [List.mem_cons, List.not_mem_nil, or_false] at hu; rcases hu with rfl | rfl | rfl | rfl | rfl <;> rfl) (by unfold maxLen; omega) (by omega) (fun rv43 w46 hv => ?_)
      obtain ⟨ra44, rc45, rfl⟩ := row_slice hv.head
      refine uA rfl (uW k40 ?_)
      refine rL (uM rfl ?_)
      refine uA rfl (uZ ?_)
      refine bN (bN ?_)
      refine then_normal ?_
      go_roundw
      case rel => exact ⟨j, q ++ [pp], e, _, _, by rw [List.length_append, List.length_singleton], rfl, rfl, by omega, by rw [List.length_append, List.length_singleton]; omega, fun x9 h9 => (List.mem_append.1 h9).elim (hpo x9) (fun h8 => by rw [List.mem_singleton.1 h8]; exact hpl), by rw [hdv, divS_class (by omega) (by omega) hc32 hcl, List.append_assoc]; rw [show pp = (⟨false, pp.ws⟩ : Part) from by cases pp; simp only at hps; rw [hps]]; rfl, by rw [List.length_append, List.length_singleton, ← parts_snoc]; exact (hv.kp [] 1 2)⟩
      case measure => show p.length - ((j : Nat) : Int).toNat < p.length - ((i : Int)).toNat; omega
     refine uM rfl (uE rfl ?_)
     refine uE rfl (uE rfl ?_)
     refine sl_alloc tV (wn rfl) rfl hv gdal191 (fun b47 w48 hv => ?_)
     simp only [zP, po]
     refine xS 0 rfl hv glsz191 rfl (by exact ⟨rfl, rfl, rfl, rfl, rfl, trivial⟩) (fun w49 hv => ?_)
     simp only [zO] at hv
     refine uA rfl (uA rfl ?_)
     refine uW k33 (sK fun _ k50 => ?_)
     refine sK fun _ k51 => rL (uM rfl ?_)
     refine uG (.bool true) rfl (ex_not rfl rfl rfl) (uW k51 ?_)
     refine cT rfl (sK fun _ k52 => ?_)
     refine rL (uA rfl ?_)
     refine uW k52 (sK fun _ k53 => ?_)
     refine rL (uM rfl ?_)
     refine uM rfl ?_
     refine xC gdcallable104 rfl ((globOne B _ _ (chr p (i)) (chr_lt p _) hv).mono ?_) rfl
     rintro e w54 ⟨rfl, hv⟩
     refine ⟨_, rfl, ?_⟩
     simp only [zP, po]
     refine sl_rowAgg (L := [.bool ((oneP (chr p (i))).star), wv ((oneP (chr p (i))).ws.getD 0 0#64), wv ((oneP (chr p (i))).ws.getD 1 0#64), wv ((oneP (chr p (i))).ws.getD 2 0#64), wv ((oneP (chr p (i))).ws.getD 3 0#64)]) tV (wn rfl) rfl rfl hv gdel185 rfl (by decide) (fun b55 w56 hv => ?_)
     simp only [zP, po]
     replace hv := hv.front 2 rfl
     simp only [eS, eZ] at hv
     refine sl_append (news := [.bool ((oneP (chr p (i))).star), wv ((oneP (chr p (i))).ws.getD 0 0#64), wv ((oneP (chr p (i))).ws.getD 1 0#64), wv ((oneP (chr p (i))).ws.getD 2 0#64), wv ((oneP (chr p (i))).ws.getD 3 0#64)]) tV (wn rfl) rfl rfl rfl gdel185 hv (ok_full (by omega)) rfl (rd_all (hv.get 1 rfl)) (by intro u hu; simp only [List.mem_cons, List.not_mem_nil, or_false] at hu; rcases hu with rfl | rfl | rfl | rfl | rfl <;> rfl) (by unfold maxLen; omega) (by omega) (fun rv57 w60 hv => ?_)
     obtain ⟨ra58, rc59, rfl⟩ := row_slice hv.head
     refine uA rfl (uW k53 ?_)
     refine xE (tX ?_)
     refine bH (bN ?_)
     refine then_normal ?_
     go_roundw
     case rel => exact ⟨i + 1, q ++ [oneP (chr p (i))], false, _, _, by rw [List.length_append, List.length_singleton], rfl, rfl, by omega, by rw [List.length_append, List.length_singleton]; omega, fun x9 h9 => (List.mem_append.1 h9).elim (hpo x9) (fun h8 => by rw [List.mem_singleton.1 h8]; exact addW_len), by rw [hdv, divS_none (by omega) (by omega) hc32 hcl, List.append_assoc]; rfl, by rw [List.length_append, List.length_singleton, ← parts_snoc]; exact (hv.kp [] 1 2)⟩
     case measure => show p.length - ((i + 1 : Nat) : Int).toNat < p.length - ((i : Int)).toNat; omega
    refine sK fun _ k61 => rL (uM rfl ?_)
    by_cases hb62 : (chr p (i) : Int) = 92
    ·refine uG (.bool true) rfl (ex_eql rfl rfl rfl (qT hb62)) (uM rfl ?_)
     refine uM rfl ?_
     refine uM rfl ?_
     refine uG (vI (p.length : Int)) rfl (ex_lenStr Tryz.underlying9 rfl rfl) ?_
     by_cases hb63 : ((i + 1 : Nat) : Int) < (p.length : Int)
     ·refine uG (.bool true) rfl (ex_lss rfl rfl rfl (qT hb63)) (uK rfl ?_)
      refine uA rfl (uW k61 ?_)
      refine cT rfl (sK fun _ k64 => ?_)
      refine rL (uM rfl ?_)
      refine uM rfl (uM rfl ?_)
      obtain ⟨y65, hy65⟩ : ∃ y, p[i + 1]? = some y := ⟨_, List.getElem?_eq_getElem (show i + 1 < p.length by omega)⟩
      have hy65c := chr_at hy65
      refine uG (.int .u8 (chr p (i + 1) : Int)) rfl ((by rw [hy65c]; exact ex_sidx0 Tryz.underlying9 rfl rfl rfl hy65)) ?_
      refine xC gdcallable104 rfl ((globOne B _ _ (chr p (i + 1)) (chr_lt p _) hv).mono ?_) rfl
      rintro e w66 ⟨rfl, hv⟩
      refine ⟨_, rfl, ?_⟩
      simp only [zP, po]
      refine sl_rowAgg (L := [.bool ((oneP (chr p (i + 1))).star), wv ((oneP (chr p (i + 1))).ws.getD 0 0#64), wv ((oneP (chr p (i + 1))).ws.getD 1 0#64), wv ((oneP (chr p (i + 1))).ws.getD 2 0#64), wv ((oneP (chr p (i + 1))).ws.getD 3 0#64)]) tV (wn rfl) rfl rfl hv gdel185 rfl (by decide) (fun b67 w68 hv => ?_)
      simp only [zP, po]
      replace hv := hv.front 1 rfl
      simp only [eS, eZ] at hv
      refine sl_append (news := [.bool ((oneP (chr p (i + 1))).star), wv ((oneP (chr p (i + 1))).ws.getD 0 0#64), wv ((oneP (chr p (i + 1))).ws.getD 1 0#64), wv ((oneP (chr p (i + 1))).ws.getD 2 0#64), wv ((oneP (chr p (i + 1))).ws.getD 3 0#64)]) tV (wn rfl) rfl rfl rfl gdel185 hv (ok_full (by omega)) rfl (rd_all (hv.get 1 rfl)) (by intro u hu; simp only [List.mem_cons, List.not_mem_nil, or_false] at hu; rcases hu with rfl | rfl | rfl | rfl | rfl <;> rfl) (by unfold maxLen; omega) (by omega) (fun rv69 w72 hv => ?_)
      obtain ⟨ra70, rc71, rfl⟩ := row_slice hv.head
      refine uA rfl (uW k64 ?_)
      refine rL (uM rfl ?_)
      refine uG (vI (((i + 1 : Nat) + 1 : Nat) : Int)) rfl (ex_add rfl rfl rfl (by rw [i64_in (by omega)]; omega)) (uA rfl ?_)
      refine uZ (bN ?_)
      refine bN (then_normal ?_)
      go_roundw
      case rel => exact ⟨i + 2, q ++ [oneP (chr p (i + 1))], e, _, _, by rw [List.length_append, List.length_singleton], rfl, rfl, by omega, by rw [List.length_append, List.length_singleton]; omega, fun x9 h9 => (List.mem_append.1 h9).elim (hpo x9) (fun h8 => by rw [List.mem_singleton.1 h8]; exact addW_len), by rw [hdv, divS_quote (by omega) (by omega) (by omega), List.append_assoc]; rfl, by rw [List.length_append, List.length_singleton, ← parts_snoc]; exact (hv.kp [] 1 1)⟩
      case measure => show p.length - ((i + 2 : Nat) : Int).toNat < p.length - ((i : Int)).toNat; omega
     refine uG (.bool false) rfl (ex_lss rfl rfl rfl (qF hb63)) (uK rfl ?_)
     refine uA rfl (uW k61 ?_)
     refine cF rfl (rL ?_)
     refine uM rfl (uM rfl ?_)
     refine xC gdcallable104 rfl ((globOne B _ _ (chr p (i)) (chr_lt p _) hv).mono ?_) rfl
     rintro e w73 ⟨rfl, hv⟩
     refine ⟨_, rfl, ?_⟩
     simp only [zP, po]
     refine sl_rowAgg (L := [.bool ((oneP (chr p (i))).star), wv ((oneP (chr p (i))).ws.getD 0 0#64), wv ((oneP (chr p (i))).ws.getD 1 0#64), wv ((oneP (chr p (i))).ws.getD 2 0#64), wv ((oneP (chr p (i))).ws.getD 3 0#64)]) tV (wn rfl) rfl rfl hv gdel185 rfl (by decide) (fun b74 w75 hv => ?_)
     simp only [zP, po]
     replace hv := hv.front 1 rfl
     simp only [eS, eZ] at hv
     refine sl_append (news := [.bool ((oneP (chr p (i))).star), wv ((oneP (chr p (i))).ws.getD 0 0#64), wv ((oneP (chr p (i))).ws.getD 1 0#64), wv ((oneP (chr p (i))).ws.getD 2 0#64), wv ((oneP (chr p (i))).ws.getD 3 0#64)]) tV (wn rfl) rfl rfl rfl gdel185 hv (ok_full (by omega)) rfl (rd_all (hv.get 1 rfl)) (by intro u hu; simp only [List.mem_cons, List.not_mem_nil, or_false] at hu; rcases hu with rfl | rfl | rfl | rfl | rfl <;> rfl) (by unfold maxLen; omega) (by omega) (fun rv76 w79 hv => ?_)
     obtain ⟨ra77, rc78, rfl⟩ := row_slice hv.head
     refine uA rfl (uZ ?_)
     refine bN (bN ?_)
     refine then_normal ?_
     go_roundw
     case rel => exact ⟨i + 1, q ++ [oneP (chr p (i))], e, _, _, by rw [List.length_append, List.length_singleton], rfl, rfl, by omega, by rw [List.length_append, List.length_singleton]; omega, fun x9 h9 => (List.mem_append.1 h9).elim (hpo x9) (fun h8 => by rw [List.mem_singleton.1 h8]; exact addW_len), by rw [hdv, divS_one (by omega) (by omega) (by omega) (fun h9 => by rw [hc32] at h9; exact absurd h9.2 (by decide)) (fun h9 => by omega), List.append_assoc]; rfl, by rw [List.length_append, List.length_singleton, ← parts_snoc]; exact (hv.kp [] 1 1)⟩
     case measure => show p.length - ((i + 1 : Nat) : Int).toNat < p.length - ((i : Int)).toNat; omega
    refine uG (.bool false) rfl (ex_eql rfl rfl rfl (qF hb62)) (uM rfl ?_)
    iterate 4 refine uP rfl ?_
    refine uK rfl (uA rfl ?_)
    refine uW k61 (cF rfl ?_)
    refine rL (uM rfl ?_)
    refine uM rfl ?_
    refine xC gdcallable104 rfl ((globOne B _ _ (chr p (i)) (chr_lt p _) hv).mono ?_) rfl
    rintro e w80 ⟨rfl, hv⟩
    refine ⟨_, rfl, ?_⟩
    simp only [zP, po]
    refine sl_rowAgg (L := [.bool ((oneP (chr p (i))).star), wv ((oneP (chr p (i))).ws.getD 0 0#64), wv ((oneP (chr p (i))).ws.getD 1 0#64), wv ((oneP (chr p (i))).ws.getD 2 0#64), wv ((oneP (chr p (i))).ws.getD 3 0#64)]) tV (wn rfl) rfl rfl hv gdel185 rfl (by decide) (fun b81 w82 hv => ?_)
    simp only [zP, po]
    replace hv := hv.front 1 rfl
    simp only [eS, eZ] at hv
    refine sl_append (news := [.bool ((oneP (chr p (i))).star), wv ((oneP (chr p (i))).ws.getD 0 0#64), wv ((oneP (chr p (i))).ws.getD 1 0#64), wv ((oneP (chr p (i))).ws.getD 2 0#64), wv ((oneP (chr p (i))).ws.getD 3 0#64)]) tV (wn rfl) rfl rfl rfl gdel185 hv (ok_full (by omega)) rfl (rd_all (hv.get 1 rfl)) (by intro u hu; simp only [List.mem_cons, List.not_mem_nil, or_false] at hu; rcases hu with rfl | rfl | rfl | rfl | rfl <;> rfl) (by unfold maxLen; omega) (by omega) (fun rv83 w86 hv => ?_)
    obtain ⟨ra84, rc85, rfl⟩ := row_slice hv.head
    refine uA rfl (uZ ?_)
    refine bN (bN ?_)
    refine then_normal ?_
    go_roundw
    case rel => exact ⟨i + 1, q ++ [oneP (chr p (i))], e, _, _, by rw [List.length_append, List.length_singleton], rfl, rfl, by omega, by rw [List.length_append, List.length_singleton]; omega, fun x9 h9 => (List.mem_append.1 h9).elim (hpo x9) (fun h8 => by rw [List.mem_singleton.1 h8]; exact addW_len), by rw [hdv, divS_one (by omega) (by omega) (by omega) (fun h9 => by rw [hc32] at h9; exact absurd h9.2 (by decide)) (fun h9 => by omega), List.append_assoc]; rfl, by rw [List.length_append, List.length_singleton, ← parts_snoc]; exact (hv.kp [] 1 1)⟩
    case measure => show p.length - ((i + 1 : Nat) : Int).toNat < p.length - ((i : Int)).toNat; omega
   refine uG (.bool false) rfl (ex_eql rfl rfl rfl (qF hb31)) (uM rfl ?_)
   refine uP rfl (uK rfl ?_)
   refine uA rfl (uW k30 ?_)
   refine cF rfl (sK fun _ k87 => ?_)
   refine rL (uM rfl ?_)
   by_cases hb88 : (chr p (i) : Int) = 92
   ·refine uG (.bool true) rfl (ex_eql rfl rfl rfl (qT hb88)) (uM rfl ?_)
    refine uM rfl ?_
    refine uM rfl ?_
    refine uG (vI (p.length : Int)) rfl (ex_lenStr Tryz.underlying9 rfl rfl) ?_
    by_cases hb89 : ((i + 1 : Nat) : Int) < (p.length : Int)
    ·refine uG (.bool true) rfl (ex_lss rfl rfl rfl (qT hb89)) (uK rfl ?_)
     refine uA rfl (uW k87 ?_)
     refine cT rfl (sK fun _ k90 => ?_)
     refine rL (uM rfl ?_)
     refine uM rfl (uM rfl ?_)
     obtain ⟨y91, hy91⟩ : ∃ y, p[i + 1]? = some y := ⟨_, List.getElem?_eq_getElem (show i + 1 < p.length by omega)⟩
     have hy91c := chr_at hy91
     refine uG (.int .u8 (chr p (i + 1) : Int)) rfl ((by rw [hy91c]; exact ex_sidx0 Tryz.underlying9 rfl rfl rfl hy91)) ?_
     refine xC gdcallable104 rfl ((globOne B _ _ (chr p (i + 1)) (chr_lt p _) hv).mono ?_) rfl
     rintro e w92 ⟨rfl, hv⟩
     refine ⟨_, rfl, ?_⟩
     simp only [zP, po]
     refine sl_rowAgg (L := [.bool ((oneP (chr p (i + 1))).star), wv ((oneP (chr p (i + 1))).ws.getD 0 0#64), wv ((oneP (chr p (i + 1))).ws.getD 1 0#64), wv ((oneP (chr p (i + 1))).ws.getD 2 0#64), wv ((oneP (chr p (i + 1))).ws.getD 3 0#64)]) tV (wn rfl) rfl rfl hv gdel185 rfl (by decide) (fun b93 w94 hv => ?_)
     simp only [zP, po]
     replace hv := hv.front 1 rfl
     simp only [eS, eZ] at hv
     refine sl_append (news := [.bool ((oneP (chr p (i + 1))).star), wv ((oneP (chr p (i + 1))).ws.getD 0 0#64), wv ((oneP (chr p (i + 1))).ws.getD 1 0#64), wv ((oneP (chr p (i + 1))).ws.getD 2 0#64), wv ((oneP (chr p (i + 1))).ws.getD 3 0#64)]) tV (wn rfl) rfl rfl rfl gdel185 hv (ok_full (by omega)) rfl (rd_all (hv.get 1 rfl)) (by intro u hu; simp only [List.mem_cons, List.not_mem_nil, or_false] at hu; rcases hu with rfl | rfl | rfl | rfl | rfl <;> rfl) (by unfold maxLen; omega) (by omega) (fun rv95 w98 hv => ?_)
     obtain ⟨ra96, rc97, rfl⟩ := row_slice hv.head
     refine uA rfl (uW k90 ?_)
     refine rL (uM rfl ?_)
     refine uG (vI (((i + 1 : Nat) + 1 : Nat) : Int)) rfl (ex_add rfl rfl rfl (by rw [i64_in (by omega)]; omega)) (uA rfl ?_)
     refine uZ (bN ?_)
     refine bN (then_normal ?_)
     go_roundw
     case rel => exact ⟨i + 2, q ++ [oneP (chr p (i + 1))], e, _, _, by rw [List.length_append, List.length_singleton], rfl, rfl, by omega, by rw [List.length_append, List.length_singleton]; omega, fun x9 h9 => (List.mem_append.1 h9).elim (hpo x9) (fun h8 => by rw [List.mem_singleton.1 h8]; exact addW_len), by rw [hdv, divS_quote (by omega) (by omega) (by omega), List.append_assoc]; rfl, by rw [List.length_append, List.length_singleton, ← parts_snoc]; exact (hv.kp [] 1 1)⟩
     case measure => show p.length - ((i + 2 : Nat) : Int).toNat < p.length - ((i : Int)).toNat; omega
    refine uG (.bool false) rfl (ex_lss rfl rfl rfl (qF hb89)) (uK rfl ?_)
    refine uA rfl (uW k87 ?_)
    refine cF rfl (rL ?_)
    refine uM rfl (uM rfl ?_)
    refine xC gdcallable104 rfl ((globOne B _ _ (chr p (i)) (chr_lt p _) hv).mono ?_) rfl
    rintro e w99 ⟨rfl, hv⟩
    refine ⟨_, rfl, ?_⟩
    simp only [zP, po]
    refine sl_rowAgg (L := [.bool ((oneP (chr p (i))).star), wv ((oneP (chr p (i))).ws.getD 0 0#64), wv ((oneP (chr p (i))).ws.getD 1 0#64), wv ((oneP (chr p (i))).ws.getD 2 0#64), wv ((oneP (chr p (i))).ws.getD 3 0#64)]) tV (wn rfl) rfl rfl hv gdel185 rfl (by decide) (fun b100 w101 hv => ?_)
    simp only [zP, po]
    replace hv := hv.front 1 rfl
    simp only [eS, eZ] at hv
    refine sl_append (news := [.bool ((oneP (chr p (i))).star), wv ((oneP (chr p (i))).ws.getD 0 0#64), wv ((oneP (chr p (i))).ws.getD 1 0#64), wv ((oneP (chr p (i))).ws.getD 2 0#64), wv ((oneP (chr p (i))).ws.getD 3 0#64)]) tV (wn rfl) rfl rfl rfl gdel185 hv (ok_full (by omega)) rfl (rd_all (hv.get 1 rfl)) (by intro u hu; simp only [List.mem_cons, List.not_mem_nil, or_false] at hu; rcases hu with rfl | rfl | rfl | rfl | rfl <;> rfl) (by unfold maxLen; omega) (by omega) (fun rv102 w105 hv => ?_)
    obtain ⟨ra103, rc104, rfl⟩ := row_slice hv.head
    refine uA rfl (uZ ?_)
    refine bN (bN ?_)
    refine then_normal ?_
    go_roundw
    case rel => exact ⟨i + 1, q ++ [oneP (chr p (i))], e, _, _, by rw [List.length_append, List.length_singleton], rfl, rfl, by omega, by rw [List.length_append, List.length_singleton]; omega, fun x9 h9 => (List.mem_append.1 h9).elim (hpo x9) (fun h8 => by rw [List.mem_singleton.1 h8]; exact addW_len), by rw [hdv, divS_one (by omega) (by omega) (by omega) (fun h9 => by omega) (fun h9 => by omega), List.append_assoc]; rfl, by rw [List.length_append, List.length_singleton, ← parts_snoc]; exact (hv.kp [] 1 1)⟩
    case measure => show p.length - ((i + 1 : Nat) : Int).toNat < p.length - ((i : Int)).toNat; omega
   refine uG (.bool false) rfl (ex_eql rfl rfl rfl (qF hb88)) (uM rfl ?_)
   iterate 4 refine uP rfl ?_
   refine uK rfl (uA rfl ?_)
   refine uW k87 (cF rfl ?_)
   refine rL (uM rfl ?_)
   refine uM rfl ?_
   refine xC gdcallable104 rfl ((globOne B _ _ (chr p (i)) (chr_lt p _) hv).mono ?_) rfl
   rintro e w106 ⟨rfl, hv⟩
   refine ⟨_, rfl, ?_⟩
   simp only [zP, po]
   refine sl_rowAgg (L := [.bool ((oneP (chr p (i))).star), wv ((oneP (chr p (i))).ws.getD 0 0#64), wv ((oneP (chr p (i))).ws.getD 1 0#64), wv ((oneP (chr p (i))).ws.getD 2 0#64), wv ((oneP (chr p (i))).ws.getD 3 0#64)]) tV (wn rfl) rfl rfl hv gdel185 rfl (by decide) (fun b107 w108 hv => ?_)
   simp only [zP, po]
   replace hv := hv.front 1 rfl
   simp only [eS, eZ] at hv
   refine sl_append (news := [.bool ((oneP (chr p (i))).star), wv ((oneP (chr p (i))).ws.getD 0 0#64), wv ((oneP (chr p (i))).ws.getD 1 0#64), wv ((oneP (chr p (i))).ws.getD 2 0#64), wv ((oneP (chr p (i))).ws.getD 3 0#64)]) tV (wn rfl) rfl rfl rfl gdel185 hv (ok_full (by omega)) rfl (rd_all (hv.get 1 rfl)) (by intro u hu; simp only [List.mem_cons, List.not_mem_nil, or_false] at hu; rcases hu with rfl | rfl | rfl | rfl | rfl <;> rfl) (by unfold maxLen; omega) (by omega) (fun rv109 w112 hv => ?_)
   obtain ⟨ra110, rc111, rfl⟩ := row_slice hv.head
   refine uA rfl (uZ ?_)
   refine bN (bN ?_)
   refine then_normal ?_
   go_roundw
   case rel => exact ⟨i + 1, q ++ [oneP (chr p (i))], e, _, _, by rw [List.length_append, List.length_singleton], rfl, rfl, by omega, by rw [List.length_append, List.length_singleton]; omega, fun x9 h9 => (List.mem_append.1 h9).elim (hpo x9) (fun h8 => by rw [List.mem_singleton.1 h8]; exact addW_len), by rw [hdv, divS_one (by omega) (by omega) (by omega) (fun h9 => by omega) (fun h9 => by omega), List.append_assoc]; rfl, by rw [List.length_append, List.length_singleton, ← parts_snoc]; exact (hv.kp [] 1 1)⟩
   case measure => show p.length - ((i + 1 : Nat) : Int).toNat < p.length - ((i : Int)).toNat; omega
  refine uG (.bool false) rfl (ex_lss rfl rfl rfl (qF hb9)) (uW k8 ?_)
  refine cF rfl (xE ?_)
  refine tX (tX ?_)
  refine bH (tK k4 ?_)
  refine sK fun _ k113 => rL (uM rfl ?_)
  refine uA rfl (uW k113 ?_)
  refine rR (bR rfl rfl ?_)
  obtain rfl : i = p.length := by omega
  rw [divS_end (ended := e) (i := p.length) (by omega), List.append_nil] at hdv
  obtain ⟨D, hD, hv, hro, hoko, -⟩ := (hv).rowBy
  exact ⟨D, ra, rc, q, hD, rfl, hdv, hq, hpo, hoko, hro, hv⟩
theorem part_words {B : Base} {b off : Nat} {x : Part} (hl : x.ws.length = 4) (h : Reads B [] b off (partC x)) : Reads B [] b (off + 1) (wordsV x.ws) := fun C K w hB hR hv j v hj => by
 rw [← partF_eq hl] at h
 have := h C K w hB hR hv (j + 1) v (by rw [← hj]; rfl)
 rw [show off + (j + 1) = off + 1 + j by omega] at this
 exact this
theorem gdcallable95 : Callable Tryz.prog 95 := cb Tryz.func95 (by kernel_rfl)
theorem gdes185 (w : World) : (sizeOf (Tryz.prog.elem 185)).run Tryz.prog w = .ok 5 w := by kernel_rfl
theorem gdfa191_0 : FA Tryz.prog 191 0 0 := fun w b o => by kernel_rfl
theorem gdna4 (w : World) : (isAgg 4).run Tryz.prog w = .ok false w := by kernel_rfl
theorem gdcallable96 : Callable Tryz.prog 96 := cb Tryz.func96 (by kernel_rfl)
theorem globMatch (B : Base) (H : List Res) (w : World) (p : List UInt8) (hp : p.length ≤ 1000000) (s : List UInt8) (hs : s.length ≤ 1000000) (hv : Inv B H w) :
  Calls Tryz.prog 85 #[vS p, vS s] w fun e' w' => ∃ b, e' = .returned (.bool b) ∧ (b = true ↔ MatchP (divS p true 0) s) ∧ Inv B H w' := by
 refine cW Tryz.func85 rfl Tryz.ntmps85 ?_
 simp only [al]
 refine sK fun _ k1 => rL (uA rfl ?_)
 refine uW k1 (sK fun _ k2 => ?_)
 refine rL (uM rfl ?_)
 refine xC gdcallable95 rfl ((globDivide B _ _ p hp hv).mono ?_) rfl
 rintro e w3 ⟨D, ra, rc, q, hD, rfl, hdv, hql, hpo, hoko, hrq, hv⟩
 refine ⟨_, rfl, ?_⟩
 have hS : s.length ≤ 1000000 := hs
 refine uA rfl (uW k2 ?_)
 refine sK fun _ k4 => rL (uA rfl ?_)
 refine uA rfl (uW k4 ?_)
 refine sK fun _ k5 => rL (uA rfl ?_)
 refine uA rfl (uW k5 ?_)
 refine sK fun _ k6 => bB ?_
 gi_loopw [6, 7, 8, 9] (fun x6 x7 x8 x9 wr => ∃ (now i st fr : Nat), x6 = vI now ∧ x7 = vI i ∧ x8 = vI ((st : Int) - 1) ∧ x9 = vI fr ∧ GInv q s now i st fr ∧ fr ≤ i ∧ Inv D H wr) (fun x6 x7 x8 x9 _ => ((q.length + 1 - (intOf x8 + 1).toNat) * (s.length + 1) + (s.length - (intOf x9).toNat)) * (s.length + 1) + (s.length - (intOf x7).toNat))
 case atStart => exact ⟨0, 0, 0, 0, rfl, rfl, rfl, rfl, GInv.start, Nat.le_refl _, hv⟩
 case round =>
  obtain ⟨now, i, st, fr, rfl, rfl, rfl, rfl, hgi, hfi, hv⟩ := hrel
  have hn1 := hgi.n1
  have hn2 := hgi.n2
  have hn3 := hgi.n3
  have hn4 := hgi.n4
  refine sK fun _ k8 => sK fun _ k9 => rL (uM rfl ?_)
  refine uM rfl ?_
  refine uG (vI (s.length : Int)) rfl (ex_lenStr Tryz.underlying9 rfl rfl) ?_
  by_cases hb10 : (i : Int) < (s.length : Int)
  ·refine uG (.bool true) rfl (ex_lss rfl rfl rfl (qT hb10)) (uW k9 ?_)
   refine cT rfl (kS ?_)
   refine tK k8 (bB ?_)
   refine bB (sK fun _ k11 => ?_)
   refine rL (uM rfl ?_)
   refine uM rfl ?_
   refine uG (vI (q.length : Int)) rfl (ex_len0 Tryz.underlying185 rfl rfl) ?_
   by_cases hb12 : (now : Int) < (q.length : Int)
   ·refine uG (.bool true) rfl (ex_lss rfl rfl rfl (qT hb12)) (uM rfl ?_)
    refine uM rfl ?_
    refine uM rfl ?_
    obtain ⟨x, hx⟩ : ∃ x, q[now]? = some x := ⟨_, List.getElem?_eq_getElem (by omega)⟩
    obtain ⟨bb, bo, had, hrdx⟩ := part_reads hrq hx
    subst had
    have hxl := hpo x (List.mem_of_getElem? hx)
    refine uG (.pointer (some ⟨bb, bo + now * 5, none⟩)) rfl (ex_index rfl rfl rfl (run_idx (k := now) Tryz.underlying185 gdes185 (by omega))) ?_
    refine uF (.pointer (some ⟨bb, bo + now * 5, none⟩)) rfl (gdfa191_0 _ _ _) ?_
    refine uL _ rfl (run_load1 gdna4 (hrdx _ _ _ (Base.Le.refl _) no_res hv 0 _ rfl)) (uK rfl ?_)
    refine uA rfl (uW k11 ?_)
    refine wpIn_cond_split (t := x.star) rfl (fun hc13 => ?_) (fun hc13 => ?_)
    ·refine sK fun _ k14 => ?_
     have hxs : x.star = true := hc13
     refine rL (uM rfl ?_)
     refine uM rfl (uA rfl ?_)
     refine uA rfl (uW k14 ?_)
     refine rL (uM rfl ?_)
     refine uG (vI ((now + 1 : Nat) : Int)) rfl (ex_add rfl rfl rfl (by rw [i64_in (by omega)]; omega)) (uA rfl ?_)
     refine uZ (bN ?_)
     refine bN (then_normal ?_)
     go_roundw
     case rel => exact ⟨now + 1, i, now + 1, i, rfl, rfl, by congr 1; omega, rfl, hgi.star hx hxs, by omega, hv⟩
     case measure => show ((q.length + 1 - ((now : Int) + 1).toNat) * (s.length + 1) + (s.length - ((i : Int)).toNat)) * (s.length + 1) + (s.length - ((i : Int)).toNat) < ((q.length + 1 - (((st : Int) - 1) + 1).toNat) * (s.length + 1) + (s.length - ((fr : Int)).toNat)) * (s.length + 1) + (s.length - ((i : Int)).toNat); have hn1 := hgi.n1; have hn2 := hgi.n2; have hn3 := hgi.n3; refine lex3 (by omega) (by omega) ?_; omega
    refine sK fun _ k15 => rW mixed [12] [0,1,2,3,4,5,6,7,8,9,10,11,12,13,14] 76 rfl (by kernel_rfl) hv ?_
    simp only [qm, opAt]
    refine dM (vI now) rfl (dM (.slice (some ⟨bb, bo, none⟩) q.length rc) rfl ?_)
    refine dG (vI (q.length : Int)) rfl (ex_len0 Tryz.underlying185 rfl rfl) ?_
    simp only [zP, po]
    refine dG (.bool true) rfl (ex_lss rfl rfl rfl (qT hb12)) (dM (.bool true) rfl ?_)
    refine dM (.slice (some ⟨bb, bo, none⟩) q.length rc) rfl ?_
    simp only [zP, po]
    refine dM (vI now) rfl (dG (.pointer (some ⟨bb, bo + now * 5, none⟩)) rfl (ex_index rfl rfl rfl (run_idx (k := now) Tryz.underlying185 gdes185 (by omega))) ?_)
    refine dG (.pointer (some ⟨bb, bo + now * 5 + 1, none⟩)) rfl (ex_field rfl rfl (glfa191_1 _ _ _)) ?_
    simp only [zP, po]
    refine dM (vS s) rfl (dM (vI i) rfl ?_)
    obtain ⟨y16, hy16⟩ : ∃ y, s[i]? = some y := ⟨_, List.getElem?_eq_getElem (show i < s.length by omega)⟩
    have hy16c := chr_at hy16
    refine dG (.int .u8 (chr s (i) : Int)) rfl ((by rw [hy16c]; exact ex_sidx0 Tryz.underlying9 rfl rfl rfl hy16)) ?_
    simp only [zP, po]
    refine dS rfl fun w17 hv => mC gdcallable96 rfl ((setHasC D _ _ bb (bo + now * 5 + 1) x.ws hxl (part_words hxl hrdx) (chr s i) (chr_lt s _) hv).mono ?_) rfl
    rintro e w18 ⟨rfl, hv⟩
    refine ⟨_, rfl, dW hv ?_⟩
    refine dK true (.bool (hasW x.ws (chr s i))) rfl (dA (.bool (hasW x.ws (chr s i))) rfl ?_)
    refine dE fun w19 hv => ?_
    simp only [zP, po]
    refine tK k15 (wpIn_cond_split (t := hasW x.ws (chr s i)) rfl (fun hc20 => ?_) (fun hc20 => ?_))
    ·refine sK fun _ k21 => ?_
     have hxs := hc13
     have hyc9 := hy16
     have hxb : hasW x.ws y16.toNat = true := by rw [← hy16c]; exact hc20
     refine rL (uM rfl ?_)
     refine uG (vI ((now + 1 : Nat) : Int)) rfl (ex_add rfl rfl rfl (by rw [i64_in (by omega)]; omega)) (uA rfl ?_)
     refine uW k21 (rL ?_)
     refine uM rfl ?_
     refine uG (vI ((i + 1 : Nat) : Int)) rfl (ex_add rfl rfl rfl (by rw [i64_in (by omega)]; omega)) (uA rfl ?_)
     refine uZ (bN ?_)
     refine bN (then_normal ?_)
     go_roundw
     case rel => exact ⟨now + 1, i + 1, st, fr, rfl, rfl, rfl, rfl, hgi.byte hx hxs hyc9 hxb, by omega, hv⟩
     case measure => show ((q.length + 1 - (((st : Int) - 1) + 1).toNat) * (s.length + 1) + (s.length - ((fr : Int)).toNat)) * (s.length + 1) + (s.length - (((i + 1 : Nat) : Int)).toNat) < ((q.length + 1 - (((st : Int) - 1) + 1).toNat) * (s.length + 1) + (s.length - ((fr : Int)).toNat)) * (s.length + 1) + (s.length - ((i : Int)).toNat); have hn1 := hgi.n1; have hn2 := hgi.n2; have hn3 := hgi.n3; refine lex3 (by omega) (by omega) ?_; omega
    refine sK fun _ k22 => ?_
    obtain ⟨y9, hyc9⟩ : ∃ y, s[i]? = some y := ⟨_, List.getElem?_eq_getElem (show i < s.length by omega)⟩
    have hycc := chr_at hyc9
    have hno : ∀ x9, q[now]? = some x9 → x9.star = false ∧ hasW x9.ws y9.toNat = false := fun x9 h9 => by
     rw [hx] at h9; cases h9
     exact ⟨hc13, by rw [← hycc]; exact hc20⟩
    refine rL (uM rfl ?_)
    by_cases hb23 : ((st : Int) - 1) ≥ 0
    ·refine uG (.bool true) rfl (ex_geq rfl rfl rfl (qT hb23)) (uA rfl ?_)
     refine uW k22 (cT rfl ?_)
     refine sK fun _ k24 => rL (uM rfl ?_)
     refine uG (vI ((fr + 1 : Nat) : Int)) rfl (ex_add rfl rfl rfl (by rw [i64_in (by omega)]; omega)) (uA rfl ?_)
     refine uW k24 (rL ?_)
     refine uM rfl ?_
     refine uG (vI st) rfl (ex_add rfl rfl rfl (by rw [i64_in (by omega)]; omega)) (uM rfl ?_)
     refine uA rfl (uA rfl ?_)
     refine uZ (bN ?_)
     refine bN (then_normal ?_)
     go_roundw
     case rel => exact ⟨st, fr + 1, st, fr + 1, rfl, rfl, rfl, rfl, hgi.back (by omega) hyc9 hno, by omega, hv⟩
     case measure => show ((q.length + 1 - (((st : Int) - 1) + 1).toNat) * (s.length + 1) + (s.length - (((fr + 1 : Nat) : Int)).toNat)) * (s.length + 1) + (s.length - (((fr + 1 : Nat) : Int)).toNat) < ((q.length + 1 - (((st : Int) - 1) + 1).toNat) * (s.length + 1) + (s.length - ((fr : Int)).toNat)) * (s.length + 1) + (s.length - ((i : Int)).toNat); have hn1 := hgi.n1; have hn2 := hgi.n2; have hn3 := hgi.n3; refine lex3 (by omega) (by omega) ?_; omega
    refine uG (.bool false) rfl (ex_geq rfl rfl rfl (qF hb23)) (uA rfl ?_)
    refine uW k22 (cF rfl ?_)
    refine sK fun _ k25 => rL (uA rfl ?_)
    refine uW k25 (rR ?_)
    refine bZ (bZ ?_)
    refine tR (bZ ?_)
    refine tR (bR rfl rfl ?_)
    subst hdv
    exact ⟨false, rfl, ⟨fun h => (by cases h), fun h => absurd h (hgi.fail (by omega) hyc9 hno)⟩, hv.weak hD⟩
   refine uG (.bool false) rfl (ex_lss rfl rfl rfl (qF hb12)) (uM rfl ?_)
   iterate 5 refine uP rfl ?_
   refine uK rfl (uA rfl ?_)
   refine uW k11 (cF rfl ?_)
   refine sK fun _ k26 => rW mixed [12] [0,1,2,3,4,5,6,7,8,9,10,11,12,13,14] 76 rfl (by kernel_rfl) hv ?_
   simp only [qm, opAt]
   refine dM (vI now) rfl (dM (.slice ra q.length rc) rfl ?_)
   refine dG (vI (q.length : Int)) rfl (ex_len0 Tryz.underlying185 rfl rfl) ?_
   simp only [zP, po]
   refine dG (.bool false) rfl (ex_lss rfl rfl rfl (qF hb12)) (dM (.bool false) rfl ?_)
   refine dP rfl ?_
   simp only [zP, po]
   refine dP rfl (dP rfl ?_)
   refine dP rfl ?_
   simp only [zP, po]
   refine dP rfl (dP rfl ?_)
   refine dP rfl ?_
   simp only [zP, po]
   refine dP rfl (dK false (.bool false) rfl ?_)
   refine dA (.bool false) rfl (dE fun w27 hv => ?_)
   simp only [zP, po]
   refine tK k26 (cF rfl ?_)
   refine sK fun _ k28 => ?_
   obtain ⟨y9, hyc9⟩ : ∃ y, s[i]? = some y := ⟨_, List.getElem?_eq_getElem (show i < s.length by omega)⟩
   have hycc := chr_at hyc9
   have hno : ∀ x9, q[now]? = some x9 → x9.star = false ∧ hasW x9.ws y9.toNat = false := fun x9 h9 => by have := (List.getElem?_eq_some_iff.1 h9).1; omega
   refine rL (uM rfl ?_)
   by_cases hb29 : ((st : Int) - 1) ≥ 0
   ·refine uG (.bool true) rfl (ex_geq rfl rfl rfl (qT hb29)) (uA rfl ?_)
    refine uW k28 (cT rfl ?_)
    refine sK fun _ k30 => rL (uM rfl ?_)
    refine uG (vI ((fr + 1 : Nat) : Int)) rfl (ex_add rfl rfl rfl (by rw [i64_in (by omega)]; omega)) (uA rfl ?_)
    refine uW k30 (rL ?_)
    refine uM rfl ?_
    refine uG (vI st) rfl (ex_add rfl rfl rfl (by rw [i64_in (by omega)]; omega)) (uM rfl ?_)
    refine uA rfl (uA rfl ?_)
    refine uZ (bN ?_)
    refine bN (then_normal ?_)
    go_roundw
    case rel => exact ⟨st, fr + 1, st, fr + 1, rfl, rfl, rfl, rfl, hgi.back (by omega) hyc9 hno, by omega, hv⟩
    case measure => show ((q.length + 1 - (((st : Int) - 1) + 1).toNat) * (s.length + 1) + (s.length - (((fr + 1 : Nat) : Int)).toNat)) * (s.length + 1) + (s.length - (((fr + 1 : Nat) : Int)).toNat) < ((q.length + 1 - (((st : Int) - 1) + 1).toNat) * (s.length + 1) + (s.length - ((fr : Int)).toNat)) * (s.length + 1) + (s.length - ((i : Int)).toNat); have hn1 := hgi.n1; have hn2 := hgi.n2; have hn3 := hgi.n3; refine lex3 (by omega) (by omega) ?_; omega
   refine uG (.bool false) rfl (ex_geq rfl rfl rfl (qF hb29)) (uA rfl ?_)
   refine uW k28 (cF rfl ?_)
   refine sK fun _ k31 => rL (uA rfl ?_)
   refine uW k31 (rR ?_)
   refine bZ (bZ ?_)
   refine tR (bZ ?_)
   refine tR (bR rfl rfl ?_)
   subst hdv
   exact ⟨false, rfl, ⟨fun h => (by cases h), fun h => absurd h (hgi.fail (by omega) hyc9 hno)⟩, hv.weak hD⟩
  refine uG (.bool false) rfl (ex_lss rfl rfl rfl (qF hb10)) (uW k9 ?_)
  refine cF rfl (xE ?_)
  refine tX (tX ?_)
  refine bH (tK k6 ?_)
  refine sK fun _ k32 => bB ?_
  have hov := hgi.over (by omega)
  clear hgi
  gi_loopw [6] (fun x6 wr => ∃ (now : Nat), x6 = vI now ∧ now ≤ q.length ∧ (MatchP q s ↔ MatchP (q.drop now) []) ∧ Inv D H wr) (fun x6 _ => q.length - (intOf x6).toNat)
  case atStart => exact ⟨now, rfl, hn2, hov, hv⟩
  case round =>
   obtain ⟨now, rfl, hnq, hmt, hv⟩ := hrel
   refine sK fun _ k34 => sK fun _ k35 => rL (uM rfl ?_)
   refine uM rfl ?_
   refine uG (vI (q.length : Int)) rfl (ex_len0 Tryz.underlying185 rfl rfl) ?_
   by_cases hb36 : (now : Int) < (q.length : Int)
   ·refine uG (.bool true) rfl (ex_lss rfl rfl rfl (qT hb36)) (uM rfl ?_)
    refine uM rfl ?_
    refine uM rfl ?_
    obtain ⟨x, hx⟩ : ∃ x, q[now]? = some x := ⟨_, List.getElem?_eq_getElem (by omega)⟩
    obtain ⟨bb, bo, had, hrdx⟩ := part_reads hrq hx
    subst had
    have hxl := hpo x (List.mem_of_getElem? hx)
    refine uG (.pointer (some ⟨bb, bo + now * 5, none⟩)) rfl (ex_index rfl rfl rfl (run_idx (k := now) Tryz.underlying185 gdes185 (by omega))) ?_
    refine uF (.pointer (some ⟨bb, bo + now * 5, none⟩)) rfl (gdfa191_0 _ _ _) ?_
    refine uL _ rfl (run_load1 gdna4 (hrdx _ _ _ (Base.Le.refl _) no_res hv 0 _ rfl)) (uK rfl ?_)
    refine uW k35 (wpIn_cond_split (t := x.star) rfl (fun hc37 => ?_) (fun hc37 => ?_))
    ·refine kS (tK k34 ?_)
     refine bB (rL ?_)
     refine uM rfl ?_
     refine uG (vI ((now + 1 : Nat) : Int)) rfl (ex_add rfl rfl rfl (by rw [i64_in (by omega)]; omega)) (uA rfl ?_)
     refine uZ (bN ?_)
     refine then_normal ?_
     go_roundw
     case rel => exact ⟨now + 1, rfl, by omega, hmt.trans (tail_star hx hc37), hv⟩
     case measure => show q.length - (((now + 1 : Nat) : Int)).toNat < q.length - ((now : Int)).toNat; omega
    refine xE (tX ?_)
    refine tX (bH ?_)
    refine tK k32 (sK fun _ k38 => ?_)
    refine rL (uM rfl ?_)
    refine uM rfl ?_
    refine uG (vI (q.length : Int)) rfl (ex_len0 Tryz.underlying185 rfl rfl) ?_
    by_cases hb39 : (now : Int) = (q.length : Int)
    ·refine uG (.bool true) rfl (ex_eql rfl rfl rfl (qT hb39)) (uA rfl ?_)
     refine uW k38 (rR ?_)
     refine bR rfl rfl ?_
     obtain rfl : now = q.length := by omega
     subst hdv
     exact ⟨true, rfl, ⟨fun _ => hmt.2 ((matchP_over (Nat.le_refl _)).2 rfl), fun _ => rfl⟩, hv.weak hD⟩
    refine uG (.bool false) rfl (ex_eql rfl rfl rfl (qF hb39)) (uA rfl ?_)
    refine uW k38 (rR ?_)
    refine bR rfl rfl ?_
    subst hdv
    exact ⟨false, rfl, ⟨fun h => (by cases h), fun h => absurd (hmt.1 h) (matchP_nil hx hc37)⟩, hv.weak hD⟩
   refine uG (.bool false) rfl (ex_lss rfl rfl rfl (qF hb36)) (uM rfl ?_)
   iterate 5 refine uP rfl ?_
   refine uK rfl (uW k35 ?_)
   refine cF rfl (xE ?_)
   refine tX (tX ?_)
   refine bH (tK k32 ?_)
   refine sK fun _ k40 => rL (uM rfl ?_)
   refine uM rfl ?_
   refine uG (vI (q.length : Int)) rfl (ex_len0 Tryz.underlying185 rfl rfl) ?_
   by_cases hb41 : (now : Int) = (q.length : Int)
   ·refine uG (.bool true) rfl (ex_eql rfl rfl rfl (qT hb41)) (uA rfl ?_)
    refine uW k40 (rR ?_)
    refine bR rfl rfl ?_
    obtain rfl : now = q.length := by omega
    subst hdv
    exact ⟨true, rfl, ⟨fun _ => hmt.2 ((matchP_over (Nat.le_refl _)).2 rfl), fun _ => rfl⟩, hv.weak hD⟩
   refine uG (.bool false) rfl (ex_eql rfl rfl rfl (qF hb41)) (uA rfl ?_)
   refine uW k40 (rR ?_)
   refine bR rfl rfl ?_
   exfalso; omega
theorem res_cct {P : Program} {fn : Func} {w : World} {t u : TypeId} {v v' : Value} {r i j : Nat} (h : fn.results = #[.cell r t, .cell i u, .tmp j]) {tmps : Array Value} {ad ad' : Addr} (hr : tmps.getD r undef = .pointer (some ad)) (hl : (Instr.loadAt t (.pointer (some ad))).run P w = .ok v w)
  (hr2 : tmps.getD i undef = .pointer (some ad')) (hl2 : (Instr.loadAt u (.pointer (some ad'))).run P w = .ok v' w) : (results fn tmps).run P w = .ok (.tuple #[v, v', tmps.getD j undef]) w := by
 have hl' : (loadVar t ad).run P w = .ok v w := by simpa [Instr.loadAt, Instr.sureAddr] using hl
 have hr' : tmps[r]?.getD undef = .pointer (some ad) := by rw [← hr, Array.getD_eq_getD_getElem?]
 have hl2' : (loadVar u ad').run P w = .ok v' w := by simpa [Instr.loadAt, Instr.sureAddr] using hl2
 have hr2' : tmps[i]?.getD undef = .pointer (some ad') := by rw [← hr2, Array.getD_eq_getD_getElem?]
 simp [results, h, hr', hr2', asAddr, hl', hl2']
theorem pg_drop (l : List (List UInt8)) (i : Nat) : (textCells l).drop i = textCells (l.drop i) := by simp [textCells]
abbrev wMATCH : List UInt8 := [77, 65, 84, 67, 72]
abbrev wCOUNT : List UInt8 := [67, 79, 85, 78, 84]
theorem is2 {arg a b : List UInt8} {r : Int} (h : IsI arg [a, b] r) : (r = -1 ∧ ¬ SameC a arg ∧ ¬ SameC b arg) ∨ (r = 0 ∧ SameC a arg) ∨ (r = 1 ∧ ¬ SameC a arg ∧ SameC b arg) := by
 rcases h with ⟨rfl, h⟩ | ⟨i, x, rfl, hx, h1, h2⟩
 ·exact .inl ⟨rfl, h a (by simp), h b (by simp)⟩
 match i, hx with
 | 0, hx => cases hx; exact .inr (.inl ⟨rfl, h1⟩)
 | 1, hx => cases hx; exact .inr (.inr ⟨rfl, h2 0 a (by omega) rfl, h1⟩)
inductive OptTo (args : List (List UInt8)) : Nat → List UInt8 → List UInt8 → Bool → Bool → Prop where
 | zero : OptTo args 0 [] [] false false
 | m {i : Nat} {t0 t1 a v : List UInt8} {b1 : Bool} : OptTo args i t0 t1 false b1 → args[i]? = some a → args[i + 1]? = some v → SameC wMATCH a → OptTo args (i + 2) v t1 true b1
 | c {i : Nat} {t0 t1 a v : List UInt8} {b0 : Bool} : OptTo args i t0 t1 b0 false → args[i]? = some a → args[i + 1]? = some v → ¬ SameC wMATCH a → SameC wCOUNT a → OptTo args (i + 2) t0 v b0 true
def OptBad (args : List (List UInt8)) : Prop := args.length % 2 ≠ 0 ∨ ∃ i t0 t1 b0 b1 a, OptTo args i t0 t1 b0 b1 ∧ args[i]? = some a ∧ ((¬ SameC wMATCH a ∧ ¬ SameC wCOUNT a) ∨ (SameC wMATCH a ∧ b0 = true) ∨ (¬ SameC wMATCH a ∧ SameC wCOUNT a ∧ b1 = true))
def OptR (args : List (List UInt8)) (t0 t1 : List UInt8) (b0 b1 : Bool) (ec : Int) : Prop := (ec = 42 ∧ OptBad args) ∨ (ec = 0 ∧ args.length % 2 = 0 ∧ OptTo args args.length t0 t1 b0 b1)
theorem optTo_even {args : List (List UInt8)} {i : Nat} {t0 t1 : List UInt8} {b0 b1 : Bool} (h : OptTo args i t0 t1 b0 b1) : i % 2 = 0 := by
 induction h <;> omega
theorem v8al172 : AL Tryz.prog 172 [vS [], vS []] := fun w => by kernel_rfl
theorem v8al173 : AL Tryz.prog 173 [.bool false, .bool false] := fun w => by kernel_rfl
theorem v8wd172 : Wide Tryz.prog 172 2 := wide_of (fun w => by kernel_rfl) (by kernel_rfl)
theorem v8wd173 : Wide Tryz.prog 173 2 := wide_of (fun w => by kernel_rfl) (by kernel_rfl)
theorem v8sz172 : (Tryz.prog.info? 172).map (·.size) = some 2 := by kernel_rfl
theorem v8sz173 : (Tryz.prog.info? 173).map (·.size) = some 2 := by kernel_rfl
theorem v8callable94 : Callable Tryz.prog 94 := cb Tryz.func94 (by kernel_rfl)
theorem v8ea173 (w : World) : (sizeOf 4).run Tryz.prog w = .ok 1 w := by kernel_rfl
theorem v8ua173 : Tryz.prog.underlying 173 = some (.array 2 4) := by kernel_rfl
theorem v8ea172 (w : World) : (sizeOf 9).run Tryz.prog w = .ok 1 w := by kernel_rfl
theorem v8ua172 : Tryz.prog.underlying 172 = some (.array 2 9) := by kernel_rfl
theorem v8sz4 : (Tryz.prog.info? 4).map (·.size) = some 1 := by kernel_rfl
theorem viewOptions (B : Base) (H : List Res) (w : World) (aa : Option Addr) (ac : Nat) (args : List (List UInt8)) (hra : RdV B [] aa (textCells args)) (hma : args.length ≤ 10000) (hxl : ∀ x ∈ args, x.length ≤ 9223372036854775807) (hv : Inv B H w) :
  Calls Tryz.prog 84 #[.slice aa args.length ac] w fun e w' => ∃ t0 t1 b0 b1 ec, e = .returned (.tuple #[.agg #[vS t0, vS t1], .agg #[.bool b0, .bool b1], vI ec]) ∧ OptR args t0 t1 b0 b1 ec ∧ Inv B H w' := by
 refine cW Tryz.func84 rfl Tryz.ntmps84 ?_
 simp only [al]
 refine sK fun _ k1 => rL (sl_alloc tV (wn rfl) rfl hv v8al172 (fun b2 w3 hv => ?_))
 refine sl_alloc tV (wn rfl) rfl hv v8al173 (fun b4 w5 hv => ?_)
 refine uA rfl (uW k1 ?_)
 refine sK fun _ k6 => sK fun _ k7 => rL (uM rfl ?_)
 refine uG (vI (args.length : Int)) rfl (ex_len0 Tryz.underlying22 rfl rfl) ?_
 refine uG (vI ((args.length % 2 : Nat) : Int)) rfl (ex_rem (m := (args.length : Int)) (n := 2) rfl rfl rfl (by decide) rfl) ?_
 by_cases hb8 : ((args.length % 2 : Nat) : Int) ≠ 0
 ·refine uG (.bool true) rfl (ex_neq rfl rfl rfl (qT hb8)) (uW k7 ?_)
  refine cT rfl (sK fun _ k9 => ?_)
  refine rW mixed [2, 3] [0,1,2,3,4] 45 rfl (by kernel_rfl) hv ?_
  simp only [qm, opAt]
  refine dL (.agg #[vS [], vS []]) rfl (fun hv => ex_load rfl rfl (lM 1 v8wd172 hv rfl rfl rfl rfl)) (dF (.agg #[.bool false, .bool false]) rfl (fun hv => ex_load rfl rfl (lM 0 v8wd173 hv rfl rfl rfl rfl)) fun f10 hf10 => ?_)
  refine dS rfl fun w11 hv => mS 1 rfl hv v8sz172 rfl (by exact ⟨rfl, rfl, trivial⟩) (fun w12 hv => ?_)
  simp only [zS, zO, sp] at hv
  refine dV hv (fC (fun ww hv => hf10 ww ?_) fN) ?_
  ·exact ex_load rfl rfl (lM 0 v8wd173 hv rfl rfl rfl rfl)
  simp only [zP, po]
  refine dS rfl fun w13 hv => mS 0 rfl hv v8sz173 rfl (by exact ⟨rfl, rfl, trivial⟩) (fun w14 hv => ?_)
  simp only [zO, sp] at hv
  refine dV hv (fK rfl fN) (dA (vI 42) rfl ?_)
  refine dE fun w15 hv => ?_
  simp only [zP, po]
  refine tK k9 (rR ?_)
  refine tR (bodyPost_ret (res_cct rfl rfl (lM 1 v8wd172 hv rfl rfl rfl rfl) rfl (lM 0 v8wd173 hv rfl rfl rfl rfl)) rfl ?_)
  exact ⟨[], [], false, false, 42, rfl, .inl ⟨rfl, .inl (by omega)⟩, (hv.kp [] 0 2)⟩
 refine uG (.bool false) rfl (ex_neq rfl rfl rfl (qF hb8)) (uW k7 ?_)
 refine cF rfl (kS ?_)
 refine tK k6 (sK fun _ k16 => ?_)
 refine sK fun _ k17 => rL (uA rfl ?_)
 refine uW k17 (bB ?_)
 gi_loopw [5] (fun x5 wr => ∃ (i : Nat) (t0 t1 : List UInt8) (b0 b1 : Bool), x5 = vI i ∧ i ≤ args.length ∧ OptTo args i t0 t1 b0 b1 ∧ Inv B (Res.cell b2 [vS t0, vS t1] 172 :: Res.cell b4 [.bool b0, .bool b1] 173 :: H) wr) (fun x5 _ => args.length - (intOf x5).toNat)
 case atStart => exact ⟨0, [], [], false, false, rfl, Nat.zero_le _, .zero, (hv.front 1 rfl)⟩
 case round =>
  obtain ⟨i, t0, t1, b0, b1, rfl, hi, hot, hv⟩ := hrel
  have hev : i % 2 = 0 := optTo_even hot
  refine sK fun _ k19 => sK fun _ k20 => rL (uM rfl ?_)
  refine uM rfl ?_
  refine uG (vI (args.length : Int)) rfl (ex_len0 Tryz.underlying22 rfl rfl) ?_
  by_cases hb21 : (i : Int) < (args.length : Int)
  ·refine uG (.bool true) rfl (ex_lss rfl rfl rfl (qT hb21)) (uW k20 ?_)
   refine cT rfl (kS ?_)
   refine tK k19 (sK fun _ k22 => ?_)
   refine bB (sK fun _ k23 => ?_)
   obtain ⟨x, hx⟩ : ∃ x, args[i]? = some x := ⟨_, List.getElem?_eq_getElem (show i < args.length by omega)⟩
   obtain ⟨ab, ao, had, hrdx⟩ := text_reads hra hx
   subst had
   refine rL (uM rfl ?_)
   refine uM rfl ?_
   refine uG (.pointer (some ⟨ab, ao + i, none⟩)) rfl (ex_index rfl rfl rfl (run_idx1 (k := i) Tryz.underlying22 s9es22 (by omega))) ?_
   refine uL _ rfl (run_load1 s9na9 (hrdx _ _ _ (Base.Le.refl _) no_res hv 0 _ rfl)) ?_
   refine sl_rowN (pv := #[(0, vS [77, 65, 84, 67, 72]), (1, vS [67, 79, 85, 78, 84])]) (L := [vS [77, 65, 84, 67, 72], vS [67, 79, 85, 78, 84]]) (e := 9) tV (wn rfl) rfl (by simp only [List.map_toArray, List.map_cons, List.map_nil]; rfl) hv (fun w => by kernel_rfl) (fun b24 w25 hv => ?_)
   obtain ⟨D1, hD1, hv, hrk, -, -⟩ := (hv.cellRow (n := 2) (c := 2) (size := 1) rfl (by decide) (by decide)).rowBy
   refine xC v8callable94 rfl ((viewIs D1 _ _ x _ 2 [[77, 65, 84, 67, 72], [67, 79, 85, 78, 84]] hrk (by simp) (hxl x (List.mem_of_getElem? hx)) hv).mono ?_) rfl
   rintro e w26 ⟨r, rfl, his, hv⟩
   refine ⟨_, rfl, ?_⟩
   replace hv := hv.weak hD1
   rcases is2 his with ⟨rfl, hsm⟩ | ⟨rfl, hsm⟩ | ⟨rfl, hsm⟩
   ·refine uA rfl (uW k23 ?_)
    refine sK fun _ k27 => sK fun _ k28 => rL (uM rfl ?_)
    refine uG (.bool true) rfl (ex_lss rfl rfl rfl (by decide)) (uM rfl ?_)
    iterate 3 refine uP rfl ?_
    refine uK rfl (uW k28 ?_)
    refine cT rfl (sK fun _ k29 => ?_)
    refine rW mixed [2, 3] [0,1,2,3,4] 45 rfl (by kernel_rfl) hv ?_
    simp only [qm, opAt]
    refine dL (.agg #[vS t0, vS t1]) rfl (fun hv => ex_load rfl rfl (lM 0 v8wd172 hv rfl rfl rfl rfl)) (dF (.agg #[.bool b0, .bool b1]) rfl (fun hv => ex_load rfl rfl (lM 1 v8wd173 hv rfl rfl rfl rfl)) fun f30 hf30 => ?_)
    refine dS rfl fun w31 hv => mS 0 rfl hv v8sz172 rfl (by exact ⟨rfl, rfl, trivial⟩) (fun w32 hv => ?_)
    simp only [zO, sp] at hv
    refine dV hv (fC (fun ww hv => hf30 ww ?_) fN) ?_
    ·exact ex_load rfl rfl (lM 1 v8wd173 hv rfl rfl rfl rfl)
    simp only [zP, po]
    refine dS rfl fun w33 hv => mS 1 rfl hv v8sz173 rfl (by exact ⟨rfl, rfl, trivial⟩) (fun w34 hv => ?_)
    simp only [zS, zO, sp] at hv
    refine dV hv (fK rfl fN) (dA (vI 42) rfl ?_)
    refine dE fun w35 hv => ?_
    simp only [zP, po]
    refine tK k29 (rR ?_)
    refine tR (bZ ?_)
    refine tR (tR ?_)
    refine bZ (tR ?_)
    refine bodyPost_ret (res_cct rfl rfl (lM 0 v8wd172 hv rfl rfl rfl rfl) rfl (lM 1 v8wd173 hv rfl rfl rfl rfl)) rfl (⟨t0, t1, b0, b1, 42, rfl, .inl ⟨rfl, .inr ⟨i, t0, t1, b0, b1, x, hot, hx, .inl hsm⟩⟩, (hv.kp [] 0 2)⟩)
   ·refine uA rfl (uW k23 ?_)
    refine sK fun _ k36 => sK fun _ k37 => rL (uM rfl ?_)
    refine uG (.bool false) rfl (ex_lss rfl rfl rfl (by decide)) (uM rfl ?_)
    refine uM rfl ?_
    refine uG (vP b4) rfl (ex_index rfl rfl rfl (run_idxA1 (k := 0) v8ua173 v8ea173 (by omega))) ?_
    refine uL _ rfl (run_load1 s2na4 (hv.load 1 0 rfl rfl)) (uK rfl ?_)
    refine uW k37 (wpIn_cond_split (t := b0) rfl (fun hc38 => ?_) (fun hc38 => ?_))
    ·refine sK fun _ k39 => rW mixed [2, 3] [0,1,2,3,4] 45 rfl (by kernel_rfl) hv ?_
     simp only [qm, opAt]
     refine dL (.agg #[vS t0, vS t1]) rfl (fun hv => ex_load rfl rfl (lM 0 v8wd172 hv rfl rfl rfl rfl)) (dF (.agg #[.bool b0, .bool b1]) rfl (fun hv => ex_load rfl rfl (lM 1 v8wd173 hv rfl rfl rfl rfl)) fun f40 hf40 => ?_)
     refine dS rfl fun w41 hv => mS 0 rfl hv v8sz172 rfl (by exact ⟨rfl, rfl, trivial⟩) (fun w42 hv => ?_)
     simp only [zO, sp] at hv
     refine dV hv (fC (fun ww hv => hf40 ww ?_) fN) ?_
     ·exact ex_load rfl rfl (lM 1 v8wd173 hv rfl rfl rfl rfl)
     simp only [zP, po]
     refine dS rfl fun w43 hv => mS 1 rfl hv v8sz173 rfl (by exact ⟨rfl, rfl, trivial⟩) (fun w44 hv => ?_)
     simp only [zS, zO, sp] at hv
     refine dV hv (fK rfl fN) (dA (vI 42) rfl ?_)
     refine dE fun w45 hv => ?_
     simp only [zP, po]
     refine tK k39 (rR ?_)
     refine tR (bZ ?_)
     refine tR (tR ?_)
     refine bZ (tR ?_)
     refine bodyPost_ret (res_cct rfl rfl (lM 0 v8wd172 hv rfl rfl rfl rfl) rfl (lM 1 v8wd173 hv rfl rfl rfl rfl)) rfl (⟨t0, t1, b0, b1, 42, rfl, .inl ⟨rfl, .inr ⟨i, t0, t1, b0, b1, x, hot, hx, .inr (.inl ⟨hsm, hc38⟩)⟩⟩, (hv.kp [] 0 2)⟩)
    refine kS (tK k36 ?_)
    obtain ⟨x2, hx2⟩ : ∃ x, args[(i + 1 : Nat)]? = some x := ⟨_, List.getElem?_eq_getElem (show (i + 1 : Nat) < args.length by omega)⟩
    obtain ⟨b9, o9, had9, hrdx2⟩ := text_reads hra hx2
    cases had9
    refine rL (uM rfl ?_)
    refine uM rfl (uM rfl ?_)
    refine uM rfl ?_
    refine uG (vI ((i + 1 : Nat) : Int)) rfl (ex_add rfl rfl rfl (by rw [i64_in (by omega)]; omega)) ?_
    refine uG (.pointer (some ⟨ab, ao + (i + 1 : Nat), none⟩)) rfl (ex_index rfl rfl rfl (run_idx1 (k := (i + 1 : Nat)) Tryz.underlying22 s9es22 (by omega))) ?_
    refine uL _ rfl (run_load1 s9na9 (hrdx2 _ _ _ (Base.Le.refl _) no_res hv 0 _ rfl)) ?_
    refine uG (vP b2) rfl (ex_index rfl rfl rfl (run_idxA1 (k := 0) v8ua172 v8ea172 (by omega))) ?_
    refine xV 0 (vS x2) rfl hv s12sz9 rfl rfl (fun w46 hv => ?_)
    simp only [zO, sp] at hv
    refine uG (vP b4) rfl (ex_index rfl rfl rfl (run_idxA1 (k := 0) v8ua173 v8ea173 (by omega))) ?_
    refine xV 1 (.bool true) rfl hv v8sz4 rfl rfl (fun w47 hv => ?_)
    simp only [zS, zO, sp] at hv
    refine uZ (bN ?_)
    refine tK k22 (rL ?_)
    refine uM rfl ?_
    refine uG (vI ((i + 2 : Nat) : Int)) rfl (ex_add rfl rfl rfl (by rw [i64_in (by omega)]; omega)) (uA rfl ?_)
    refine uZ (then_normal ?_)
    go_roundw
    case rel => exact ⟨i + 2, x2, t1, true, b1, rfl, by omega, .m (by rw [hc38] at hot; exact hot) hx hx2 hsm, ((hv.front 1 rfl).front 1 rfl)⟩
    case measure => show args.length - (((i + 2 : Nat) : Int)).toNat < args.length - ((i : Int)).toNat; omega
   refine uA rfl (uW k23 ?_)
   refine sK fun _ k48 => sK fun _ k49 => rL (uM rfl ?_)
   refine uG (.bool false) rfl (ex_lss rfl rfl rfl (by decide)) (uM rfl ?_)
   refine uM rfl ?_
   refine uG (.pointer (some ⟨b4, 1, none⟩)) rfl (ex_index rfl rfl rfl (run_idxA1 (k := 1) v8ua173 v8ea173 (by omega))) ?_
   refine uL _ rfl (run_load1 s2na4 (hv.load 1 1 rfl rfl)) (uK rfl ?_)
   refine uW k49 (wpIn_cond_split (t := b1) rfl (fun hc50 => ?_) (fun hc50 => ?_))
   ·refine sK fun _ k51 => rW mixed [2, 3] [0,1,2,3,4] 45 rfl (by kernel_rfl) hv ?_
    simp only [qm, opAt]
    refine dL (.agg #[vS t0, vS t1]) rfl (fun hv => ex_load rfl rfl (lM 0 v8wd172 hv rfl rfl rfl rfl)) (dF (.agg #[.bool b0, .bool b1]) rfl (fun hv => ex_load rfl rfl (lM 1 v8wd173 hv rfl rfl rfl rfl)) fun f52 hf52 => ?_)
    refine dS rfl fun w53 hv => mS 0 rfl hv v8sz172 rfl (by exact ⟨rfl, rfl, trivial⟩) (fun w54 hv => ?_)
    simp only [zO, sp] at hv
    refine dV hv (fC (fun ww hv => hf52 ww ?_) fN) ?_
    ·exact ex_load rfl rfl (lM 1 v8wd173 hv rfl rfl rfl rfl)
    simp only [zP, po]
    refine dS rfl fun w55 hv => mS 1 rfl hv v8sz173 rfl (by exact ⟨rfl, rfl, trivial⟩) (fun w56 hv => ?_)
    simp only [zS, zO, sp] at hv
    refine dV hv (fK rfl fN) (dA (vI 42) rfl ?_)
    refine dE fun w57 hv => ?_
    simp only [zP, po]
    refine tK k51 (rR ?_)
    refine tR (bZ ?_)
    refine tR (tR ?_)
    refine bZ (tR ?_)
    refine bodyPost_ret (res_cct rfl rfl (lM 0 v8wd172 hv rfl rfl rfl rfl) rfl (lM 1 v8wd173 hv rfl rfl rfl rfl)) rfl (⟨t0, t1, b0, b1, 42, rfl, .inl ⟨rfl, .inr ⟨i, t0, t1, b0, b1, x, hot, hx, .inr (.inr ⟨hsm.1, hsm.2, hc50⟩)⟩⟩, (hv.kp [] 0 2)⟩)
   refine kS (tK k48 ?_)
   obtain ⟨x2, hx2⟩ : ∃ x, args[(i + 1 : Nat)]? = some x := ⟨_, List.getElem?_eq_getElem (show (i + 1 : Nat) < args.length by omega)⟩
   obtain ⟨b9, o9, had9, hrdx2⟩ := text_reads hra hx2
   cases had9
   refine rL (uM rfl ?_)
   refine uM rfl (uM rfl ?_)
   refine uM rfl ?_
   refine uG (vI ((i + 1 : Nat) : Int)) rfl (ex_add rfl rfl rfl (by rw [i64_in (by omega)]; omega)) ?_
   refine uG (.pointer (some ⟨ab, ao + (i + 1 : Nat), none⟩)) rfl (ex_index rfl rfl rfl (run_idx1 (k := (i + 1 : Nat)) Tryz.underlying22 s9es22 (by omega))) ?_
   refine uL _ rfl (run_load1 s9na9 (hrdx2 _ _ _ (Base.Le.refl _) no_res hv 0 _ rfl)) ?_
   refine uG (.pointer (some ⟨b2, 1, none⟩)) rfl (ex_index rfl rfl rfl (run_idxA1 (k := 1) v8ua172 v8ea172 (by omega))) ?_
   refine xV 0 (vS x2) rfl hv s12sz9 rfl rfl (fun w58 hv => ?_)
   simp only [zO, sp] at hv
   refine uG (.pointer (some ⟨b4, 1, none⟩)) rfl (ex_index rfl rfl rfl (run_idxA1 (k := 1) v8ua173 v8ea173 (by omega))) ?_
   refine xV 1 (.bool true) rfl hv v8sz4 rfl rfl (fun w59 hv => ?_)
   simp only [zS, zO, sp] at hv
   refine uZ (bN ?_)
   refine tK k22 (rL ?_)
   refine uM rfl ?_
   refine uG (vI ((i + 2 : Nat) : Int)) rfl (ex_add rfl rfl rfl (by rw [i64_in (by omega)]; omega)) (uA rfl ?_)
   refine uZ (then_normal ?_)
   go_roundw
   case rel => exact ⟨i + 2, t0, x2, b0, true, rfl, by omega, .c (by rw [hc50] at hot; exact hot) hx hx2 hsm.1 hsm.2, ((hv.front 1 rfl).front 1 rfl)⟩
   case measure => show args.length - (((i + 2 : Nat) : Int)).toNat < args.length - ((i : Int)).toNat; omega
  refine uG (.bool false) rfl (ex_lss rfl rfl rfl (qF hb21)) (uW k20 ?_)
  refine cF rfl (xE ?_)
  refine tX (tX ?_)
  refine bH (tK k16 ?_)
  refine sK fun _ k60 => rW mixed [2, 3] [0,1,2,3,4] 45 rfl (by kernel_rfl) hv ?_
  simp only [qm, opAt]
  refine dL (.agg #[vS t0, vS t1]) rfl (fun hv => ex_load rfl rfl (lM 0 v8wd172 hv rfl rfl rfl rfl)) (dF (.agg #[.bool b0, .bool b1]) rfl (fun hv => ex_load rfl rfl (lM 1 v8wd173 hv rfl rfl rfl rfl)) fun f61 hf61 => ?_)
  refine dS rfl fun w62 hv => mS 0 rfl hv v8sz172 rfl (by exact ⟨rfl, rfl, trivial⟩) (fun w63 hv => ?_)
  simp only [zO, sp] at hv
  refine dV hv (fC (fun ww hv => hf61 ww ?_) fN) ?_
  ·exact ex_load rfl rfl (lM 1 v8wd173 hv rfl rfl rfl rfl)
  simp only [zP, po]
  refine dS rfl fun w64 hv => mS 1 rfl hv v8sz173 rfl (by exact ⟨rfl, rfl, trivial⟩) (fun w65 hv => ?_)
  simp only [zS, zO, sp] at hv
  refine dV hv (fK rfl fN) (dA (vI 0) rfl ?_)
  refine dE fun w66 hv => ?_
  simp only [zP, po]
  refine tK k60 (rR ?_)
  refine bodyPost_ret (res_cct rfl rfl (lM 0 v8wd172 hv rfl rfl rfl rfl) rfl (lM 1 v8wd173 hv rfl rfl rfl rfl)) rfl ?_
  obtain rfl : i = args.length := by omega
  exact ⟨t0, t1, b0, b1, 0, rfl, .inr ⟨rfl, by omega, hot⟩, (hv.kp [] 0 2)⟩
def cntOf (t1 : List UInt8) (b1 : Bool) : List UInt8 := if b1 then t1 else [49, 48]
def PageR (n : Int) (args : List (List UInt8)) (fr to nx : Int) (mt : List UInt8) (ec : Int) : Prop :=
 (ec = 43 ∧ args = []) ∨
 ∃ a0 rest, args = a0 :: rest ∧ ((ec = 42 ∧ OptBad rest) ∨ ∃ t0 t1 b0 b1, OptR rest t0 t1 b0 b1 0 ∧
  ((ec = 41 ∧ (NumP a0 0 false ∨ NumP (cntOf t1 b1) 0 false)) ∨ ∃ k c : Int, NumP a0 k true ∧ NumP (cntOf t1 b1) c true ∧
   ((ec = 44 ∧ (k < 0 ∨ c < 1)) ∨ (ec = 0 ∧ 0 ≤ k ∧ 1 ≤ c ∧ mt = (if b0 then t0 else [42]) ∧ fr = min k (max n 0) ∧ to = fr + min c (max n 0 - fr) ∧ nx = (if to < max n 0 then to else 0)))))
def PgZ (fr to nx : Int) (mt : List UInt8) (ec : Int) : Prop := ec ≠ 0 → fr = 0 ∧ to = 0 ∧ nx = 0 ∧ mt = []
theorem PageR.bounds {n fr to nx ec : Int} {args : List (List UInt8)} {mt : List UInt8} (h : PageR n args fr to nx mt ec) (h0 : ec = 0) : 0 ≤ fr ∧ fr ≤ to ∧ to ≤ max n 0 := by
 rcases h with ⟨h1, -⟩ | ⟨a0, rest, -, ⟨h1, -⟩ | ⟨t0, t1, b0, b1, -, ⟨h1, -⟩ | ⟨k, c, -, -, ⟨h1, -⟩ | ⟨-, h1, h2, -, h3, h4, -⟩⟩⟩⟩
 all_goals omega
theorem numP_rng {s : List UInt8} {n : Int} (h : NumP s n true) : -9223372036854775808 ≤ n ∧ n ≤ 9223372036854775807 := h.elim (fun h => ⟨h.2.1, h.2.2.1⟩) (fun h => absurd h.1 (by decide))
theorem ints_two {s t : List UInt8} {ns : List Int} {ec : Int} (h : IntsR [s, t] ns ec) : (ec = 0 ∧ ∃ n m, ns = [n, m] ∧ NumP s n true ∧ NumP t m true) ∨ (ec = 41 ∧ ns = [] ∧ (NumP s 0 false ∨ NumP t 0 false)) := by
 rcases h with ⟨h1, h2, h3⟩ | ⟨h1, h2, x, hx, h3⟩
 ·match ns, h2 with
  | [n, m], _ => exact .inl ⟨h1, n, m, rfl, h3 0 s n rfl rfl, h3 1 t m rfl rfl⟩
 rcases List.mem_cons.1 hx with rfl | hx
 ·exact .inr ⟨h1, h2, .inl h3⟩
 rw [List.mem_singleton.1 hx] at h3; exact .inr ⟨h1, h2, .inr h3⟩
theorem v8al143 : AL Tryz.prog 143 [vI 0, vI 0, vI 0, vS []] := fun w => by kernel_rfl
theorem v8sz143 : (Tryz.prog.info? 143).map (·.size) = some 4 := by kernel_rfl
theorem v8wd143 : Wide Tryz.prog 143 4 := wide_of (fun w => by kernel_rfl) (by kernel_rfl)
theorem v8callable84 : Callable Tryz.prog 84 := cb Tryz.func84 (by kernel_rfl)
theorem v8callable71 : Callable Tryz.prog 71 := cb Tryz.func71 (by kernel_rfl)
theorem v8fa143_0 : FA Tryz.prog 143 0 0 := fun w b o => by kernel_rfl
theorem v8fa143_1 : FA Tryz.prog 143 1 1 := fun w b o => by kernel_rfl
theorem v8fa143_2 : FA Tryz.prog 143 2 2 := fun w b o => by kernel_rfl
theorem viewPagesZ (B : Base) (H : List Res) (w : World) (n : Int) (hn0 : -9223372036854775808 ≤ n) (hn1 : n ≤ 9223372036854775807) (aa : Option Addr) (ac : Nat) (args : List (List UInt8)) (hra : RdV B [] aa (textCells args)) (hma : args.length ≤ 10000) (hxl : ∀ x ∈ args, x.length ≤ 9223372036854775807) (hoka : SliceOk aa args.length ac) (hN : NumB B) (hv : Inv B H w) :
  Calls Tryz.prog 67 #[vI n, .slice aa args.length ac] w fun e w' => ∃ fr to nx mt ec, e = .returned (.tuple #[.agg #[vI fr, vI to, vI nx, vS mt], vI ec]) ∧ PgZ fr to nx mt ec ∧ PageR n args fr to nx mt ec ∧ Inv B H w' := by
 refine cW Tryz.func67 rfl Tryz.ntmps67 ?_
 simp only [al]
 refine sK fun _ k1 => rL (sl_alloc tV (wn rfl) rfl hv v8al143 (fun b2 w3 hv => ?_))
 refine uA rfl (uW k1 ?_)
 refine sK fun _ k4 => sK fun _ k5 => rL (uM rfl ?_)
 refine uG (vI (args.length : Int)) rfl (ex_len0 Tryz.underlying22 rfl rfl) ?_
 by_cases hb6 : (args.length : Int) = 0
 ·refine uG (.bool true) rfl (ex_eql rfl rfl rfl (qT hb6)) (uW k5 ?_)
  refine cT rfl (sK fun _ k7 => ?_)
  refine rL (uG (.agg #[vI 0, vI 0, vI 0, vS []]) rfl (ex_buildN (vs := #[]) rfl (by simp only [List.map_toArray, List.map_nil]) (by kernel_rfl)) ?_)
  refine xS 0 rfl hv v8sz143 rfl (by exact ⟨rfl, rfl, rfl, rfl, trivial⟩) (fun w8 hv => ?_)
  simp only [zO, sp] at hv
  refine uA rfl (uW k7 ?_)
  refine rR (tR ?_)
  refine bodyPost_ret (res_cell2 rfl rfl (lM 0 v8wd143 hv rfl rfl rfl rfl)) rfl (⟨0, 0, 0, [], 43, rfl, fun _ => ⟨rfl, rfl, rfl, rfl⟩, .inl ⟨rfl, List.eq_nil_of_length_eq_zero (by omega)⟩, ((hv.kp [] 0 1)).weak (Base.Le.refl _)⟩)
 refine uG (.bool false) rfl (ex_eql rfl rfl rfl (qF hb6)) (uW k5 ?_)
 refine cF rfl (kS ?_)
 refine tK k4 (sK fun _ k9 => ?_)
 have hal : 1 ≤ args.length := by omega
 have hd1 : (args.drop 1).length = args.length - 1 := List.length_drop
 obtain ⟨a3, c3, ha3, ok3, hr3⟩ := sliced_fromV 1 hoka hra (textCells_len args) hal (by decide)
 rw [Nat.mul_one, pg_drop] at hr3
 obtain ⟨a0, rest, hargs⟩ : ∃ a l, args = a :: l := by cases args with | nil => simp at hal | cons a l => exact ⟨a, l, rfl⟩
 have hdr : args.drop 1 = rest := by rw [hargs]; rfl
 refine rL (uM rfl ?_)
 refine uG (.slice a3 ((args.drop 1).length) c3) rfl (ex_slice (lo' := some (vI ((1 : Nat) : Int))) rfl rfl (congrArg some rfl) rfl rfl ((run_fromAny Tryz.underlying22 s9es22 (by omega)).trans (by rw [ha3, hd1]))) ?_
 refine xC v8callable84 rfl ((viewOptions B _ _ a3 c3 (args.drop 1) hr3 (by omega) (fun x hx => hxl x (List.mem_of_mem_drop hx)) hv).mono ?_) rfl
 rintro e w10 ⟨t0, t1, b0, b1, eo, rfl, hopt, hv⟩
 refine ⟨_, rfl, uM rfl ?_⟩
 refine uE rfl (uE rfl ?_)
 refine uE rfl ?_
 refine sl_alloc tV (wn rfl) rfl hv v8al172 (fun b11 w12 hv => ?_)
 simp only [zP, po]
 refine sl_alloc tV (wn rfl) rfl hv v8al173 (fun b13 w14 hv => ?_)
 simp only [zP, po]
 refine xS 1 rfl hv v8sz172 rfl (by exact ⟨rfl, rfl, trivial⟩) (fun w15 hv => ?_)
 simp only [zS, zO, sp] at hv
 simp only [zP, po]
 refine xS 0 rfl hv v8sz173 rfl (by exact ⟨rfl, rfl, trivial⟩) (fun w16 hv => ?_)
 simp only [zO, sp] at hv
 refine uA rfl (uW k9 ?_)
 refine sK fun _ k17 => sK fun _ k18 => rL (uM rfl ?_)
 by_cases hb19 : eo ≠ 0
 ·refine uG (.bool true) rfl (ex_neq rfl rfl rfl (qT hb19)) (uW k18 ?_)
  refine cT rfl (sK fun _ k20 => ?_)
  refine rL (uG (.agg #[vI 0, vI 0, vI 0, vS []]) rfl (ex_buildN (vs := #[]) rfl (by simp only [List.map_toArray, List.map_nil]) (by kernel_rfl)) ?_)
  refine uM rfl ?_
  refine xS 2 rfl hv v8sz143 rfl (by exact ⟨rfl, rfl, rfl, rfl, trivial⟩) (fun w21 hv => ?_)
  simp only [zS, zO, sp] at hv
  refine uA rfl (uW k20 ?_)
  refine rR (tR ?_)
  refine bodyPost_ret (res_cell2 rfl rfl (lM 2 v8wd143 hv rfl rfl rfl rfl)) rfl ?_
  rw [hdr] at hopt
  refine ⟨0, 0, 0, [], eo, rfl, fun _ => ⟨rfl, rfl, rfl, rfl⟩, .inr ⟨a0, rest, hargs, .inl ?_⟩, ((hv.kp [] 0 3)).weak (Base.Le.refl _)⟩
  rcases hopt with ⟨h1, h2⟩ | ⟨h1, -⟩
  ·exact ⟨h1, h2⟩
  omega
 refine uG (.bool false) rfl (ex_neq rfl rfl rfl (qF hb19)) (uW k18 ?_)
 refine cF rfl (kS ?_)
 refine tK k17 (sK fun _ k22 => ?_)
 refine rL (uA rfl ?_)
 refine uA rfl (uW k22 ?_)
 refine sK fun K23 k23 => ?_
 have hJ23 : ∀ (mt : List UInt8) (j28 j29 j30 j31 : Value) (w24 : World), (mt = (if b0 then t0 else [42])) → Inv B (Res.cell b13 [.bool b0, .bool b1] 173 :: Res.cell b11 [vS t0, vS t1] 172 :: Res.cell b2 [vI 0, vI 0, vI 0, vS []] 143 :: H) w24 → K23 { tmps := List.toArray (vI n :: .slice aa args.length ac :: undef :: undef :: vP b2 :: vI 0 :: vP b11 :: vP b13 :: vI eo :: vS mt :: vS [49, 48] :: undef :: undef :: .slice aa args.length ac :: vI (args.length : Int) :: .bool false :: undef :: .tuple #[.agg #[vS t0, vS t1], .agg #[.bool b0, .bool b1], vI eo] :: .slice aa args.length ac :: .slice a3 ((args.drop 1).length) c3 :: .tuple #[.agg #[vS t0, vS t1], .agg #[.bool b0, .bool b1], vI eo] :: .agg #[vS t0, vS t1] :: .agg #[.bool b0, .bool b1] :: vI eo :: vI eo :: .bool false :: undef :: undef :: j28 :: j29 :: j30 :: j31 :: undef :: undef :: undef :: undef :: undef :: undef :: undef :: undef :: undef :: undef :: undef :: undef :: undef :: undef :: undef :: undef :: undef :: undef :: undef :: undef :: undef :: undef :: undef :: undef :: undef :: undef :: undef :: undef :: undef :: undef :: undef :: undef :: undef :: undef :: undef :: undef :: undef :: undef :: undef :: undef :: undef :: undef :: undef :: undef :: undef :: undef :: undef :: undef :: undef :: undef :: undef :: undef :: undef :: undef :: undef :: undef :: undef :: []), defers := [] } w24 := by
  intro mt j28 j29 j30 j31 w24 hmt hv
  refine k23 _ _ (sK fun K25 k25 => ?_)
  have hJ25 : ∀ (cnt : List UInt8) (j32 j33 j34 j35 : Value) (w26 : World), (cntOf t1 b1 = cnt) → Inv B (Res.cell b13 [.bool b0, .bool b1] 173 :: Res.cell b11 [vS t0, vS t1] 172 :: Res.cell b2 [vI 0, vI 0, vI 0, vS []] 143 :: H) w26 → K25 { tmps := List.toArray (vI n :: .slice aa args.length ac :: undef :: undef :: vP b2 :: vI 0 :: vP b11 :: vP b13 :: vI eo :: vS mt :: vS cnt :: undef :: undef :: .slice aa args.length ac :: vI (args.length : Int) :: .bool false :: undef :: .tuple #[.agg #[vS t0, vS t1], .agg #[.bool b0, .bool b1], vI eo] :: .slice aa args.length ac :: .slice a3 ((args.drop 1).length) c3 :: .tuple #[.agg #[vS t0, vS t1], .agg #[.bool b0, .bool b1], vI eo] :: .agg #[vS t0, vS t1] :: .agg #[.bool b0, .bool b1] :: vI eo :: vI eo :: .bool false :: undef :: undef :: j28 :: j29 :: j30 :: j31 :: j32 :: j33 :: j34 :: j35 :: undef :: undef :: undef :: undef :: undef :: undef :: undef :: undef :: undef :: undef :: undef :: undef :: undef :: undef :: undef :: undef :: undef :: undef :: undef :: undef :: undef :: undef :: undef :: undef :: undef :: undef :: undef :: undef :: undef :: undef :: undef :: undef :: undef :: undef :: undef :: undef :: undef :: undef :: undef :: undef :: undef :: undef :: undef :: undef :: undef :: undef :: undef :: undef :: undef :: undef :: undef :: undef :: undef :: []), defers := [] } w26 := by
   intro cnt j32 j33 j34 j35 w26 hcn hv
   refine k25 _ _ (sK fun _ k27 => ?_)
   obtain ⟨ab, ao, had, hrdx0⟩ := text_reads hra (show args[0]? = some a0 by rw [hargs]; rfl)
   subst had
   refine rL (uM rfl ?_)
   refine uG (.pointer (some ⟨ab, ao + 0, none⟩)) rfl (ex_index rfl rfl rfl (run_idx1 (k := 0) Tryz.underlying22 s9es22 (by omega))) ?_
   refine uL _ rfl (run_load1 s9na9 (hrdx0 _ _ _ (Base.Le.refl _) no_res hv 0 _ rfl)) (uM rfl ?_)
   refine sl_rowN (pv := #[(0, vS a0), (1, vS cnt)]) (L := [vS a0, vS cnt]) (e := 9) tV (wn rfl) rfl (by simp only [List.map_toArray, List.map_cons, List.map_nil]; rfl) hv (fun w => by kernel_rfl) (fun b28 w29 hv => ?_)
   simp only [zP, po]
   obtain ⟨D1, hD1, hv, hrk, -, -⟩ := (hv.cellRow (n := 2) (c := 2) (size := 1) rfl (by decide) (by decide)).rowBy
   refine xC v8callable71 rfl ((viewInts D1 _ _ _ 2 [a0, cnt] hrk (by simp) (hN.more hD1) hv).mono ?_) rfl
   rintro e w30 ⟨E, ia, ic, ns, ei, hE, rfl, hri, hir, hv⟩
   refine ⟨_, rfl, ?_⟩
   have heo : eo = 0 := by omega
   subst heo
   rcases ints_two hir with ⟨rfl, n0, n1, rfl, hn0, hn1⟩ | ⟨rfl, rfl, hnb⟩
   ·have hr0 := numP_rng hn0
    have hr1 := numP_rng hn1
    obtain ⟨ib, io, had, hrd0⟩ := int_reads hri (show [n0, n1][0]? = some n0 from rfl)
    obtain ⟨ib9, io9, had9, hrd1⟩ := int_reads hri (show [n0, n1][1]? = some n1 from rfl)
    subst had
    cases had9
    refine uG (.tuple #[.slice (some ⟨ib, io, none⟩) 2 ic, vI 0]) rfl (ex_move rfl rfl) ?_
    refine uG (.slice (some ⟨ib, io, none⟩) 2 ic) rfl (ex_extract rfl rfl rfl) (uE rfl ?_)
    refine uA rfl (uA rfl ?_)
    refine uW k27 (sK fun _ k31 => ?_)
    refine sK fun _ k32 => rL (uM rfl ?_)
    refine uG (.bool false) rfl (ex_neq rfl rfl rfl (by decide)) (uW k32 ?_)
    refine cF rfl (kS ?_)
    refine tK k31 (sK fun _ k33 => ?_)
    refine sK fun _ k34 => rL (uG (.slice (some ⟨ib, io, none⟩) 2 ic) rfl (ex_move rfl rfl) ?_)
    refine uG (.pointer (some ⟨ib, io + 0, none⟩)) rfl (ex_index rfl rfl rfl (run_idx1 (k := 0) Tryz.underlying148 s11es148 (by omega))) ?_
    refine uL _ rfl (run_load1 s2na3 (hrd0 _ _ _ (Base.Le.refl _) no_res hv 0 _ rfl)) ?_
    by_cases hb35 : n0 < 0
    ·refine uG (.bool true) rfl (ex_lss rfl rfl rfl (qT hb35)) (uM rfl ?_)
     iterate 4 refine uP rfl ?_
     refine uK rfl (uW k34 ?_)
     refine cT rfl (sK fun _ k36 => ?_)
     refine rL (uG (.agg #[vI 0, vI 0, vI 0, vS []]) rfl (ex_buildN (vs := #[]) rfl (by simp only [List.map_toArray, List.map_nil]) (by kernel_rfl)) ?_)
     refine xS 2 rfl hv v8sz143 rfl (by exact ⟨rfl, rfl, rfl, rfl, trivial⟩) (fun w37 hv => ?_)
     simp only [zS, zO, sp] at hv
     refine uA rfl (uW k36 ?_)
     refine rR (tR ?_)
     refine bodyPost_ret (res_cell2 rfl rfl (lM 2 v8wd143 hv rfl rfl rfl rfl)) rfl ?_
     rw [hdr] at hopt
     have hn1c : NumP (cntOf t1 b1) n1 true := by rw [hcn]; exact hn1
     exact ⟨0, 0, 0, [], 44, rfl, fun _ => ⟨rfl, rfl, rfl, rfl⟩, .inr ⟨a0, rest, hargs, .inr ⟨t0, t1, b0, b1, hopt, .inr ⟨n0, n1, hn0, hn1c, .inl ⟨rfl, by omega⟩⟩⟩⟩, ((hv.kp [] 0 3)).weak (hD1.trans hE)⟩
    refine uG (.bool false) rfl (ex_lss rfl rfl rfl (qF hb35)) (uM rfl ?_)
    refine uG (.slice (some ⟨ib, io, none⟩) 2 ic) rfl (ex_move rfl rfl) ?_
    refine uG (.pointer (some ⟨ib, io + 1, none⟩)) rfl (ex_index rfl rfl rfl (run_idx1 (k := 1) Tryz.underlying148 s11es148 (by omega))) ?_
    refine uL _ rfl (run_load1 s2na3 (hrd1 _ _ _ (Base.Le.refl _) no_res hv 0 _ rfl)) ?_
    by_cases hb38 : n1 < 1
    ·refine uG (.bool true) rfl (ex_lss rfl rfl rfl (qT hb38)) (uK rfl ?_)
     refine uW k34 (cT rfl ?_)
     refine sK fun _ k39 => rL (uG (.agg #[vI 0, vI 0, vI 0, vS []]) rfl (ex_buildN (vs := #[]) rfl (by simp only [List.map_toArray, List.map_nil]) (by kernel_rfl)) ?_)
     refine xS 2 rfl hv v8sz143 rfl (by exact ⟨rfl, rfl, rfl, rfl, trivial⟩) (fun w40 hv => ?_)
     simp only [zS, zO, sp] at hv
     refine uA rfl (uW k39 ?_)
     refine rR (tR ?_)
     refine bodyPost_ret (res_cell2 rfl rfl (lM 2 v8wd143 hv rfl rfl rfl rfl)) rfl ?_
     rw [hdr] at hopt
     have hn1c : NumP (cntOf t1 b1) n1 true := by rw [hcn]; exact hn1
     exact ⟨0, 0, 0, [], 44, rfl, fun _ => ⟨rfl, rfl, rfl, rfl⟩, .inr ⟨a0, rest, hargs, .inr ⟨t0, t1, b0, b1, hopt, .inr ⟨n0, n1, hn0, hn1c, .inl ⟨rfl, by omega⟩⟩⟩⟩, ((hv.kp [] 0 3)).weak (hD1.trans hE)⟩
    refine uG (.bool false) rfl (ex_lss rfl rfl rfl (qF hb38)) (uK rfl ?_)
    refine uW k34 (cF rfl ?_)
    refine kS (tK k33 ?_)
    refine sK fun _ k41 => rL (uM rfl ?_)
    refine uG (vI (max n 0)) rfl (ex_max2 (m := n) (n := 0) rfl rfl rfl (by split <;> omega)) (uA rfl ?_)
    refine uW k41 (sK fun _ k42 => ?_)
    have hk0 : 0 ≤ n0 := by omega
    have hk1 : 1 ≤ n1 := by omega
    refine rL (uG (.slice (some ⟨ib, io, none⟩) 2 ic) rfl (ex_move rfl rfl) ?_)
    refine uG (.pointer (some ⟨ib, io + 0, none⟩)) rfl (ex_index rfl rfl rfl (run_idx1 (k := 0) Tryz.underlying148 s11es148 (by omega))) ?_
    refine uL _ rfl (run_load1 s2na3 (hrd0 _ _ _ (Base.Le.refl _) no_res hv 0 _ rfl)) (uM rfl ?_)
    refine uG (vI (min n0 (max n 0))) rfl (ex_min2 (m := n0) (n := (max n 0)) rfl rfl rfl (by split <;> omega)) (uM rfl ?_)
    refine uG (.agg #[vI (min n0 (max n 0)), vI 0, vI 0, vS mt]) rfl (ex_buildN (vs := #[(0, vI (min n0 (max n 0))), (3, vS mt)]) rfl (by simp only [List.map_toArray, List.map_cons, List.map_nil]; rfl) (by kernel_rfl)) ?_
    refine sl_alloc tV (wn rfl) rfl hv v8al143 (fun b43 w44 hv => ?_)
    simp only [zP, po]
    refine xS 0 rfl hv v8sz143 rfl (by exact ⟨rfl, rfl, rfl, rfl, trivial⟩) (fun w45 hv => ?_)
    simp only [zO, sp] at hv
    refine uW k42 (sK fun _ k46 => ?_)
    refine rW mixed [12] [0,1,2,3,4,5,6,7,8,9,10,11,12] 89 rfl (by kernel_rfl) hv ?_
    simp only [qm, opAt]
    refine dG (vP b43) rfl (ex_field rfl rfl (v8fa143_0 _ _ _)) (dL _ rfl (fun hv => ex_load rfl rfl (run_load1 s2na3 (hv.load 0 0 rfl rfl))) ?_)
    refine dM (.slice (some ⟨ib, io, none⟩) 2 ic) rfl ?_
    simp only [zP, po]
    refine dG (.pointer (some ⟨ib, io + 1, none⟩)) rfl (ex_index rfl rfl rfl (run_idx1 (k := 1) Tryz.underlying148 s11es148 (by omega))) (dL _ rfl (fun hv => ex_load rfl rfl (run_load1 s2na3 (hrd1 _ _ _ (Base.Le.refl _) no_res hv 0 _ rfl))) ?_)
    refine dM (vI (max n 0)) rfl ?_
    simp only [zP, po]
    refine dG (vP b43) rfl (ex_field rfl rfl (v8fa143_0 _ _ _)) (dL _ rfl (fun hv => ex_load rfl rfl (run_load1 s2na3 (hv.load 0 0 rfl rfl))) ?_)
    refine dG (vI (max n 0 - (min n0 (max n 0)))) rfl (ex_sub rfl rfl rfl (by rw [i64_in (by omega)])) ?_
    simp only [zP, po]
    refine dG (vI (min n1 (max n 0 - (min n0 (max n 0))))) rfl (ex_min2 (m := n1) (n := (max n 0 - (min n0 (max n 0)))) rfl rfl rfl (by split <;> omega)) (dG (vI ((min n0 (max n 0)) + min n1 (max n 0 - (min n0 (max n 0))))) rfl (ex_add rfl rfl rfl (by rw [i64_in (by omega)])) ?_)
    refine dG (.pointer (some ⟨b43, 1, none⟩)) rfl (ex_field rfl rfl (v8fa143_1 _ _ _)) ?_
    simp only [zP, po]
    refine dS rfl fun w47 hv => mV 0 (vI ((min n0 (max n 0)) + min n1 (max n 0 - (min n0 (max n 0))))) rfl hv x3sz3 rfl rfl (fun w48 hv => ?_)
    simp only [zO, sp] at hv
    refine dW hv (dE fun w49 hv => ?_)
    simp only [zP, po]
    refine tK k46 (sK fun _ k50 => ?_)
    refine sK fun _ k51 => rL (uF (.pointer (some ⟨b43, 1, none⟩)) rfl (v8fa143_1 _ _ _) ?_)
    refine uL _ rfl (run_load1 s2na3 (hv.load 0 1 rfl rfl)) (uM rfl ?_)
    by_cases hb52 : ((min n0 (max n 0)) + min n1 (max n 0 - (min n0 (max n 0)))) < (max n 0)
    ·refine uG (.bool true) rfl (ex_lss rfl rfl rfl (qT hb52)) (uW k51 ?_)
     refine cT rfl (rL ?_)
     refine uF (.pointer (some ⟨b43, 1, none⟩)) rfl (v8fa143_1 _ _ _) ?_
     refine uL _ rfl (run_load1 s2na3 (hv.load 0 1 rfl rfl)) ?_
     refine uF (.pointer (some ⟨b43, 2, none⟩)) rfl (v8fa143_2 _ _ _) ?_
     refine xV 0 (vI ((min n0 (max n 0)) + min n1 (max n 0 - (min n0 (max n 0))))) rfl hv x3sz3 rfl rfl (fun w53 hv => ?_)
     simp only [zO, sp] at hv
     refine uW k50 (sK fun _ k54 => ?_)
     refine rL (uL (.agg #[vI (min n0 (max n 0)), vI ((min n0 (max n 0)) + min n1 (max n 0 - (min n0 (max n 0)))), vI ((min n0 (max n 0)) + min n1 (max n 0 - (min n0 (max n 0)))), vS mt]) rfl (lM 0 v8wd143 hv rfl rfl rfl rfl) ?_)
     refine xS 3 rfl hv v8sz143 rfl (by exact ⟨rfl, rfl, rfl, rfl, trivial⟩) (fun w55 hv => ?_)
     simp only [zS, zO, sp] at hv
     refine uA rfl (uW k54 ?_)
     refine rR (bodyPost_ret (res_cell2 rfl rfl (lM 3 v8wd143 hv rfl rfl rfl rfl)) rfl ?_)
     rw [hdr] at hopt
     have hn1c : NumP (cntOf t1 b1) n1 true := by rw [hcn]; exact hn1
     exact ⟨(min n0 (max n 0)), ((min n0 (max n 0)) + min n1 (max n 0 - (min n0 (max n 0)))), ((min n0 (max n 0)) + min n1 (max n 0 - (min n0 (max n 0)))), mt, 0, rfl, fun h9 => absurd rfl h9, .inr ⟨a0, rest, hargs, .inr ⟨t0, t1, b0, b1, hopt, .inr ⟨n0, n1, hn0, hn1c, .inr ⟨rfl, hk0, hk1, hmt, rfl, rfl, by rw [if_pos (by omega)]⟩⟩⟩⟩, ((hv.kp [] 0 4)).weak (hD1.trans hE)⟩
    refine uG (.bool false) rfl (ex_lss rfl rfl rfl (qF hb52)) (uW k51 ?_)
    refine cF rfl (kS ?_)
    refine tK k50 (sK fun _ k56 => ?_)
    refine rL (uL (.agg #[vI (min n0 (max n 0)), vI ((min n0 (max n 0)) + min n1 (max n 0 - (min n0 (max n 0)))), vI 0, vS mt]) rfl (lM 0 v8wd143 hv rfl rfl rfl rfl) ?_)
    refine xS 3 rfl hv v8sz143 rfl (by exact ⟨rfl, rfl, rfl, rfl, trivial⟩) (fun w57 hv => ?_)
    simp only [zS, zO, sp] at hv
    refine uA rfl (uW k56 ?_)
    refine rR (bodyPost_ret (res_cell2 rfl rfl (lM 3 v8wd143 hv rfl rfl rfl rfl)) rfl ?_)
    rw [hdr] at hopt
    have hn1c : NumP (cntOf t1 b1) n1 true := by rw [hcn]; exact hn1
    exact ⟨(min n0 (max n 0)), ((min n0 (max n 0)) + min n1 (max n 0 - (min n0 (max n 0)))), 0, mt, 0, rfl, fun h9 => absurd rfl h9, .inr ⟨a0, rest, hargs, .inr ⟨t0, t1, b0, b1, hopt, .inr ⟨n0, n1, hn0, hn1c, .inr ⟨rfl, hk0, hk1, hmt, rfl, rfl, by rw [if_neg (by omega)]⟩⟩⟩⟩, ((hv.kp [] 0 4)).weak (hD1.trans hE)⟩
   refine uM rfl (uE rfl ?_)
   refine uE rfl (uA rfl ?_)
   refine uA rfl (uW k27 ?_)
   refine sK fun _ k58 => sK fun _ k59 => rL (uM rfl ?_)
   refine uG (.bool true) rfl (ex_neq rfl rfl rfl (by decide)) (uW k59 ?_)
   refine cT rfl (sK fun _ k60 => ?_)
   refine rL (uG (.agg #[vI 0, vI 0, vI 0, vS []]) rfl (ex_buildN (vs := #[]) rfl (by simp only [List.map_toArray, List.map_nil]) (by kernel_rfl)) ?_)
   refine uM rfl ?_
   refine xS 2 rfl hv v8sz143 rfl (by exact ⟨rfl, rfl, rfl, rfl, trivial⟩) (fun w61 hv => ?_)
   simp only [zS, zO, sp] at hv
   refine uA rfl (uW k60 ?_)
   refine rR (tR ?_)
   refine bodyPost_ret (res_cell2 rfl rfl (lM 2 v8wd143 hv rfl rfl rfl rfl)) rfl ?_
   rw [hdr] at hopt
   exact ⟨0, 0, 0, [], 41, rfl, fun _ => ⟨rfl, rfl, rfl, rfl⟩, .inr ⟨a0, rest, hargs, .inr ⟨t0, t1, b0, b1, hopt, .inl ⟨rfl, by rw [hcn]; exact hnb⟩⟩⟩, ((hv.kp [] 0 3)).weak (hD1.trans hE)⟩
  refine sK fun _ k62 => rL (uG (.pointer (some ⟨b13, 1, none⟩)) rfl (ex_index rfl rfl rfl (run_idxA1 (k := 1) v8ua173 v8ea173 (by omega))) ?_)
  refine uL _ rfl (run_load1 s2na4 (hv.load 0 1 rfl rfl)) (uW k62 ?_)
  refine wpIn_cond_split (t := b1) rfl (fun hc63 => ?_) (fun hc63 => ?_)
  ·refine rL (uG (.pointer (some ⟨b11, 1, none⟩)) rfl (ex_index rfl rfl rfl (run_idxA1 (k := 1) v8ua172 v8ea172 (by omega))) ?_)
   refine uL _ rfl (run_load1 s9na9 (hv.load 1 1 rfl rfl)) (uA rfl ?_)
   refine uZ (then_normal (hJ25 t1 _ _ _ _ _ (by rw [hc63]; rfl) hv))
  refine kS (then_normal (hJ25 ([49, 48] : List UInt8) _ _ _ _ _ (by rw [hc63]; rfl) hv))
 refine sK fun _ k64 => rL (uG (vP b13) rfl (ex_index rfl rfl rfl (run_idxA1 (k := 0) v8ua173 v8ea173 (by omega))) ?_)
 refine uL _ rfl (run_load1 s2na4 (hv.load 0 0 rfl rfl)) (uW k64 ?_)
 refine wpIn_cond_split (t := b0) rfl (fun hc65 => ?_) (fun hc65 => ?_)
 ·refine rL (uG (vP b11) rfl (ex_index rfl rfl rfl (run_idxA1 (k := 0) v8ua172 v8ea172 (by omega))) ?_)
  refine uL _ rfl (run_load1 s9na9 (hv.load 1 0 rfl rfl)) (uA rfl ?_)
  refine uZ (then_normal (hJ23 t0 _ _ _ _ _ (by rw [hc65]; rfl) hv))
 refine kS (then_normal (hJ23 ([42] : List UInt8) _ _ _ _ _ (by rw [hc65]; rfl) hv))
theorem viewPages (B : Base) (H : List Res) (w : World) (n : Int) (hn0 : -9223372036854775808 ≤ n) (hn1 : n ≤ 9223372036854775807) (aa : Option Addr) (ac : Nat) (args : List (List UInt8)) (hra : RdV B [] aa (textCells args)) (hma : args.length ≤ 10000) (hxl : ∀ x ∈ args, x.length ≤ 9223372036854775807) (hoka : SliceOk aa args.length ac) (hN : NumB B) (hv : Inv B H w) : Calls Tryz.prog 67 #[vI n, .slice aa args.length ac] w fun e w' => ∃ fr to nx mt ec, e = .returned (.tuple #[.agg #[vI fr, vI to, vI nx, vS mt], vI ec]) ∧ PageR n args fr to nx mt ec ∧ Inv B H w' := by
 refine (viewPagesZ B H w n hn0 hn1 aa ac args hra hma hxl hoka hN hv).mono ?_
 rintro e w' ⟨fr, to, nx, mt, ec, h1, -, h2, h3⟩
 exact ⟨fr, to, nx, mt, ec, h1, h2, h3⟩
theorem v8fa143_3 : FA Tryz.prog 143 3 3 := fun w b o => by kernel_rfl
theorem v8callable85 : Callable Tryz.prog 85 := cb Tryz.func85 (by kernel_rfl)
theorem pageFits (B : Base) (H : List Res) (w : World) (fr to nx : Int) (mt s : List UInt8) (hm : mt.length ≤ 1000000) (hs : s.length ≤ 1000000) (hv : Inv B H w) :
  Calls Tryz.prog 68 #[.agg #[vI fr, vI to, vI nx, vS mt], vS s] w fun e w' => ∃ b, e = .returned (.bool b) ∧ (b = true ↔ MatchP (divS mt true 0) s) ∧ Inv B H w' := by
 refine cW Tryz.func68 rfl Tryz.ntmps68 ?_
 simp only [al]
 refine sK fun _ k1 => rL (sl_box (L := [vI fr, vI to, vI nx, vS mt]) tV (wn rfl) rfl rfl hv (fun w => by kernel_rfl) (fun b2 w3 hv => ?_))
 refine uA rfl (uW k1 ?_)
 refine sK fun _ k4 => rL (uF (.pointer (some ⟨b2, 3, none⟩)) rfl (v8fa143_3 _ _ _) ?_)
 refine uL _ rfl (run_load1 s9na9 (hv.load 0 3 rfl rfl)) (uM rfl ?_)
 refine xC v8callable85 rfl ((globMatch B _ _ mt hm s hs hv).mono ?_) rfl
 rintro e w5 ⟨b, rfl, hb, hv⟩
 refine ⟨_, rfl, uA rfl ?_⟩
 refine uW k4 (rR ?_)
 refine bR rfl rfl (⟨b, rfl, hb, (hv.kp [] 0 1)⟩)
theorem valAt_open {C : Base} {v : Val} {p t z : Value} (h : ValAt C v p t z) : ∃ pa pc sa sc za zc, p = .slice pa v.pairs.length pc ∧ t = .slice sa v.texts.length sc ∧ z = .slice za v.zset.length zc ∧ SliceOk pa v.pairs.length pc ∧ RdV C [] pa (pairCells v.pairs) ∧ SliceOk sa v.texts.length sc ∧ RdV C [] sa (textCells v.texts) ∧ SliceOk za v.zset.length zc ∧ RdV C [] za (memCells v.zset) := by
 obtain ⟨⟨a1, c1, h1, h2, h3⟩, ⟨a2, c2, h4, h5, h6⟩, ⟨a3, c3, h7, h8, h9⟩, -⟩ := h
 exact ⟨a1, c1, a2, c2, a3, c3, h1, h4, h7, h2, h3, h5, h6, h8, h9⟩
theorem tx_drop (l : List (List UInt8)) (i : Nat) : (textCells l).drop i = textCells (l.drop i) := by simp [textCells]
theorem sliced_midV {B : Base} {ad : Option Addr} {n c l h : Nat} {xs : List Value} (size : Nat) (hok : SliceOk ad n c) (hr : RdV B [] ad xs) (hl : xs.length = n * size) (hlh : l ≤ h) (hh : h ≤ n) (hz : 0 < size) : ∃ a2 c2, sliced ad l h c size = .slice a2 (h - l) c2 ∧ SliceOk a2 (h - l) c2 ∧ RdV B [] a2 ((xs.drop (l * size)).take ((h - l) * size)) := by
 obtain ⟨a2, c2, h1, h2, h3⟩ := sliced_fromV size hok hr hl (show l ≤ n by omega) hz
 have e : sliced ad l h c size = .slice a2 (h - l) c2 := by
  unfold sliced at h1 ⊢
  split at h1 <;> rename_i hc <;> simp only [hc, if_true, if_false] at h1 ⊢ <;> (injection h1 with e1 e2 e3; subst e1 e3; rfl)
 refine ⟨a2, c2, e, ⟨by have := h2.le; omega, h2.max, h2.nil⟩, fun i hi => ?_⟩
 rw [List.length_take] at hi
 obtain ⟨b, off, h5, h6⟩ := h3 i (by omega)
 refine ⟨b, off, h5, ?_⟩
 rw [List.getElem_take]
 exact h6
section
variable {P : Program} {t : TypeId} {w : World}
theorem run_lhAny {ad : Option Addr} {n c l h size : Nat} (ht : P.underlying t = some (.slice (P.elem t))) (hs : ∀ w, (sizeOf (P.elem t)).run P w = .ok size w) (h1 : l ≤ h) (h2 : h ≤ c) :
  (Instr.sliceAt t (.slice ad n c) (some (vI l)) (some (vI h)) none).run P w = .ok (sliced ad l h c size) w := by
 rw [run_sliceAt_slice w t _ _ _ _ ht, run_slice_lh w t _ n c ht .i64 .i64 l h (by omega) (by omega) (by omega), hs]
 simp only [Result.andThen, Int.toNat_natCast]
theorem run_lhAnyI {ad : Option Addr} {n c l h size : Nat} {x y : Int} (hx : x = (l : Int)) (hy : y = (h : Int)) (ht : P.underlying t = some (.slice (P.elem t))) (hs : ∀ w, (sizeOf (P.elem t)).run P w = .ok size w) (h1 : l ≤ h) (h2 : h ≤ c) :
  (Instr.sliceAt t (.slice ad n c) (some (vI x)) (some (vI y)) none).run P w = .ok (sliced ad l h c size) w := by
 subst hx hy; exact run_lhAny ht hs h1 h2
end
def tleaf (s : List UInt8) : Leaf := ⟨3, s, 0⟩
theorem strs_leaf (l : List (List UInt8)) : strsCells l = lvC (l.map tleaf) none := by
 show l.flatMap _ = (l.map tleaf).flatMap leafN
 rw [List.flatMap_map]; rfl
theorem listIn_two {B : Base} {s : List UInt8} {l : List (List UInt8)} {a : Option Addr} {c : Nat} (hok : SliceOk a l.length c) (hr : RdV B [] a (strsCells l)) (hm : l.length ≤ 1000000) :
  ListIn B 2 (rpCells 3 s 0 (vN) ++ rpCells 5 [] 0 (.slice a l.length c)) (rList [rStr s, rStrs l]) := by
 refine .inr ⟨[⟨3, s, 0⟩], l.map tleaf, ⟨5, [], 0⟩, a, c, rfl, ?_, ?_, ?_, ?_, ?_⟩
 ·rw [List.length_map]; rfl
 ·rw [List.length_map]; exact hok
 ·rw [← strs_leaf]; exact hr
 ·rw [List.length_map]; exact hm
 rw [List.map_map]; rfl
end Go.Proofs.YtffnhfkkochnhaaGreatDoor
