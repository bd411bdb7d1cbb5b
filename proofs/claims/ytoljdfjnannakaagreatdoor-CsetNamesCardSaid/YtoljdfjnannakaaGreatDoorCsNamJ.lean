/- glob: class, divide, Match. -/
import Derived.Test.YtoljdfjnannakaaGreatDoorCsNamB
import Derived.Test.YtoljdfjnannakaaGreatDoorCsNamI
import Derived.Test.YtoljdfjnannakaaGreatDoorRows
set_option maxRecDepth 100000
namespace Go.Proofs.YtoljdfjnannakaaGreatDoor
open Go.RowKit Go.Pm
theorem chr_lt (p : List UInt8) (i : Nat) : chr p i < 256 := (p.getD i 0).toNat_lt
theorem litS_lt (p : List UInt8) (i : Nat) : (litS p i).1 < 256 := by unfold litS; split <;> exact chr_lt p _
theorem highS_lt (p : List UInt8) (i : Nat) {lo : Nat} (h : lo < 256) : (highS p i lo).1 < 256 := by
 unfold highS; split
 ·exact litS_lt p _
 exact h
theorem clsS_hyp {p : List UInt8} {i k0 : Nat} {neg : Bool} (hneg : neg = true ↔ (chr p i = 94 ∧ i < p.length)) (hk0 : (neg = true ∧ k0 = i + 1) ∨ (neg = false ∧ k0 = i)) : (neg = true ∧ k0 = i + 1 ∧ chr p i = 94 ∧ i < p.length) ∨ (neg = false ∧ k0 = i ∧ ¬ (chr p i = 94 ∧ i < p.length)) := by
 rcases hk0 with ⟨h1, h2⟩ | ⟨h1, h2⟩
 ·exact .inl ⟨h1, h2, hneg.1 h1⟩
 exact .inr ⟨h1, h2, fun h => by rw [hneg.2 h] at h1; cases h1⟩
theorem clsS_of {p : List UInt8} {i : Nat} {b : Bool} {j : Nat} (h : (b = true ∧ j = i + 1 ∧ chr p i = 94 ∧ i < p.length) ∨ (b = false ∧ j = i ∧ ¬ (chr p i = 94 ∧ i < p.length))) : clsS p i = classS p b j j w0 := by
 unfold clsS
 rcases h with ⟨rfl, rfl, h⟩ | ⟨rfl, rfl, h⟩
 ·rw [if_pos h]
 rw [if_neg h]
theorem gmal199 (w : World) : (Instr.alloc 199 true (.tuple #[])).run Tryz.prog w = .ok (.pointer (some ⟨w.heap.size, 0, none⟩)) (w.alloc (.cells ([.bool false, .int .u64 0, .int .u64 0, .int .u64 0, .int .u64 0] : List Value).toArray 199)) := by kernel_rfl
theorem gmcallable139 : Callable Tryz.prog 139 := ⟨_, Tryz.func139, by kernel_rfl, by kernel_rfl⟩
theorem gmcallable140 : Callable Tryz.prog 140 := ⟨_, Tryz.func140, by kernel_rfl, by kernel_rfl⟩
set_option maxHeartbeats 8000000 in
theorem globClass (B : Base) (H : List Res) (w : World) (p : List UInt8) (hp : p.length ≤ 1000000) (i : Nat) (hi : i ≤ p.length) (hv : Inv B H w) :
  Calls Tryz.prog 117 #[vS p, vI i] w fun e w' => ∃ (pp : Part) (j : Nat) (b : Bool), e = .returned (.tuple #[.agg (partC pp).toArray, vI j, .bool b]) ∧ pp.star = false ∧ pp.ws.length = 4 ∧ ((b = true ∧ clsS p i = some (pp.ws, j)) ∨ (b = false ∧ clsS p i = none)) ∧ Inv B H w' := by
 refine cW Tryz.func117 rfl Tryz.ntmps117 ?_
 simp only [al]
 refine sK fun _ k1 => rL (sl_alloc tV (wn rfl) rfl hv gmal199 (fun b2 w3 hv => ?_))
 refine xA (vI 0) rfl (xA (.bool false) rfl ?_)
 simp only [zP, po]
 refine wK k1 (sK fun _ k4 => ?_)
 refine rL (sl_alloc tV (wn rfl) rfl hv gmal199 (fun b5 w6 hv => ?_))
 simp only [zP, po]
 refine wK k4 (sK fun K7 k7 => ?_)
 have hJ7 : ∀ (neg : Bool) (j12 j13 j14 j15 j16 j17 j18 j19 j20 j21 : Value) (w8 : World), (neg = true ↔ (chr p i = 94 ∧ i < p.length)) → Inv B (Res.cell b5 [.bool false, .int .u64 0, .int .u64 0, .int .u64 0, .int .u64 0] 199 :: Res.cell b2 [.bool false, .int .u64 0, .int .u64 0, .int .u64 0, .int .u64 0] 199 :: H) w8 → K7 { tmps := #[vS p, vI i, undef, undef, vP b2, vI 0, .bool false, vP b5, .bool neg, undef, undef, undef, j12, j13, j14, j15, j16, j17, j18, j19, j20, j21, undef, undef, undef, undef, undef, undef, undef, undef, undef, undef, undef, undef, undef, undef, undef, undef, undef, undef, undef, undef, undef, undef, undef, undef, undef, undef, undef, undef, undef, undef, undef, undef, undef, undef, undef, undef, undef, undef, undef, undef, undef, undef, undef, undef, undef, undef, undef, undef, undef, undef, undef, undef, undef, undef, undef, undef, undef, undef, undef, undef], defers := [] } w8 := by
  intro neg j12 j13 j14 j15 j16 j17 j18 j19 j20 j21 w8 hneg hv
  refine k7 _ _ (sK fun K9 k9 => ?_)
  have hJ9 : ∀ (k0 : Nat) (j22 j23 j24 : Value) (w10 : World), ((neg = true ∧ k0 = i + 1) ∨ (neg = false ∧ k0 = i)) → Inv B (Res.cell b5 [.bool false, .int .u64 0, .int .u64 0, .int .u64 0, .int .u64 0] 199 :: Res.cell b2 [.bool false, .int .u64 0, .int .u64 0, .int .u64 0, .int .u64 0] 199 :: H) w10 → K9 { tmps := #[vS p, vI k0, undef, undef, vP b2, vI 0, .bool false, vP b5, .bool neg, undef, undef, undef, j12, j13, j14, j15, j16, j17, j18, j19, j20, j21, j22, j23, j24, undef, undef, undef, undef, undef, undef, undef, undef, undef, undef, undef, undef, undef, undef, undef, undef, undef, undef, undef, undef, undef, undef, undef, undef, undef, undef, undef, undef, undef, undef, undef, undef, undef, undef, undef, undef, undef, undef, undef, undef, undef, undef, undef, undef, undef, undef, undef, undef, undef, undef, undef, undef, undef, undef, undef, undef, undef], defers := [] } w10 := by
   intro k0 j22 j23 j24 w10 hk0 hv
   refine k9 _ _ ?_
   have hk0l : k0 ≤ p.length := by
    rcases hk0 with ⟨h9, rfl⟩ | ⟨-, rfl⟩
    ·have := (hneg.1 h9).2; omega
    exact hi
   refine sK fun _ k11 => sK fun _ k12 => rL (xM (vI k0) rfl ?_)
   refine xA (vI k0) rfl ?_
   simp only [zP, po]
   refine wK k12 (bB ?_)
   gi_loopw [1, 10, 11] (fun x1 x10 x11 wr => ∃ (k : Nat) (ws : W64), x1 = vI k ∧ ws.length = 4 ∧ k ≤ p.length ∧ classS p neg (k0) (k0) w0 = classS p neg (k0) k ws ∧ Inv B (Res.cell b5 (Value.bool false :: wordsV ws) 199 :: Res.cell b2 [.bool false, .int .u64 0, .int .u64 0, .int .u64 0, .int .u64 0] 199 :: H) wr) (fun x1 x10 x11 _ => p.length - (intOf x1).toNat)
   case atStart => exact ⟨k0, w0, rfl, rfl, by omega, rfl, ((hv.front 1 rfl).front 1 rfl)⟩
   case round =>
    obtain ⟨k, ws, rfl, hwl, hk, hcl, hv⟩ := hrel
    refine sK fun _ k14 => sK fun _ k15 => rL (xM (vI k) rfl ?_)
    refine xM (vS p) rfl (xG (vI (p.length : Int)) rfl (ex_lenStr Tryz.underlying9 rfl rfl) ?_)
    simp only [zP, po]
    by_cases hb16 : (k : Int) < (p.length : Int)
    ·refine xG (.bool true) rfl (ex_lss rfl rfl rfl (qT hb16)) ?_
     simp only [zP, po]
     refine wK k15 (cT rfl ?_)
     refine kS (tK k14 ?_)
     refine bB (sK fun _ k17 => ?_)
     refine sK fun _ k18 => rL (xM (vS p) rfl ?_)
     refine xM (vI k) rfl ?_
     obtain ⟨y19, hy19⟩ : ∃ y, p[k]? = some y := ⟨_, List.getElem?_eq_getElem (show k < p.length by omega)⟩
     have hy19c := chr_at hy19
     refine xG (.int .u8 (chr p (k) : Int)) rfl ((by rw [hy19c]; exact ex_sidx0 Tryz.underlying9 rfl rfl rfl hy19)) ?_
     simp only [zP, po]
     by_cases hb20 : (chr p (k) : Int) = 93
     ·refine xG (.bool true) rfl (ex_eql rfl rfl rfl (qT hb20)) (xM (.bool true) rfl ?_)
      refine xM (vI k) rfl ?_
      simp only [zP, po]
      refine xM (vI k0) rfl ?_
      by_cases hb21 : (k : Int) > (k0 : Int)
      ·refine xG (.bool true) rfl (ex_gtr rfl rfl rfl (qT hb21)) (xK true (.bool true) rfl ?_)
       simp only [zP, po]
       refine wK k18 (cT rfl ?_)
       refine sK fun K22 k22 => ?_
       have hJ22 : ∀ (ws2 : W64) (j39 j40 j41 : Value) (w23 : World), (ws2 = (if neg then invW ws else ws)) → (ws2.length = 4) → Inv B (Res.cell b5 (Value.bool false :: wordsV ws2) 199 :: Res.cell b2 [.bool false, .int .u64 0, .int .u64 0, .int .u64 0, .int .u64 0] 199 :: H) w23 → K22 { tmps := #[vS p, vI k, undef, undef, vP b2, u5, u6, vP b5, .bool neg, vI k0, u10, u11, j12, j13, j14, j15, j16, j17, j18, j19, j20, j21, j22, j23, j24, vI k0, vI k, vS p, vI (p.length : Int), .bool true, vS p, vI k, .int .u8 (chr p (k) : Int), .bool true, .bool true, vI k, vI k0, .bool true, .bool true, j39, j40, j41, u42, u43, u44, u45, u46, u47, u48, u49, u50, u51, u52, u53, u54, u55, u56, u57, u58, u59, u60, u61, u62, u63, u64, u65, u66, u67, u68, u69, u70, u71, u72, u73, u74, u75, u76, u77, u78, u79, u80, undef], defers := [] } w23 := by
        intro ws2 j39 j40 j41 w23 hws2 hwl2 hv
        refine k22 _ _ (sK fun _ k24 => ?_)
        obtain ⟨pp, hpp⟩ : ∃ q : Part, q = ⟨false, ws2⟩ := ⟨_, rfl⟩
        have hpl : pp.ws.length = 4 := by rw [hpp]; exact hwl2
        rw [show (Value.bool false :: wordsV (ws2)) = partC pp from by rw [← part_cells hpl, hpp]] at hv
        simp only [partC] at hv
        refine rL (xL (.agg #[.bool pp.star, wv (pp.ws.getD 0 0#64), wv (pp.ws.getD 1 0#64), wv (pp.ws.getD 2 0#64), wv (pp.ws.getD 3 0#64)]) rfl (lM 0 glwd199 hv rfl rfl rfl rfl) ?_)
        refine xM (vI k) rfl (xG (vI ((k + 1 : Nat) : Int)) rfl (ex_add rfl rfl rfl (by rw [i64_in (by omega)]; omega)) ?_)
        simp only [zP, po]
        refine xS 1 rfl hv glsz199 rfl (by exact ⟨rfl, rfl, rfl, rfl, rfl, trivial⟩) (fun w25 hv => ?_)
        simp only [zS, zO, sp] at hv
        refine xA (vI ((k + 1 : Nat) : Int)) rfl (xA (.bool true) rfl ?_)
        simp only [zP, po]
        refine wK k24 (rR ?_)
        refine tR (bZ ?_)
        refine tR (bZ ?_)
        refine tR (bodyPost_ret (res_cell3 rfl rfl (lM 1 glwd199 hv rfl rfl rfl rfl)) rfl ?_)
        have e9 : clsS p i = some (pp.ws, k + 1) := by
         rw [clsS_of (clsS_hyp hneg hk0), hcl, classS_close p (by omega) ⟨by omega, by omega⟩, hpp, ← hws2]
        exact ⟨pp, k + 1, true, rfl, by rw [hpp], hpl, .inl ⟨rfl, e9⟩, (hv.kp [] 0 2)⟩
       refine sK fun _ k26 => rL (xM (.bool neg) rfl ?_)
       simp only [zP, po]
       refine wK k26 (wpIn_cond_split (t := neg) rfl (fun hc27 => ?_) (fun hc27 => ?_))
       ·refine rL (xF (.pointer (some ⟨b5, 1, none⟩)) rfl (glfa199_1 _ _ _) ?_)
        refine xC glcallable138 rfl ((setInvertC B _ _ _ false ws hwl hv).mono ?_) rfl
        rintro e w28 ⟨rfl, hv⟩
        refine ⟨_, rfl, ?_⟩
        refine wL ?_
        simp only [zP, po]
        exact then_normal (hJ22 (invW ws) _ _ _ _ (by rw [hc27]; rfl) (invW_len.trans hwl) hv)
       refine kS (then_normal (hJ22 ws _ _ _ _ (by rw [hc27]; rfl) hwl hv))
      refine xG (.bool false) rfl (ex_gtr rfl rfl rfl (qF hb21)) (xK true (.bool false) rfl ?_)
      simp only [zP, po]
      refine wK k18 (cF rfl ?_)
      refine kS (tK k17 ?_)
      refine sK fun _ k29 => rL (xA (.int .u8 0) rfl ?_)
      refine xA (.int .u8 0) rfl ?_
      simp only [zP, po]
      refine wK k29 (sK fun _ k30 => ?_)
      refine rL (xM (vS p) rfl ?_)
      refine xM (vI k) rfl (xC gmcallable139 rfl ((globLiteral B _ _ p (k) (by omega) hp hv).mono ?_) rfl)
      rintro e w31 ⟨rfl, hv⟩
      refine ⟨_, rfl, ?_⟩
      have hlg := litS_gt p (k)
      have hll := litS_le p (show k < p.length by omega)
      simp only [zP, po]
      refine xM (.tuple #[.int .u8 ((litS p (k)).1 : Int), vI ((litS p (k)).2 : Int)]) rfl (xG (.int .u8 ((litS p (k)).1 : Int)) rfl (ex_extract rfl rfl rfl) ?_)
      refine xG (vI ((litS p (k)).2 : Int)) rfl (ex_extract rfl rfl rfl) ?_
      simp only [zP, po]
      refine xA (.int .u8 ((litS p (k)).1 : Int)) rfl (xA (vI ((litS p (k)).2 : Int)) rfl ?_)
      simp only [zP, po]
      refine wK k30 (sK fun _ k32 => ?_)
      refine rL (xM (.int .u8 ((litS p (k)).1 : Int)) rfl ?_)
      refine xA (.int .u8 ((litS p (k)).1 : Int)) rfl ?_
      simp only [zP, po]
      refine wK k32 (sK fun K33 k33 => ?_)
      have hJ33 : ∀ (hh k2 : Nat) (j52 j53 j54 j55 j56 j57 j58 j59 j60 j61 j62 j63 j64 j65 j66 j67 j68 j69 j70 j71 j72 j73 j74 j75 j76 : Value) (w34 : World), (highS p (litS p k).2 (litS p k).1 = (hh, k2)) → Inv B (Res.cell b5 (Value.bool false :: wordsV ws) 199 :: Res.cell b2 [.bool false, .int .u64 0, .int .u64 0, .int .u64 0, .int .u64 0] 199 :: H) w34 → K33 { tmps := #[vS p, vI k2, undef, undef, vP b2, u5, u6, vP b5, .bool neg, vI k0, .int .u8 ((litS p (k)).1 : Int), .int .u8 (hh : Int), j12, j13, j14, j15, j16, j17, j18, j19, j20, j21, j22, j23, j24, vI k0, vI k, vS p, vI (p.length : Int), .bool true, vS p, vI k, .int .u8 (chr p (k) : Int), .bool true, .bool true, vI k, vI k0, .bool false, .bool false, u39, u40, u41, u42, u43, u44, .tuple #[.int .u8 ((litS p (k)).1 : Int), vI ((litS p (k)).2 : Int)], vS p, vI k, .tuple #[.int .u8 ((litS p (k)).1 : Int), vI ((litS p (k)).2 : Int)], .int .u8 ((litS p (k)).1 : Int), vI ((litS p (k)).2 : Int), .int .u8 ((litS p (k)).1 : Int), j52, j53, j54, j55, j56, j57, j58, j59, j60, j61, j62, j63, j64, j65, j66, j67, j68, j69, j70, j71, j72, j73, j74, j75, j76, u77, u78, u79, u80, undef], defers := [] } w34 := by
       intro hh k2 j52 j53 j54 j55 j56 j57 j58 j59 j60 j61 j62 j63 j64 j65 j66 j67 j68 j69 j70 j71 j72 j73 j74 j75 j76 w34 hhs hv
       refine k33 _ _ ?_
       have hk2a : (litS p k).2 ≤ k2 := by have := highS_ge p (litS p k).2 (litS p k).1; rw [hhs] at this; exact this
       have hk2b : k2 ≤ p.length := by have := highS_le p (i := (litS p k).2) (lo := (litS p k).1) (by omega); rw [hhs] at this; exact this
       have hhl : hh < 256 := by have := highS_lt p (litS p k).2 (litS_lt p k); rw [hhs] at this; exact this
       refine rL (xF (.pointer (some ⟨b5, 1, none⟩)) rfl (glfa199_1 _ _ _) ?_)
       refine xM (.int .u8 ((litS p (k)).1 : Int)) rfl (xM (.int .u8 (hh : Int)) rfl ?_)
       simp only [zP, po]
       refine xC gmcallable140 rfl ((setAddRangeC B _ _ _ false ws hwl ((litS p k).1) hh (litS_lt p _) hhl hv).mono ?_) rfl
       rintro e w35 ⟨rfl, hv⟩
       refine ⟨_, rfl, ?_⟩
       refine wL ?_
       simp only [zP, po]
       refine bN (then_normal ?_)
       go_roundw
       case rel => exact ⟨_, _, rfl, by unfold addRangeW; rw [addUpto_len]; exact hwl, by omega, by rw [hcl, classS_step p (by omega) (by omega), hhs], ((hv.front 1 rfl).front 1 rfl)⟩
       case measure => show p.length - (((k2 : Nat) : Int)).toNat < p.length - ((k : Int)).toNat; omega
      refine sK fun _ k36 => rL (xM (vI ((litS p (k)).2 : Int)) rfl ?_)
      refine xG (vI (((litS p (k)).2 + 1 : Nat) : Int)) rfl (ex_add rfl rfl rfl (by rw [i64_in (by omega)]; omega)) (xM (vS p) rfl ?_)
      simp only [zP, po]
      refine xG (vI (p.length : Int)) rfl (ex_lenStr Tryz.underlying9 rfl rfl) ?_
      by_cases hb37 : (((litS p (k)).2 + 1 : Nat) : Int) < (p.length : Int)
      ·refine xG (.bool true) rfl (ex_lss rfl rfl rfl (qT hb37)) (xM (.bool true) rfl ?_)
       simp only [zP, po]
       refine xM (vS p) rfl (xM (vI ((litS p (k)).2 : Int)) rfl ?_)
       obtain ⟨y38, hy38⟩ : ∃ y, p[(litS p k).2]? = some y := ⟨_, List.getElem?_eq_getElem (show (litS p k).2 < p.length by omega)⟩
       have hy38c := chr_at hy38
       refine xG (.int .u8 (chr p ((litS p k).2) : Int)) rfl ((by rw [hy38c]; exact ex_sidx0 Tryz.underlying9 rfl rfl rfl hy38)) ?_
       simp only [zP, po]
       by_cases hb39 : (chr p ((litS p k).2) : Int) = 45
       ·refine xG (.bool true) rfl (ex_eql rfl rfl rfl (qT hb39)) (xK true (.bool true) rfl ?_)
        refine xM (.bool true) rfl ?_
        simp only [zP, po]
        refine xM (vS p) rfl (xM (vI ((litS p (k)).2 : Int)) rfl ?_)
        refine xG (vI (((litS p (k)).2 + 1 : Nat) : Int)) rfl (ex_add rfl rfl rfl (by rw [i64_in (by omega)]; omega)) ?_
        simp only [zP, po]
        obtain ⟨y40, hy40⟩ : ∃ y, p[(litS p k).2 + 1]? = some y := ⟨_, List.getElem?_eq_getElem (show (litS p k).2 + 1 < p.length by omega)⟩
        have hy40c := chr_at hy40
        refine xG (.int .u8 (chr p ((litS p k).2 + 1) : Int)) rfl ((by rw [hy40c]; exact ex_sidx0 Tryz.underlying9 rfl rfl rfl hy40)) ?_
        by_cases hb41 : (chr p ((litS p k).2 + 1) : Int) ≠ 93
        ·refine xG (.bool true) rfl (ex_neq rfl rfl rfl (qT hb41)) (xK true (.bool true) rfl ?_)
         simp only [zP, po]
         refine wK k36 (cT rfl ?_)
         refine rL (xM (vS p) rfl ?_)
         refine xM (vI ((litS p (k)).2 : Int)) rfl (xG (vI (((litS p (k)).2 + 1 : Nat) : Int)) rfl (ex_add rfl rfl rfl (by rw [i64_in (by omega)]; omega)) ?_)
         simp only [zP, po]
         refine xC gmcallable139 rfl ((globLiteral B _ _ p (((litS p (k)).2 + 1 : Nat)) (by omega) hp hv).mono ?_) rfl
         rintro e w42 ⟨rfl, hv⟩
         refine ⟨_, rfl, ?_⟩
         have hlg2 := litS_gt p (((litS p (k)).2 + 1 : Nat))
         have hll2 := litS_le p (show ((litS p (k)).2 + 1 : Nat) < p.length by omega)
         refine xM (.tuple #[.int .u8 ((litS p (((litS p (k)).2 + 1 : Nat))).1 : Int), vI ((litS p (((litS p (k)).2 + 1 : Nat))).2 : Int)]) rfl (xG (.int .u8 ((litS p (((litS p (k)).2 + 1 : Nat))).1 : Int)) rfl (ex_extract rfl rfl rfl) ?_)
         simp only [zP, po]
         refine xG (vI ((litS p (((litS p (k)).2 + 1 : Nat))).2 : Int)) rfl (ex_extract rfl rfl rfl) (xA (.int .u8 ((litS p (((litS p (k)).2 + 1 : Nat))).1 : Int)) rfl ?_)
         refine xA (vI ((litS p (((litS p (k)).2 + 1 : Nat))).2 : Int)) rfl (wL ?_)
         simp only [zP, po]
         exact then_normal (hJ33 ((litS p (((litS p (k)).2 + 1 : Nat))).1) ((litS p (((litS p (k)).2 + 1 : Nat))).2) _ _ _ _ _ _ _ _ _ _ _ _ _ _ _ _ _ _ _ _ _ _ _ _ _ _ (if_pos ⟨by omega, by omega, by omega⟩) hv)
        refine xG (.bool false) rfl (ex_neq rfl rfl rfl (qF hb41)) (xK true (.bool false) rfl ?_)
        simp only [zP, po]
        refine wK k36 (cF rfl ?_)
        refine kS (then_normal (hJ33 ((litS p (k)).1) ((litS p (k)).2) _ _ _ _ _ _ _ _ _ _ _ _ _ _ _ _ _ _ _ _ _ _ _ _ _ _ (if_neg (by omega)) hv))
       refine xG (.bool false) rfl (ex_eql rfl rfl rfl (qF hb39)) (xK true (.bool false) rfl ?_)
       refine xM (.bool false) rfl ?_
       simp only [zP, po]
       refine yP rfl (yP rfl ?_)
       refine yP rfl ?_
       simp only [zP, po]
       refine yP rfl (yP rfl ?_)
       refine xK false (.bool false) rfl ?_
       simp only [zP, po]
       refine wK k36 (cF rfl ?_)
       refine kS (then_normal (hJ33 ((litS p (k)).1) ((litS p (k)).2) _ _ _ _ _ _ _ _ _ _ _ _ _ _ _ _ _ _ _ _ _ _ _ _ _ _ (if_neg (by omega)) hv))
      refine xG (.bool false) rfl (ex_lss rfl rfl rfl (qF hb37)) (xM (.bool false) rfl ?_)
      simp only [zP, po]
      refine yP rfl (yP rfl ?_)
      refine yP rfl ?_
      simp only [zP, po]
      refine yP rfl (xK false (.bool false) rfl ?_)
      refine xM (.bool false) rfl ?_
      simp only [zP, po]
      refine yP rfl (yP rfl ?_)
      refine yP rfl ?_
      simp only [zP, po]
      refine yP rfl (yP rfl ?_)
      refine xK false (.bool false) rfl ?_
      simp only [zP, po]
      refine wK k36 (cF rfl ?_)
      refine kS (then_normal (hJ33 ((litS p (k)).1) ((litS p (k)).2) _ _ _ _ _ _ _ _ _ _ _ _ _ _ _ _ _ _ _ _ _ _ _ _ _ _ (if_neg (by omega)) hv))
     refine xG (.bool false) rfl (ex_eql rfl rfl rfl (qF hb20)) (xM (.bool false) rfl ?_)
     refine yP rfl ?_
     simp only [zP, po]
     refine yP rfl (yP rfl ?_)
     refine xK false (.bool false) rfl ?_
     simp only [zP, po]
     refine wK k18 (cF rfl ?_)
     refine kS (tK k17 ?_)
     refine sK fun _ k43 => rL (xA (.int .u8 0) rfl ?_)
     refine xA (.int .u8 0) rfl ?_
     simp only [zP, po]
     refine wK k43 (sK fun _ k44 => ?_)
     refine rL (xM (vS p) rfl ?_)
     refine xM (vI k) rfl (xC gmcallable139 rfl ((globLiteral B _ _ p (k) (by omega) hp hv).mono ?_) rfl)
     rintro e w45 ⟨rfl, hv⟩
     refine ⟨_, rfl, ?_⟩
     have hlg := litS_gt p (k)
     have hll := litS_le p (show k < p.length by omega)
     simp only [zP, po]
     refine xM (.tuple #[.int .u8 ((litS p (k)).1 : Int), vI ((litS p (k)).2 : Int)]) rfl (xG (.int .u8 ((litS p (k)).1 : Int)) rfl (ex_extract rfl rfl rfl) ?_)
     refine xG (vI ((litS p (k)).2 : Int)) rfl (ex_extract rfl rfl rfl) ?_
     simp only [zP, po]
     refine xA (.int .u8 ((litS p (k)).1 : Int)) rfl (xA (vI ((litS p (k)).2 : Int)) rfl ?_)
     simp only [zP, po]
     refine wK k44 (sK fun _ k46 => ?_)
     refine rL (xM (.int .u8 ((litS p (k)).1 : Int)) rfl ?_)
     refine xA (.int .u8 ((litS p (k)).1 : Int)) rfl ?_
     simp only [zP, po]
     refine wK k46 (sK fun K47 k47 => ?_)
     have hJ47 : ∀ (hh k2 : Nat) (j52 j53 j54 j55 j56 j57 j58 j59 j60 j61 j62 j63 j64 j65 j66 j67 j68 j69 j70 j71 j72 j73 j74 j75 j76 : Value) (w48 : World), (highS p (litS p k).2 (litS p k).1 = (hh, k2)) → Inv B (Res.cell b5 (Value.bool false :: wordsV ws) 199 :: Res.cell b2 [.bool false, .int .u64 0, .int .u64 0, .int .u64 0, .int .u64 0] 199 :: H) w48 → K47 { tmps := #[vS p, vI k2, undef, undef, vP b2, u5, u6, vP b5, .bool neg, vI k0, .int .u8 ((litS p (k)).1 : Int), .int .u8 (hh : Int), j12, j13, j14, j15, j16, j17, j18, j19, j20, j21, j22, j23, j24, vI k0, vI k, vS p, vI (p.length : Int), .bool true, vS p, vI k, .int .u8 (chr p (k) : Int), .bool false, .bool false, undef, undef, undef, .bool false, u39, u40, u41, u42, u43, u44, .tuple #[.int .u8 ((litS p (k)).1 : Int), vI ((litS p (k)).2 : Int)], vS p, vI k, .tuple #[.int .u8 ((litS p (k)).1 : Int), vI ((litS p (k)).2 : Int)], .int .u8 ((litS p (k)).1 : Int), vI ((litS p (k)).2 : Int), .int .u8 ((litS p (k)).1 : Int), j52, j53, j54, j55, j56, j57, j58, j59, j60, j61, j62, j63, j64, j65, j66, j67, j68, j69, j70, j71, j72, j73, j74, j75, j76, u77, u78, u79, u80, undef], defers := [] } w48 := by
      intro hh k2 j52 j53 j54 j55 j56 j57 j58 j59 j60 j61 j62 j63 j64 j65 j66 j67 j68 j69 j70 j71 j72 j73 j74 j75 j76 w48 hhs hv
      refine k47 _ _ ?_
      have hk2a : (litS p k).2 ≤ k2 := by have := highS_ge p (litS p k).2 (litS p k).1; rw [hhs] at this; exact this
      have hk2b : k2 ≤ p.length := by have := highS_le p (i := (litS p k).2) (lo := (litS p k).1) (by omega); rw [hhs] at this; exact this
      have hhl : hh < 256 := by have := highS_lt p (litS p k).2 (litS_lt p k); rw [hhs] at this; exact this
      refine rL (xF (.pointer (some ⟨b5, 1, none⟩)) rfl (glfa199_1 _ _ _) ?_)
      refine xM (.int .u8 ((litS p (k)).1 : Int)) rfl (xM (.int .u8 (hh : Int)) rfl ?_)
      simp only [zP, po]
      refine xC gmcallable140 rfl ((setAddRangeC B _ _ _ false ws hwl ((litS p k).1) hh (litS_lt p _) hhl hv).mono ?_) rfl
      rintro e w49 ⟨rfl, hv⟩
      refine ⟨_, rfl, ?_⟩
      refine wL ?_
      simp only [zP, po]
      refine bN (then_normal ?_)
      go_roundw
      case rel => exact ⟨_, _, rfl, by unfold addRangeW; rw [addUpto_len]; exact hwl, by omega, by rw [hcl, classS_step p (by omega) (by omega), hhs], ((hv.front 1 rfl).front 1 rfl)⟩
      case measure => show p.length - (((k2 : Nat) : Int)).toNat < p.length - ((k : Int)).toNat; omega
     refine sK fun _ k50 => rL (xM (vI ((litS p (k)).2 : Int)) rfl ?_)
     refine xG (vI (((litS p (k)).2 + 1 : Nat) : Int)) rfl (ex_add rfl rfl rfl (by rw [i64_in (by omega)]; omega)) (xM (vS p) rfl ?_)
     simp only [zP, po]
     refine xG (vI (p.length : Int)) rfl (ex_lenStr Tryz.underlying9 rfl rfl) ?_
     by_cases hb51 : (((litS p (k)).2 + 1 : Nat) : Int) < (p.length : Int)
     ·refine xG (.bool true) rfl (ex_lss rfl rfl rfl (qT hb51)) (xM (.bool true) rfl ?_)
      simp only [zP, po]
      refine xM (vS p) rfl (xM (vI ((litS p (k)).2 : Int)) rfl ?_)
      obtain ⟨y52, hy52⟩ : ∃ y, p[(litS p k).2]? = some y := ⟨_, List.getElem?_eq_getElem (show (litS p k).2 < p.length by omega)⟩
      have hy52c := chr_at hy52
      refine xG (.int .u8 (chr p ((litS p k).2) : Int)) rfl ((by rw [hy52c]; exact ex_sidx0 Tryz.underlying9 rfl rfl rfl hy52)) ?_
      simp only [zP, po]
      by_cases hb53 : (chr p ((litS p k).2) : Int) = 45
      ·refine xG (.bool true) rfl (ex_eql rfl rfl rfl (qT hb53)) (xK true (.bool true) rfl ?_)
       refine xM (.bool true) rfl ?_
       simp only [zP, po]
       refine xM (vS p) rfl (xM (vI ((litS p (k)).2 : Int)) rfl ?_)
       refine xG (vI (((litS p (k)).2 + 1 : Nat) : Int)) rfl (ex_add rfl rfl rfl (by rw [i64_in (by omega)]; omega)) ?_
       simp only [zP, po]
       obtain ⟨y54, hy54⟩ : ∃ y, p[(litS p k).2 + 1]? = some y := ⟨_, List.getElem?_eq_getElem (show (litS p k).2 + 1 < p.length by omega)⟩
       have hy54c := chr_at hy54
       refine xG (.int .u8 (chr p ((litS p k).2 + 1) : Int)) rfl ((by rw [hy54c]; exact ex_sidx0 Tryz.underlying9 rfl rfl rfl hy54)) ?_
       by_cases hb55 : (chr p ((litS p k).2 + 1) : Int) ≠ 93
       ·refine xG (.bool true) rfl (ex_neq rfl rfl rfl (qT hb55)) (xK true (.bool true) rfl ?_)
        simp only [zP, po]
        refine wK k50 (cT rfl ?_)
        refine rL (xM (vS p) rfl ?_)
        refine xM (vI ((litS p (k)).2 : Int)) rfl (xG (vI (((litS p (k)).2 + 1 : Nat) : Int)) rfl (ex_add rfl rfl rfl (by rw [i64_in (by omega)]; omega)) ?_)
        simp only [zP, po]
        refine xC gmcallable139 rfl ((globLiteral B _ _ p (((litS p (k)).2 + 1 : Nat)) (by omega) hp hv).mono ?_) rfl
        rintro e w56 ⟨rfl, hv⟩
        refine ⟨_, rfl, ?_⟩
        have hlg2 := litS_gt p (((litS p (k)).2 + 1 : Nat))
        have hll2 := litS_le p (show ((litS p (k)).2 + 1 : Nat) < p.length by omega)
        refine xM (.tuple #[.int .u8 ((litS p (((litS p (k)).2 + 1 : Nat))).1 : Int), vI ((litS p (((litS p (k)).2 + 1 : Nat))).2 : Int)]) rfl (xG (.int .u8 ((litS p (((litS p (k)).2 + 1 : Nat))).1 : Int)) rfl (ex_extract rfl rfl rfl) ?_)
        simp only [zP, po]
        refine xG (vI ((litS p (((litS p (k)).2 + 1 : Nat))).2 : Int)) rfl (ex_extract rfl rfl rfl) (xA (.int .u8 ((litS p (((litS p (k)).2 + 1 : Nat))).1 : Int)) rfl ?_)
        refine xA (vI ((litS p (((litS p (k)).2 + 1 : Nat))).2 : Int)) rfl (wL ?_)
        simp only [zP, po]
        exact then_normal (hJ47 ((litS p (((litS p (k)).2 + 1 : Nat))).1) ((litS p (((litS p (k)).2 + 1 : Nat))).2) _ _ _ _ _ _ _ _ _ _ _ _ _ _ _ _ _ _ _ _ _ _ _ _ _ _ (if_pos ⟨by omega, by omega, by omega⟩) hv)
       refine xG (.bool false) rfl (ex_neq rfl rfl rfl (qF hb55)) (xK true (.bool false) rfl ?_)
       simp only [zP, po]
       refine wK k50 (cF rfl ?_)
       refine kS (then_normal (hJ47 ((litS p (k)).1) ((litS p (k)).2) _ _ _ _ _ _ _ _ _ _ _ _ _ _ _ _ _ _ _ _ _ _ _ _ _ _ (if_neg (by omega)) hv))
      refine xG (.bool false) rfl (ex_eql rfl rfl rfl (qF hb53)) (xK true (.bool false) rfl ?_)
      refine xM (.bool false) rfl ?_
      simp only [zP, po]
      refine yP rfl (yP rfl ?_)
      refine yP rfl ?_
      simp only [zP, po]
      refine yP rfl (yP rfl ?_)
      refine xK false (.bool false) rfl ?_
      simp only [zP, po]
      refine wK k50 (cF rfl ?_)
      refine kS (then_normal (hJ47 ((litS p (k)).1) ((litS p (k)).2) _ _ _ _ _ _ _ _ _ _ _ _ _ _ _ _ _ _ _ _ _ _ _ _ _ _ (if_neg (by omega)) hv))
     refine xG (.bool false) rfl (ex_lss rfl rfl rfl (qF hb51)) (xM (.bool false) rfl ?_)
     simp only [zP, po]
     refine yP rfl (yP rfl ?_)
     refine yP rfl ?_
     simp only [zP, po]
     refine yP rfl (xK false (.bool false) rfl ?_)
     refine xM (.bool false) rfl ?_
     simp only [zP, po]
     refine yP rfl (yP rfl ?_)
     refine yP rfl ?_
     simp only [zP, po]
     refine yP rfl (yP rfl ?_)
     refine xK false (.bool false) rfl ?_
     simp only [zP, po]
     refine wK k50 (cF rfl ?_)
     refine kS (then_normal (hJ47 ((litS p (k)).1) ((litS p (k)).2) _ _ _ _ _ _ _ _ _ _ _ _ _ _ _ _ _ _ _ _ _ _ _ _ _ _ (if_neg (by omega)) hv))
    refine xG (.bool false) rfl (ex_lss rfl rfl rfl (qF hb16)) ?_
    simp only [zP, po]
    refine wK k15 (cF rfl ?_)
    refine xE (tX ?_)
    refine tX (bH ?_)
    refine tK k11 (sK fun _ k57 => ?_)
    refine rL (xG (.agg #[.bool false, .int .u64 0, .int .u64 0, .int .u64 0, .int .u64 0]) rfl (ex_buildN (vs := #[]) rfl (by simp only [List.map_toArray, List.map_nil]) (by kernel_rfl)) ?_)
    refine xS 1 rfl hv glsz199 rfl (by exact ⟨rfl, rfl, rfl, rfl, rfl, trivial⟩) (fun w58 hv => ?_)
    simp only [zS, zO, sp] at hv
    refine xA (vI 0) rfl ?_
    simp only [zP, po]
    refine xA (.bool false) rfl ?_
    simp only [zP, po]
    refine wK k57 (rR ?_)
    refine bodyPost_ret (res_cell3 rfl rfl (lM 1 glwd199 hv rfl rfl rfl rfl)) rfl ?_
    have e9 : clsS p i = none := by
     rw [clsS_of (clsS_hyp hneg hk0), hcl, classS_end p (by omega)]
    exact ⟨⟨false, w0⟩, 0, false, rfl, rfl, rfl, .inr ⟨rfl, e9⟩, (hv.kp [] 0 2)⟩
  refine sK fun _ k59 => rL (xM (.bool neg) rfl ?_)
  simp only [zP, po]
  refine wK k59 (wpIn_cond_split (t := neg) rfl (fun hc60 => ?_) (fun hc60 => ?_))
  ·refine rL (xM (vI i) rfl ?_)
   refine xG (vI ((i + 1 : Nat) : Int)) rfl (ex_add rfl rfl rfl (by rw [i64_in (by omega)]; omega)) (xA (vI ((i + 1 : Nat) : Int)) rfl ?_)
   refine wL ?_
   simp only [zP, po]
   exact then_normal (hJ9 (i + 1 : Nat) _ _ _ _ (.inl ⟨hc60, rfl⟩) hv)
  refine kS (then_normal (hJ9 i _ _ _ _ (.inr ⟨hc60, rfl⟩) hv))
 have hw0 : ([.bool false, .int .u64 0, .int .u64 0, .int .u64 0, .int .u64 0]) = Value.bool false :: wordsV w0 := rfl
 rw [hw0] at hv
 refine rL (xM (vI i) rfl ?_)
 refine xM (vS p) rfl (xG (vI (p.length : Int)) rfl (ex_lenStr Tryz.underlying9 rfl rfl) ?_)
 simp only [zP, po]
 by_cases hb61 : (i : Int) < (p.length : Int)
 ·refine xG (.bool true) rfl (ex_lss rfl rfl rfl (qT hb61)) (xM (.bool true) rfl ?_)
  refine xM (vS p) rfl ?_
  simp only [zP, po]
  refine xM (vI i) rfl ?_
  obtain ⟨y62, hy62⟩ : ∃ y, p[i]? = some y := ⟨_, List.getElem?_eq_getElem (show i < p.length by omega)⟩
  have hy62c := chr_at hy62
  refine xG (.int .u8 (chr p (i) : Int)) rfl ((by rw [hy62c]; exact ex_sidx0 Tryz.underlying9 rfl rfl rfl hy62)) ?_
  by_cases hb63 : (chr p (i) : Int) = 94
  ·refine xG (.bool true) rfl (ex_eql rfl rfl rfl (qT hb63)) ?_
   simp only [zP, po]
   refine xK true (.bool true) rfl (xA (.bool true) rfl ?_)
   refine wL ?_
   simp only [zP, po]
   exact then_normal (hJ7 true _ _ _ _ _ _ _ _ _ _ _ (⟨fun _ => ⟨by omega, by omega⟩, fun _ => rfl⟩) hv)
  refine xG (.bool false) rfl (ex_eql rfl rfl rfl (qF hb63)) ?_
  simp only [zP, po]
  refine xK true (.bool false) rfl (xA (.bool false) rfl ?_)
  refine wL ?_
  simp only [zP, po]
  exact then_normal (hJ7 false _ _ _ _ _ _ _ _ _ _ _ (⟨fun h9 => (by cases h9), fun h9 => (by omega)⟩) hv)
 refine xG (.bool false) rfl (ex_lss rfl rfl rfl (qF hb61)) (xM (.bool false) rfl ?_)
 iterate 4 refine yN rfl ?_
 refine xK false (.bool false) rfl ?_
 simp only [zP, po]
 refine xA (.bool false) rfl (wL ?_)
 simp only [zP, po]
 exact then_normal (hJ7 false _ _ _ _ _ _ _ _ _ _ _ (⟨fun h9 => (by cases h9), fun h9 => (by omega)⟩) hv)
end Go.Proofs.YtoljdfjnannakaaGreatDoor
/- glob: divide, Match. -/
namespace Go.Proofs.YtoljdfjnannakaaGreatDoor
open Go.RowKit Go.Pm
theorem gdmk199 : (Tryz.prog.info? 199).map (fun i => (i.zero, i.size, i.bytes)) = some (some (.agg #[.bool false, .int .u64 0, .int .u64 0, .int .u64 0, .int .u64 0]), 5, 40) := by kernel_rfl
theorem gdel193 : Elem Tryz.prog 193 199 (.agg #[.bool false, .int .u64 0, .int .u64 0, .int .u64 0, .int .u64 0]) 5 40 := elem_of Tryz.underlying193 gdmk199 (by rfl) (by decide)
theorem gdcallable116 : Callable Tryz.prog 116 := ⟨_, Tryz.func116, by kernel_rfl, by kernel_rfl⟩
theorem gdcallable117 : Callable Tryz.prog 117 := ⟨_, Tryz.func117, by kernel_rfl, by kernel_rfl⟩
theorem gdal199 (w : World) : (Instr.alloc 199 true (.tuple #[])).run Tryz.prog w = .ok (.pointer (some ⟨w.heap.size, 0, none⟩)) (w.alloc (.cells ([.bool false, .int .u64 0, .int .u64 0, .int .u64 0, .int .u64 0] : List Value).toArray 199)) := by kernel_rfl
theorem gdcallable118 : Callable Tryz.prog 118 := ⟨_, Tryz.func118, by kernel_rfl, by kernel_rfl⟩
set_option maxHeartbeats 8000000 in
theorem globDivide (B : Base) (H : List Res) (w : World) (p : List UInt8) (hp : p.length ≤ 1000000) (hv : Inv B H w) :
  Calls Tryz.prog 108 #[vS p] w fun e' w' => ∃ D ra rc q, B.Le D ∧ e' = .returned (.slice ra q.length rc) ∧ divS p true 0 = q ∧ q.length ≤ p.length ∧ PartsOk q ∧ SliceOk ra q.length rc ∧ RdV D [] ra (q.flatMap partC) ∧ Inv D H w' := by
 refine cW Tryz.func108 rfl Tryz.ntmps108 ?_
 simp only [al]
 refine sK fun _ k1 => rL (xA (vN) rfl ?_)
 simp only [zP, po]
 refine wK k1 (sK fun _ k2 => ?_)
 refine rL (xA (vN) rfl ?_)
 simp only [zP, po]
 refine wK k2 (sK fun _ k3 => ?_)
 refine rL (xA (.bool true) rfl ?_)
 simp only [zP, po]
 refine wK k3 (sK fun _ k4 => ?_)
 refine sK fun _ k5 => rL (xA (vI 0) rfl ?_)
 simp only [zP, po]
 refine wK k5 (bB ?_)
 gi_loopw [3, 4, 5] (fun x3 x4 x5 wr => ∃ (i : Nat) (q : List Part) (e : Bool) (ra : Option Addr) (rc : Nat), x3 = .slice ra q.length rc ∧ x4 = .bool e ∧ x5 = vI i ∧ i ≤ p.length ∧ q.length ≤ i ∧ PartsOk q ∧ divS p true 0 = q ++ divS p e i ∧ Inv B (Res.row 199 5 (.slice ra q.length rc) q.length (q.flatMap partC) :: H) wr) (fun x3 x4 x5 _ => p.length - (intOf x5).toNat)
 case atStart => exact ⟨0, [], true, none, 0, rfl, rfl, rfl, Nat.zero_le _, Nat.le_refl _, (fun x h => (by cases h)), rfl, hv.rowNil 199 5⟩
 case round =>
  obtain ⟨i, q, e, ra, rc, rfl, rfl, rfl, hi, hq, hpo, hdv, hv⟩ := hrel
  refine sK fun _ k7 => sK fun _ k8 => rL (xM (vI i) rfl ?_)
  refine xM (vS p) rfl (xG (vI (p.length : Int)) rfl (ex_lenStr Tryz.underlying9 rfl rfl) ?_)
  simp only [zP, po]
  by_cases hb9 : (i : Int) < (p.length : Int)
  ·refine xG (.bool true) rfl (ex_lss rfl rfl rfl (qT hb9)) ?_
   simp only [zP, po]
   refine wK k8 (cT rfl ?_)
   refine kS (tK k7 ?_)
   refine bB (sK fun _ k10 => ?_)
   refine rL (xM (vS p) rfl ?_)
   refine xM (vI i) rfl ?_
   obtain ⟨y11, hy11⟩ : ∃ y, p[i]? = some y := ⟨_, List.getElem?_eq_getElem (show i < p.length by omega)⟩
   have hy11c := chr_at hy11
   refine xG (.int .u8 (chr p (i) : Int)) rfl ((by rw [hy11c]; exact ex_sidx0 Tryz.underlying9 rfl rfl rfl hy11)) ?_
   simp only [zP, po]
   refine xA (.int .u8 (chr p (i) : Int)) rfl ?_
   simp only [zP, po]
   refine wK k10 (sK fun _ k12 => ?_)
   refine rL (xM (vI i) rfl ?_)
   refine xG (vI ((i + 1 : Nat) : Int)) rfl (ex_add rfl rfl rfl (by rw [i64_in (by omega)]; omega)) (xA (vI ((i + 1 : Nat) : Int)) rfl ?_)
   simp only [zP, po]
   refine wK k12 (bB ?_)
   refine sK fun _ k13 => rL (xM (.int .u8 (chr p (i) : Int)) rfl ?_)
   by_cases hb14 : (chr p (i) : Int) = 42
   ·refine xG (.bool true) rfl (ex_eql rfl rfl rfl (qT hb14)) (xA (.bool true) rfl ?_)
    simp only [zP, po]
    refine wK k13 (cT rfl ?_)
    refine rL (xM (.slice ra q.length rc) rfl ?_)
    refine xG (.agg #[.bool true, .int .u64 0, .int .u64 0, .int .u64 0, .int .u64 0]) rfl (ex_buildN (vs := #[(0, .bool true)]) rfl (by simp only [List.map_toArray, List.map_cons, List.map_nil]; rfl) (by kernel_rfl)) (sl_rowAgg (L := [.bool true, .int .u64 0, .int .u64 0, .int .u64 0, .int .u64 0]) tV (wn rfl) rfl rfl hv gdel193 rfl (by decide) (fun b15 w16 hv => ?_))
    simp only [zP, po]
    replace hv := hv.front 1 rfl
    simp only [eS, eZ] at hv
    refine sl_append (news := [.bool true, .int .u64 0, .int .u64 0, .int .u64 0, .int .u64 0]) tV (wn rfl) rfl rfl rfl gdel193 hv (ok_full (by omega)) rfl (rd_all (hv.get 1 rfl)) (by intro u hu; simp only [List.mem_cons, List.not_mem_nil, or_false] at hu; rcases hu with rfl | rfl | rfl | rfl | rfl <;> rfl) (by unfold maxLen; omega) (by omega) (fun rv17 w20 hv => ?_)
    obtain ⟨ra18, rc19, rfl⟩ := row_slice hv.head
    refine xA (.slice ra18 (q.length + 1) rc19) rfl (wL ?_)
    simp only [zP, po]
    refine bN (bN ?_)
    refine then_normal ?_
    go_roundw
    case rel => exact ⟨i + 1, q ++ [starP], e, _, _, by rw [List.length_append, List.length_singleton], rfl, rfl, by omega, by rw [List.length_append, List.length_singleton]; omega, fun x9 h9 => (List.mem_append.1 h9).elim (hpo x9) (fun h8 => by rw [List.mem_singleton.1 h8]; exact rfl), by rw [hdv, divS_star (by omega) (by omega), List.append_assoc]; rfl, by rw [List.length_append, List.length_singleton, ← parts_snoc]; exact (hv.kp [] 1 1)⟩
    case measure => show p.length - ((i + 1 : Nat) : Int).toNat < p.length - ((i : Int)).toNat; omega
   refine xG (.bool false) rfl (ex_eql rfl rfl rfl (qF hb14)) (xA (.bool false) rfl ?_)
   simp only [zP, po]
   refine wK k13 (cF rfl ?_)
   refine sK fun _ k21 => rL (xM (.int .u8 (chr p (i) : Int)) rfl ?_)
   by_cases hb22 : (chr p (i) : Int) = 63
   ·refine xG (.bool true) rfl (ex_eql rfl rfl rfl (qT hb22)) (xA (.bool true) rfl ?_)
    simp only [zP, po]
    refine wK k21 (cT rfl ?_)
    refine rL (xM (.slice ra q.length rc) rfl ?_)
    refine xC gdcallable116 rfl ((globAny B _ _ hv).mono ?_) rfl
    rintro e w23 ⟨rfl, hv⟩
    refine ⟨_, rfl, ?_⟩
    refine sl_rowAgg (L := [.bool anyP.star, wv (anyP.ws.getD 0 0#64), wv (anyP.ws.getD 1 0#64), wv (anyP.ws.getD 2 0#64), wv (anyP.ws.getD 3 0#64)]) tV (wn rfl) rfl rfl hv gdel193 rfl (by decide) (fun b24 w25 hv => ?_)
    simp only [zP, po]
    replace hv := hv.front 1 rfl
    simp only [eS, eZ] at hv
    refine sl_append (news := [.bool anyP.star, wv (anyP.ws.getD 0 0#64), wv (anyP.ws.getD 1 0#64), wv (anyP.ws.getD 2 0#64), wv (anyP.ws.getD 3 0#64)]) tV (wn rfl) rfl rfl rfl gdel193 hv (ok_full (by omega)) rfl (rd_all (hv.get 1 rfl)) (by intro u hu; simp only [List.mem_cons, List.not_mem_nil, or_false] at hu; rcases hu with rfl | rfl | rfl | rfl | rfl <;> rfl) (by unfold maxLen; omega) (by omega) (fun rv26 w29 hv => ?_)
    obtain ⟨ra27, rc28, rfl⟩ := row_slice hv.head
    refine xA (.slice ra27 (q.length + 1) rc28) rfl (wL ?_)
    simp only [zP, po]
    refine bN (bN ?_)
    refine then_normal ?_
    go_roundw
    case rel => exact ⟨i + 1, q ++ [anyP], e, _, _, by rw [List.length_append, List.length_singleton], rfl, rfl, by omega, by rw [List.length_append, List.length_singleton]; omega, fun x9 h9 => (List.mem_append.1 h9).elim (hpo x9) (fun h8 => by rw [List.mem_singleton.1 h8]; exact invW_len), by rw [hdv, divS_any (by omega) (by omega), List.append_assoc]; rfl, by rw [List.length_append, List.length_singleton, ← parts_snoc]; exact (hv.kp [] 1 1)⟩
    case measure => show p.length - ((i + 1 : Nat) : Int).toNat < p.length - ((i : Int)).toNat; omega
   refine xG (.bool false) rfl (ex_eql rfl rfl rfl (qF hb22)) (xA (.bool false) rfl ?_)
   simp only [zP, po]
   refine wK k21 (cF rfl ?_)
   refine sK fun _ k30 => rL (xM (.int .u8 (chr p (i) : Int)) rfl ?_)
   by_cases hb31 : (chr p (i) : Int) = 91
   ·refine xG (.bool true) rfl (ex_eql rfl rfl rfl (qT hb31)) (xM (.bool true) rfl ?_)
    simp only [zP, po]
    refine xM (.bool e) rfl (xK true (.bool e) rfl ?_)
    refine xA (.bool e) rfl ?_
    simp only [zP, po]
    refine wK k30 (wpIn_cond_split (t := e) rfl (fun hc32 => ?_) (fun hc32 => ?_))
    ·refine sK fun _ k33 => rL (xM (vS p) rfl ?_)
     refine xM (vI ((i + 1 : Nat) : Int)) rfl (xC gdcallable117 rfl ((globClass B _ _ p hp (i + 1) (by omega) hv).mono ?_) rfl)
     rintro e w34 ⟨pp, j, b, rfl, hps, hpl, hcl, hv⟩
     refine ⟨_, rfl, ?_⟩
     rcases hcl with ⟨rfl, hcl⟩ | ⟨rfl, hcl⟩
     ·have hjl := clsS_le p hcl
      simp only [zP, po]
      refine xM (.tuple #[.agg #[.bool pp.star, wv (pp.ws.getD 0 0#64), wv (pp.ws.getD 1 0#64), wv (pp.ws.getD 2 0#64), wv (pp.ws.getD 3 0#64)], vI j, .bool true]) rfl (xG (.agg #[.bool pp.star, wv (pp.ws.getD 0 0#64), wv (pp.ws.getD 1 0#64), wv (pp.ws.getD 2 0#64), wv (pp.ws.getD 3 0#64)]) rfl (ex_extract rfl rfl rfl) ?_)
      refine xG (vI j) rfl (ex_extract rfl rfl rfl) ?_
      simp only [zP, po]
      refine xG (.bool true) rfl (ex_extract rfl rfl rfl) (sl_alloc tV (wn rfl) rfl hv gdal199 (fun b35 w36 hv => ?_))
      refine xS 0 rfl hv glsz199 rfl (by exact ⟨rfl, rfl, rfl, rfl, rfl, trivial⟩) (fun w37 hv => ?_)
      simp only [zO, sp] at hv
      simp only [zP, po]
      refine xA (vI j) rfl (xA (.bool true) rfl ?_)
      simp only [zP, po]
      refine wK k33 (sK fun _ k38 => ?_)
      refine sK fun _ k39 => rL (xM (.bool true) rfl ?_)
      refine xG (.bool false) rfl (ex_not rfl rfl rfl) ?_
      simp only [zP, po]
      refine wK k39 (cF rfl ?_)
      refine kS (tK k38 ?_)
      refine sK fun _ k40 => rL (xM (.slice ra q.length rc) rfl ?_)
      refine xL (.agg #[.bool pp.star, wv (pp.ws.getD 0 0#64), wv (pp.ws.getD 1 0#64), wv (pp.ws.getD 2 0#64), wv (pp.ws.getD 3 0#64)]) rfl (lM 0 glwd199 hv rfl rfl rfl rfl) (sl_rowAgg (L := [.bool pp.star, wv (pp.ws.getD 0 0#64), wv (pp.ws.getD 1 0#64), wv (pp.ws.getD 2 0#64), wv (pp.ws.getD 3 0#64)]) tV (wn rfl) rfl rfl hv gdel193 rfl (by decide) (fun b41 w42 hv => ?_))
      simp only [zP, po]
      replace hv := hv.front 2 rfl
      simp only [eS, eZ] at hv
      refine sl_append (news := [.bool pp.star, wv (pp.ws.getD 0 0#64), wv (pp.ws.getD 1 0#64), wv (pp.ws.getD 2 0#64), wv (pp.ws.getD 3 0#64)]) tV (wn rfl) rfl rfl rfl gdel193 hv (ok_full (by omega)) rfl (rd_all (hv.get 1 rfl)) (by intro u hu; simp only [List.mem_cons, List.not_mem_nil, or_false] at hu; rcases hu with rfl | rfl | rfl | rfl | rfl <;> rfl) (by unfold maxLen; omega) (by omega) (fun rv43 w46 hv => ?_)
      obtain ⟨ra44, rc45, rfl⟩ := row_slice hv.head
      refine xA (.slice ra44 (q.length + 1) rc45) rfl ?_
      simp only [zP, po]
      refine wK k40 (rL ?_)
      refine xM (vI j) rfl (xA (vI j) rfl ?_)
      refine wL ?_
      simp only [zP, po]
      refine bN (bN ?_)
      refine then_normal ?_
      go_roundw
      case rel => exact ⟨j, q ++ [pp], e, _, _, by rw [List.length_append, List.length_singleton], rfl, rfl, by omega, by rw [List.length_append, List.length_singleton]; omega, fun x9 h9 => (List.mem_append.1 h9).elim (hpo x9) (fun h8 => by rw [List.mem_singleton.1 h8]; exact hpl), by rw [hdv, divS_class (by omega) (by omega) hc32 hcl, List.append_assoc]; rw [show pp = (⟨false, pp.ws⟩ : Part) from by cases pp; simp only at hps; rw [hps]]; rfl, by rw [List.length_append, List.length_singleton, ← parts_snoc]; exact (hv.kp [] 1 2)⟩
      case measure => show p.length - ((j : Nat) : Int).toNat < p.length - ((i : Int)).toNat; omega
     simp only [zP, po]
     refine xM (.tuple #[.agg #[.bool pp.star, wv (pp.ws.getD 0 0#64), wv (pp.ws.getD 1 0#64), wv (pp.ws.getD 2 0#64), wv (pp.ws.getD 3 0#64)], vI j, .bool false]) rfl (xG (.agg #[.bool pp.star, wv (pp.ws.getD 0 0#64), wv (pp.ws.getD 1 0#64), wv (pp.ws.getD 2 0#64), wv (pp.ws.getD 3 0#64)]) rfl (ex_extract rfl rfl rfl) ?_)
     refine xG (vI j) rfl (ex_extract rfl rfl rfl) ?_
     simp only [zP, po]
     refine xG (.bool false) rfl (ex_extract rfl rfl rfl) (sl_alloc tV (wn rfl) rfl hv gdal199 (fun b47 w48 hv => ?_))
     refine xS 0 rfl hv glsz199 rfl (by exact ⟨rfl, rfl, rfl, rfl, rfl, trivial⟩) (fun w49 hv => ?_)
     simp only [zO, sp] at hv
     simp only [zP, po]
     refine xA (vI j) rfl (xA (.bool false) rfl ?_)
     simp only [zP, po]
     refine wK k33 (sK fun _ k50 => ?_)
     refine sK fun _ k51 => rL (xM (.bool false) rfl ?_)
     refine xG (.bool true) rfl (ex_not rfl rfl rfl) ?_
     simp only [zP, po]
     refine wK k51 (cT rfl ?_)
     refine sK fun _ k52 => rL (xA (.bool false) rfl ?_)
     simp only [zP, po]
     refine wK k52 (sK fun _ k53 => ?_)
     refine rL (xM (.slice ra q.length rc) rfl ?_)
     refine xM (.int .u8 (chr p (i) : Int)) rfl (xC gdcallable118 rfl ((globOne B _ _ (chr p (i)) (chr_lt p _) hv).mono ?_) rfl)
     rintro e w54 ⟨rfl, hv⟩
     refine ⟨_, rfl, ?_⟩
     simp only [zP, po]
     refine sl_rowAgg (L := [.bool ((oneP (chr p (i))).star), wv ((oneP (chr p (i))).ws.getD 0 0#64), wv ((oneP (chr p (i))).ws.getD 1 0#64), wv ((oneP (chr p (i))).ws.getD 2 0#64), wv ((oneP (chr p (i))).ws.getD 3 0#64)]) tV (wn rfl) rfl rfl hv gdel193 rfl (by decide) (fun b55 w56 hv => ?_)
     replace hv := hv.front 2 rfl
     simp only [eS, eZ] at hv
     refine sl_append (news := [.bool ((oneP (chr p (i))).star), wv ((oneP (chr p (i))).ws.getD 0 0#64), wv ((oneP (chr p (i))).ws.getD 1 0#64), wv ((oneP (chr p (i))).ws.getD 2 0#64), wv ((oneP (chr p (i))).ws.getD 3 0#64)]) tV (wn rfl) rfl rfl rfl gdel193 hv (ok_full (by omega)) rfl (rd_all (hv.get 1 rfl)) (by intro u hu; simp only [List.mem_cons, List.not_mem_nil, or_false] at hu; rcases hu with rfl | rfl | rfl | rfl | rfl <;> rfl) (by unfold maxLen; omega) (by omega) (fun rv57 w60 hv => ?_)
     obtain ⟨ra58, rc59, rfl⟩ := row_slice hv.head
     refine xA (.slice ra58 (q.length + 1) rc59) rfl ?_
     simp only [zP, po]
     refine wK k53 (xE ?_)
     refine tX (bH ?_)
     refine bN (then_normal ?_)
     go_roundw
     case rel => exact ⟨i + 1, q ++ [oneP (chr p (i))], false, _, _, by rw [List.length_append, List.length_singleton], rfl, rfl, by omega, by rw [List.length_append, List.length_singleton]; omega, fun x9 h9 => (List.mem_append.1 h9).elim (hpo x9) (fun h8 => by rw [List.mem_singleton.1 h8]; exact addW_len), by rw [hdv, divS_none (by omega) (by omega) hc32 hcl, List.append_assoc]; rfl, by rw [List.length_append, List.length_singleton, ← parts_snoc]; exact (hv.kp [] 1 2)⟩
     case measure => show p.length - ((i + 1 : Nat) : Int).toNat < p.length - ((i : Int)).toNat; omega
    refine sK fun _ k61 => rL (xM (.int .u8 (chr p (i) : Int)) rfl ?_)
    by_cases hb62 : (chr p (i) : Int) = 92
    ·refine xG (.bool true) rfl (ex_eql rfl rfl rfl (qT hb62)) (xM (.bool true) rfl ?_)
     simp only [zP, po]
     refine xM (vI ((i + 1 : Nat) : Int)) rfl (xM (vS p) rfl ?_)
     refine xG (vI (p.length : Int)) rfl (ex_lenStr Tryz.underlying9 rfl rfl) ?_
     simp only [zP, po]
     by_cases hb63 : ((i + 1 : Nat) : Int) < (p.length : Int)
     ·refine xG (.bool true) rfl (ex_lss rfl rfl rfl (qT hb63)) (xK true (.bool true) rfl ?_)
      refine xA (.bool true) rfl ?_
      simp only [zP, po]
      refine wK k61 (cT rfl ?_)
      refine sK fun _ k64 => rL (xM (.slice ra q.length rc) rfl ?_)
      refine xM (vS p) rfl (xM (vI ((i + 1 : Nat) : Int)) rfl ?_)
      simp only [zP, po]
      obtain ⟨y65, hy65⟩ : ∃ y, p[i + 1]? = some y := ⟨_, List.getElem?_eq_getElem (show i + 1 < p.length by omega)⟩
      have hy65c := chr_at hy65
      refine xG (.int .u8 (chr p (i + 1) : Int)) rfl ((by rw [hy65c]; exact ex_sidx0 Tryz.underlying9 rfl rfl rfl hy65)) (xC gdcallable118 rfl ((globOne B _ _ (chr p (i + 1)) (chr_lt p _) hv).mono ?_) rfl)
      rintro e w66 ⟨rfl, hv⟩
      refine ⟨_, rfl, ?_⟩
      refine sl_rowAgg (L := [.bool ((oneP (chr p (i + 1))).star), wv ((oneP (chr p (i + 1))).ws.getD 0 0#64), wv ((oneP (chr p (i + 1))).ws.getD 1 0#64), wv ((oneP (chr p (i + 1))).ws.getD 2 0#64), wv ((oneP (chr p (i + 1))).ws.getD 3 0#64)]) tV (wn rfl) rfl rfl hv gdel193 rfl (by decide) (fun b67 w68 hv => ?_)
      simp only [zP, po]
      replace hv := hv.front 1 rfl
      simp only [eS, eZ] at hv
      refine sl_append (news := [.bool ((oneP (chr p (i + 1))).star), wv ((oneP (chr p (i + 1))).ws.getD 0 0#64), wv ((oneP (chr p (i + 1))).ws.getD 1 0#64), wv ((oneP (chr p (i + 1))).ws.getD 2 0#64), wv ((oneP (chr p (i + 1))).ws.getD 3 0#64)]) tV (wn rfl) rfl rfl rfl gdel193 hv (ok_full (by omega)) rfl (rd_all (hv.get 1 rfl)) (by intro u hu; simp only [List.mem_cons, List.not_mem_nil, or_false] at hu; rcases hu with rfl | rfl | rfl | rfl | rfl <;> rfl) (by unfold maxLen; omega) (by omega) (fun rv69 w72 hv => ?_)
      obtain ⟨ra70, rc71, rfl⟩ := row_slice hv.head
      refine xA (.slice ra70 (q.length + 1) rc71) rfl ?_
      simp only [zP, po]
      refine wK k64 (rL ?_)
      refine xM (vI ((i + 1 : Nat) : Int)) rfl (xG (vI (((i + 1 : Nat) + 1 : Nat) : Int)) rfl (ex_add rfl rfl rfl (by rw [i64_in (by omega)]; omega)) ?_)
      refine xA (vI (((i + 1 : Nat) + 1 : Nat) : Int)) rfl (wL ?_)
      simp only [zP, po]
      refine bN (bN ?_)
      refine then_normal ?_
      go_roundw
      case rel => exact ⟨i + 2, q ++ [oneP (chr p (i + 1))], e, _, _, by rw [List.length_append, List.length_singleton], rfl, rfl, by omega, by rw [List.length_append, List.length_singleton]; omega, fun x9 h9 => (List.mem_append.1 h9).elim (hpo x9) (fun h8 => by rw [List.mem_singleton.1 h8]; exact addW_len), by rw [hdv, divS_quote (by omega) (by omega) (by omega), List.append_assoc]; rfl, by rw [List.length_append, List.length_singleton, ← parts_snoc]; exact (hv.kp [] 1 1)⟩
      case measure => show p.length - ((i + 2 : Nat) : Int).toNat < p.length - ((i : Int)).toNat; omega
     refine xG (.bool false) rfl (ex_lss rfl rfl rfl (qF hb63)) (xK true (.bool false) rfl ?_)
     refine xA (.bool false) rfl ?_
     simp only [zP, po]
     refine wK k61 (cF rfl ?_)
     refine rL (xM (.slice ra q.length rc) rfl ?_)
     refine xM (.int .u8 (chr p (i) : Int)) rfl (xC gdcallable118 rfl ((globOne B _ _ (chr p (i)) (chr_lt p _) hv).mono ?_) rfl)
     rintro e w73 ⟨rfl, hv⟩
     refine ⟨_, rfl, ?_⟩
     simp only [zP, po]
     refine sl_rowAgg (L := [.bool ((oneP (chr p (i))).star), wv ((oneP (chr p (i))).ws.getD 0 0#64), wv ((oneP (chr p (i))).ws.getD 1 0#64), wv ((oneP (chr p (i))).ws.getD 2 0#64), wv ((oneP (chr p (i))).ws.getD 3 0#64)]) tV (wn rfl) rfl rfl hv gdel193 rfl (by decide) (fun b74 w75 hv => ?_)
     replace hv := hv.front 1 rfl
     simp only [eS, eZ] at hv
     refine sl_append (news := [.bool ((oneP (chr p (i))).star), wv ((oneP (chr p (i))).ws.getD 0 0#64), wv ((oneP (chr p (i))).ws.getD 1 0#64), wv ((oneP (chr p (i))).ws.getD 2 0#64), wv ((oneP (chr p (i))).ws.getD 3 0#64)]) tV (wn rfl) rfl rfl rfl gdel193 hv (ok_full (by omega)) rfl (rd_all (hv.get 1 rfl)) (by intro u hu; simp only [List.mem_cons, List.not_mem_nil, or_false] at hu; rcases hu with rfl | rfl | rfl | rfl | rfl <;> rfl) (by unfold maxLen; omega) (by omega) (fun rv76 w79 hv => ?_)
     obtain ⟨ra77, rc78, rfl⟩ := row_slice hv.head
     refine xA (.slice ra77 (q.length + 1) rc78) rfl (wL ?_)
     simp only [zP, po]
     refine bN (bN ?_)
     refine then_normal ?_
     go_roundw
     case rel => exact ⟨i + 1, q ++ [oneP (chr p (i))], e, _, _, by rw [List.length_append, List.length_singleton], rfl, rfl, by omega, by rw [List.length_append, List.length_singleton]; omega, fun x9 h9 => (List.mem_append.1 h9).elim (hpo x9) (fun h8 => by rw [List.mem_singleton.1 h8]; exact addW_len), by rw [hdv, divS_one (by omega) (by omega) (by omega) (fun h9 => by rw [hc32] at h9; exact absurd h9.2 (by decide)) (fun h9 => by omega), List.append_assoc]; rfl, by rw [List.length_append, List.length_singleton, ← parts_snoc]; exact (hv.kp [] 1 1)⟩
     case measure => show p.length - ((i + 1 : Nat) : Int).toNat < p.length - ((i : Int)).toNat; omega
    refine xG (.bool false) rfl (ex_eql rfl rfl rfl (qF hb62)) (xM (.bool false) rfl ?_)
    simp only [zP, po]
    refine yP rfl (yP rfl ?_)
    refine yP rfl ?_
    simp only [zP, po]
    refine yP rfl (xK false (.bool false) rfl ?_)
    refine xA (.bool false) rfl ?_
    simp only [zP, po]
    refine wK k61 (cF rfl ?_)
    refine rL (xM (.slice ra q.length rc) rfl ?_)
    refine xM (.int .u8 (chr p (i) : Int)) rfl (xC gdcallable118 rfl ((globOne B _ _ (chr p (i)) (chr_lt p _) hv).mono ?_) rfl)
    rintro e w80 ⟨rfl, hv⟩
    refine ⟨_, rfl, ?_⟩
    simp only [zP, po]
    refine sl_rowAgg (L := [.bool ((oneP (chr p (i))).star), wv ((oneP (chr p (i))).ws.getD 0 0#64), wv ((oneP (chr p (i))).ws.getD 1 0#64), wv ((oneP (chr p (i))).ws.getD 2 0#64), wv ((oneP (chr p (i))).ws.getD 3 0#64)]) tV (wn rfl) rfl rfl hv gdel193 rfl (by decide) (fun b81 w82 hv => ?_)
    replace hv := hv.front 1 rfl
    simp only [eS, eZ] at hv
    refine sl_append (news := [.bool ((oneP (chr p (i))).star), wv ((oneP (chr p (i))).ws.getD 0 0#64), wv ((oneP (chr p (i))).ws.getD 1 0#64), wv ((oneP (chr p (i))).ws.getD 2 0#64), wv ((oneP (chr p (i))).ws.getD 3 0#64)]) tV (wn rfl) rfl rfl rfl gdel193 hv (ok_full (by omega)) rfl (rd_all (hv.get 1 rfl)) (by intro u hu; simp only [List.mem_cons, List.not_mem_nil, or_false] at hu; rcases hu with rfl | rfl | rfl | rfl | rfl <;> rfl) (by unfold maxLen; omega) (by omega) (fun rv83 w86 hv => ?_)
    obtain ⟨ra84, rc85, rfl⟩ := row_slice hv.head
    refine xA (.slice ra84 (q.length + 1) rc85) rfl (wL ?_)
    simp only [zP, po]
    refine bN (bN ?_)
    refine then_normal ?_
    go_roundw
    case rel => exact ⟨i + 1, q ++ [oneP (chr p (i))], e, _, _, by rw [List.length_append, List.length_singleton], rfl, rfl, by omega, by rw [List.length_append, List.length_singleton]; omega, fun x9 h9 => (List.mem_append.1 h9).elim (hpo x9) (fun h8 => by rw [List.mem_singleton.1 h8]; exact addW_len), by rw [hdv, divS_one (by omega) (by omega) (by omega) (fun h9 => by rw [hc32] at h9; exact absurd h9.2 (by decide)) (fun h9 => by omega), List.append_assoc]; rfl, by rw [List.length_append, List.length_singleton, ← parts_snoc]; exact (hv.kp [] 1 1)⟩
    case measure => show p.length - ((i + 1 : Nat) : Int).toNat < p.length - ((i : Int)).toNat; omega
   refine xG (.bool false) rfl (ex_eql rfl rfl rfl (qF hb31)) (xM (.bool false) rfl ?_)
   simp only [zP, po]
   refine yP rfl (xK false (.bool false) rfl ?_)
   refine xA (.bool false) rfl ?_
   simp only [zP, po]
   refine wK k30 (cF rfl ?_)
   refine sK fun _ k87 => rL (xM (.int .u8 (chr p (i) : Int)) rfl ?_)
   by_cases hb88 : (chr p (i) : Int) = 92
   ·refine xG (.bool true) rfl (ex_eql rfl rfl rfl (qT hb88)) (xM (.bool true) rfl ?_)
    simp only [zP, po]
    refine xM (vI ((i + 1 : Nat) : Int)) rfl (xM (vS p) rfl ?_)
    refine xG (vI (p.length : Int)) rfl (ex_lenStr Tryz.underlying9 rfl rfl) ?_
    simp only [zP, po]
    by_cases hb89 : ((i + 1 : Nat) : Int) < (p.length : Int)
    ·refine xG (.bool true) rfl (ex_lss rfl rfl rfl (qT hb89)) (xK true (.bool true) rfl ?_)
     refine xA (.bool true) rfl ?_
     simp only [zP, po]
     refine wK k87 (cT rfl ?_)
     refine sK fun _ k90 => rL (xM (.slice ra q.length rc) rfl ?_)
     refine xM (vS p) rfl (xM (vI ((i + 1 : Nat) : Int)) rfl ?_)
     simp only [zP, po]
     obtain ⟨y91, hy91⟩ : ∃ y, p[i + 1]? = some y := ⟨_, List.getElem?_eq_getElem (show i + 1 < p.length by omega)⟩
     have hy91c := chr_at hy91
     refine xG (.int .u8 (chr p (i + 1) : Int)) rfl ((by rw [hy91c]; exact ex_sidx0 Tryz.underlying9 rfl rfl rfl hy91)) (xC gdcallable118 rfl ((globOne B _ _ (chr p (i + 1)) (chr_lt p _) hv).mono ?_) rfl)
     rintro e w92 ⟨rfl, hv⟩
     refine ⟨_, rfl, ?_⟩
     refine sl_rowAgg (L := [.bool ((oneP (chr p (i + 1))).star), wv ((oneP (chr p (i + 1))).ws.getD 0 0#64), wv ((oneP (chr p (i + 1))).ws.getD 1 0#64), wv ((oneP (chr p (i + 1))).ws.getD 2 0#64), wv ((oneP (chr p (i + 1))).ws.getD 3 0#64)]) tV (wn rfl) rfl rfl hv gdel193 rfl (by decide) (fun b93 w94 hv => ?_)
     simp only [zP, po]
     replace hv := hv.front 1 rfl
     simp only [eS, eZ] at hv
     refine sl_append (news := [.bool ((oneP (chr p (i + 1))).star), wv ((oneP (chr p (i + 1))).ws.getD 0 0#64), wv ((oneP (chr p (i + 1))).ws.getD 1 0#64), wv ((oneP (chr p (i + 1))).ws.getD 2 0#64), wv ((oneP (chr p (i + 1))).ws.getD 3 0#64)]) tV (wn rfl) rfl rfl rfl gdel193 hv (ok_full (by omega)) rfl (rd_all (hv.get 1 rfl)) (by intro u hu; simp only [List.mem_cons, List.not_mem_nil, or_false] at hu; rcases hu with rfl | rfl | rfl | rfl | rfl <;> rfl) (by unfold maxLen; omega) (by omega) (fun rv95 w98 hv => ?_)
     obtain ⟨ra96, rc97, rfl⟩ := row_slice hv.head
     refine xA (.slice ra96 (q.length + 1) rc97) rfl ?_
     simp only [zP, po]
     refine wK k90 (rL ?_)
     refine xM (vI ((i + 1 : Nat) : Int)) rfl (xG (vI (((i + 1 : Nat) + 1 : Nat) : Int)) rfl (ex_add rfl rfl rfl (by rw [i64_in (by omega)]; omega)) ?_)
     refine xA (vI (((i + 1 : Nat) + 1 : Nat) : Int)) rfl (wL ?_)
     simp only [zP, po]
     refine bN (bN ?_)
     refine then_normal ?_
     go_roundw
     case rel => exact ⟨i + 2, q ++ [oneP (chr p (i + 1))], e, _, _, by rw [List.length_append, List.length_singleton], rfl, rfl, by omega, by rw [List.length_append, List.length_singleton]; omega, fun x9 h9 => (List.mem_append.1 h9).elim (hpo x9) (fun h8 => by rw [List.mem_singleton.1 h8]; exact addW_len), by rw [hdv, divS_quote (by omega) (by omega) (by omega), List.append_assoc]; rfl, by rw [List.length_append, List.length_singleton, ← parts_snoc]; exact (hv.kp [] 1 1)⟩
     case measure => show p.length - ((i + 2 : Nat) : Int).toNat < p.length - ((i : Int)).toNat; omega
    refine xG (.bool false) rfl (ex_lss rfl rfl rfl (qF hb89)) (xK true (.bool false) rfl ?_)
    refine xA (.bool false) rfl ?_
    simp only [zP, po]
    refine wK k87 (cF rfl ?_)
    refine rL (xM (.slice ra q.length rc) rfl ?_)
    refine xM (.int .u8 (chr p (i) : Int)) rfl (xC gdcallable118 rfl ((globOne B _ _ (chr p (i)) (chr_lt p _) hv).mono ?_) rfl)
    rintro e w99 ⟨rfl, hv⟩
    refine ⟨_, rfl, ?_⟩
    simp only [zP, po]
    refine sl_rowAgg (L := [.bool ((oneP (chr p (i))).star), wv ((oneP (chr p (i))).ws.getD 0 0#64), wv ((oneP (chr p (i))).ws.getD 1 0#64), wv ((oneP (chr p (i))).ws.getD 2 0#64), wv ((oneP (chr p (i))).ws.getD 3 0#64)]) tV (wn rfl) rfl rfl hv gdel193 rfl (by decide) (fun b100 w101 hv => ?_)
    replace hv := hv.front 1 rfl
    simp only [eS, eZ] at hv
    refine sl_append (news := [.bool ((oneP (chr p (i))).star), wv ((oneP (chr p (i))).ws.getD 0 0#64), wv ((oneP (chr p (i))).ws.getD 1 0#64), wv ((oneP (chr p (i))).ws.getD 2 0#64), wv ((oneP (chr p (i))).ws.getD 3 0#64)]) tV (wn rfl) rfl rfl rfl gdel193 hv (ok_full (by omega)) rfl (rd_all (hv.get 1 rfl)) (by intro u hu; simp only [List.mem_cons, List.not_mem_nil, or_false] at hu; rcases hu with rfl | rfl | rfl | rfl | rfl <;> rfl) (by unfold maxLen; omega) (by omega) (fun rv102 w105 hv => ?_)
    obtain ⟨ra103, rc104, rfl⟩ := row_slice hv.head
    refine xA (.slice ra103 (q.length + 1) rc104) rfl (wL ?_)
    simp only [zP, po]
    refine bN (bN ?_)
    refine then_normal ?_
    go_roundw
    case rel => exact ⟨i + 1, q ++ [oneP (chr p (i))], e, _, _, by rw [List.length_append, List.length_singleton], rfl, rfl, by omega, by rw [List.length_append, List.length_singleton]; omega, fun x9 h9 => (List.mem_append.1 h9).elim (hpo x9) (fun h8 => by rw [List.mem_singleton.1 h8]; exact addW_len), by rw [hdv, divS_one (by omega) (by omega) (by omega) (fun h9 => by omega) (fun h9 => by omega), List.append_assoc]; rfl, by rw [List.length_append, List.length_singleton, ← parts_snoc]; exact (hv.kp [] 1 1)⟩
    case measure => show p.length - ((i + 1 : Nat) : Int).toNat < p.length - ((i : Int)).toNat; omega
   refine xG (.bool false) rfl (ex_eql rfl rfl rfl (qF hb88)) (xM (.bool false) rfl ?_)
   simp only [zP, po]
   refine yP rfl (yP rfl ?_)
   refine yP rfl ?_
   simp only [zP, po]
   refine yP rfl (xK false (.bool false) rfl ?_)
   refine xA (.bool false) rfl ?_
   simp only [zP, po]
   refine wK k87 (cF rfl ?_)
   refine rL (xM (.slice ra q.length rc) rfl ?_)
   refine xM (.int .u8 (chr p (i) : Int)) rfl (xC gdcallable118 rfl ((globOne B _ _ (chr p (i)) (chr_lt p _) hv).mono ?_) rfl)
   rintro e w106 ⟨rfl, hv⟩
   refine ⟨_, rfl, ?_⟩
   simp only [zP, po]
   refine sl_rowAgg (L := [.bool ((oneP (chr p (i))).star), wv ((oneP (chr p (i))).ws.getD 0 0#64), wv ((oneP (chr p (i))).ws.getD 1 0#64), wv ((oneP (chr p (i))).ws.getD 2 0#64), wv ((oneP (chr p (i))).ws.getD 3 0#64)]) tV (wn rfl) rfl rfl hv gdel193 rfl (by decide) (fun b107 w108 hv => ?_)
   replace hv := hv.front 1 rfl
   simp only [eS, eZ] at hv
   refine sl_append (news := [.bool ((oneP (chr p (i))).star), wv ((oneP (chr p (i))).ws.getD 0 0#64), wv ((oneP (chr p (i))).ws.getD 1 0#64), wv ((oneP (chr p (i))).ws.getD 2 0#64), wv ((oneP (chr p (i))).ws.getD 3 0#64)]) tV (wn rfl) rfl rfl rfl gdel193 hv (ok_full (by omega)) rfl (rd_all (hv.get 1 rfl)) (by intro u hu; simp only [List.mem_cons, List.not_mem_nil, or_false] at hu; rcases hu with rfl | rfl | rfl | rfl | rfl <;> rfl) (by unfold maxLen; omega) (by omega) (fun rv109 w112 hv => ?_)
   obtain ⟨ra110, rc111, rfl⟩ := row_slice hv.head
   refine xA (.slice ra110 (q.length + 1) rc111) rfl (wL ?_)
   simp only [zP, po]
   refine bN (bN ?_)
   refine then_normal ?_
   go_roundw
   case rel => exact ⟨i + 1, q ++ [oneP (chr p (i))], e, _, _, by rw [List.length_append, List.length_singleton], rfl, rfl, by omega, by rw [List.length_append, List.length_singleton]; omega, fun x9 h9 => (List.mem_append.1 h9).elim (hpo x9) (fun h8 => by rw [List.mem_singleton.1 h8]; exact addW_len), by rw [hdv, divS_one (by omega) (by omega) (by omega) (fun h9 => by omega) (fun h9 => by omega), List.append_assoc]; rfl, by rw [List.length_append, List.length_singleton, ← parts_snoc]; exact (hv.kp [] 1 1)⟩
   case measure => show p.length - ((i + 1 : Nat) : Int).toNat < p.length - ((i : Int)).toNat; omega
  refine xG (.bool false) rfl (ex_lss rfl rfl rfl (qF hb9)) ?_
  simp only [zP, po]
  refine wK k8 (cF rfl ?_)
  refine xE (tX ?_)
  refine tX (bH ?_)
  refine tK k4 (sK fun _ k113 => ?_)
  refine rL (xM (.slice ra q.length rc) rfl ?_)
  refine xA (.slice ra q.length rc) rfl ?_
  simp only [zP, po]
  refine wK k113 (rR ?_)
  refine bR rfl rfl ?_
  obtain rfl : i = p.length := by omega
  rw [divS_end (ended := e) (i := p.length) (by omega), List.append_nil] at hdv
  obtain ⟨D, hD, hv, hro, hoko, -⟩ := (hv).rowBy
  exact ⟨D, ra, rc, q, hD, rfl, hdv, hq, hpo, hoko, hro, hv⟩
theorem part_words {B : Base} {b off : Nat} {x : Part} (hl : x.ws.length = 4) (h : Reads B [] b off (partC x)) : Reads B [] b (off + 1) (wordsV x.ws) := fun C K w hB hR hv j v hj => by
 rw [← partF_eq hl] at h
 have := h C K w hB hR hv (j + 1) v (by rw [← hj]; rfl)
 rw [show off + (j + 1) = off + 1 + j by omega] at this
 exact this
theorem gdcallable108 : Callable Tryz.prog 108 := ⟨_, Tryz.func108, by kernel_rfl, by kernel_rfl⟩
theorem gdes193 (w : World) : (sizeOf (Tryz.prog.elem 193)).run Tryz.prog w = .ok 5 w := by kernel_rfl
theorem gdfa199_0 (w : World) (b o : Nat) : (Instr.fieldAt 199 (.pointer (some ⟨b, o, none⟩)) 0).run Tryz.prog w = .ok (.pointer (some ⟨b, o + 0, none⟩)) w := by kernel_rfl
theorem gdna4 (w : World) : (isAgg 4).run Tryz.prog w = .ok false w := by kernel_rfl
theorem gdcallable109 : Callable Tryz.prog 109 := ⟨_, Tryz.func109, by kernel_rfl, by kernel_rfl⟩
set_option maxHeartbeats 16000000 in
theorem globMatch (B : Base) (H : List Res) (w : World) (p : List UInt8) (hp : p.length ≤ 1000000) (s : List UInt8) (hs : s.length ≤ 1000000) (hv : Inv B H w) :
  Calls Tryz.prog 98 #[vS p, vS s] w fun e' w' => ∃ b, e' = .returned (.bool b) ∧ (b = true ↔ MatchP (divS p true 0) s) ∧ Inv B H w' := by
 refine cW Tryz.func98 rfl Tryz.ntmps98 ?_
 simp only [al]
 refine sK fun _ k1 => rL (xA (.bool false) rfl ?_)
 simp only [zP, po]
 refine wK k1 (sK fun _ k2 => ?_)
 refine rL (xM (vS p) rfl ?_)
 refine xC gdcallable108 rfl ((globDivide B _ _ p hp hv).mono ?_) rfl
 rintro e w3 ⟨D, ra, rc, q, hD, rfl, hdv, hql, hpo, hoko, hrq, hv⟩
 refine ⟨_, rfl, ?_⟩
 have hS : s.length ≤ 1000000 := hs
 refine xA (.slice ra q.length rc) rfl ?_
 simp only [zP, po]
 refine wK k2 (sK fun _ k4 => ?_)
 refine rL (xA (vI 0) rfl ?_)
 refine xA (vI 0) rfl ?_
 simp only [zP, po]
 refine wK k4 (sK fun _ k5 => ?_)
 refine rL (xA (vI (-1)) rfl ?_)
 refine xA (vI 0) rfl ?_
 simp only [zP, po]
 refine wK k5 (sK fun _ k6 => ?_)
 refine bB ?_
 gi_loopw [6, 7, 8, 9] (fun x6 x7 x8 x9 wr => ∃ (now i st fr : Nat), x6 = vI now ∧ x7 = vI i ∧ x8 = vI ((st : Int) - 1) ∧ x9 = vI fr ∧ GInv q s now i st fr ∧ fr ≤ i ∧ Inv D H wr) (fun x6 x7 x8 x9 _ => ((q.length + 1 - (intOf x8 + 1).toNat) * (s.length + 1) + (s.length - (intOf x9).toNat)) * (s.length + 1) + (s.length - (intOf x7).toNat))
 case atStart => exact ⟨0, 0, 0, 0, rfl, rfl, rfl, rfl, GInv.start, Nat.le_refl _, hv⟩
 case round =>
  obtain ⟨now, i, st, fr, rfl, rfl, rfl, rfl, hgi, hfi, hv⟩ := hrel
  have hn1 := hgi.n1
  have hn2 := hgi.n2
  have hn3 := hgi.n3
  have hn4 := hgi.n4
  refine sK fun _ k8 => sK fun _ k9 => rL (xM (vI i) rfl ?_)
  refine xM (vS s) rfl (xG (vI (s.length : Int)) rfl (ex_lenStr Tryz.underlying9 rfl rfl) ?_)
  simp only [zP, po]
  by_cases hb10 : (i : Int) < (s.length : Int)
  ·refine xG (.bool true) rfl (ex_lss rfl rfl rfl (qT hb10)) ?_
   simp only [zP, po]
   refine wK k9 (cT rfl ?_)
   refine kS (tK k8 ?_)
   refine bB (bB ?_)
   refine sK fun _ k11 => rL (xM (vI now) rfl ?_)
   refine xM (.slice ra q.length rc) rfl (xG (vI (q.length : Int)) rfl (ex_len0 Tryz.underlying193 rfl rfl) ?_)
   simp only [zP, po]
   by_cases hb12 : (now : Int) < (q.length : Int)
   ·refine xG (.bool true) rfl (ex_lss rfl rfl rfl (qT hb12)) (xM (.bool true) rfl ?_)
    refine xM (.slice ra q.length rc) rfl ?_
    simp only [zP, po]
    refine xM (vI now) rfl ?_
    obtain ⟨x, hx⟩ : ∃ x, q[now]? = some x := ⟨_, List.getElem?_eq_getElem (by omega)⟩
    obtain ⟨bb, bo, had, hrdx⟩ := part_reads hrq hx
    subst had
    have hxl := hpo x (List.mem_of_getElem? hx)
    refine xG (.pointer (some ⟨bb, bo + now * 5, none⟩)) rfl (ex_index rfl rfl rfl (run_idx (k := now) Tryz.underlying193 gdes193 (by omega))) (xF (.pointer (some ⟨bb, bo + now * 5, none⟩)) rfl (gdfa199_0 _ _ _) ?_)
    simp only [zP, po]
    refine xL _ rfl (run_load1 gdna4 (hrdx _ _ _ (Base.Le.refl _) no_res hv 0 _ rfl)) (xK true (.bool x.star) rfl ?_)
    refine xA (.bool x.star) rfl ?_
    simp only [zP, po]
    refine wK k11 (wpIn_cond_split (t := x.star) rfl (fun hc13 => ?_) (fun hc13 => ?_))
    ·refine sK fun _ k14 => ?_
     have hxs : x.star = true := hc13
     refine rL (xM (vI now) rfl ?_)
     refine xM (vI i) rfl (xA (vI now) rfl ?_)
     simp only [zP, po]
     refine xA (vI i) rfl ?_
     simp only [zP, po]
     refine wK k14 (rL ?_)
     refine xM (vI now) rfl (xG (vI ((now + 1 : Nat) : Int)) rfl (ex_add rfl rfl rfl (by rw [i64_in (by omega)]; omega)) ?_)
     refine xA (vI ((now + 1 : Nat) : Int)) rfl (wL ?_)
     simp only [zP, po]
     refine bN (bN ?_)
     refine then_normal ?_
     go_roundw
     case rel => exact ⟨now + 1, i, now + 1, i, rfl, rfl, by congr 1; omega, rfl, hgi.star hx hxs, by omega, hv⟩
     case measure => show ((q.length + 1 - ((now : Int) + 1).toNat) * (s.length + 1) + (s.length - ((i : Int)).toNat)) * (s.length + 1) + (s.length - ((i : Int)).toNat) < ((q.length + 1 - (((st : Int) - 1) + 1).toNat) * (s.length + 1) + (s.length - ((fr : Int)).toNat)) * (s.length + 1) + (s.length - ((i : Int)).toNat); have hn1 := hgi.n1; have hn2 := hgi.n2; have hn3 := hgi.n3; refine lex3 (by omega) (by omega) ?_; omega
    refine sK fun _ k15 => rW mixed [12] [0,1,2,3,4,5,6,7,8,9,10,11,12,13,14] 76 rfl (by kernel_rfl) hv ?_
    simp only [qm, opAt]
    refine dM (vI now) rfl (dM (.slice (some ⟨bb, bo, none⟩) q.length rc) rfl ?_)
    refine dG (vI (q.length : Int)) rfl (ex_len0 Tryz.underlying193 rfl rfl) ?_
    simp only [zP, po]
    refine dG (.bool true) rfl (ex_lss rfl rfl rfl (qT hb12)) (dM (.bool true) rfl ?_)
    refine dM (.slice (some ⟨bb, bo, none⟩) q.length rc) rfl ?_
    simp only [zP, po]
    refine dM (vI now) rfl (dG (.pointer (some ⟨bb, bo + now * 5, none⟩)) rfl (ex_index rfl rfl rfl (run_idx (k := now) Tryz.underlying193 gdes193 (by omega))) ?_)
    refine dG (.pointer (some ⟨bb, bo + now * 5 + 1, none⟩)) rfl (ex_field rfl rfl (glfa199_1 _ _ _)) ?_
    simp only [zP, po]
    refine dM (vS s) rfl (dM (vI i) rfl ?_)
    obtain ⟨y16, hy16⟩ : ∃ y, s[i]? = some y := ⟨_, List.getElem?_eq_getElem (show i < s.length by omega)⟩
    have hy16c := chr_at hy16
    refine dG (.int .u8 (chr s (i) : Int)) rfl ((by rw [hy16c]; exact ex_sidx0 Tryz.underlying9 rfl rfl rfl hy16)) ?_
    simp only [zP, po]
    refine dS rfl fun w17 hv => mC gdcallable109 rfl ((setHasC D _ _ bb (bo + now * 5 + 1) x.ws hxl (part_words hxl hrdx) (chr s i) (chr_lt s _) hv).mono ?_) rfl
    rintro e w18 ⟨rfl, hv⟩
    refine ⟨_, rfl, dW hv ?_⟩
    refine dK true (.bool (hasW x.ws (chr s i))) rfl (dA (.bool (hasW x.ws (chr s i))) rfl ?_)
    refine dE fun w19 hv => ?_
    simp only [zP, po]
    refine tK k15 (wpIn_cond_split (t := hasW x.ws (chr s i)) rfl (fun hc20 => ?_) (fun hc20 => ?_))
    ·refine sK fun _ k21 => ?_
     have hxs := hc13
     have hyc9 := hy16
     have hxb : hasW x.ws y16.toNat = true := by rw [← hy16c]; exact hc20
     refine rL (xM (vI now) rfl ?_)
     refine xG (vI ((now + 1 : Nat) : Int)) rfl (ex_add rfl rfl rfl (by rw [i64_in (by omega)]; omega)) (xA (vI ((now + 1 : Nat) : Int)) rfl ?_)
     simp only [zP, po]
     refine wK k21 (rL ?_)
     refine xM (vI i) rfl (xG (vI ((i + 1 : Nat) : Int)) rfl (ex_add rfl rfl rfl (by rw [i64_in (by omega)]; omega)) ?_)
     refine xA (vI ((i + 1 : Nat) : Int)) rfl (wL ?_)
     simp only [zP, po]
     refine bN (bN ?_)
     refine then_normal ?_
     go_roundw
     case rel => exact ⟨now + 1, i + 1, st, fr, rfl, rfl, rfl, rfl, hgi.byte hx hxs hyc9 hxb, by omega, hv⟩
     case measure => show ((q.length + 1 - (((st : Int) - 1) + 1).toNat) * (s.length + 1) + (s.length - ((fr : Int)).toNat)) * (s.length + 1) + (s.length - (((i + 1 : Nat) : Int)).toNat) < ((q.length + 1 - (((st : Int) - 1) + 1).toNat) * (s.length + 1) + (s.length - ((fr : Int)).toNat)) * (s.length + 1) + (s.length - ((i : Int)).toNat); have hn1 := hgi.n1; have hn2 := hgi.n2; have hn3 := hgi.n3; refine lex3 (by omega) (by omega) ?_; omega
    refine sK fun _ k22 => ?_
    obtain ⟨y9, hyc9⟩ : ∃ y, s[i]? = some y := ⟨_, List.getElem?_eq_getElem (show i < s.length by omega)⟩
    have hycc := chr_at hyc9
    have hno : ∀ x9, q[now]? = some x9 → x9.star = false ∧ hasW x9.ws y9.toNat = false := fun x9 h9 => by
     rw [hx] at h9; cases h9
     exact ⟨hc13, by rw [← hycc]; exact hc20⟩
    refine rL (xM (vI ((st : Int) - 1)) rfl ?_)
    by_cases hb23 : ((st : Int) - 1) ≥ 0
    ·refine xG (.bool true) rfl (ex_geq rfl rfl rfl (qT hb23)) (xA (.bool true) rfl ?_)
     simp only [zP, po]
     refine wK k22 (cT rfl ?_)
     refine sK fun _ k24 => rL (xM (vI fr) rfl ?_)
     refine xG (vI ((fr + 1 : Nat) : Int)) rfl (ex_add rfl rfl rfl (by rw [i64_in (by omega)]; omega)) (xA (vI ((fr + 1 : Nat) : Int)) rfl ?_)
     simp only [zP, po]
     refine wK k24 (rL ?_)
     refine xM (vI ((st : Int) - 1)) rfl (xG (vI st) rfl (ex_add rfl rfl rfl (by rw [i64_in (by omega)]; omega)) ?_)
     refine xM (vI ((fr + 1 : Nat) : Int)) rfl ?_
     simp only [zP, po]
     refine xA (vI st) rfl (xA (vI ((fr + 1 : Nat) : Int)) rfl ?_)
     refine wL ?_
     simp only [zP, po]
     refine bN (bN ?_)
     refine then_normal ?_
     go_roundw
     case rel => exact ⟨st, fr + 1, st, fr + 1, rfl, rfl, rfl, rfl, hgi.back (by omega) hyc9 hno, by omega, hv⟩
     case measure => show ((q.length + 1 - (((st : Int) - 1) + 1).toNat) * (s.length + 1) + (s.length - (((fr + 1 : Nat) : Int)).toNat)) * (s.length + 1) + (s.length - (((fr + 1 : Nat) : Int)).toNat) < ((q.length + 1 - (((st : Int) - 1) + 1).toNat) * (s.length + 1) + (s.length - ((fr : Int)).toNat)) * (s.length + 1) + (s.length - ((i : Int)).toNat); have hn1 := hgi.n1; have hn2 := hgi.n2; have hn3 := hgi.n3; refine lex3 (by omega) (by omega) ?_; omega
    refine xG (.bool false) rfl (ex_geq rfl rfl rfl (qF hb23)) (xA (.bool false) rfl ?_)
    simp only [zP, po]
    refine wK k22 (cF rfl ?_)
    refine sK fun _ k25 => rL (xA (.bool false) rfl ?_)
    simp only [zP, po]
    refine wK k25 (rR ?_)
    refine bZ (bZ ?_)
    refine tR (bZ ?_)
    refine tR (bR rfl rfl ?_)
    subst hdv
    exact ⟨false, rfl, ⟨fun h => (by cases h), fun h => absurd h (hgi.fail (by omega) hyc9 hno)⟩, hv.weak hD⟩
   refine xG (.bool false) rfl (ex_lss rfl rfl rfl (qF hb12)) (xM (.bool false) rfl ?_)
   refine yP rfl ?_
   simp only [zP, po]
   refine yP rfl (yP rfl ?_)
   refine yP rfl ?_
   simp only [zP, po]
   refine yP rfl (xK false (.bool false) rfl ?_)
   refine xA (.bool false) rfl ?_
   simp only [zP, po]
   refine wK k11 (cF rfl ?_)
   refine sK fun _ k26 => rW mixed [12] [0,1,2,3,4,5,6,7,8,9,10,11,12,13,14] 76 rfl (by kernel_rfl) hv ?_
   simp only [qm, opAt]
   refine dM (vI now) rfl (dM (.slice ra q.length rc) rfl ?_)
   refine dG (vI (q.length : Int)) rfl (ex_len0 Tryz.underlying193 rfl rfl) ?_
   simp only [zP, po]
   refine dG (.bool false) rfl (ex_lss rfl rfl rfl (qF hb12)) (dM (.bool false) rfl ?_)
   refine dP rfl ?_
   simp only [zP, po]
   refine dP rfl (dP rfl ?_)
   refine dP rfl ?_
   simp only [zP, po]
   refine dP rfl (dP rfl ?_)
   refine dP rfl ?_
   simp only [zP, po]
   refine dP rfl (dK false (.bool false) rfl ?_)
   refine dA (.bool false) rfl (dE fun w27 hv => ?_)
   simp only [zP, po]
   refine tK k26 (cF rfl ?_)
   refine sK fun _ k28 => ?_
   obtain ⟨y9, hyc9⟩ : ∃ y, s[i]? = some y := ⟨_, List.getElem?_eq_getElem (show i < s.length by omega)⟩
   have hycc := chr_at hyc9
   have hno : ∀ x9, q[now]? = some x9 → x9.star = false ∧ hasW x9.ws y9.toNat = false := fun x9 h9 => by have := (List.getElem?_eq_some_iff.1 h9).1; omega
   refine rL (xM (vI ((st : Int) - 1)) rfl ?_)
   by_cases hb29 : ((st : Int) - 1) ≥ 0
   ·refine xG (.bool true) rfl (ex_geq rfl rfl rfl (qT hb29)) (xA (.bool true) rfl ?_)
    simp only [zP, po]
    refine wK k28 (cT rfl ?_)
    refine sK fun _ k30 => rL (xM (vI fr) rfl ?_)
    refine xG (vI ((fr + 1 : Nat) : Int)) rfl (ex_add rfl rfl rfl (by rw [i64_in (by omega)]; omega)) (xA (vI ((fr + 1 : Nat) : Int)) rfl ?_)
    simp only [zP, po]
    refine wK k30 (rL ?_)
    refine xM (vI ((st : Int) - 1)) rfl (xG (vI st) rfl (ex_add rfl rfl rfl (by rw [i64_in (by omega)]; omega)) ?_)
    refine xM (vI ((fr + 1 : Nat) : Int)) rfl ?_
    simp only [zP, po]
    refine xA (vI st) rfl (xA (vI ((fr + 1 : Nat) : Int)) rfl ?_)
    refine wL ?_
    simp only [zP, po]
    refine bN (bN ?_)
    refine then_normal ?_
    go_roundw
    case rel => exact ⟨st, fr + 1, st, fr + 1, rfl, rfl, rfl, rfl, hgi.back (by omega) hyc9 hno, by omega, hv⟩
    case measure => show ((q.length + 1 - (((st : Int) - 1) + 1).toNat) * (s.length + 1) + (s.length - (((fr + 1 : Nat) : Int)).toNat)) * (s.length + 1) + (s.length - (((fr + 1 : Nat) : Int)).toNat) < ((q.length + 1 - (((st : Int) - 1) + 1).toNat) * (s.length + 1) + (s.length - ((fr : Int)).toNat)) * (s.length + 1) + (s.length - ((i : Int)).toNat); have hn1 := hgi.n1; have hn2 := hgi.n2; have hn3 := hgi.n3; refine lex3 (by omega) (by omega) ?_; omega
   refine xG (.bool false) rfl (ex_geq rfl rfl rfl (qF hb29)) (xA (.bool false) rfl ?_)
   simp only [zP, po]
   refine wK k28 (cF rfl ?_)
   refine sK fun _ k31 => rL (xA (.bool false) rfl ?_)
   simp only [zP, po]
   refine wK k31 (rR ?_)
   refine bZ (bZ ?_)
   refine tR (bZ ?_)
   refine tR (bR rfl rfl ?_)
   subst hdv
   exact ⟨false, rfl, ⟨fun h => (by cases h), fun h => absurd h (hgi.fail (by omega) hyc9 hno)⟩, hv.weak hD⟩
  refine xG (.bool false) rfl (ex_lss rfl rfl rfl (qF hb10)) ?_
  simp only [zP, po]
  refine wK k9 (cF rfl ?_)
  refine xE (tX ?_)
  refine tX (bH ?_)
  refine tK k6 (sK fun _ k32 => ?_)
  refine bB ?_
  have hov := hgi.over (by omega)
  clear hgi
  gi_loopw [6] (fun x6 wr => ∃ (now : Nat), x6 = vI now ∧ now ≤ q.length ∧ (MatchP q s ↔ MatchP (q.drop now) []) ∧ Inv D H wr) (fun x6 _ => q.length - (intOf x6).toNat)
  case atStart => exact ⟨now, rfl, hn2, hov, hv⟩
  case round =>
   obtain ⟨now, rfl, hnq, hmt, hv⟩ := hrel
   refine sK fun _ k34 => sK fun _ k35 => rL (xM (vI now) rfl ?_)
   refine xM (.slice ra q.length rc) rfl (xG (vI (q.length : Int)) rfl (ex_len0 Tryz.underlying193 rfl rfl) ?_)
   simp only [zP, po]
   by_cases hb36 : (now : Int) < (q.length : Int)
   ·refine xG (.bool true) rfl (ex_lss rfl rfl rfl (qT hb36)) (xM (.bool true) rfl ?_)
    refine xM (.slice ra q.length rc) rfl ?_
    simp only [zP, po]
    refine xM (vI now) rfl ?_
    obtain ⟨x, hx⟩ : ∃ x, q[now]? = some x := ⟨_, List.getElem?_eq_getElem (by omega)⟩
    obtain ⟨bb, bo, had, hrdx⟩ := part_reads hrq hx
    subst had
    have hxl := hpo x (List.mem_of_getElem? hx)
    refine xG (.pointer (some ⟨bb, bo + now * 5, none⟩)) rfl (ex_index rfl rfl rfl (run_idx (k := now) Tryz.underlying193 gdes193 (by omega))) (xF (.pointer (some ⟨bb, bo + now * 5, none⟩)) rfl (gdfa199_0 _ _ _) ?_)
    simp only [zP, po]
    refine xL _ rfl (run_load1 gdna4 (hrdx _ _ _ (Base.Le.refl _) no_res hv 0 _ rfl)) (xK true (.bool x.star) rfl ?_)
    simp only [zP, po]
    refine wK k35 (wpIn_cond_split (t := x.star) rfl (fun hc37 => ?_) (fun hc37 => ?_))
    ·refine kS (tK k34 ?_)
     refine bB (rL ?_)
     refine xM (vI now) rfl (xG (vI ((now + 1 : Nat) : Int)) rfl (ex_add rfl rfl rfl (by rw [i64_in (by omega)]; omega)) ?_)
     refine xA (vI ((now + 1 : Nat) : Int)) rfl (wL ?_)
     simp only [zP, po]
     refine bN (then_normal ?_)
     go_roundw
     case rel => exact ⟨now + 1, rfl, by omega, hmt.trans (tail_star hx hc37), hv⟩
     case measure => show q.length - (((now + 1 : Nat) : Int)).toNat < q.length - ((now : Int)).toNat; omega
    refine xE (tX ?_)
    refine tX (bH ?_)
    refine tK k32 (sK fun _ k38 => ?_)
    refine rL (xM (vI now) rfl ?_)
    refine xM (.slice (some ⟨bb, bo, none⟩) q.length rc) rfl (xG (vI (q.length : Int)) rfl (ex_len0 Tryz.underlying193 rfl rfl) ?_)
    simp only [zP, po]
    by_cases hb39 : (now : Int) = (q.length : Int)
    ·refine xG (.bool true) rfl (ex_eql rfl rfl rfl (qT hb39)) (xA (.bool true) rfl ?_)
     simp only [zP, po]
     refine wK k38 (rR ?_)
     refine bR rfl rfl ?_
     obtain rfl : now = q.length := by omega
     subst hdv
     exact ⟨true, rfl, ⟨fun _ => hmt.2 ((matchP_over (Nat.le_refl _)).2 rfl), fun _ => rfl⟩, hv.weak hD⟩
    refine xG (.bool false) rfl (ex_eql rfl rfl rfl (qF hb39)) (xA (.bool false) rfl ?_)
    simp only [zP, po]
    refine wK k38 (rR ?_)
    refine bR rfl rfl ?_
    subst hdv
    exact ⟨false, rfl, ⟨fun h => (by cases h), fun h => absurd (hmt.1 h) (matchP_nil hx hc37)⟩, hv.weak hD⟩
   refine xG (.bool false) rfl (ex_lss rfl rfl rfl (qF hb36)) (xM (.bool false) rfl ?_)
   refine yP rfl ?_
   simp only [zP, po]
   refine yP rfl (yP rfl ?_)
   refine yP rfl ?_
   simp only [zP, po]
   refine yP rfl (xK false (.bool false) rfl ?_)
   simp only [zP, po]
   refine wK k35 (cF rfl ?_)
   refine xE (tX ?_)
   refine tX (bH ?_)
   refine tK k32 (sK fun _ k40 => ?_)
   refine rL (xM (vI now) rfl ?_)
   refine xM (.slice ra q.length rc) rfl (xG (vI (q.length : Int)) rfl (ex_len0 Tryz.underlying193 rfl rfl) ?_)
   simp only [zP, po]
   by_cases hb41 : (now : Int) = (q.length : Int)
   ·refine xG (.bool true) rfl (ex_eql rfl rfl rfl (qT hb41)) (xA (.bool true) rfl ?_)
    simp only [zP, po]
    refine wK k40 (rR ?_)
    refine bR rfl rfl ?_
    obtain rfl : now = q.length := by omega
    subst hdv
    exact ⟨true, rfl, ⟨fun _ => hmt.2 ((matchP_over (Nat.le_refl _)).2 rfl), fun _ => rfl⟩, hv.weak hD⟩
   refine xG (.bool false) rfl (ex_eql rfl rfl rfl (qF hb41)) (xA (.bool false) rfl ?_)
   simp only [zP, po]
   refine wK k40 (rR ?_)
   refine bR rfl rfl ?_
   exfalso; omega
end Go.Proofs.YtoljdfjnannakaaGreatDoor
