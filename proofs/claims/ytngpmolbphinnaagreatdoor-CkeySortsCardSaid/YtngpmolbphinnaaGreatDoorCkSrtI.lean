/- Law 26: awake. -/
import Derived.Test.YtngpmolbphinnaaGreatDoorCkSrtB
import Derived.Test.YtngpmolbphinnaaGreatDoorCkSrtH
import Derived.Test.YtngpmolbphinnaaGreatDoorRows
import Derived.Test.YtngpmolbphinnaaGreatDoorCkSrtE
import Derived.Test.YtngpmolbphinnaaGreatDoorCkSrtC
import Derived.Test.YtngpmolbphinnaaGreatDoorCkSrtD
import Derived.Test.YtngpmolbphinnaaGreatDoorCkSrtF
set_option maxRecDepth 100000
set_option maxHeartbeats 16000000
set_option synthInstance.maxSize 4096
set_option synthInstance.maxHeartbeats 400000
namespace Go.Proofs.YtngpmolbphinnaaGreatDoor
open Go.RowKit Go.Pm
theorem k3al43 : AL Tryz.prog 43 [vI 0, vS [], vN, vN, vN] := fun w => by kernel_rfl
theorem lawText26 (B : Base) (H : List Res) (w : World) (s : List UInt8) (hv : Inv B H w) :
  Calls Tryz.prog 25 #[vS s] w fun e w' => e = .returned (.agg #[vI 1, vS s, vN, vN, vN]) ∧ Inv B H w' := by
 refine cW Tryz.func25 rfl Tryz.ntmps25 ?_
 simp only [al]
 refine sK fun _ k1 => rL (sl_alloc tV (wn rfl) rfl hv k3al43 (fun b2 w3 hv => ?_))
 refine uW k1 (sK fun _ k4 => ?_)
 refine rL (uM rfl ?_)
 refine uG (.agg #[vI 1, vS s, vN, vN, vN]) rfl (ex_buildN (vs := #[(0, vI 1), (1, vS s)]) rfl (by simp only [List.map_toArray, List.map_cons, List.map_nil]; rfl) (by kernel_rfl)) ?_
 refine xS 0 rfl hv s1sz43 rfl (by exact ⟨rfl, rfl, rfl, rfl, rfl, trivial⟩) (fun w5 hv => ?_)
 simp only [zO, sp] at hv
 refine uW k4 (rR ?_)
 refine bC 0 s1wd43 hv rfl rfl rfl rfl (⟨rfl, (hv.kp [] 0 1)⟩)
theorem k3callable15 : Callable Tryz.prog 15 := cb Tryz.func15 (by kernel_rfl)
theorem k3callable25 : Callable Tryz.prog 25 := cb Tryz.func25 (by kernel_rfl)
theorem k3callable16 : Callable Tryz.prog 16 := cb Tryz.func16 (by kernel_rfl)
theorem k3callable10 : Callable Tryz.prog 10 := cb Tryz.func10 (by kernel_rfl)
theorem k3al34 : AL Tryz.prog 34 [vI 0, vS [], vI 0, vN] := fun w => by kernel_rfl
theorem k3callable26 : Callable Tryz.prog 26 := cb Tryz.func26 (by kernel_rfl)
theorem k3mk9 : (Tryz.prog.info? 9).map (fun i => (i.zero, i.size, i.bytes)) = some (some (vS []), 1, 16) := by kernel_rfl
theorem k3el26 : Elem Tryz.prog 26 9 (vS []) 1 16 := elem_of Tryz.underlying26 k3mk9 (by rfl) (by decide)
theorem lawAwake26 (B : Base) (H : List Res) (w : World) (hN : NumB B) (hv : Inv B H w) :
  Calls Tryz.prog 8 #[] w fun e w' => e = .returned (.bool true) ∧ Inv B H w' := by
 refine cW Tryz.func8 rfl Tryz.ntmps8 ?_
 simp only [al]
 refine sK fun _ k1 => rL (uA rfl ?_)
 refine uW k1 (sK fun _ k2 => ?_)
 refine rL (xC k3callable15 rfl ((lawOpened26 B _ _ 0 (by omega) (by omega) hv).mono ?_) rfl)
 rintro e w3 ⟨v, t, m, s, p, wb, va, vc, sv, rfl, hv⟩
 refine ⟨_, rfl, uA rfl ?_⟩
 refine uW k2 (sK fun _ k4 => ?_)
 refine sK fun _ k5 => rL (uM rfl ?_)
 refine uG (.bool false) rfl (ex_pisnil Tryz.underlying24 rfl rfl rfl rfl) (uM rfl ?_)
 refine uM rfl ?_
 refine xC k3callable25 rfl ((lawText26 B _ _ ([49] : List UInt8) hv).mono ?_) rfl
 rintro e w6 ⟨rfl, hv⟩
 refine ⟨_, rfl, ?_⟩
 simp only [zP, po]
 replace hv := hv.front 1 rfl
 simp only [eS, eZ] at hv
 replace hv := hv.front 1 rfl
 simp only [eS, eZ] at hv
 refine xC k3callable16 rfl ((viewKeep B _ _ v t m s p wb va vc sv 0 [] [] ([97] : List UInt8) (vText ([49] : List UInt8)) _ _ _ 0 ((vmNil B).more (Base.Le.refl _)) vText_at hv).mono ?_) rfl
 rintro e w7 ⟨D1, es1, M1, ec1, hD1, rfl, hM1, hkp1, hv⟩
 refine ⟨_, rfl, ?_⟩
 obtain ⟨rfl, hR1, hK1⟩ := ck_put RelVK.nil (show KeysOk [] 0 from ⟨List.Pairwise.nil, Nat.le_refl _, fun k h => (by cases h)⟩) (by decide) (by decide) hkp1 ins_A
 refine uG (.bool false) rfl (ex_neq rfl rfl rfl (by decide)) (uK rfl ?_)
 refine uM rfl ?_
 refine uM rfl ?_
 refine xC k3callable25 rfl ((lawText26 D1 _ _ ([50] : List UInt8) hv).mono ?_) rfl
 rintro e w8 ⟨rfl, hv⟩
 refine ⟨_, rfl, ?_⟩
 simp only [zP, po]
 replace hv := hv.front 1 rfl
 simp only [eS, eZ] at hv
 replace hv := hv.front 1 rfl
 simp only [eS, eZ] at hv
 refine xC k3callable16 rfl ((viewKeep D1 _ _ v t m s p wb va vc sv 0 es1 M1 ([98] : List UInt8) (vText ([50] : List UInt8)) _ _ _ 0 (hM1.more (Base.Le.refl _)) vText_at hv).mono ?_) rfl
 rintro e w9 ⟨D2, es2, M2, ec2, hD2, rfl, hM2, hkp2, hv⟩
 refine ⟨_, rfl, ?_⟩
 obtain ⟨rfl, hR2, hK2⟩ := ck_put hR1 hK1 (by decide) (by decide) hkp2 ins_B
 refine uG (.bool false) rfl (ex_neq rfl rfl rfl (by decide)) (uK rfl ?_)
 refine uM rfl ?_
 refine uM rfl ?_
 refine xC k3callable25 rfl ((lawText26 D2 _ _ ([51] : List UInt8) hv).mono ?_) rfl
 rintro e w10 ⟨rfl, hv⟩
 refine ⟨_, rfl, ?_⟩
 simp only [zP, po]
 replace hv := hv.front 1 rfl
 simp only [eS, eZ] at hv
 replace hv := hv.front 1 rfl
 simp only [eS, eZ] at hv
 refine xC k3callable16 rfl ((viewKeep D2 _ _ v t m s p wb va vc sv 0 es2 M2 ([99] : List UInt8) (vText ([51] : List UInt8)) _ _ _ 0 (hM2.more (Base.Le.refl _)) vText_at hv).mono ?_) rfl
 rintro e w11 ⟨D3, es3, M3, ec3, hD3, rfl, hM3, hkp3, hv⟩
 refine ⟨_, rfl, ?_⟩
 obtain ⟨rfl, hR3, hK3⟩ := ck_put hR2 hK2 (by decide) (by decide) hkp3 ins_C
 refine uG (.bool false) rfl (ex_neq rfl rfl rfl (by decide)) (uK rfl ?_)
 refine uW k5 (cF rfl ?_)
 refine kS (tK k4 ?_)
 refine sK fun _ k12 => rL (uM rfl ?_)
 refine sl_rowN (pv := #[(0, vS [48]), (1, vS [67, 79, 85, 78, 84]), (2, vS [50])]) (L := [vS [48], vS [67, 79, 85, 78, 84], vS [50]]) (e := 9) tV (wn rfl) rfl (by simp only [List.map_toArray, List.map_cons, List.map_nil]; rfl) hv (fun w => by kernel_rfl) (fun b13 w14 hv => ?_)
 simp only [zP, po]
 obtain ⟨D15, hD15, hv, hrD15, hoD15, -⟩ := (hv.cellRow (n := 3) (c := 3) (size := 1) rfl (by decide) (by decide)).rowBy
 replace hv := hv.front 1 rfl
 simp only [eS, eZ] at hv
 replace hv := hv.front 1 rfl
 simp only [eS, eZ] at hv
 refine xC k3callable10 rfl ((ckDoS D15 _ _ v t m s p wb va vc sv 0 es3 M3 (hM3.more hD15) _ _ [([48] : List UInt8), ([67, 79, 85, 78, 84] : List UInt8), ([50] : List UInt8)] hrD15 hoD15 (by decide) (by decide) hK3.sh (by have := hK3.len; omega) (all1 (by decide) (all1 (by decide) (all1 (by decide) all0))) (.inl (all1 (by decide) (all1 (by decide) (all1 (by decide) all0)))) (hN.more (((hD1.trans hD2).trans hD3).trans hD15)) hv).mono ?_) rfl
 rintro e w16 ⟨C1, r1, cs1, hC1, rfl, hrp1, hsr1, hv⟩
 refine ⟨_, rfl, ?_⟩
 rw [ck_names hR3 hK3] at hsr1
 obtain rfl := ck_scan1 hsr1
 obtain ⟨rb1, ro1, rc1, u1, la1, lc1, rfl, hrd1, hu1, hw1, hrl1, hrs1, -⟩ := rp_two hrp1
 refine uG (.tuple #[.agg #[vI 5, vS [], vI 0, .slice (some ⟨rb1, ro1, none⟩) 2 rc1], .bool true]) rfl (ex_move rfl rfl) ?_
 refine uG (.agg #[vI 5, vS [], vI 0, .slice (some ⟨rb1, ro1, none⟩) 2 rc1]) rfl (ex_extract rfl rfl rfl) (uE rfl ?_)
 refine sl_alloc tV (wn rfl) rfl hv k3al34 (fun b17 w18 hv => ?_)
 simp only [zP, po]
 refine xS 0 rfl hv rssz34 rfl (by exact ⟨rfl, rfl, rfl, rfl, trivial⟩) (fun w19 hv => ?_)
 simp only [zO, sp] at hv
 refine uA rfl (uW k12 ?_)
 refine sK fun _ k20 => rL (uM rfl ?_)
 refine sl_rowN (pv := #[(0, vS [50]), (1, vS [67, 79, 85, 78, 84]), (2, vS [50])]) (L := [vS [50], vS [67, 79, 85, 78, 84], vS [50]]) (e := 9) tV (wn rfl) rfl (by simp only [List.map_toArray, List.map_cons, List.map_nil]; rfl) hv (fun w => by kernel_rfl) (fun b21 w22 hv => ?_)
 simp only [zP, po]
 obtain ⟨D23, hD23, hv, hrD23, hoD23, -⟩ := (hv.cellRow (n := 3) (c := 3) (size := 1) rfl (by decide) (by decide)).rowBy
 replace hv := hv.front 2 rfl
 simp only [eS, eZ] at hv
 replace hv := hv.front 2 rfl
 simp only [eS, eZ] at hv
 refine xC k3callable10 rfl ((ckDoS D23 _ _ v t m s p wb va vc sv 0 es3 M3 (hM3.more ((hD15.trans hC1).trans hD23)) _ _ [([50] : List UInt8), ([67, 79, 85, 78, 84] : List UInt8), ([50] : List UInt8)] hrD23 hoD23 (by decide) (by decide) hK3.sh (by have := hK3.len; omega) (all1 (by decide) (all1 (by decide) (all1 (by decide) all0))) (.inl (all1 (by decide) (all1 (by decide) (all1 (by decide) all0)))) (hN.more (((((hD1.trans hD2).trans hD3).trans hD15).trans hC1).trans hD23)) hv).mono ?_) rfl
 rintro e w24 ⟨C2, r2, cs2, hC2, rfl, hrp2, hsr2, hv⟩
 refine ⟨_, rfl, ?_⟩
 rw [ck_names hR3 hK3] at hsr2
 obtain rfl := ck_scan2 hsr2
 obtain ⟨rb2, ro2, rc2, u2, la2, lc2, rfl, hrd2, hu2, hw2, hrl2, hrs2, -⟩ := rp_two hrp2
 refine uG (.tuple #[.agg #[vI 5, vS [], vI 0, .slice (some ⟨rb2, ro2, none⟩) 2 rc2], .bool true]) rfl (ex_move rfl rfl) ?_
 refine uG (.agg #[vI 5, vS [], vI 0, .slice (some ⟨rb2, ro2, none⟩) 2 rc2]) rfl (ex_extract rfl rfl rfl) (uE rfl ?_)
 refine sl_alloc tV (wn rfl) rfl hv k3al34 (fun b25 w26 hv => ?_)
 simp only [zP, po]
 refine xS 0 rfl hv rssz34 rfl (by exact ⟨rfl, rfl, rfl, rfl, trivial⟩) (fun w27 hv => ?_)
 simp only [zO, sp] at hv
 refine uA rfl (uW k20 ?_)
 refine sK fun _ k28 => rW mixed [23, 24, 25, 46, 47, 48] [0,1,2,3,4,5,6,7,8,9,10,11,12,13,14,15,16,17,18,19,20,21,22,23,24,25,26,27,28,29,30,31,32,33,34,35,36,37,38,39,40,41,42,43,44,45,46,47,48,49,50] 89 rfl (by kernel_rfl) hv ?_
 simp only [qm, opAt]
 refine dM (.bool true) rfl (dM (.bool true) rfl ?_)
 refine dM (.bool true) rfl ?_
 simp only [zP, po]
 refine dK true (.bool true) rfl (dM (.bool true) rfl ?_)
 refine dG (.pointer (some ⟨b17, 3, none⟩)) rfl (ex_field rfl rfl (rtfa34_3 _ _ _)) ?_
 simp only [zP, po]
 refine dL _ rfl (fun hv => ex_load rfl rfl (run_load1 rtna32 (hv.load 3 3 rfl rfl))) (dG (vI 2) rfl (ex_len0 Tryz.underlying32 rfl rfl) ?_)
 refine dG (.bool true) rfl (ex_eql rfl rfl rfl (by decide)) ?_
 simp only [zP, po]
 refine dK true (.bool true) rfl (dM (.bool true) rfl ?_)
 refine dG (.pointer (some ⟨b17, 3, none⟩)) rfl (ex_field rfl rfl (rtfa34_3 _ _ _)) ?_
 simp only [zP, po]
 refine dL _ rfl (fun hv => ex_load rfl rfl (run_load1 rtna32 (hv.load 3 3 rfl rfl))) (dG (.pointer (some ⟨rb1, ro1 + 0 * 4, none⟩)) rfl (ex_index rfl rfl rfl (run_idx (k := 0) Tryz.underlying32 k0es32 (by omega))) ?_)
 refine dG (.pointer (some ⟨rb1, ro1 + 0 * 4 + 1, none⟩)) rfl (ex_field rfl rfl (k0fa34_1 _ _ _)) ?_
 simp only [zP, po]
 refine dL _ rfl (fun hv => ex_load rfl rfl (run_load1 s9na9 (hrd1 _ _ _ (hD23.trans hC2) no_res hv 1 _ rfl))) (dG (.bool true) rfl (ex_seql rfl rfl rfl (qT (by decide))) ?_)
 refine dK true (.bool true) rfl ?_
 simp only [zP, po]
 refine dM (.bool true) rfl (dG (.pointer (some ⟨b17, 3, none⟩)) rfl (ex_field rfl rfl (rtfa34_3 _ _ _)) ?_)
 refine dF _ rfl (fun hv => ex_load rfl rfl (run_load1 rtna32 (hv.load 3 3 rfl rfl))) fun f29 hf29 => ?_
 simp only [zP, po]
 refine dG (.pointer (some ⟨rb1, ro1 + 1 * 4, none⟩)) rfl (ex_index rfl rfl rfl (run_idx (k := 1) Tryz.underlying32 k0es32 (by omega))) (dF (.agg #[vI 5, vS [], vI 0, .slice la1 (([[97], [98]] : List (List UInt8)).length) lc1]) rfl (fun hv => ex_load rfl rfl (run_loadR (cs := [vI 5, vS [], vI 0, .slice la1 (([[97], [98]] : List (List UInt8)).length) lc1]) rswd34 (Reads.mid (pre := []) (mid := [vI 5, vS [], vI 0, .slice la1 (([[97], [98]] : List (List UInt8)).length) lc1]) (post := []) hrl1 _ _ _ (hD23.trans hC2) no_res hv))) fun f30 hf30 => ?_)
 refine dS rfl fun w31 hv => mem_row2 (v1 := vS [97]) (v2 := vS [98]) (e := 9) rfl rfl rfl rfl hv (fun w => by kernel_rfl) (fun b32 w33 hv => ?_)
 refine dV hv (fC (fun ww hv => hf30 ww (ex_load rfl rfl (run_loadR (cs := [vI 5, vS [], vI 0, .slice la1 (([[97], [98]] : List (List UInt8)).length) lc1]) rswd34 (Reads.mid (pre := []) (mid := [vI 5, vS [], vI 0, .slice la1 (([[97], [98]] : List (List UInt8)).length) lc1]) (post := []) hrl1 _ _ _ (hD23.trans hC2) no_res hv)))) (fC (fun ww hv => hf29 ww (ex_load rfl rfl (run_load1 rtna32 (hv.load 4 3 rfl rfl)))) fN)) ?_
 simp only [zP, po]
 refine dS rfl fun w34 hv => ?_
 obtain ⟨D35, hD35, hv, hrD35, hoD35, -⟩ := (hv.cellRow (n := 2) (c := 2) (size := 1) rfl (by decide) (by decide)).rowBy
 refine mC k3callable26 rfl ((ref20Strs D35 _ _ _ _ [([97] : List UInt8), ([98] : List UInt8)] hrD35 (by decide) hv).mono ?_) rfl
 rintro e w36 ⟨E1, ve1, hE1, rfl, hrq1, hv⟩
 refine ⟨_, rfl, dV hv (fC (fun ww hv => hf30 ww (ex_load rfl rfl (run_loadR (cs := [vI 5, vS [], vI 0, .slice la1 (([[97], [98]] : List (List UInt8)).length) lc1]) rswd34 (Reads.mid (pre := []) (mid := [vI 5, vS [], vI 0, .slice la1 (([[97], [98]] : List (List UInt8)).length) lc1]) (post := []) hrl1 _ _ _ (((hD23.trans hC2).trans hD35).trans hE1) no_res hv)))) (fC (fun ww hv => hf29 ww (ex_load rfl rfl (run_load1 rtna32 (hv.load 3 3 rfl rfl)))) fN)) ?_⟩
 refine dS rfl fun w37 hv => mC k0callable22 rfl (((sameR_strs (B := E1) (l := ([[97], [98]] : List (List UInt8))) (by decide)) _ _ (rpCells 5 [] 0 (.slice la1 ([[97], [98]] : List (List UInt8)).length lc1)) (rpCells 5 [] 0 ve1) (hrs1.more (((hD23.trans hC2).trans hD35).trans hE1)) (hrq1.more (Base.Le.refl _)) hv).mono ?_) rfl
 rintro e w38 ⟨rfl, hv⟩
 refine ⟨_, rfl, dV hv (fK rfl (fK rfl fN)) ?_⟩
 refine dK true (.bool true) rfl ?_
 simp only [zP, po]
 refine dM (.bool true) rfl (dG (.pointer (some ⟨b25, 3, none⟩)) rfl (ex_field rfl rfl (rtfa34_3 _ _ _)) ?_)
 refine dL _ rfl (fun hv => ex_load rfl rfl (run_load1 rtna32 (hv.load 0 3 rfl rfl))) ?_
 simp only [zP, po]
 refine dG (vI 2) rfl (ex_len0 Tryz.underlying32 rfl rfl) (dG (.bool true) rfl (ex_eql rfl rfl rfl (by decide)) ?_)
 refine dK true (.bool true) rfl ?_
 simp only [zP, po]
 refine dM (.bool true) rfl (dG (.pointer (some ⟨b25, 3, none⟩)) rfl (ex_field rfl rfl (rtfa34_3 _ _ _)) ?_)
 refine dL _ rfl (fun hv => ex_load rfl rfl (run_load1 rtna32 (hv.load 0 3 rfl rfl))) ?_
 simp only [zP, po]
 refine dG (.pointer (some ⟨rb2, ro2 + 0 * 4, none⟩)) rfl (ex_index rfl rfl rfl (run_idx (k := 0) Tryz.underlying32 k0es32 (by omega))) (dG (.pointer (some ⟨rb2, ro2 + 0 * 4 + 1, none⟩)) rfl (ex_field rfl rfl (k0fa34_1 _ _ _)) ?_)
 refine dL _ rfl (fun hv => ex_load rfl rfl (run_load1 s9na9 (hrd2 _ _ _ (hD35.trans hE1) no_res hv 1 _ rfl))) ?_
 simp only [zP, po]
 refine dG (.bool true) rfl (ex_seql rfl rfl rfl (qT (by decide))) (dK true (.bool true) rfl ?_)
 refine dM (.bool true) rfl ?_
 simp only [zP, po]
 refine dG (.pointer (some ⟨b25, 3, none⟩)) rfl (ex_field rfl rfl (rtfa34_3 _ _ _)) (dF _ rfl (fun hv => ex_load rfl rfl (run_load1 rtna32 (hv.load 0 3 rfl rfl))) fun f39 hf39 => ?_)
 refine dG (.pointer (some ⟨rb2, ro2 + 1 * 4, none⟩)) rfl (ex_index rfl rfl rfl (run_idx (k := 1) Tryz.underlying32 k0es32 (by omega))) ?_
 simp only [zP, po]
 refine dF (.agg #[vI 5, vS [], vI 0, .slice la2 (([[99]] : List (List UInt8)).length) lc2]) rfl (fun hv => ex_load rfl rfl (run_loadR (cs := [vI 5, vS [], vI 0, .slice la2 (([[99]] : List (List UInt8)).length) lc2]) rswd34 (Reads.mid (pre := []) (mid := [vI 5, vS [], vI 0, .slice la2 (([[99]] : List (List UInt8)).length) lc2]) (post := []) hrl2 _ _ _ (hD35.trans hE1) no_res hv))) fun f40 hf40 => dS rfl fun w41 hv => mem_row1 (v := vS [99]) rfl rfl rfl hv k3el26 rfl (fun b42 w43 hv => ?_)
 refine dV hv (fC (fun ww hv => hf40 ww (ex_load rfl rfl (run_loadR (cs := [vI 5, vS [], vI 0, .slice la2 (([[99]] : List (List UInt8)).length) lc2]) rswd34 (Reads.mid (pre := []) (mid := [vI 5, vS [], vI 0, .slice la2 (([[99]] : List (List UInt8)).length) lc2]) (post := []) hrl2 _ _ _ (hD35.trans hE1) no_res hv)))) (fC (fun ww hv => hf39 ww (ex_load rfl rfl (run_load1 rtna32 (hv.load 1 3 rfl rfl)))) (fK rfl (fK rfl fN)))) (dS rfl fun w44 hv => ?_)
 obtain ⟨D45, hD45, hv, hrD45, hoD45, -⟩ := (hv.cellRow (n := 1) (c := 1) (size := 1) rfl (by decide) (by decide)).rowBy
 refine mC k3callable26 rfl ((ref20Strs D45 _ _ _ _ [([99] : List UInt8)] hrD45 (by decide) hv).mono ?_) rfl
 rintro e w46 ⟨E2, ve2, hE2, rfl, hrq2, hv⟩
 refine ⟨_, rfl, dV hv (fC (fun ww hv => hf40 ww (ex_load rfl rfl (run_loadR (cs := [vI 5, vS [], vI 0, .slice la2 (([[99]] : List (List UInt8)).length) lc2]) rswd34 (Reads.mid (pre := []) (mid := [vI 5, vS [], vI 0, .slice la2 (([[99]] : List (List UInt8)).length) lc2]) (post := []) hrl2 _ _ _ (((hD35.trans hE1).trans hD45).trans hE2) no_res hv)))) (fC (fun ww hv => hf39 ww (ex_load rfl rfl (run_load1 rtna32 (hv.load 0 3 rfl rfl)))) (fK rfl (fK rfl fN)))) ?_⟩
 simp only [zP, po]
 refine dS rfl fun w47 hv => mC k0callable22 rfl (((sameR_strs (B := E2) (l := ([[99]] : List (List UInt8))) (by decide)) _ _ (rpCells 5 [] 0 (.slice la2 ([[99]] : List (List UInt8)).length lc2)) (rpCells 5 [] 0 ve2) (hrs2.more (((hD35.trans hE1).trans hD45).trans hE2)) (hrq2.more (Base.Le.refl _)) hv).mono ?_) rfl
 rintro e w48 ⟨rfl, hv⟩
 refine ⟨_, rfl, dV hv (fK rfl (fK rfl (fK rfl (fK rfl fN)))) ?_⟩
 refine dK true (.bool true) rfl (dA (.bool true) rfl ?_)
 refine dE fun w49 hv => ?_
 simp only [zP, po]
 refine tK k28 (rR ?_)
 refine bR rfl rfl (⟨rfl, ((hv.kp [] 0 4)).weak ((((((((((hD1.trans hD2).trans hD3).trans hD15).trans hC1).trans hD23).trans hC2).trans hD35).trans hE1).trans hD45).trans hE2)⟩)
theorem kCal34 : AL Tryz.prog 34 [vI 0, vS [], vI 0, vN] := fun w => by kernel_rfl
theorem kCal4 : AL Tryz.prog 4 [.bool false] := fun w => by kernel_rfl
theorem kCal78 : AL Tryz.prog 78 [vS [], vI 0, vI 0] := fun w => by kernel_rfl
theorem kCrec28 (n : Nat) (x0 x1 : Value) (w : World) : CallsDIn Fence.wide n Tryz.prog 28 #[x0, x1] .returning w fun e u' w' => e = .returned (.tuple #[]) ∧ u' = .returning ∧ w' = w := by
 refine callsDIn_of_wpSIn Tryz.func28 rfl trivial fun c₀ cs hu => ?_
 apply wpSIn_seq
 apply wpSIn_region
 simp [wpOpsSIn, go_sem, recoverD, hu, Tryz.ntmps28, Exit.thenS]
 refine wpSIn_cond (t := false) (by simp [Act.eval, Array.replicate]) ?_
 simp only [Bool.false_eq_true, if_false]
 refine wpSIn_of_wpIn rfl (wpIn_skip ?_)
 cases c₀
 simp_all [bodyPostS, results, Tryz.results28]
theorem ckDoAny (B : Base) (H : List Res) (w : World) (v t m s p wb : Nat) (va : Option Addr) (vc : Nat) (sv : Value) (clk : Int) (es : List (List UInt8 × Value)) (M : List (List UInt8 × Ver)) (_ : VM B es M) (aa : Option Addr) (ac : Nat) (args : List (List UInt8)) (_ : RdV B [] aa (textCells args)) (_ : SliceOk aa args.length ac) (_ : args.length ≤ 1000) (name : List UInt8) (x0 : GRow) (hx0 : x0 ∈ gRows) (hx0n : x0.1 = name) (hx01 : x0.2.1 ≤ (args.length : Int)) (hx02 : x0.2.2 < 0 ∨ (args.length : Int) ≤ x0.2.2) (Q : List (List UInt8 × Ver) → Rp → Prop) (hdo : ∀ (C : Base) (H2 : List Res) (w2 : World), B.Le C → Inv C (Res.cell v [.iface 100 (vP t)] 56 :: txR t m s p wb va vc sv clk es :: H2) w2 → Calls Tryz.prog 31 #[.agg #[vP v, .slice aa args.length ac], strV name] w2 fun e w' => ∃ D es' M' r cs, C.Le D ∧ e = .returned (.agg cs.toArray) ∧ RpAt D r cs ∧ VM D es' M' ∧ Q M' r ∧ Inv D (Res.cell v [.iface 100 (vP t)] 56 :: txR t m s p wb va vc sv clk es' :: H2) w') (hv : Inv B (Res.cell v [.iface 100 (vP t)] 56 :: txR t m s p wb va vc sv clk es :: H) w) :
  Calls Tryz.prog 10 #[vP v, vS name, .slice aa args.length ac] w fun e w' => ∃ D es' M' r cs, B.Le D ∧ e = .returned (.tuple #[.agg cs.toArray, .bool true]) ∧ RpAt D r cs ∧ VM D es' M' ∧ Q M' r ∧ Inv D (Res.cell v [.iface 100 (vP t)] 56 :: txR t m s p wb va vc sv clk es' :: H) w' := by
 refine (callsIn_wide (n := 5)).1 (callsIn_of_wp_defers Tryz.func10 rfl trivial ?_)
 simp only [Tryz.ntmps10, List.size_toArray, List.length_cons, List.length_nil, Nat.reduceAdd, Nat.reduceSub, Array.replicate_succ, Array.replicate_zero, List.push_toArray, List.append_toArray, List.nil_append, List.cons_append]
 refine sK fun _ k1 => rL (sl_alloc tV (wn rfl) rfl hv kCal34 (fun b2 w3 hv => ?_))
 refine sl_alloc tV (wn rfl) rfl hv kCal4 (fun b4 w5 hv => ?_)
 refine uW k1 (sK fun _ k6 => ?_)
 refine rL (uG (.func (.func 28) #[] #[vP b2, vP b4]) rfl (ex_makeFunc (c' := #[vP b2, vP b4]) rfl (by simp only [List.map_toArray, List.map_nil]) (by simp only [List.map_toArray, List.map_cons, List.map_nil]; rfl)) ?_)
 refine wpi_defer tV rfl (wn rfl) rfl rfl (uW k6 ?_)
 refine sK fun _ k7 => sK fun _ k8 => rL (xC k2callable30 rfl ((gRowsC B _ _ hv).mono ?_) rfl)
 rintro e w9 ⟨C, ra, rc, hC, rfl, hrr, hv⟩
 refine ⟨_, rfl, uG (vI (gRows.length : Int)) rfl (ex_len0 Tryz.underlying75 rfl rfl) ?_⟩
 refine uM rfl (uW k8 ?_)
 refine bB ?_
 gi_loopw [14] (fun x14 wr => ∃ (i : Nat), x14 = vI i ∧ i ≤ gRows.length ∧ (∀ (j : Nat) y, j < i → gRows[j]? = some y → y.1 ≠ name) ∧ Inv C (Res.cell b4 [.bool false] 4 :: Res.cell b2 [vI 0, vS [], vI 0, vN] 34 :: Res.cell v [.iface 100 (vP t)] 56 :: txR t m s p wb va vc sv clk es :: H) wr) (fun x14 _ => gRows.length - (intOf x14).toNat)
 case atStart => exact ⟨0, rfl, Nat.zero_le _, fun j y h => by omega, hv⟩
 case round =>
  obtain ⟨i, rfl, hi, hno, hv⟩ := hrel
  have hrl := gRows_len
  refine sK fun _ k11 => rL ?_
  by_cases hb12 : (i : Int) < (gRows.length : Int)
  ·refine uG (.bool true) rfl (ex_lss rfl rfl rfl (qT hb12)) (uW k11 ?_)
   refine sK fun _ k13 => cT rfl (kS ?_)
   refine tK k13 (sK fun _ k14 => ?_)
   refine bB (sK fun _ k15 => ?_)
   have hrl := gRows_len
   obtain ⟨x, hx⟩ : ∃ x, gRows[i]? = some x := ⟨_, List.getElem?_eq_getElem (show i < gRows.length by omega)⟩
   have hxm := List.mem_of_getElem? hx
   obtain ⟨rb, ro, had, hrdx⟩ := gRow_reads hrr hx
   subst had
   refine rL (uG (.pointer (some ⟨rb, ro + i * 3, none⟩)) rfl (ex_index rfl rfl rfl (run_idx (k := i) Tryz.underlying75 k2es75 (by omega))) ?_)
   refine uL (.agg #[vS x.1, vI x.2.1, vI x.2.2]) rfl (run_loadR (cs := [vS x.1, vI x.2.1, vI x.2.2]) k2wd78 (Reads.mid (pre := []) (mid := [vS x.1, vI x.2.1, vI x.2.2]) (post := []) hrdx _ _ _ (Base.Le.refl _) no_res hv)) ?_
   refine sl_alloc tV (wn rfl) rfl hv kCal78 (fun b16 w17 hv => ?_)
   simp only [zP, po]
   refine xS 0 rfl hv k2sz78 rfl (by exact ⟨rfl, rfl, rfl, trivial⟩) (fun w18 hv => ?_)
   simp only [zO, sp] at hv
   refine uW k15 (sK fun _ k19 => ?_)
   refine sK fun _ k20 => rL (uF (vP b16) rfl (k2fa78_0 _ _ _) ?_)
   refine uL _ rfl (run_load1 s9na9 (hv.load 0 0 rfl rfl)) (uM rfl ?_)
   by_cases hb21 : x.1 ≠ name
   ·refine uG (.bool true) rfl (ex_sneq rfl rfl rfl (qT hb21)) (uW k20 ?_)
    refine cT rfl (xE ?_)
    refine tX (bH ?_)
    refine tK k14 (rL ?_)
    refine uG (vI ((i + 1 : Nat) : Int)) rfl (ex_add rfl rfl rfl (by rw [i64_in (by omega)]; omega)) (uM rfl ?_)
    refine uZ (then_normal ?_)
    go_roundw
    case rel => exact ⟨i + 1, rfl, by omega, fun j y hj hy => (by
       rcases Nat.lt_or_ge j i with h | h
       ·exact hno j y h hy
       obtain rfl : j = i := by omega
       rw [hx] at hy; cases hy; exact hb21), (hv.kp [4, 4, 4, 4] 4 1)⟩
    case measure => show gRows.length - (((i + 1 : Nat) : Int)).toNat < gRows.length - ((i : Int)).toNat; omega
   refine uG (.bool false) rfl (ex_sneq rfl rfl rfl (qF hb21)) (uW k20 ?_)
   refine cF rfl (kS ?_)
   refine tK k19 (sK fun _ k22 => ?_)
   refine sK fun _ k23 => ?_
   have hxn : x.1 = name := Classical.byContradiction fun h9 => hb21 h9
   obtain rfl := gRows_inj x hxm x0 hx0 (hxn.trans hx0n.symm)
   refine rL (uM rfl ?_)
   refine uG (vI (args.length : Int)) rfl (ex_len0 Tryz.underlying26 rfl rfl) (uA rfl ?_)
   refine uW k23 (sK fun _ k24 => ?_)
   refine rL (uM rfl ?_)
   refine uF (.pointer (some ⟨b16, 1, none⟩)) rfl (k2fa78_1 _ _ _) ?_
   refine uL _ rfl (run_load1 s2na3 (hv.load 0 1 rfl rfl)) ?_
   by_cases hb25 : (args.length : Int) < x.2.1
   ·refine uG (.bool true) rfl (ex_lss rfl rfl rfl (qT hb25)) (uM rfl ?_)
    iterate 9 refine uP rfl ?_
    refine uK rfl (uW k24 ?_)
    refine cT rfl (sK fun _ k26 => ?_)
    refine rL (xC rscallable29 rfl ((viewWrong C _ _ 43 hv).mono ?_) rfl)
    rintro e w28 ⟨s27, rfl, hv⟩
    refine ⟨_, rfl, ?_⟩
    refine xS 2 rfl hv rssz34 rfl (by exact ⟨rfl, rfl, rfl, rfl, trivial⟩) (fun w29 hv => ?_)
    simp only [zS, zO, sp] at hv
    refine xV 1 (.bool true) rfl hv v8sz4 rfl rfl (fun w30 hv => ?_)
    simp only [zS, zO, sp] at hv
    refine uW k26 (rR ?_)
    refine tR (bZ ?_)
    refine tR (tR ?_)
    refine bZ (tR ?_)
    refine leave_rec k2callable28 (kCrec28 _ _ _ _) (res_cells2 rfl rfl (lM 2 rswd34 hv rfl rfl rfl rfl) rfl (run_load1 s2na4 (hv.load 1 0 rfl rfl))) ?_
    exfalso; omega
   refine uG (.bool false) rfl (ex_lss rfl rfl rfl (qF hb25)) (uM rfl ?_)
   refine uF (.pointer (some ⟨b16, 2, none⟩)) rfl (k2fa78_2 _ _ _) ?_
   refine uL _ rfl (run_load1 s2na3 (hv.load 0 2 rfl rfl)) ?_
   by_cases hb31 : x.2.2 ≥ 0
   ·refine uG (.bool true) rfl (ex_geq rfl rfl rfl (qT hb31)) ?_
    refine uM rfl ?_
    refine uM rfl ?_
    refine uF (.pointer (some ⟨b16, 2, none⟩)) rfl (k2fa78_2 _ _ _) ?_
    refine uL _ rfl (run_load1 s2na3 (hv.load 0 2 rfl rfl)) ?_
    by_cases hb32 : (args.length : Int) > x.2.2
    ·refine uG (.bool true) rfl (ex_gtr rfl rfl rfl (qT hb32)) ?_
     refine uK rfl (uK rfl ?_)
     refine uW k24 (cT rfl ?_)
     refine sK fun _ k33 => rL (xC rscallable29 rfl ((viewWrong C _ _ 43 hv).mono ?_) rfl)
     rintro e w35 ⟨s34, rfl, hv⟩
     refine ⟨_, rfl, ?_⟩
     refine xS 2 rfl hv rssz34 rfl (by exact ⟨rfl, rfl, rfl, rfl, trivial⟩) (fun w36 hv => ?_)
     simp only [zS, zO, sp] at hv
     refine xV 1 (.bool true) rfl hv v8sz4 rfl rfl (fun w37 hv => ?_)
     simp only [zS, zO, sp] at hv
     refine uW k33 (rR ?_)
     refine tR (bZ ?_)
     refine tR (tR ?_)
     refine bZ (tR ?_)
     refine leave_rec k2callable28 (kCrec28 _ _ _ _) (res_cells2 rfl rfl (lM 2 rswd34 hv rfl rfl rfl rfl) rfl (run_load1 s2na4 (hv.load 1 0 rfl rfl))) ?_
     exfalso; omega
    refine uG (.bool false) rfl (ex_gtr rfl rfl rfl (qF hb32)) ?_
    refine uK rfl (uK rfl ?_)
    refine uW k24 (cF rfl ?_)
    refine kS (tK k22 ?_)
    refine sK fun _ k38 => rL (uM rfl ?_)
    refine uM rfl ?_
    refine uG (.agg #[vP v, .slice aa args.length ac]) rfl (ex_buildN (vs := #[(0, vP v), (1, .slice aa args.length ac)]) rfl (by simp only [List.map_toArray, List.map_cons, List.map_nil]; rfl) (by kernel_rfl)) (uM rfl ?_)
    replace hv := hv.front 4 rfl
    simp only [eS, eZ] at hv
    replace hv := hv.front 4 rfl
    simp only [eS, eZ] at hv
    refine xC k2callable31 rfl ((hdo C _ _ hC hv).mono ?_) rfl
    rintro e w39 ⟨D, es', M', r, cs, hD, rfl, hrp, hM', hq, hv⟩
    refine ⟨_, rfl, ?_⟩
    obtain ⟨rk, rs, rn, rv, rfl⟩ := rp_parts hrp
    refine xS 4 rfl hv rssz34 rfl (by exact ⟨rfl, rfl, rfl, hrp.lv.2, trivial⟩) (fun w40 hv => ?_)
    simp only [zS, zO, sp] at hv
    simp only [zP, po]
    refine xV 3 (.bool true) rfl hv v8sz4 rfl rfl (fun w41 hv => ?_)
    simp only [zS, zO, sp] at hv
    refine uW k38 (rR ?_)
    refine bZ (tR ?_)
    refine tR (bZ ?_)
    refine tR (leave_rec k2callable28 (kCrec28 _ _ _ _) (res_cells2 rfl rfl (lM 4 rswd34 hv rfl rfl rfl rfl) rfl (run_load1 s2na4 (hv.load 3 0 rfl rfl))) ?_)
    exact ⟨D, es', M', r, _, (hC.trans hD), rfl, hrp, hM', hq, (hv.kp [1, 1] 2 3)⟩
   refine uG (.bool false) rfl (ex_geq rfl rfl rfl (qF hb31)) ?_
   refine uM rfl ?_
   iterate 4 refine uP rfl ?_
   refine uK rfl (uK rfl ?_)
   refine uW k24 (cF rfl ?_)
   refine kS (tK k22 ?_)
   refine sK fun _ k42 => rL (uM rfl ?_)
   refine uM rfl ?_
   refine uG (.agg #[vP v, .slice aa args.length ac]) rfl (ex_buildN (vs := #[(0, vP v), (1, .slice aa args.length ac)]) rfl (by simp only [List.map_toArray, List.map_cons, List.map_nil]; rfl) (by kernel_rfl)) (uM rfl ?_)
   replace hv := hv.front 4 rfl
   simp only [eS, eZ] at hv
   replace hv := hv.front 4 rfl
   simp only [eS, eZ] at hv
   refine xC k2callable31 rfl ((hdo C _ _ hC hv).mono ?_) rfl
   rintro e w43 ⟨D, es', M', r, cs, hD, rfl, hrp, hM', hq, hv⟩
   refine ⟨_, rfl, ?_⟩
   obtain ⟨rk, rs, rn, rv, rfl⟩ := rp_parts hrp
   refine xS 4 rfl hv rssz34 rfl (by exact ⟨rfl, rfl, rfl, hrp.lv.2, trivial⟩) (fun w44 hv => ?_)
   simp only [zS, zO, sp] at hv
   simp only [zP, po]
   refine xV 3 (.bool true) rfl hv v8sz4 rfl rfl (fun w45 hv => ?_)
   simp only [zS, zO, sp] at hv
   refine uW k42 (rR ?_)
   refine bZ (tR ?_)
   refine tR (bZ ?_)
   refine tR (leave_rec k2callable28 (kCrec28 _ _ _ _) (res_cells2 rfl rfl (lM 4 rswd34 hv rfl rfl rfl rfl) rfl (run_load1 s2na4 (hv.load 3 0 rfl rfl))) ?_)
   exact ⟨D, es', M', r, _, (hC.trans hD), rfl, hrp, hM', hq, (hv.kp [1, 1] 2 3)⟩
  refine uG (.bool false) rfl (ex_lss rfl rfl rfl (qF hb12)) (uW k11 ?_)
  refine sK fun _ k46 => cF rfl (xE ?_)
  refine tX (tX ?_)
  refine bH (tK k7 ?_)
  refine sK fun _ k47 => rL (uG (.agg #[vI 0, vS [], vI 0, vN]) rfl (ex_buildN (vs := #[]) rfl (by simp only [List.map_toArray, List.map_nil]) (by kernel_rfl)) ?_)
  refine xS 1 rfl hv rssz34 rfl (by exact ⟨rfl, rfl, rfl, rfl, trivial⟩) (fun w48 hv => ?_)
  simp only [zS, zO, sp] at hv
  refine xV 0 (.bool false) rfl hv v8sz4 rfl rfl (fun w49 hv => ?_)
  simp only [zO, sp] at hv
  refine uW k47 (rR ?_)
  refine leave_rec k2callable28 (kCrec28 _ _ _ _) (res_cells2 rfl rfl (lM 1 rswd34 hv rfl rfl rfl rfl) rfl (run_load1 s2na4 (hv.load 0 0 rfl rfl))) ?_
  exfalso
  obtain ⟨j, hj⟩ := List.mem_iff_getElem?.1 hx0
  exact hno j x0 (by have := (List.getElem?_eq_some_iff.1 hj).1; omega) hj hx0n
theorem kDal34 : AL Tryz.prog 34 [vI 0, vS [], vI 0, vN] := fun w => by kernel_rfl
theorem kDcallable10 : Callable Tryz.prog 10 := cb Tryz.func10 (by kernel_rfl)
theorem lawDo26 (B : Base) (H : List Res) (w : World) (v t m s p wb : Nat) (va : Option Addr) (vc : Nat) (sv : Value) (clk : Int) (es : List (List UInt8 × Value)) (M : List (List UInt8 × Ver)) (hM : VM B es M) (wa2 : Option Addr) (wc2 : Nat) (name : List UInt8) (args : List (List UInt8)) (hrw : RdV B [] wa2 (textCells (name :: args))) (hokw : SliceOk wa2 (args.length + 1) wc2) (hma : args.length ≤ 900) (x0 : GRow) (hx0 : x0 ∈ gRows) (hx0n : x0.1 = name) (hx01 : x0.2.1 ≤ (args.length : Int)) (hx02 : x0.2.2 < 0 ∨ (args.length : Int) ≤ x0.2.2) (Q : List (List UInt8 × Ver) → Rp → Prop) (hdo : ∀ (aa : Option Addr) (ac : Nat) (C : Base) (H2 : List Res) (w2 : World), SliceOk aa args.length ac → RdV C [] aa (textCells args) → B.Le C → Inv C (Res.cell v [.iface 100 (vP t)] 56 :: txR t m s p wb va vc sv clk es :: H2) w2 → Calls Tryz.prog 31 #[.agg #[vP v, .slice aa args.length ac], strV name] w2 fun e w' => ∃ D es' M' r cs, C.Le D ∧ e = .returned (.agg cs.toArray) ∧ RpAt D r cs ∧ VM D es' M' ∧ Q M' r ∧ Inv D (Res.cell v [.iface 100 (vP t)] 56 :: txR t m s p wb va vc sv clk es' :: H2) w') (hv : Inv B (Res.cell v [.iface 100 (vP t)] 56 :: txR t m s p wb va vc sv clk es :: H) w) :
  Calls Tryz.prog 17 #[vP v, .slice wa2 (args.length + 1) wc2] w fun e w' => ∃ D es' M' r cs, B.Le D ∧ e = .returned (.agg cs.toArray) ∧ RpAt D r cs ∧ VM D es' M' ∧ Q M' r ∧ Inv D (Res.cell v [.iface 100 (vP t)] 56 :: txR t m s p wb va vc sv clk es' :: H) w' := by
 refine cW Tryz.func17 rfl Tryz.ntmps17 ?_
 simp only [al]
 refine sK fun _ k1 => ?_
 obtain ⟨a3, c3, ha3, ok3, hr3⟩ := sliced_fromV 1 hokw hrw (textCells_len _) (show 1 ≤ args.length + 1 by omega) (by decide)
 rw [Nat.mul_one, tx_drop] at hr3
 have hr3 : RdV B [] a3 (textCells args) := hr3
 have ok3 : SliceOk a3 args.length c3 := ok3
 obtain ⟨wb0, wo, had, hrdn⟩ := text_reads hrw (show (name :: args)[0]? = some name from rfl)
 subst had
 refine rL (sl_alloc tV (wn rfl) rfl hv kDal34 (fun b2 w3 hv => ?_))
 refine uW k1 (sK fun _ k4 => ?_)
 refine rT mixed (fun az wz => ∃ (C : Base) (es' : List (List UInt8 × Value)) (M' : List (List UInt8 × Ver)) (r : Rp) (rk : Int) (rs : List UInt8) (rn : Int) (rv : Value) (b9 : Nat), (B.Le C) ∧ (RpAt C r (rpCells rk rs rn rv)) ∧ (VM C es' M') ∧ (Q M' r) ∧ az = { tmps := #[vP v, .slice (some ⟨wb0, wo, none⟩) (args.length + 1) wc2, undef, undef, vP b2, vP b9, .bool true, .tuple #[.agg #[vI rk, vS rs, vI rn, rv], .bool true], vP v, .slice (some ⟨wb0, wo, none⟩) (args.length + 1) wc2, .pointer (some ⟨wb0, wo + 0, none⟩), vS name, .slice (some ⟨wb0, wo, none⟩) (args.length + 1) wc2, .slice a3 args.length c3, .tuple #[.agg #[vI rk, vS rs, vI rn, rv], .bool true], .agg #[vI rk, vS rs, vI rn, rv], .bool true, undef], defers := [] } ∧ Inv C (Res.cell b9 [vI rk, vS rs, vI rn, rv] 34 :: Res.cell v [.iface 100 (vP t)] 56 :: txR t m s p wb va vc sv clk es' :: Res.cell b2 [vI 0, vS [], vI 0, vN] 34 :: H) wz) [6, 10, 11] [0,1,2,3,4,5] [7,8,9,10,11,12] [6,7,8,9,11,12] 6 10 18 rfl (by kernel_rfl) hv ?_ ?_
 ·intro R2 l1 l2 hR2 hl1 hl2
  simp only [qm, opAt]
  refine tG (vP v) rfl (ex_move rfl rfl) (tG (.slice (some ⟨wb0, wo, none⟩) (args.length + 1) wc2) rfl (ex_move rfl rfl) ?_)
  simp only [zP, po]
  refine tG (.pointer (some ⟨wb0, wo + 0, none⟩)) rfl (ex_index rfl rfl rfl (run_idx1 (k := 0) Tryz.underlying26 s9es26 (by omega))) (tF (vS name) rfl (fun hv => ex_load rfl rfl (run_load1 s9na9 (hrdn _ _ _ (Base.Le.refl _) no_res hv 0 _ rfl))) fun f5 hf5 => ?_)
  simp only [zP, po]
  refine tG (.slice (some ⟨wb0, wo, none⟩) (args.length + 1) wc2) rfl (ex_move rfl rfl) (tG (.slice a3 args.length c3) rfl (ex_slice (lo' := some (vI ((1 : Nat) : Int))) rfl rfl (congrArg some rfl) rfl rfl ((run_fromAny Tryz.underlying26 s9es26 (by omega)).trans (by rw [ha3]; rfl))) ?_)
  simp only [zP, po]
  refine tB ?_ ?_
  ·rw [hl1]; clear hl1 hl2
   simp only [qm, opAt]
   refine dS rfl fun w6 hv => ?_
   replace hv := hv.front 2 rfl
   simp only [eS, eZ] at hv
   replace hv := hv.front 2 rfl
   simp only [eS, eZ] at hv
   refine mC kDcallable10 rfl ((ckDoAny B _ _ v t m s p wb va vc sv clk es M hM a3 c3 args hr3 ok3 (by omega) name x0 hx0 hx0n hx01 hx02 Q (fun C H2 w2 h1 h2 => hdo a3 c3 C H2 w2 ok3 (hr3.more h1 (fun _ h => h)) h1 h2) hv).mono ?_) rfl
   rintro e w7 ⟨C, es', M', r, cs, hC, rfl, hrp, hM', hq, hv⟩
   obtain ⟨rk, rs, rn, rv, rfl⟩ := rp_parts hrp
   refine ⟨_, rfl, dV hv (fK rfl fN) ?_⟩
   refine dM (.tuple #[.agg #[vI rk, vS rs, vI rn, rv], .bool true]) rfl (dG (.agg #[vI rk, vS rs, vI rn, rv]) rfl (ex_extract rfl rfl rfl) ?_)
   simp only [zP, po]
   refine dG (.bool true) rfl (ex_extract rfl rfl rfl) (dS rfl fun w8 hv => ?_)
   refine mem_alloc rfl rfl hv kDal34 (fun b9 w10 hv => ?_)
   refine dV hv (fC (fun ww hv => hf5 ww (ex_load rfl rfl (run_load1 s9na9 (hrdn _ _ _ hC no_res hv 0 _ rfl)))) fN) (dS rfl fun w11 hv => ?_)
   refine mS 0 rfl hv rssz34 rfl (by exact ⟨rfl, rfl, rfl, hrp.lv.2, trivial⟩) (fun w12 hv => ?_)
   simp only [zO, sp] at hv
   refine dV hv (fK rfl fN) ?_
   simp only [zP, po]
   refine dA (.bool true) rfl (dE fun wz hv => ?_)
   simp only [zP, po]
   exact hR2 _ _ ⟨C, es', M', r, rk, rs, rn, rv, b9, hC, hrp, hM', hq, rfl, ((((hv.front 3 rfl).front 3 rfl).front 3 rfl).front 3 rfl)⟩
  rw [hl2]; clear hl1 hl2
  simp only [qm, opAt]
  refine dS rfl fun w13 hv => mem_alloc rfl rfl hv kDal34 (fun b14 w15 hv => ?_)
  refine dV hv (fC (fun ww hv => hf5 ww (ex_load rfl rfl (run_load1 s9na9 (hrdn _ _ _ (Base.Le.refl _) no_res hv 0 _ rfl)))) fN) (dS rfl fun w16 hv => ?_)
  replace hv := hv.front 3 rfl
  simp only [eS, eZ] at hv
  replace hv := hv.front 3 rfl
  simp only [eS, eZ] at hv
  refine mC kDcallable10 rfl ((ckDoAny B _ _ v t m s p wb va vc sv clk es M hM a3 c3 args hr3 ok3 (by omega) name x0 hx0 hx0n hx01 hx02 Q (fun C H2 w2 h1 h2 => hdo a3 c3 C H2 w2 ok3 (hr3.more h1 (fun _ h => h)) h1 h2) hv).mono ?_) rfl
  rintro e w17 ⟨C, es', M', r, cs, hC, rfl, hrp, hM', hq, hv⟩
  obtain ⟨rk, rs, rn, rv, rfl⟩ := rp_parts hrp
  refine ⟨_, rfl, dV hv (fK rfl fN) ?_⟩
  refine dM (.tuple #[.agg #[vI rk, vS rs, vI rn, rv], .bool true]) rfl ?_
  simp only [zP, po]
  refine dG (.agg #[vI rk, vS rs, vI rn, rv]) rfl (ex_extract rfl rfl rfl) (dG (.bool true) rfl (ex_extract rfl rfl rfl) ?_)
  refine dS rfl fun w18 hv => mS 2 rfl hv rssz34 rfl (by exact ⟨rfl, rfl, rfl, hrp.lv.2, trivial⟩) (fun w19 hv => ?_)
  simp only [zS, zO, sp] at hv
  refine dV hv (fK rfl fN) ?_
  simp only [zP, po]
  refine dA (.bool true) rfl (dE fun wz hv => ?_)
  simp only [zP, po]
  exact hR2 _ _ ⟨C, es', M', r, rk, rs, rn, rv, b14, hC, hrp, hM', hq, rfl, ((((hv.front 3 rfl).front 2 rfl).front 2 rfl).front 3 rfl)⟩
 rintro _ w20 ⟨C, es', M', r, rk, rs, rn, rv, b9, hC, hrp, hM', hq, rfl, hv⟩
 refine tK k4 (sK fun _ k21 => ?_)
 refine rL (uL (.agg #[vI rk, vS rs, vI rn, rv]) rfl (lM 0 rswd34 hv rfl rfl rfl rfl) ?_)
 refine xS 3 rfl hv rssz34 rfl (by exact ⟨rfl, rfl, rfl, hrp.lv.2, trivial⟩) (fun w22 hv => ?_)
 simp only [zS, zO, sp] at hv
 refine uW k21 (rR ?_)
 refine bC 3 rswd34 hv rfl rfl rfl rfl (⟨C, es', M', r, _, hC, rfl, hrp, hM', hq, (hv.kp [2, 2] 2 2)⟩)
open Go.Sort
theorem kHmk9 : (Tryz.prog.info? 9).map (fun i => (i.zero, i.size, i.bytes)) = some (some (vS []), 1, 16) := by kernel_rfl
theorem kHel26 : Elem Tryz.prog 26 9 (vS []) 1 16 := elem_of Tryz.underlying26 kHmk9 (by rfl) (by decide)
theorem cloneOwn1 (B : Base) (H : List Res) (w : World) (a : Addr) (n c : Nat) (xs : List Value) (hok : SliceOk (some a) n c) (hl : xs.length = n * 1) (h1 : ∀ u ∈ xs, u.oneCell' = true) (hn : n ≤ 1000000) (hr : RdV B [] (some a) xs) (hv : Inv B H w) :
  Calls Tryz.prog 73 #[.slice (some a) n c] w fun e w' => ∃ v, e = .returned v ∧ Inv B (Res.row 9 1 v n xs :: H) w' := by
 refine cW Tryz.func73 rfl Tryz.ntmps73 ?_
 simp only [al]
 refine sK fun _ k1 => rL (uA rfl ?_)
 refine uW k1 (sK fun _ k2 => ?_)
 refine sK fun _ k3 => rL (uM rfl ?_)
 refine uG (.bool false) rfl (ex_slnil Tryz.underlying26 rfl rfl rfl rfl) (uW k3 ?_)
 refine cF rfl (kS ?_)
 refine tK k2 (sK fun _ k4 => ?_)
 refine rL (sl_row0 (size := 1) tV (wn rfl) rfl hv (e := 9) (fun w => by kernel_rfl) (fun b5 w6 hv => ?_))
 refine uM rfl ?_
 refine sl_append (news := xs) tV (wn rfl) rfl rfl rfl kHel26 hv hok hl ((hr.more (Base.Le.refl _) (fun _ h => by cases h)).src hv) (h1) (by unfold maxLen; omega) (by omega) (fun rv7 w10 hv => ?_)
 obtain ⟨ra8, rc9, rfl⟩ := row_slice hv.head
 refine uA rfl (uW k4 ?_)
 refine rR (bR rfl rfl ?_)
 rw [Nat.zero_add, List.nil_append] at hv
 exact ⟨_, by rw [Nat.zero_add]; rfl, hv⟩
theorem cloneOwn (B : Base) (H : List Res) (w : World) (ad : Option Addr) (n c : Nat) (xs : List Value) (hok : SliceOk ad n c) (hl : xs.length = n * 1) (h1 : ∀ u ∈ xs, u.oneCell' = true) (hn : n ≤ 1000000) (hr : RdV B [] ad xs) (hv : Inv B H w) :
  Calls Tryz.prog 73 #[.slice ad n c] w fun e w' => ∃ v, e = .returned v ∧ Inv B (Res.row 9 1 v n xs :: H) w' := by
 cases ad with
 | none =>
  have hc0 : c = 0 := hok.nil rfl
  have hn0 : n = 0 := by have := hok.le; omega
  subst hc0 hn0
  have hx : xs = [] := List.eq_nil_of_length_eq_zero (by simpa using hl)
  subst hx
  refine (cloneTexts0 B H w hv).mono ?_
  rintro e w' ⟨rfl, hv⟩
  exact ⟨_, rfl, hv.rowNil _ _⟩
 | some a => exact cloneOwn1 B H w a n c xs hok hl h1 hn hr hv
theorem ckSortedA (B : Base) (H : List Res) (w : World) (xa : Option Addr) (xc : Nat) (xs : List (List UInt8)) (hokx : SliceOk xa xs.length xc) (hrx : RdV B [] xa (textCells xs)) (hmx : xs.length ≤ 1000000) (hv : Inv B H w) :
  Calls Tryz.prog 92 #[.bool true, .slice xa xs.length xc] w fun e w' => ∃ oa oc, e = .returned (.tuple #[.slice oa xs.length oc, vI 0]) ∧ Inv B (Res.row 9 1 (.slice oa xs.length oc) xs.length (textCells (xs.mergeSort leB)) :: H) w' := by
 refine cW Tryz.func92 rfl Tryz.ntmps92 ?_
 simp only [al]
 refine sK fun _ k1 => rL (sl_box (L := [.slice xa xs.length xc]) tV (wn rfl) rfl rfl hv (fun w => by kernel_rfl) (fun b2 w3 hv => ?_))
 refine uA rfl (uA rfl ?_)
 refine uW k1 (sK fun _ k4 => ?_)
 refine sK fun _ k5 => rL (uM rfl ?_)
 refine uW k5 (cT rfl ?_)
 refine sK fun _ k6 => rL (uL _ rfl (run_load1 s1na26 (hv.load 0 0 rfl rfl)) ?_)
 refine xC s1callable73 rfl ((cloneOwn B _ _ xa xs.length xc (textCells xs) hokx (textCells_len _) (textCells_one _) hmx hrx hv).mono ?_) rfl
 rintro e w7 ⟨v9, rfl, hv⟩
 refine ⟨_, rfl, ?_⟩
 obtain ⟨va, vc, rfl⟩ := row_slice hv.head
 refine xV 1 (.slice va xs.length vc) rfl hv s1sz26 rfl rfl (fun w8 hv => ?_)
 simp only [zS, zO, sp] at hv
 refine uW k6 (sK fun _ k9 => ?_)
 refine rL (uL _ rfl (run_load1 s1na26 (hv.load 1 0 rfl rfl)) ?_)
 refine xC x6callable103 rfl ((sortTexts B _ _ _ xs hmx hv).mono ?_) rfl
 rintro e w10 ⟨rfl, hv⟩
 refine ⟨_, rfl, uW k9 ?_⟩
 refine sK fun _ k11 => rL (uL _ rfl (run_load1 s1na26 (hv.load 1 0 rfl rfl)) ?_)
 refine uA rfl (uA rfl ?_)
 refine uW k11 (rR ?_)
 refine tR (bodyPost_ret (results_tmp2 rfl _ _ _) rfl ?_)
 exact ⟨va, vc, rfl, (hv.kp [] 1 1)⟩
section
variable {M M' : List (List UInt8 × Ver)} {clk : Int} {k l : List UInt8} {y : Ver} {ok : Bool} {r : Rp} {ec : Int}
def gotM (M : List (List UInt8 × Ver)) (clk : Int) (k : List UInt8) : Option Ver := match lookA M k with
 | some y => if aliveB y clk = true then some y else none
 | none => none
theorem got_of (h : (ok = true ∧ lookA M k = some y ∧ aliveB y clk = true) ∨ (ok = false ∧ y = zver0 ∧ ∀ y9, lookA M k = some y9 → aliveB y9 clk = false)) : (ok = true ∧ gotM M clk k = some y) ∨ (ok = false ∧ y = zver0 ∧ gotM M clk k = none) := by
 rcases h with ⟨h1, h2, h3⟩ | ⟨h1, h2, h3⟩
 ·exact .inl ⟨h1, by unfold gotM; rw [h2]; exact if_pos h3⟩
 refine .inr ⟨h1, h2, ?_⟩
 unfold gotM
 cases hl : lookA M k with
 | none => rfl
 | some y9 => exact if_neg (by rw [h3 y9 hl]; decide)
end
def sameB (x a : List UInt8) : Bool := decide (x.map (fun c => lowZ (c.toNat : Int)) = a.map (fun c => lowZ (c.toNat : Int)))
theorem sameB_iff {x a : List UInt8} : sameB x a = true ↔ SameC x a := by
 unfold sameB SameC
 rw [decide_eq_true_iff]
 constructor
 ·intro h
  refine ⟨by simpa using congrArg List.length h, fun k p q hp hq => ?_⟩
  have h9 := congrArg (fun l => l[k]?) h
  simpa [hp, hq] using h9
 rintro ⟨h1, h2⟩
 refine List.ext_getElem? fun k => ?_
 rw [List.getElem?_map, List.getElem?_map]
 cases hp : x[k]? with
 | none =>
  have := List.getElem?_eq_none_iff.1 hp
  rw [List.getElem?_eq_none_iff.2 (by omega)]
 | some p =>
  have := (List.getElem?_eq_some_iff.1 hp).1
  obtain ⟨q, hq⟩ : ∃ q, a[k]? = some q := ⟨_, List.getElem?_eq_getElem (by omega)⟩
  rw [hq]; exact congrArg some (h2 k p q hp hq)
abbrev wrdA : List UInt8 := [65, 76, 80, 72, 65]
abbrev wrdB : List UInt8 := [65, 83, 67]
abbrev wrdD : List UInt8 := [68, 69, 83, 67]
abbrev wrdL : List UInt8 := [76, 73, 77, 73, 84]
abbrev wrdS : List UInt8 := [83, 84, 79, 82, 69]
def idx5 (a : List UInt8) : Nat := if sameB wrdA a then 0 else if sameB wrdB a then 1 else if sameB wrdD a then 2 else if sameB wrdL a then 3 else if sameB wrdS a then 4 else 5
theorem is5 {arg : List UInt8} {r : Int} (h : IsI arg [wrdA, wrdB, wrdD, wrdL, wrdS] r) : (r = -1 ∧ idx5 arg = 5) ∨ (r = 0 ∧ idx5 arg = 0) ∨ (r = 1 ∧ idx5 arg = 1) ∨ (r = 2 ∧ idx5 arg = 2) ∨ (r = 3 ∧ idx5 arg = 3) ∨ (r = 4 ∧ idx5 arg = 4) := by
 have no : ∀ {x}, ¬ SameC x arg → sameB x arg = false := fun h => Bool.eq_false_iff.2 fun h9 => h (sameB_iff.1 h9)
 have ys : ∀ {x}, SameC x arg → sameB x arg = true := fun h => sameB_iff.2 h
 unfold idx5
 rcases h with ⟨rfl, h⟩ | ⟨i, x, rfl, hx, h1, h2⟩
 ·exact .inl ⟨rfl, by rw [no (h wrdA (by simp)), no (h wrdB (by simp)), no (h wrdD (by simp)), no (h wrdL (by simp)), no (h wrdS (by simp))]; rfl⟩
 match i, hx, h2 with
 | 0, hx, h2 => cases hx; exact .inr (.inl ⟨rfl, by rw [ys h1]; rfl⟩)
 | 1, hx, h2 => cases hx; exact .inr (.inr (.inl ⟨rfl, by rw [no (h2 0 wrdA (by omega) rfl), ys h1]; rfl⟩))
 | 2, hx, h2 => cases hx; exact .inr (.inr (.inr (.inl ⟨rfl, by rw [no (h2 0 wrdA (by omega) rfl), no (h2 1 wrdB (by omega) rfl), ys h1]; rfl⟩)))
 | 3, hx, h2 => cases hx; exact .inr (.inr (.inr (.inr (.inl ⟨rfl, by rw [no (h2 0 wrdA (by omega) rfl), no (h2 1 wrdB (by omega) rfl), no (h2 2 wrdD (by omega) rfl), ys h1]; rfl⟩))))
 | 4, hx, h2 => cases hx; exact .inr (.inr (.inr (.inr (.inr ⟨rfl, by rw [no (h2 0 wrdA (by omega) rfl), no (h2 1 wrdB (by omega) rfl), no (h2 2 wrdD (by omega) rfl), no (h2 3 wrdL (by omega) rfl), ys h1]; rfl⟩))))
structure WishS where
 g0 : Bool
 g1 : Bool
 g2 : Bool
 g3 : Bool
 g4 : Bool
 ns : List (List UInt8)
 tg : List UInt8
def wish0 : WishS := ⟨false, false, false, false, false, [], []⟩
def wishF : List (List UInt8) → WishS → Option WishS
 | [], s => some s
 | x :: rest, s =>
  if idx5 x = 0 then bif s.g0 || (s.g1 && s.g2) then none else wishF rest { s with g0 := true }
  else if idx5 x = 1 then bif s.g1 || s.g2 then none else wishF rest { s with g1 := true }
  else if idx5 x = 2 then bif s.g2 || s.g1 then none else wishF rest { s with g2 := true }
  else if idx5 x = 3 then
   match rest with
   | p :: q :: rest2 => bif s.g3 || (s.g1 && s.g2) then none else wishF rest2 { s with g3 := true, ns := [p, q] }
   | _ => none
  else if idx5 x = 4 then
   match rest with
   | t :: rest2 => bif s.g4 || (s.g1 && s.g2) then none else wishF rest2 { s with g4 := true, tg := t }
   | _ => none
  else none
theorem wf_cons (x : List UInt8) (rest : List (List UInt8)) (s : WishS) : wishF (x :: rest) s = if idx5 x = 0 then bif s.g0 || (s.g1 && s.g2) then none else wishF rest { s with g0 := true }
  else if idx5 x = 1 then bif s.g1 || s.g2 then none else wishF rest { s with g1 := true }
  else if idx5 x = 2 then bif s.g2 || s.g1 then none else wishF rest { s with g2 := true }
  else if idx5 x = 3 then
   match rest with
   | p :: q :: rest2 => bif s.g3 || (s.g1 && s.g2) then none else wishF rest2 { s with g3 := true, ns := [p, q] }
   | _ => none
  else if idx5 x = 4 then
   match rest with
   | t :: rest2 => bif s.g4 || (s.g1 && s.g2) then none else wishF rest2 { s with g4 := true, tg := t }
   | _ => none
  else none := by
 match rest with
 | [] => rfl
 | [_] => rfl
 | _ :: _ :: _ => rfl
section
variable {ws : List (List UInt8)} {i : Nat} {x p q : List UInt8} {s : WishS} {r : Option WishS}
theorem drop_at (h : ws[i]? = some x) : ws.drop i = x :: ws.drop (i + 1) := by
 obtain ⟨hi, rfl⟩ := List.getElem?_eq_some_iff.1 h
 exact List.drop_eq_getElem_cons hi
theorem wsh5 (hw : r = wishF (ws.drop i) s) (hx : ws[i]? = some x) (h : idx5 x = 5) : r = none := by rw [hw, drop_at hx, wf_cons, h]; rfl
theorem wsh0 (hw : r = wishF (ws.drop i) s) (hx : ws[i]? = some x) (h : idx5 x = 0) : r = bif s.g0 || (s.g1 && s.g2) then none else wishF (ws.drop (i + 1)) { s with g0 := true } := by rw [hw, drop_at hx, wf_cons, h]; rfl
theorem wsh1 (hw : r = wishF (ws.drop i) s) (hx : ws[i]? = some x) (h : idx5 x = 1) : r = bif s.g1 || s.g2 then none else wishF (ws.drop (i + 1)) { s with g1 := true } := by rw [hw, drop_at hx, wf_cons, h]; rfl
theorem wsh2 (hw : r = wishF (ws.drop i) s) (hx : ws[i]? = some x) (h : idx5 x = 2) : r = bif s.g2 || s.g1 then none else wishF (ws.drop (i + 1)) { s with g2 := true } := by rw [hw, drop_at hx, wf_cons, h]; rfl
theorem wsh3 (hw : r = wishF (ws.drop i) s) (hx : ws[i]? = some x) (h : idx5 x = 3) (hp : ws[i + 1]? = some p) (hq : ws[i + 2]? = some q) : r = bif s.g3 || (s.g1 && s.g2) then none else wishF (ws.drop (i + 3)) { s with g3 := true, ns := [p, q] } := by rw [hw, drop_at hx, drop_at hp, drop_at hq, wf_cons, h]; rfl
theorem wsh4 (hw : r = wishF (ws.drop i) s) (hx : ws[i]? = some x) (h : idx5 x = 4) (hp : ws[i + 1]? = some p) : r = bif s.g4 || (s.g1 && s.g2) then none else wishF (ws.drop (i + 2)) { s with g4 := true, tg := p } := by rw [hw, drop_at hx, drop_at hp, wf_cons, h]; rfl
theorem wsh3n (hw : r = wishF (ws.drop i) s) (hx : ws[i]? = some x) (h : idx5 x = 3) (hl : ws.length ≤ i + 2) : r = none := by
 rw [hw, drop_at hx]
 have : (ws.drop (i + 1)).length ≤ 1 := by rw [List.length_drop]; omega
 match hd : ws.drop (i + 1), this with
 | [], _ => rw [wf_cons, h]; rfl
 | [_], _ => rw [wf_cons, h]; rfl
theorem wsh4n (hw : r = wishF (ws.drop i) s) (hx : ws[i]? = some x) (h : idx5 x = 4) (hl : ws.length ≤ i + 1) : r = none := by
 rw [hw, drop_at hx, List.drop_eq_nil_of_le hl]
 rw [wf_cons, h]; rfl
end
def WishR (ws : List (List UInt8)) (g0 g1 g2 g3 g4 : Bool) (om mo : Int) (tg : List UInt8) (ec : Int) : Prop :=
 (ec = 42 ∧ wishF ws wish0 = none) ∨ ∃ s, wishF ws wish0 = some s ∧ ((ec = 41 ∧ ∃ t ∈ s.ns, NumP t 0 false) ∨ (ec = 0 ∧ s.g0 = g0 ∧ s.g1 = g1 ∧ s.g2 = g2 ∧ s.g3 = g3 ∧ s.g4 = g4 ∧ s.tg = tg ∧ (g3 = true → ∃ p q, s.ns = [p, q] ∧ NumP p om true ∧ NumP q mo true)))
theorem kIal157 : AL Tryz.prog 157 [.bool false, .bool false, .bool false, .bool false, .bool false, vI 0, vI 0, vS []] := fun w => by kernel_rfl
theorem kIsz157 : (Tryz.prog.info? 157).map (·.size) = some 8 := by kernel_rfl
theorem kIwd157 : Wide Tryz.prog 157 8 := wide_of (fun w => by kernel_rfl) (by kernel_rfl)
theorem kIfa157_0 : FA Tryz.prog 157 0 0 := fun w b o => by kernel_rfl
theorem kIea155 (w : World) : (sizeOf 4).run Tryz.prog w = .ok 1 w := by kernel_rfl
theorem kIua155 : Tryz.prog.underlying 155 = some (.array 5 4) := by kernel_rfl
theorem kIfa157_3 : FA Tryz.prog 157 3 7 := fun w b o => by kernel_rfl
theorem kIfa157_1 : FA Tryz.prog 157 1 5 := fun w b o => by kernel_rfl
theorem kIfa157_2 : FA Tryz.prog 157 2 6 := fun w b o => by kernel_rfl
theorem ckWishes (B : Base) (H : List Res) (w : World) (wa : Option Addr) (wc : Nat) (ws : List (List UInt8)) (hokw : SliceOk wa ws.length wc) (hrw : RdV B [] wa (textCells ws)) (hmw : ws.length ≤ 1000000) (hxl : ∀ x ∈ ws, x.length ≤ 9223372036854775807) (hN : NumB B) (hv : Inv B H w) :
  Calls Tryz.prog 90 #[.slice wa ws.length wc] w fun e w' => ∃ g0 g1 g2 g3 g4 om mo tg ec, e = .returned (.tuple #[.agg #[.bool g0, .bool g1, .bool g2, .bool g3, .bool g4, vI om, vI mo, vS tg], vI ec]) ∧ WishR ws g0 g1 g2 g3 g4 om mo tg ec ∧ Inv B H w' := by
 refine cW Tryz.func90 rfl Tryz.ntmps90 ?_
 simp only [al]
 refine sK fun _ k1 => rL (sl_alloc tV (wn rfl) rfl hv kIal157 (fun b2 w3 hv => ?_))
 refine uA rfl (uW k1 ?_)
 refine sK fun _ k4 => rL (sl_alloc tV (wn rfl) rfl hv kIal157 (fun b5 w6 hv => ?_))
 refine uW k4 (sK fun _ k7 => ?_)
 refine rL (uA rfl ?_)
 refine uW k7 (sK fun _ k8 => ?_)
 refine sK fun _ k9 => rL (uA rfl ?_)
 refine uW k9 (bB ?_)
 gi_loopw [5, 6] (fun x5 x6 wr => ∃ (i : Nat) (g0 g1 g2 g3 g4 : Bool) (ns : List (List UInt8)) (na : Option Addr) (nc : Nat) (tg : List UInt8), x5 = .slice na ns.length nc ∧ x6 = vI i ∧ i ≤ ws.length ∧ wishF ws wish0 = wishF (ws.drop i) ⟨g0, g1, g2, g3, g4, ns, tg⟩ ∧ RdV B [] na (textCells ns) ∧ (g3 = true → ∃ p q, ns = [p, q]) ∧ ns.length ≤ 2 ∧ Inv B (Res.cell b5 [.bool g0, .bool g1, .bool g2, .bool g3, .bool g4, vI 0, vI 0, vS tg] 157 :: Res.cell b2 [.bool false, .bool false, .bool false, .bool false, .bool false, vI 0, vI 0, vS []] 157 :: H) wr) (fun x5 x6 _ => ws.length - (intOf x6).toNat)
 case atStart => exact ⟨0, false, false, false, false, false, [], none, 0, [], rfl, rfl, Nat.zero_le _, rfl, rdV_nil, fun h => (by cases h), by decide, ((hv.front 1 rfl).front 1 rfl)⟩
 case round =>
  obtain ⟨i, g0, g1, g2, g3, g4, ns, na, nc, tg, rfl, rfl, hi, hwf, hrn, h3, hnl, hv⟩ := hrel
  refine sK fun _ k11 => sK fun _ k12 => rL (uM rfl ?_)
  refine uM rfl ?_
  refine uG (vI (ws.length : Int)) rfl (ex_len0 Tryz.underlying26 rfl rfl) ?_
  by_cases hb13 : (i : Int) < (ws.length : Int)
  ·refine uG (.bool true) rfl (ex_lss rfl rfl rfl (qT hb13)) (uW k12 ?_)
   refine cT rfl (kS ?_)
   refine tK k11 (sK fun _ k14 => ?_)
   refine bB (sK fun _ k15 => ?_)
   obtain ⟨x, hx⟩ : ∃ x, ws[i]? = some x := ⟨_, List.getElem?_eq_getElem (show i < ws.length by omega)⟩
   obtain ⟨kb, ko, had, hrdx⟩ := text_reads hrw hx
   subst had
   refine rL (uM rfl ?_)
   refine uM rfl ?_
   refine uG (.pointer (some ⟨kb, ko + i, none⟩)) rfl (ex_index rfl rfl rfl (run_idx1 (k := i) Tryz.underlying26 s9es26 (by omega))) ?_
   refine uL _ rfl (run_load1 s9na9 (hrdx _ _ _ (Base.Le.refl _) no_res hv 0 _ rfl)) ?_
   refine sl_rowN (pv := #[(0, vS [65, 76, 80, 72, 65]), (1, vS [65, 83, 67]), (2, vS [68, 69, 83, 67]), (3, vS [76, 73, 77, 73, 84]), (4, vS [83, 84, 79, 82, 69])]) (L := [vS [65, 76, 80, 72, 65], vS [65, 83, 67], vS [68, 69, 83, 67], vS [76, 73, 77, 73, 84], vS [83, 84, 79, 82, 69]]) (e := 9) tV (wn rfl) rfl (by simp only [List.map_toArray, List.map_cons, List.map_nil]; rfl) hv (fun w => by kernel_rfl) (fun b16 w17 hv => ?_)
   simp only [zP, po]
   obtain ⟨D1, hD1, hv, hrk, -, -⟩ := (hv.cellRow (n := 5) (c := 5) (size := 1) rfl (by decide) (by decide)).rowBy
   refine xC v8callable75 rfl ((viewIs D1 _ _ x _ 5 [wrdA, wrdB, wrdD, wrdL, wrdS] hrk (by simp) (hxl x (List.mem_of_getElem? hx)) hv).mono ?_) rfl
   rintro e w18 ⟨r, rfl, his, hv⟩
   refine ⟨_, rfl, ?_⟩
   replace hv := hv.weak hD1
   rcases is5 his with ⟨rfl, hix⟩ | ⟨rfl, hix⟩ | ⟨rfl, hix⟩ | ⟨rfl, hix⟩ | ⟨rfl, hix⟩ | ⟨rfl, hix⟩
   ·refine uA rfl (uW k15 ?_)
    refine sK fun _ k19 => sK fun _ k20 => rL (uM rfl ?_)
    refine uG (.bool true) rfl (ex_lss rfl rfl rfl (by decide)) (uM rfl ?_)
    iterate 4 refine uP rfl ?_
    refine uK rfl (uW k20 ?_)
    refine cT rfl (sK fun _ k21 => ?_)
    refine rL (uG (.agg #[.bool false, .bool false, .bool false, .bool false, .bool false, vI 0, vI 0, vS []]) rfl (ex_buildN (vs := #[]) rfl (by simp only [List.map_toArray, List.map_nil]) (by kernel_rfl)) ?_)
    refine xS 1 rfl hv kIsz157 rfl (by exact ⟨rfl, rfl, rfl, rfl, rfl, rfl, rfl, rfl, trivial⟩) (fun w22 hv => ?_)
    simp only [zS, zO, sp] at hv
    refine uA rfl (uW k21 ?_)
    refine rR (tR ?_)
    refine bZ (tR ?_)
    refine tR (bZ ?_)
    refine tR (bodyPost_ret (res_cell2 rfl rfl (lM 1 kIwd157 hv rfl rfl rfl rfl)) rfl ?_)
    exact ⟨false, false, false, false, false, 0, 0, [], 42, rfl, .inl ⟨rfl, by have h9 := wsh5 hwf hx hix; simpa [] using h9⟩, (hv.kp [] 0 2)⟩
   ·refine uA rfl (uW k15 ?_)
    refine sK fun _ k23 => sK fun _ k24 => rL (uM rfl ?_)
    refine uG (.bool false) rfl (ex_lss rfl rfl rfl (by decide)) (uM rfl ?_)
    refine uM rfl ?_
    refine uF (vP b5) rfl (kIfa157_0 _ _ _) ?_
    refine uG (vP b5) rfl (ex_index rfl rfl rfl (run_idxA1 (k := 0) kIua155 kIea155 (by omega))) ?_
    refine uL _ rfl (run_load1 s2na4 (hv.load 0 0 rfl rfl)) (uK rfl ?_)
    refine uW k24 (wpIn_cond_split (t := g0) rfl (fun hc25 => ?_) (fun hc25 => ?_))
    ·refine sK fun _ k26 => rL (uG (.agg #[.bool false, .bool false, .bool false, .bool false, .bool false, vI 0, vI 0, vS []]) rfl (ex_buildN (vs := #[]) rfl (by simp only [List.map_toArray, List.map_nil]) (by kernel_rfl)) ?_)
     refine xS 1 rfl hv kIsz157 rfl (by exact ⟨rfl, rfl, rfl, rfl, rfl, rfl, rfl, rfl, trivial⟩) (fun w27 hv => ?_)
     simp only [zS, zO, sp] at hv
     refine uA rfl (uW k26 ?_)
     refine rR (tR ?_)
     refine bZ (tR ?_)
     refine tR (bZ ?_)
     refine tR (bodyPost_ret (res_cell2 rfl rfl (lM 1 kIwd157 hv rfl rfl rfl rfl)) rfl ?_)
     exact ⟨false, false, false, false, false, 0, 0, [], 42, rfl, .inl ⟨rfl, by have h9 := wsh0 hwf hx hix; simpa [hc25] using h9⟩, (hv.kp [] 0 2)⟩
    refine kS (tK k23 ?_)
    refine sK fun _ k28 => rL (uM rfl ?_)
    refine uF (vP b5) rfl (kIfa157_0 _ _ _) ?_
    refine uG (vP b5) rfl (ex_index rfl rfl rfl (run_idxA1 (k := 0) kIua155 kIea155 (by omega))) ?_
    refine xV 0 (.bool true) rfl hv v8sz4 rfl rfl (fun w29 hv => ?_)
    simp only [zO, sp] at hv
    refine uW k28 (sK fun _ k30 => ?_)
    refine rL (uA rfl ?_)
    refine uW k30 (sK fun _ k31 => ?_)
    refine sK fun _ k32 => rL (uM rfl ?_)
    refine uW k32 (bB ?_)
    refine sK fun _ k33 => rL (uG (.bool false) rfl (ex_eql rfl rfl rfl (by decide)) ?_)
    refine uA rfl (uW k33 ?_)
    refine cF rfl (sK fun _ k34 => ?_)
    refine rL (uG (.bool false) rfl (ex_eql rfl rfl rfl (by decide)) ?_)
    refine uA rfl (uW k34 ?_)
    refine cF rfl (kS ?_)
    refine bN (tK k31 ?_)
    refine sK fun K35 k35 => ?_
    have hJ35 : ∀ (j3 j40 j41 j42 j43 j44 j45 j46 j47 j48 j49 j50 j51 j52 j53 j54 j55 j56 : Value) (w36 : World), (wishF ws wish0 = wishF (ws.drop (i + 1)) ⟨true, g1, g2, g3, g4, ns, tg⟩) → Inv B (Res.cell b5 [.bool true, .bool g1, .bool g2, .bool g3, .bool g4, vI 0, vI 0, vS tg] 157 :: Res.cell b2 [.bool false, .bool false, .bool false, .bool false, .bool false, vI 0, vI 0, vS []] 157 :: H) w36 → K35 { tmps := List.toArray (.slice (some ⟨kb, ko, none⟩) ws.length wc :: undef :: vP b2 :: j3 :: vP b5 :: .slice na ns.length nc :: vI i :: vI 0 :: vI 0 :: undef :: undef :: vI i :: .slice (some ⟨kb, ko, none⟩) ws.length wc :: vI (ws.length : Int) :: .bool true :: u15 :: u16 :: .slice (some ⟨kb, ko, none⟩) ws.length wc :: vI i :: .pointer (some ⟨kb, ko + i, none⟩) :: vS x :: .slice (some ⟨b16, 0, none⟩) 5 5 :: vI 0 :: vI 0 :: .bool false :: .bool false :: vI 0 :: vP b5 :: vP b5 :: .bool g0 :: .bool g0 :: u31 :: vI 0 :: vP b5 :: vP b5 :: vI 0 :: .bool false :: .bool false :: .bool false :: .bool false :: j40 :: j41 :: j42 :: j43 :: j44 :: j45 :: j46 :: j47 :: j48 :: j49 :: j50 :: j51 :: j52 :: j53 :: j54 :: j55 :: j56 :: u57 :: u58 :: u59 :: u60 :: u61 :: u62 :: u63 :: u64 :: u65 :: u66 :: u67 :: u68 :: u69 :: u70 :: u71 :: u72 :: u73 :: u74 :: u75 :: u76 :: undef :: undef :: undef :: undef :: undef :: undef :: undef :: undef :: undef :: undef :: undef :: undef :: undef :: undef :: undef :: undef :: undef :: undef :: undef :: undef :: undef :: []), defers := [] } w36 := by
     intro j3 j40 j41 j42 j43 j44 j45 j46 j47 j48 j49 j50 j51 j52 j53 j54 j55 j56 w36 hw9 hv
     refine k35 _ _ (sK fun _ k37 => ?_)
     refine sK fun _ k38 => rL (uM rfl ?_)
     refine uW k38 (bB ?_)
     refine sK fun _ k39 => rL (uG (.bool false) rfl (ex_eql rfl rfl rfl (by decide)) ?_)
     refine uA rfl (uW k39 ?_)
     refine cF rfl (sK fun _ k40 => ?_)
     refine rL (uG (.bool false) rfl (ex_eql rfl rfl rfl (by decide)) ?_)
     refine uA rfl (uW k40 ?_)
     refine cF rfl (kS ?_)
     refine bN (tK k37 ?_)
     refine rL (uM rfl ?_)
     refine uM rfl ?_
     refine uG (vI ((i + 0 : Nat) : Int)) rfl (ex_add rfl rfl rfl (by rw [i64_in (by omega)]; omega)) (uA rfl ?_)
     refine uZ (bN ?_)
     refine tK k14 (rL ?_)
     refine uM rfl ?_
     refine uG (vI ((i + 1 : Nat) : Int)) rfl (ex_add rfl rfl rfl (by rw [i64_in (by omega)]; omega)) (uA rfl ?_)
     refine uZ (then_normal ?_)
     simp only [vP, vI, vS]
     go_roundw
     case rel => exact ⟨i + 1, true, g1, g2, g3, g4, ns, _, _, tg, rfl, rfl, by omega, hw9, hrn, h3, hnl, ((hv.front 1 rfl).front 1 rfl)⟩
     case measure => show ws.length - (((i + 1 : Nat) : Int)).toNat < ws.length - ((i : Int)).toNat; omega
    refine sK fun _ k41 => rL (uM rfl ?_)
    refine uM rfl ?_
    refine uG (vI ((i : Int) + 0)) rfl (ex_add rfl rfl rfl (i64_in (by omega))) (uM rfl ?_)
    refine uG (vI (ws.length : Int)) rfl (ex_len0 Tryz.underlying26 rfl rfl) ?_
    refine uG (.bool false) rfl (ex_geq rfl rfl rfl (qF (by omega))) (uM rfl ?_)
    refine uF (vP b5) rfl (kIfa157_0 _ _ _) ?_
    refine uG (.pointer (some ⟨b5, 1, none⟩)) rfl (ex_index rfl rfl rfl (run_idxA1 (k := 1) kIua155 kIea155 (by omega))) ?_
    refine uL _ rfl (run_load1 s2na4 (hv.load 0 1 rfl rfl)) ?_
    refine uM rfl ?_
    cases g1
    ·iterate 3 refine uP rfl ?_
     refine uK rfl (uK rfl ?_)
     refine uW k41 (cF rfl ?_)
     refine kS (then_normal (hJ35 _ _ _ _ _ _ _ _ _ _ _ _ _ _ _ _ _ _ _ (by have h9 := wsh0 hwf hx hix; simpa [hc25] using h9) hv))
    refine uF (vP b5) rfl (kIfa157_0 _ _ _) ?_
    refine uG (.pointer (some ⟨b5, 2, none⟩)) rfl (ex_index rfl rfl rfl (run_idxA1 (k := 2) kIua155 kIea155 (by omega))) ?_
    refine uL _ rfl (run_load1 s2na4 (hv.load 0 2 rfl rfl)) ?_
    refine uK rfl (uK rfl ?_)
    refine uW k41 (wpIn_cond_split (t := g2) rfl (fun hc42 => ?_) (fun hc42 => ?_))
    ·refine sK fun _ k43 => rL (uG (.agg #[.bool false, .bool false, .bool false, .bool false, .bool false, vI 0, vI 0, vS []]) rfl (ex_buildN (vs := #[]) rfl (by simp only [List.map_toArray, List.map_nil]) (by kernel_rfl)) ?_)
     refine xS 1 rfl hv kIsz157 rfl (by exact ⟨rfl, rfl, rfl, rfl, rfl, rfl, rfl, rfl, trivial⟩) (fun w44 hv => ?_)
     simp only [zS, zO, sp] at hv
     refine uA rfl (uW k43 ?_)
     refine rR (tR ?_)
     clear hJ35
     refine bZ (tR ?_)
     refine tR (bZ ?_)
     refine tR (bodyPost_ret (res_cell2 rfl rfl (lM 1 kIwd157 hv rfl rfl rfl rfl)) rfl ?_)
     exact ⟨false, false, false, false, false, 0, 0, [], 42, rfl, .inl ⟨rfl, by have h9 := wsh0 hwf hx hix; simpa [hc25, hc42] using h9⟩, (hv.kp [] 0 2)⟩
    refine kS (then_normal (hJ35 _ _ _ _ _ _ _ _ _ _ _ _ _ _ _ _ _ _ _ (by have h9 := wsh0 hwf hx hix; simpa [hc25, hc42] using h9) hv))
   ·refine uA rfl (uW k15 ?_)
    refine sK fun _ k45 => sK fun _ k46 => rL (uM rfl ?_)
    refine uG (.bool false) rfl (ex_lss rfl rfl rfl (by decide)) (uM rfl ?_)
    refine uM rfl ?_
    refine uF (vP b5) rfl (kIfa157_0 _ _ _) ?_
    refine uG (.pointer (some ⟨b5, 1, none⟩)) rfl (ex_index rfl rfl rfl (run_idxA1 (k := 1) kIua155 kIea155 (by omega))) ?_
    refine uL _ rfl (run_load1 s2na4 (hv.load 0 1 rfl rfl)) (uK rfl ?_)
    refine uW k46 (wpIn_cond_split (t := g1) rfl (fun hc47 => ?_) (fun hc47 => ?_))
    ·refine sK fun _ k48 => rL (uG (.agg #[.bool false, .bool false, .bool false, .bool false, .bool false, vI 0, vI 0, vS []]) rfl (ex_buildN (vs := #[]) rfl (by simp only [List.map_toArray, List.map_nil]) (by kernel_rfl)) ?_)
     refine xS 1 rfl hv kIsz157 rfl (by exact ⟨rfl, rfl, rfl, rfl, rfl, rfl, rfl, rfl, trivial⟩) (fun w49 hv => ?_)
     simp only [zS, zO, sp] at hv
     refine uA rfl (uW k48 ?_)
     refine rR (tR ?_)
     refine bZ (tR ?_)
     refine tR (bZ ?_)
     refine tR (bodyPost_ret (res_cell2 rfl rfl (lM 1 kIwd157 hv rfl rfl rfl rfl)) rfl ?_)
     exact ⟨false, false, false, false, false, 0, 0, [], 42, rfl, .inl ⟨rfl, by have h9 := wsh1 hwf hx hix; simpa [hc47] using h9⟩, (hv.kp [] 0 2)⟩
    refine kS (tK k45 ?_)
    refine sK fun _ k50 => rL (uM rfl ?_)
    refine uF (vP b5) rfl (kIfa157_0 _ _ _) ?_
    refine uG (.pointer (some ⟨b5, 1, none⟩)) rfl (ex_index rfl rfl rfl (run_idxA1 (k := 1) kIua155 kIea155 (by omega))) ?_
    refine xV 0 (.bool true) rfl hv v8sz4 rfl rfl (fun w51 hv => ?_)
    simp only [zO, sp] at hv
    refine uW k50 (sK fun _ k52 => ?_)
    refine rL (uA rfl ?_)
    refine uW k52 (sK fun _ k53 => ?_)
    refine sK fun _ k54 => rL (uM rfl ?_)
    refine uW k54 (bB ?_)
    refine sK fun _ k55 => rL (uG (.bool false) rfl (ex_eql rfl rfl rfl (by decide)) ?_)
    refine uA rfl (uW k55 ?_)
    refine cF rfl (sK fun _ k56 => ?_)
    refine rL (uG (.bool false) rfl (ex_eql rfl rfl rfl (by decide)) ?_)
    refine uA rfl (uW k56 ?_)
    refine cF rfl (kS ?_)
    refine bN (tK k53 ?_)
    refine sK fun K57 k57 => ?_
    have hJ57 : ∀ (j3 j40 j41 j42 j43 j44 j45 j46 j47 j48 j49 j50 j51 j52 j53 j54 j55 j56 : Value) (w58 : World), (wishF ws wish0 = wishF (ws.drop (i + 1)) ⟨g0, true, g2, g3, g4, ns, tg⟩) → Inv B (Res.cell b5 [.bool g0, .bool true, .bool g2, .bool g3, .bool g4, vI 0, vI 0, vS tg] 157 :: Res.cell b2 [.bool false, .bool false, .bool false, .bool false, .bool false, vI 0, vI 0, vS []] 157 :: H) w58 → K57 { tmps := List.toArray (.slice (some ⟨kb, ko, none⟩) ws.length wc :: undef :: vP b2 :: j3 :: vP b5 :: .slice na ns.length nc :: vI i :: vI 1 :: vI 0 :: undef :: undef :: vI i :: .slice (some ⟨kb, ko, none⟩) ws.length wc :: vI (ws.length : Int) :: .bool true :: u15 :: u16 :: .slice (some ⟨kb, ko, none⟩) ws.length wc :: vI i :: .pointer (some ⟨kb, ko + i, none⟩) :: vS x :: .slice (some ⟨b16, 0, none⟩) 5 5 :: vI 1 :: vI 1 :: .bool false :: .bool false :: vI 1 :: vP b5 :: .pointer (some ⟨b5, 1, none⟩) :: .bool g1 :: .bool g1 :: u31 :: vI 1 :: vP b5 :: .pointer (some ⟨b5, 1, none⟩) :: vI 1 :: .bool false :: .bool false :: .bool false :: .bool false :: j40 :: j41 :: j42 :: j43 :: j44 :: j45 :: j46 :: j47 :: j48 :: j49 :: j50 :: j51 :: j52 :: j53 :: j54 :: j55 :: j56 :: u57 :: u58 :: u59 :: u60 :: u61 :: u62 :: u63 :: u64 :: u65 :: u66 :: u67 :: u68 :: u69 :: u70 :: u71 :: u72 :: u73 :: u74 :: u75 :: u76 :: undef :: undef :: undef :: undef :: undef :: undef :: undef :: undef :: undef :: undef :: undef :: undef :: undef :: undef :: undef :: undef :: undef :: undef :: undef :: undef :: undef :: []), defers := [] } w58 := by
     intro j3 j40 j41 j42 j43 j44 j45 j46 j47 j48 j49 j50 j51 j52 j53 j54 j55 j56 w58 hw9 hv
     refine k57 _ _ (sK fun _ k59 => ?_)
     refine sK fun _ k60 => rL (uM rfl ?_)
     refine uW k60 (bB ?_)
     refine sK fun _ k61 => rL (uG (.bool false) rfl (ex_eql rfl rfl rfl (by decide)) ?_)
     refine uA rfl (uW k61 ?_)
     refine cF rfl (sK fun _ k62 => ?_)
     refine rL (uG (.bool false) rfl (ex_eql rfl rfl rfl (by decide)) ?_)
     refine uA rfl (uW k62 ?_)
     refine cF rfl (kS ?_)
     refine bN (tK k59 ?_)
     refine rL (uM rfl ?_)
     refine uM rfl ?_
     refine uG (vI ((i + 0 : Nat) : Int)) rfl (ex_add rfl rfl rfl (by rw [i64_in (by omega)]; omega)) (uA rfl ?_)
     refine uZ (bN ?_)
     refine tK k14 (rL ?_)
     refine uM rfl ?_
     refine uG (vI ((i + 1 : Nat) : Int)) rfl (ex_add rfl rfl rfl (by rw [i64_in (by omega)]; omega)) (uA rfl ?_)
     refine uZ (then_normal ?_)
     simp only [vP, vI, vS]
     go_roundw
     case rel => exact ⟨i + 1, g0, true, g2, g3, g4, ns, _, _, tg, rfl, rfl, by omega, hw9, hrn, h3, hnl, ((hv.front 1 rfl).front 1 rfl)⟩
     case measure => show ws.length - (((i + 1 : Nat) : Int)).toNat < ws.length - ((i : Int)).toNat; omega
    refine sK fun _ k63 => rL (uM rfl ?_)
    refine uM rfl ?_
    refine uG (vI ((i : Int) + 0)) rfl (ex_add rfl rfl rfl (i64_in (by omega))) (uM rfl ?_)
    refine uG (vI (ws.length : Int)) rfl (ex_len0 Tryz.underlying26 rfl rfl) ?_
    refine uG (.bool false) rfl (ex_geq rfl rfl rfl (qF (by omega))) (uM rfl ?_)
    refine uF (vP b5) rfl (kIfa157_0 _ _ _) ?_
    refine uG (.pointer (some ⟨b5, 1, none⟩)) rfl (ex_index rfl rfl rfl (run_idxA1 (k := 1) kIua155 kIea155 (by omega))) ?_
    refine uL _ rfl (run_load1 s2na4 (hv.load 0 1 rfl rfl)) ?_
    refine uM rfl ?_
    refine uF (vP b5) rfl (kIfa157_0 _ _ _) ?_
    refine uG (.pointer (some ⟨b5, 2, none⟩)) rfl (ex_index rfl rfl rfl (run_idxA1 (k := 2) kIua155 kIea155 (by omega))) ?_
    refine uL _ rfl (run_load1 s2na4 (hv.load 0 2 rfl rfl)) ?_
    refine uK rfl (uK rfl ?_)
    refine uW k63 (wpIn_cond_split (t := g2) rfl (fun hc64 => ?_) (fun hc64 => ?_))
    ·refine sK fun _ k65 => rL (uG (.agg #[.bool false, .bool false, .bool false, .bool false, .bool false, vI 0, vI 0, vS []]) rfl (ex_buildN (vs := #[]) rfl (by simp only [List.map_toArray, List.map_nil]) (by kernel_rfl)) ?_)
     refine xS 1 rfl hv kIsz157 rfl (by exact ⟨rfl, rfl, rfl, rfl, rfl, rfl, rfl, rfl, trivial⟩) (fun w66 hv => ?_)
     simp only [zS, zO, sp] at hv
     refine uA rfl (uW k65 ?_)
     refine rR (tR ?_)
     clear hJ57
     refine bZ (tR ?_)
     refine tR (bZ ?_)
     refine tR (bodyPost_ret (res_cell2 rfl rfl (lM 1 kIwd157 hv rfl rfl rfl rfl)) rfl ?_)
     exact ⟨false, false, false, false, false, 0, 0, [], 42, rfl, .inl ⟨rfl, by have h9 := wsh1 hwf hx hix; simpa [hc47, hc64] using h9⟩, (hv.kp [] 0 2)⟩
    refine kS (then_normal (hJ57 _ _ _ _ _ _ _ _ _ _ _ _ _ _ _ _ _ _ _ (by have h9 := wsh1 hwf hx hix; simpa [hc47, hc64] using h9) hv))
   ·refine uA rfl (uW k15 ?_)
    refine sK fun _ k67 => sK fun _ k68 => rL (uM rfl ?_)
    refine uG (.bool false) rfl (ex_lss rfl rfl rfl (by decide)) (uM rfl ?_)
    refine uM rfl ?_
    refine uF (vP b5) rfl (kIfa157_0 _ _ _) ?_
    refine uG (.pointer (some ⟨b5, 2, none⟩)) rfl (ex_index rfl rfl rfl (run_idxA1 (k := 2) kIua155 kIea155 (by omega))) ?_
    refine uL _ rfl (run_load1 s2na4 (hv.load 0 2 rfl rfl)) (uK rfl ?_)
    refine uW k68 (wpIn_cond_split (t := g2) rfl (fun hc69 => ?_) (fun hc69 => ?_))
    ·refine sK fun _ k70 => rL (uG (.agg #[.bool false, .bool false, .bool false, .bool false, .bool false, vI 0, vI 0, vS []]) rfl (ex_buildN (vs := #[]) rfl (by simp only [List.map_toArray, List.map_nil]) (by kernel_rfl)) ?_)
     refine xS 1 rfl hv kIsz157 rfl (by exact ⟨rfl, rfl, rfl, rfl, rfl, rfl, rfl, rfl, trivial⟩) (fun w71 hv => ?_)
     simp only [zS, zO, sp] at hv
     refine uA rfl (uW k70 ?_)
     refine rR (tR ?_)
     refine bZ (tR ?_)
     refine tR (bZ ?_)
     refine tR (bodyPost_ret (res_cell2 rfl rfl (lM 1 kIwd157 hv rfl rfl rfl rfl)) rfl ?_)
     exact ⟨false, false, false, false, false, 0, 0, [], 42, rfl, .inl ⟨rfl, by have h9 := wsh2 hwf hx hix; simpa [hc69] using h9⟩, (hv.kp [] 0 2)⟩
    refine kS (tK k67 ?_)
    refine sK fun _ k72 => rL (uM rfl ?_)
    refine uF (vP b5) rfl (kIfa157_0 _ _ _) ?_
    refine uG (.pointer (some ⟨b5, 2, none⟩)) rfl (ex_index rfl rfl rfl (run_idxA1 (k := 2) kIua155 kIea155 (by omega))) ?_
    refine xV 0 (.bool true) rfl hv v8sz4 rfl rfl (fun w73 hv => ?_)
    simp only [zO, sp] at hv
    refine uW k72 (sK fun _ k74 => ?_)
    refine rL (uA rfl ?_)
    refine uW k74 (sK fun _ k75 => ?_)
    refine sK fun _ k76 => rL (uM rfl ?_)
    refine uW k76 (bB ?_)
    refine sK fun _ k77 => rL (uG (.bool false) rfl (ex_eql rfl rfl rfl (by decide)) ?_)
    refine uA rfl (uW k77 ?_)
    refine cF rfl (sK fun _ k78 => ?_)
    refine rL (uG (.bool false) rfl (ex_eql rfl rfl rfl (by decide)) ?_)
    refine uA rfl (uW k78 ?_)
    refine cF rfl (kS ?_)
    refine bN (tK k75 ?_)
    refine sK fun K79 k79 => ?_
    have hJ79 : ∀ (j3 j40 j41 j42 j43 j44 j45 j46 j47 j48 j49 j50 j51 j52 j53 j54 j55 j56 : Value) (w80 : World), (wishF ws wish0 = wishF (ws.drop (i + 1)) ⟨g0, g1, true, g3, g4, ns, tg⟩) → Inv B (Res.cell b5 [.bool g0, .bool g1, .bool true, .bool g3, .bool g4, vI 0, vI 0, vS tg] 157 :: Res.cell b2 [.bool false, .bool false, .bool false, .bool false, .bool false, vI 0, vI 0, vS []] 157 :: H) w80 → K79 { tmps := List.toArray (.slice (some ⟨kb, ko, none⟩) ws.length wc :: undef :: vP b2 :: j3 :: vP b5 :: .slice na ns.length nc :: vI i :: vI 2 :: vI 0 :: undef :: undef :: vI i :: .slice (some ⟨kb, ko, none⟩) ws.length wc :: vI (ws.length : Int) :: .bool true :: u15 :: u16 :: .slice (some ⟨kb, ko, none⟩) ws.length wc :: vI i :: .pointer (some ⟨kb, ko + i, none⟩) :: vS x :: .slice (some ⟨b16, 0, none⟩) 5 5 :: vI 2 :: vI 2 :: .bool false :: .bool false :: vI 2 :: vP b5 :: .pointer (some ⟨b5, 2, none⟩) :: .bool g2 :: .bool g2 :: u31 :: vI 2 :: vP b5 :: .pointer (some ⟨b5, 2, none⟩) :: vI 2 :: .bool false :: .bool false :: .bool false :: .bool false :: j40 :: j41 :: j42 :: j43 :: j44 :: j45 :: j46 :: j47 :: j48 :: j49 :: j50 :: j51 :: j52 :: j53 :: j54 :: j55 :: j56 :: u57 :: u58 :: u59 :: u60 :: u61 :: u62 :: u63 :: u64 :: u65 :: u66 :: u67 :: u68 :: u69 :: u70 :: u71 :: u72 :: u73 :: u74 :: u75 :: u76 :: undef :: undef :: undef :: undef :: undef :: undef :: undef :: undef :: undef :: undef :: undef :: undef :: undef :: undef :: undef :: undef :: undef :: undef :: undef :: undef :: undef :: []), defers := [] } w80 := by
     intro j3 j40 j41 j42 j43 j44 j45 j46 j47 j48 j49 j50 j51 j52 j53 j54 j55 j56 w80 hw9 hv
     refine k79 _ _ (sK fun _ k81 => ?_)
     refine sK fun _ k82 => rL (uM rfl ?_)
     refine uW k82 (bB ?_)
     refine sK fun _ k83 => rL (uG (.bool false) rfl (ex_eql rfl rfl rfl (by decide)) ?_)
     refine uA rfl (uW k83 ?_)
     refine cF rfl (sK fun _ k84 => ?_)
     refine rL (uG (.bool false) rfl (ex_eql rfl rfl rfl (by decide)) ?_)
     refine uA rfl (uW k84 ?_)
     refine cF rfl (kS ?_)
     refine bN (tK k81 ?_)
     refine rL (uM rfl ?_)
     refine uM rfl ?_
     refine uG (vI ((i + 0 : Nat) : Int)) rfl (ex_add rfl rfl rfl (by rw [i64_in (by omega)]; omega)) (uA rfl ?_)
     refine uZ (bN ?_)
     refine tK k14 (rL ?_)
     refine uM rfl ?_
     refine uG (vI ((i + 1 : Nat) : Int)) rfl (ex_add rfl rfl rfl (by rw [i64_in (by omega)]; omega)) (uA rfl ?_)
     refine uZ (then_normal ?_)
     simp only [vP, vI, vS]
     go_roundw
     case rel => exact ⟨i + 1, g0, g1, true, g3, g4, ns, _, _, tg, rfl, rfl, by omega, hw9, hrn, h3, hnl, ((hv.front 1 rfl).front 1 rfl)⟩
     case measure => show ws.length - (((i + 1 : Nat) : Int)).toNat < ws.length - ((i : Int)).toNat; omega
    refine sK fun _ k85 => rL (uM rfl ?_)
    refine uM rfl ?_
    refine uG (vI ((i : Int) + 0)) rfl (ex_add rfl rfl rfl (i64_in (by omega))) (uM rfl ?_)
    refine uG (vI (ws.length : Int)) rfl (ex_len0 Tryz.underlying26 rfl rfl) ?_
    refine uG (.bool false) rfl (ex_geq rfl rfl rfl (qF (by omega))) (uM rfl ?_)
    refine uF (vP b5) rfl (kIfa157_0 _ _ _) ?_
    refine uG (.pointer (some ⟨b5, 1, none⟩)) rfl (ex_index rfl rfl rfl (run_idxA1 (k := 1) kIua155 kIea155 (by omega))) ?_
    refine uL _ rfl (run_load1 s2na4 (hv.load 0 1 rfl rfl)) ?_
    refine uM rfl ?_
    cases g1
    ·iterate 3 refine uP rfl ?_
     refine uK rfl (uK rfl ?_)
     refine uW k85 (cF rfl ?_)
     refine kS (then_normal (hJ79 _ _ _ _ _ _ _ _ _ _ _ _ _ _ _ _ _ _ _ (by have h9 := wsh2 hwf hx hix; simpa [hc69] using h9) hv))
    refine uF (vP b5) rfl (kIfa157_0 _ _ _) ?_
    refine uG (.pointer (some ⟨b5, 2, none⟩)) rfl (ex_index rfl rfl rfl (run_idxA1 (k := 2) kIua155 kIea155 (by omega))) ?_
    refine uL _ rfl (run_load1 s2na4 (hv.load 0 2 rfl rfl)) ?_
    refine uK rfl (uK rfl ?_)
    refine uW k85 (cT rfl ?_)
    refine sK fun _ k86 => rL (uG (.agg #[.bool false, .bool false, .bool false, .bool false, .bool false, vI 0, vI 0, vS []]) rfl (ex_buildN (vs := #[]) rfl (by simp only [List.map_toArray, List.map_nil]) (by kernel_rfl)) ?_)
    refine xS 1 rfl hv kIsz157 rfl (by exact ⟨rfl, rfl, rfl, rfl, rfl, rfl, rfl, rfl, trivial⟩) (fun w87 hv => ?_)
    simp only [zS, zO, sp] at hv
    refine uA rfl (uW k86 ?_)
    refine rR (tR ?_)
    clear hJ79
    refine bZ (tR ?_)
    refine tR (bZ ?_)
    refine tR (bodyPost_ret (res_cell2 rfl rfl (lM 1 kIwd157 hv rfl rfl rfl rfl)) rfl ?_)
    exact ⟨false, false, false, false, false, 0, 0, [], 42, rfl, .inl ⟨rfl, by have h9 := wsh2 hwf hx hix; simpa [hc69] using h9⟩, (hv.kp [] 0 2)⟩
   ·refine uA rfl (uW k15 ?_)
    refine sK fun _ k88 => sK fun _ k89 => rL (uM rfl ?_)
    refine uG (.bool false) rfl (ex_lss rfl rfl rfl (by decide)) (uM rfl ?_)
    refine uM rfl ?_
    refine uF (vP b5) rfl (kIfa157_0 _ _ _) ?_
    refine uG (.pointer (some ⟨b5, 3, none⟩)) rfl (ex_index rfl rfl rfl (run_idxA1 (k := 3) kIua155 kIea155 (by omega))) ?_
    refine uL _ rfl (run_load1 s2na4 (hv.load 0 3 rfl rfl)) (uK rfl ?_)
    refine uW k89 (wpIn_cond_split (t := g3) rfl (fun hc90 => ?_) (fun hc90 => ?_))
    ·refine sK fun _ k91 => rL (uG (.agg #[.bool false, .bool false, .bool false, .bool false, .bool false, vI 0, vI 0, vS []]) rfl (ex_buildN (vs := #[]) rfl (by simp only [List.map_toArray, List.map_nil]) (by kernel_rfl)) ?_)
     refine xS 1 rfl hv kIsz157 rfl (by exact ⟨rfl, rfl, rfl, rfl, rfl, rfl, rfl, rfl, trivial⟩) (fun w92 hv => ?_)
     simp only [zS, zO, sp] at hv
     refine uA rfl (uW k91 ?_)
     refine rR (tR ?_)
     refine bZ (tR ?_)
     refine tR (bZ ?_)
     refine tR (bodyPost_ret (res_cell2 rfl rfl (lM 1 kIwd157 hv rfl rfl rfl rfl)) rfl ?_)
     by_cases hfw : i + 2 < ws.length
     ·obtain ⟨p, hp⟩ : ∃ x, ws[i + 1]? = some x := ⟨_, List.getElem?_eq_getElem (by omega)⟩
      obtain ⟨q, hq⟩ : ∃ x, ws[i + 2]? = some x := ⟨_, List.getElem?_eq_getElem (by omega)⟩
      exact ⟨false, false, false, false, false, 0, 0, [], 42, rfl, .inl ⟨rfl, by have h9 := wsh3 hwf hx hix hp hq; simpa [hc90] using h9⟩, (hv.kp [] 0 2)⟩
     exact ⟨false, false, false, false, false, 0, 0, [], 42, rfl, .inl ⟨rfl, wsh3n hwf hx hix (by omega)⟩, (hv.kp [] 0 2)⟩
    refine kS (tK k88 ?_)
    refine sK fun _ k93 => rL (uM rfl ?_)
    refine uF (vP b5) rfl (kIfa157_0 _ _ _) ?_
    refine uG (.pointer (some ⟨b5, 3, none⟩)) rfl (ex_index rfl rfl rfl (run_idxA1 (k := 3) kIua155 kIea155 (by omega))) ?_
    refine xV 0 (.bool true) rfl hv v8sz4 rfl rfl (fun w94 hv => ?_)
    simp only [zO, sp] at hv
    refine uW k93 (sK fun _ k95 => ?_)
    refine rL (uA rfl ?_)
    refine uW k95 (sK fun _ k96 => ?_)
    refine sK fun _ k97 => rL (uM rfl ?_)
    refine uW k97 (bB ?_)
    refine sK fun _ k98 => rL (uG (.bool true) rfl (ex_eql rfl rfl rfl (by decide)) ?_)
    refine uA rfl (uW k98 ?_)
    refine cT rfl (rL ?_)
    refine uA rfl (uZ ?_)
    refine bN (tK k96 ?_)
    refine sK fun K99 k99 => ?_
    have hJ99 : ∀ (p q : List UInt8) (j3 j40 j41 j42 j43 j44 j45 j46 j47 j48 j49 j50 j51 j52 j53 j54 j55 j56 : Value) (w100 : World), (ws[i + 1]? = some p) → (ws[i + 2]? = some q) → (wishF ws wish0 = wishF (ws.drop (i + 3)) ⟨g0, g1, g2, true, g4, [p, q], tg⟩) → Inv B (Res.cell b5 [.bool g0, .bool g1, .bool g2, .bool true, .bool g4, vI 0, vI 0, vS tg] 157 :: Res.cell b2 [.bool false, .bool false, .bool false, .bool false, .bool false, vI 0, vI 0, vS []] 157 :: H) w100 → K99 { tmps := List.toArray (.slice (some ⟨kb, ko, none⟩) ws.length wc :: undef :: vP b2 :: j3 :: vP b5 :: .slice na ns.length nc :: vI i :: vI 3 :: vI 2 :: undef :: undef :: vI i :: .slice (some ⟨kb, ko, none⟩) ws.length wc :: vI (ws.length : Int) :: .bool true :: u15 :: u16 :: .slice (some ⟨kb, ko, none⟩) ws.length wc :: vI i :: .pointer (some ⟨kb, ko + i, none⟩) :: vS x :: .slice (some ⟨b16, 0, none⟩) 5 5 :: vI 3 :: vI 3 :: .bool false :: .bool false :: vI 3 :: vP b5 :: .pointer (some ⟨b5, 3, none⟩) :: .bool g3 :: .bool g3 :: u31 :: vI 3 :: vP b5 :: .pointer (some ⟨b5, 3, none⟩) :: vI 3 :: .bool true :: .bool true :: u38 :: u39 :: j40 :: j41 :: j42 :: j43 :: j44 :: j45 :: j46 :: j47 :: j48 :: j49 :: j50 :: j51 :: j52 :: j53 :: j54 :: j55 :: j56 :: u57 :: u58 :: u59 :: u60 :: u61 :: u62 :: u63 :: u64 :: u65 :: u66 :: u67 :: u68 :: u69 :: u70 :: u71 :: u72 :: u73 :: u74 :: u75 :: u76 :: undef :: undef :: undef :: undef :: undef :: undef :: undef :: undef :: undef :: undef :: undef :: undef :: undef :: undef :: undef :: undef :: undef :: undef :: undef :: undef :: undef :: []), defers := [] } w100 := by
     intro p q j3 j40 j41 j42 j43 j44 j45 j46 j47 j48 j49 j50 j51 j52 j53 j54 j55 j56 w100 hp hq hw9 hv
     refine k99 _ _ ?_
     have hpl := (List.getElem?_eq_some_iff.1 hp).1
     have hql := (List.getElem?_eq_some_iff.1 hq).1
     refine sK fun _ k101 => sK fun _ k102 => rL (uM rfl ?_)
     refine uW k102 (bB ?_)
     refine sK fun _ k103 => rL (uG (.bool true) rfl (ex_eql rfl rfl rfl (by decide)) ?_)
     refine uA rfl (uW k103 ?_)
     refine cT rfl ?_
     have hokn := sliced_midV 1 hokw hrw (textCells_len _) (show i + 1 ≤ i + 3 by omega) (show i + 3 ≤ ws.length by omega) (by decide)
     obtain ⟨a3, c3, ha3, -, hrn3⟩ := hokn
     have e3 : (((textCells ws).drop ((i + 1) * 1)).take ((i + 3 - (i + 1)) * 1)) = textCells [p, q] := by
      rw [Nat.mul_one, Nat.mul_one, tx_drop, tx_take, drop_at hp, drop_at hq, show i + 3 - (i + 1) = 2 by omega]; rfl
     rw [e3] at hrn3
     refine rL (uM rfl ?_)
     refine uM rfl ?_
     refine uG (vI ((i + 1 : Nat) : Int)) rfl (ex_add rfl rfl rfl (by rw [i64_in (by omega)]; omega)) (uM rfl ?_)
     refine uG (vI ((i + 3 : Nat) : Int)) rfl (ex_add rfl rfl rfl (by rw [i64_in (by omega)]; omega)) ?_
     refine uG (.slice a3 2 c3) rfl (ex_slice (lo' := some (vI ((i + 1 : Nat) : Int))) (hi' := some (vI ((i + 3 : Nat) : Int))) rfl rfl (congrArg some rfl) (congrArg some rfl) rfl ((run_lhAny (l := i + 1) (h := i + 3) Tryz.underlying26 s9es26 (by omega) (by have := hokw.le; omega)).trans (by rw [ha3, show i + 3 - (i + 1) = 2 by omega]))) (uA rfl ?_)
     refine uZ (bN ?_)
     refine tK k101 (rL ?_)
     refine uM rfl (uM rfl ?_)
     refine uG (vI ((i + 2 : Nat) : Int)) rfl (ex_add rfl rfl rfl (by rw [i64_in (by omega)]; omega)) (uA rfl ?_)
     refine uZ (bN ?_)
     refine tK k14 (rL ?_)
     refine uM rfl ?_
     refine uG (vI ((i + 3 : Nat) : Int)) rfl (ex_add rfl rfl rfl (by rw [i64_in (by omega)]; omega)) (uA rfl ?_)
     refine uZ (then_normal ?_)
     simp only [vP, vI, vS]
     go_roundw
     case rel => exact ⟨i + 3, g0, g1, g2, true, g4, [p, q], _, _, tg, rfl, rfl, by omega, hw9, hrn3, fun _ => ⟨p, q, rfl⟩, Nat.le_refl _, ((hv.front 1 rfl).front 1 rfl)⟩
     case measure => show ws.length - (((i + 3 : Nat) : Int)).toNat < ws.length - ((i : Int)).toNat; omega
    refine sK fun _ k104 => rL (uM rfl ?_)
    refine uM rfl ?_
    refine uG (vI ((i : Int) + 2)) rfl (ex_add rfl rfl rfl (i64_in (by omega))) (uM rfl ?_)
    refine uG (vI (ws.length : Int)) rfl (ex_len0 Tryz.underlying26 rfl rfl) ?_
    by_cases hb105 : ((i : Int) + 2) ≥ (ws.length : Int)
    ·refine uG (.bool true) rfl (ex_geq rfl rfl rfl (qT hb105)) (uM rfl ?_)
     iterate 8 refine uP rfl ?_
     refine uK rfl (uW k104 ?_)
     refine cT rfl (sK fun _ k106 => ?_)
     refine rL (uG (.agg #[.bool false, .bool false, .bool false, .bool false, .bool false, vI 0, vI 0, vS []]) rfl (ex_buildN (vs := #[]) rfl (by simp only [List.map_toArray, List.map_nil]) (by kernel_rfl)) ?_)
     refine xS 1 rfl hv kIsz157 rfl (by exact ⟨rfl, rfl, rfl, rfl, rfl, rfl, rfl, rfl, trivial⟩) (fun w107 hv => ?_)
     simp only [zS, zO, sp] at hv
     refine uA rfl (uW k106 ?_)
     refine rR (tR ?_)
     clear hJ99
     refine bZ (tR ?_)
     refine tR (bZ ?_)
     refine tR (bodyPost_ret (res_cell2 rfl rfl (lM 1 kIwd157 hv rfl rfl rfl rfl)) rfl ?_)
     exact ⟨false, false, false, false, false, 0, 0, [], 42, rfl, .inl ⟨rfl, wsh3n hwf hx hix (by omega)⟩, (hv.kp [] 0 2)⟩
    obtain ⟨p, hp⟩ : ∃ x, ws[i + 1]? = some x := ⟨_, List.getElem?_eq_getElem (by omega)⟩
    obtain ⟨q, hq⟩ : ∃ x, ws[i + 2]? = some x := ⟨_, List.getElem?_eq_getElem (by omega)⟩
    refine uG (.bool false) rfl (ex_geq rfl rfl rfl (qF hb105)) (uM rfl ?_)
    refine uF (vP b5) rfl (kIfa157_0 _ _ _) ?_
    refine uG (.pointer (some ⟨b5, 1, none⟩)) rfl (ex_index rfl rfl rfl (run_idxA1 (k := 1) kIua155 kIea155 (by omega))) ?_
    refine uL _ rfl (run_load1 s2na4 (hv.load 0 1 rfl rfl)) ?_
    refine uM rfl ?_
    cases g1
    ·iterate 3 refine uP rfl ?_
     refine uK rfl (uK rfl ?_)
     refine uW k104 (cF rfl ?_)
     refine kS (then_normal (hJ99 p q _ _ _ _ _ _ _ _ _ _ _ _ _ _ _ _ _ _ _ hp hq (by have h9 := wsh3 hwf hx hix hp hq; simpa [hc90] using h9) hv))
    refine uF (vP b5) rfl (kIfa157_0 _ _ _) ?_
    refine uG (.pointer (some ⟨b5, 2, none⟩)) rfl (ex_index rfl rfl rfl (run_idxA1 (k := 2) kIua155 kIea155 (by omega))) ?_
    refine uL _ rfl (run_load1 s2na4 (hv.load 0 2 rfl rfl)) ?_
    refine uK rfl (uK rfl ?_)
    refine uW k104 (wpIn_cond_split (t := g2) rfl (fun hc108 => ?_) (fun hc108 => ?_))
    ·refine sK fun _ k109 => rL (uG (.agg #[.bool false, .bool false, .bool false, .bool false, .bool false, vI 0, vI 0, vS []]) rfl (ex_buildN (vs := #[]) rfl (by simp only [List.map_toArray, List.map_nil]) (by kernel_rfl)) ?_)
     refine xS 1 rfl hv kIsz157 rfl (by exact ⟨rfl, rfl, rfl, rfl, rfl, rfl, rfl, rfl, trivial⟩) (fun w110 hv => ?_)
     simp only [zS, zO, sp] at hv
     refine uA rfl (uW k109 ?_)
     refine rR (tR ?_)
     clear hJ99
     refine bZ (tR ?_)
     refine tR (bZ ?_)
     refine tR (bodyPost_ret (res_cell2 rfl rfl (lM 1 kIwd157 hv rfl rfl rfl rfl)) rfl ?_)
     exact ⟨false, false, false, false, false, 0, 0, [], 42, rfl, .inl ⟨rfl, by have h9 := wsh3 hwf hx hix hp hq; simpa [hc90, hc108] using h9⟩, (hv.kp [] 0 2)⟩
    refine kS (then_normal (hJ99 p q _ _ _ _ _ _ _ _ _ _ _ _ _ _ _ _ _ _ _ hp hq (by have h9 := wsh3 hwf hx hix hp hq; simpa [hc90, hc108] using h9) hv))
   refine uA rfl (uW k15 ?_)
   refine sK fun _ k111 => sK fun _ k112 => rL (uM rfl ?_)
   refine uG (.bool false) rfl (ex_lss rfl rfl rfl (by decide)) (uM rfl ?_)
   refine uM rfl ?_
   refine uF (vP b5) rfl (kIfa157_0 _ _ _) ?_
   refine uG (.pointer (some ⟨b5, 4, none⟩)) rfl (ex_index rfl rfl rfl (run_idxA1 (k := 4) kIua155 kIea155 (by omega))) ?_
   refine uL _ rfl (run_load1 s2na4 (hv.load 0 4 rfl rfl)) (uK rfl ?_)
   refine uW k112 (wpIn_cond_split (t := g4) rfl (fun hc113 => ?_) (fun hc113 => ?_))
   ·refine sK fun _ k114 => rL (uG (.agg #[.bool false, .bool false, .bool false, .bool false, .bool false, vI 0, vI 0, vS []]) rfl (ex_buildN (vs := #[]) rfl (by simp only [List.map_toArray, List.map_nil]) (by kernel_rfl)) ?_)
    refine xS 1 rfl hv kIsz157 rfl (by exact ⟨rfl, rfl, rfl, rfl, rfl, rfl, rfl, rfl, trivial⟩) (fun w115 hv => ?_)
    simp only [zS, zO, sp] at hv
    refine uA rfl (uW k114 ?_)
    refine rR (tR ?_)
    refine bZ (tR ?_)
    refine tR (bZ ?_)
    refine tR (bodyPost_ret (res_cell2 rfl rfl (lM 1 kIwd157 hv rfl rfl rfl rfl)) rfl ?_)
    by_cases hfw : i + 1 < ws.length
    ·obtain ⟨p, hp⟩ : ∃ x, ws[i + 1]? = some x := ⟨_, List.getElem?_eq_getElem (by omega)⟩
     exact ⟨false, false, false, false, false, 0, 0, [], 42, rfl, .inl ⟨rfl, by have h9 := wsh4 hwf hx hix hp; simpa [hc113] using h9⟩, (hv.kp [] 0 2)⟩
    exact ⟨false, false, false, false, false, 0, 0, [], 42, rfl, .inl ⟨rfl, wsh4n hwf hx hix (by omega)⟩, (hv.kp [] 0 2)⟩
   refine kS (tK k111 ?_)
   refine sK fun _ k116 => rL (uM rfl ?_)
   refine uF (vP b5) rfl (kIfa157_0 _ _ _) ?_
   refine uG (.pointer (some ⟨b5, 4, none⟩)) rfl (ex_index rfl rfl rfl (run_idxA1 (k := 4) kIua155 kIea155 (by omega))) ?_
   refine xV 0 (.bool true) rfl hv v8sz4 rfl rfl (fun w117 hv => ?_)
   simp only [zO, sp] at hv
   refine uW k116 (sK fun _ k118 => ?_)
   refine rL (uA rfl ?_)
   refine uW k118 (sK fun _ k119 => ?_)
   refine sK fun _ k120 => rL (uM rfl ?_)
   refine uW k120 (bB ?_)
   refine sK fun _ k121 => rL (uG (.bool false) rfl (ex_eql rfl rfl rfl (by decide)) ?_)
   refine uA rfl (uW k121 ?_)
   refine cF rfl (sK fun _ k122 => ?_)
   refine rL (uG (.bool true) rfl (ex_eql rfl rfl rfl (by decide)) ?_)
   refine uA rfl (uW k122 ?_)
   refine cT rfl (rL ?_)
   refine uA rfl (uZ ?_)
   refine bN (tK k119 ?_)
   refine sK fun K123 k123 => ?_
   have hJ123 : ∀ (p : List UInt8) (j3 j40 j41 j42 j43 j44 j45 j46 j47 j48 j49 j50 j51 j52 j53 j54 j55 j56 : Value) (w124 : World), (ws[i + 1]? = some p) → (wishF ws wish0 = wishF (ws.drop (i + 2)) ⟨g0, g1, g2, g3, true, ns, p⟩) → Inv B (Res.cell b5 [.bool g0, .bool g1, .bool g2, .bool g3, .bool true, vI 0, vI 0, vS tg] 157 :: Res.cell b2 [.bool false, .bool false, .bool false, .bool false, .bool false, vI 0, vI 0, vS []] 157 :: H) w124 → K123 { tmps := List.toArray (.slice (some ⟨kb, ko, none⟩) ws.length wc :: undef :: vP b2 :: j3 :: vP b5 :: .slice na ns.length nc :: vI i :: vI 4 :: vI 1 :: undef :: undef :: vI i :: .slice (some ⟨kb, ko, none⟩) ws.length wc :: vI (ws.length : Int) :: .bool true :: u15 :: u16 :: .slice (some ⟨kb, ko, none⟩) ws.length wc :: vI i :: .pointer (some ⟨kb, ko + i, none⟩) :: vS x :: .slice (some ⟨b16, 0, none⟩) 5 5 :: vI 4 :: vI 4 :: .bool false :: .bool false :: vI 4 :: vP b5 :: .pointer (some ⟨b5, 4, none⟩) :: .bool g4 :: .bool g4 :: u31 :: vI 4 :: vP b5 :: .pointer (some ⟨b5, 4, none⟩) :: vI 4 :: .bool false :: .bool false :: .bool true :: .bool true :: j40 :: j41 :: j42 :: j43 :: j44 :: j45 :: j46 :: j47 :: j48 :: j49 :: j50 :: j51 :: j52 :: j53 :: j54 :: j55 :: j56 :: u57 :: u58 :: u59 :: u60 :: u61 :: u62 :: u63 :: u64 :: u65 :: u66 :: u67 :: u68 :: u69 :: u70 :: u71 :: u72 :: u73 :: u74 :: u75 :: u76 :: undef :: undef :: undef :: undef :: undef :: undef :: undef :: undef :: undef :: undef :: undef :: undef :: undef :: undef :: undef :: undef :: undef :: undef :: undef :: undef :: undef :: []), defers := [] } w124 := by
    intro p j3 j40 j41 j42 j43 j44 j45 j46 j47 j48 j49 j50 j51 j52 j53 j54 j55 j56 w124 hp hw9 hv
    refine k123 _ _ ?_
    have hpl := (List.getElem?_eq_some_iff.1 hp).1
    refine sK fun _ k125 => sK fun _ k126 => rL (uM rfl ?_)
    refine uW k126 (bB ?_)
    refine sK fun _ k127 => rL (uG (.bool false) rfl (ex_eql rfl rfl rfl (by decide)) ?_)
    refine uA rfl (uW k127 ?_)
    refine cF rfl (sK fun _ k128 => ?_)
    refine rL (uG (.bool true) rfl (ex_eql rfl rfl rfl (by decide)) ?_)
    refine uA rfl (uW k128 ?_)
    refine cT rfl ?_
    obtain ⟨b9, o9, had9, hrdp⟩ := text_reads hrw hp
    cases had9
    refine rL (uM rfl ?_)
    refine uM rfl ?_
    refine uG (vI ((i + 1 : Nat) : Int)) rfl (ex_add rfl rfl rfl (by rw [i64_in (by omega)]; omega)) ?_
    refine uG (.pointer (some ⟨kb, ko + (i + 1 : Nat), none⟩)) rfl (ex_index rfl rfl rfl (run_idx1 (k := (i + 1 : Nat)) Tryz.underlying26 s9es26 (by omega))) ?_
    refine uL _ rfl (run_load1 s9na9 (hrdp _ _ _ (Base.Le.refl _) no_res hv 0 _ rfl)) ?_
    refine uF (.pointer (some ⟨b5, 7, none⟩)) rfl (kIfa157_3 _ _ _) ?_
    refine xV 0 (vS p) rfl hv s12sz9 rfl rfl (fun w129 hv => ?_)
    simp only [zO, sp] at hv
    refine uZ (bN ?_)
    refine tK k125 (rL ?_)
    refine uM rfl (uM rfl ?_)
    refine uG (vI ((i + 1 : Nat) : Int)) rfl (ex_add rfl rfl rfl (by rw [i64_in (by omega)]; omega)) (uA rfl ?_)
    refine uZ (bN ?_)
    refine tK k14 (rL ?_)
    refine uM rfl ?_
    refine uG (vI ((i + 2 : Nat) : Int)) rfl (ex_add rfl rfl rfl (by rw [i64_in (by omega)]; omega)) (uA rfl ?_)
    refine uZ (then_normal ?_)
    simp only [vP, vI, vS]
    go_roundw
    case rel => exact ⟨i + 2, g0, g1, g2, g3, true, ns, _, _, p, rfl, rfl, by omega, hw9, hrn, h3, hnl, ((hv.front 1 rfl).front 1 rfl)⟩
    case measure => show ws.length - (((i + 2 : Nat) : Int)).toNat < ws.length - ((i : Int)).toNat; omega
   refine sK fun _ k130 => rL (uM rfl ?_)
   refine uM rfl ?_
   refine uG (vI ((i : Int) + 1)) rfl (ex_add rfl rfl rfl (i64_in (by omega))) (uM rfl ?_)
   refine uG (vI (ws.length : Int)) rfl (ex_len0 Tryz.underlying26 rfl rfl) ?_
   by_cases hb131 : ((i : Int) + 1) ≥ (ws.length : Int)
   ·refine uG (.bool true) rfl (ex_geq rfl rfl rfl (qT hb131)) (uM rfl ?_)
    iterate 8 refine uP rfl ?_
    refine uK rfl (uW k130 ?_)
    refine cT rfl (sK fun _ k132 => ?_)
    refine rL (uG (.agg #[.bool false, .bool false, .bool false, .bool false, .bool false, vI 0, vI 0, vS []]) rfl (ex_buildN (vs := #[]) rfl (by simp only [List.map_toArray, List.map_nil]) (by kernel_rfl)) ?_)
    refine xS 1 rfl hv kIsz157 rfl (by exact ⟨rfl, rfl, rfl, rfl, rfl, rfl, rfl, rfl, trivial⟩) (fun w133 hv => ?_)
    simp only [zS, zO, sp] at hv
    refine uA rfl (uW k132 ?_)
    refine rR (tR ?_)
    clear hJ123
    refine bZ (tR ?_)
    refine tR (bZ ?_)
    refine tR (bodyPost_ret (res_cell2 rfl rfl (lM 1 kIwd157 hv rfl rfl rfl rfl)) rfl ?_)
    exact ⟨false, false, false, false, false, 0, 0, [], 42, rfl, .inl ⟨rfl, wsh4n hwf hx hix (by omega)⟩, (hv.kp [] 0 2)⟩
   obtain ⟨p, hp⟩ : ∃ x, ws[i + 1]? = some x := ⟨_, List.getElem?_eq_getElem (by omega)⟩
   refine uG (.bool false) rfl (ex_geq rfl rfl rfl (qF hb131)) (uM rfl ?_)
   refine uF (vP b5) rfl (kIfa157_0 _ _ _) ?_
   refine uG (.pointer (some ⟨b5, 1, none⟩)) rfl (ex_index rfl rfl rfl (run_idxA1 (k := 1) kIua155 kIea155 (by omega))) ?_
   refine uL _ rfl (run_load1 s2na4 (hv.load 0 1 rfl rfl)) ?_
   refine uM rfl ?_
   cases g1
   ·iterate 3 refine uP rfl ?_
    refine uK rfl (uK rfl ?_)
    refine uW k130 (cF rfl ?_)
    refine kS (then_normal (hJ123 p _ _ _ _ _ _ _ _ _ _ _ _ _ _ _ _ _ _ _ hp (by have h9 := wsh4 hwf hx hix hp; simpa [hc113] using h9) hv))
   refine uF (vP b5) rfl (kIfa157_0 _ _ _) ?_
   refine uG (.pointer (some ⟨b5, 2, none⟩)) rfl (ex_index rfl rfl rfl (run_idxA1 (k := 2) kIua155 kIea155 (by omega))) ?_
   refine uL _ rfl (run_load1 s2na4 (hv.load 0 2 rfl rfl)) ?_
   refine uK rfl (uK rfl ?_)
   refine uW k130 (wpIn_cond_split (t := g2) rfl (fun hc134 => ?_) (fun hc134 => ?_))
   ·refine sK fun _ k135 => rL (uG (.agg #[.bool false, .bool false, .bool false, .bool false, .bool false, vI 0, vI 0, vS []]) rfl (ex_buildN (vs := #[]) rfl (by simp only [List.map_toArray, List.map_nil]) (by kernel_rfl)) ?_)
    refine xS 1 rfl hv kIsz157 rfl (by exact ⟨rfl, rfl, rfl, rfl, rfl, rfl, rfl, rfl, trivial⟩) (fun w136 hv => ?_)
    simp only [zS, zO, sp] at hv
    refine uA rfl (uW k135 ?_)
    refine rR (tR ?_)
    clear hJ123
    refine bZ (tR ?_)
    refine tR (bZ ?_)
    refine tR (bodyPost_ret (res_cell2 rfl rfl (lM 1 kIwd157 hv rfl rfl rfl rfl)) rfl ?_)
    exact ⟨false, false, false, false, false, 0, 0, [], 42, rfl, .inl ⟨rfl, by have h9 := wsh4 hwf hx hix hp; simpa [hc113, hc134] using h9⟩, (hv.kp [] 0 2)⟩
   refine kS (then_normal (hJ123 p _ _ _ _ _ _ _ _ _ _ _ _ _ _ _ _ _ _ _ hp (by have h9 := wsh4 hwf hx hix hp; simpa [hc113, hc134] using h9) hv))
  refine uG (.bool false) rfl (ex_lss rfl rfl rfl (qF hb13)) (uW k12 ?_)
  refine cF rfl (xE ?_)
  refine tX (tX ?_)
  refine bH (tK k8 ?_)
  refine sK fun _ k137 => rL (uM rfl ?_)
  obtain rfl : i = ws.length := by omega
  rw [List.drop_length] at hwf
  replace hwf : wishF ws wish0 = some _ := hwf
  refine xC v8callable82 rfl ((viewInts B _ _ na nc ns hrn (by omega) hN hv).mono ?_) rfl
  rintro e w138 ⟨C, oa, oc, xs, ec, hC, rfl, hro, hir, hv⟩
  refine ⟨_, rfl, uM rfl ?_⟩
  refine uE rfl (uE rfl ?_)
  refine uA rfl (uA rfl ?_)
  refine uW k137 (sK fun _ k139 => ?_)
  refine sK fun _ k140 => rL (uM rfl ?_)
  by_cases hb141 : ec ≠ 0
  ·refine uG (.bool true) rfl (ex_neq rfl rfl rfl (qT hb141)) (uW k140 ?_)
   refine cT rfl (sK fun _ k142 => ?_)
   refine rL (uG (.agg #[.bool false, .bool false, .bool false, .bool false, .bool false, vI 0, vI 0, vS []]) rfl (ex_buildN (vs := #[]) rfl (by simp only [List.map_toArray, List.map_nil]) (by kernel_rfl)) ?_)
   refine uM rfl ?_
   refine xS 1 rfl hv kIsz157 rfl (by exact ⟨rfl, rfl, rfl, rfl, rfl, rfl, rfl, rfl, trivial⟩) (fun w143 hv => ?_)
   simp only [zS, zO, sp] at hv
   refine uA rfl (uW k142 ?_)
   refine rR (tR ?_)
   refine bodyPost_ret (res_cell2 rfl rfl (lM 1 kIwd157 hv rfl rfl rfl rfl)) rfl (⟨false, false, false, false, false, 0, 0, [], ec, rfl, .inr ⟨_, hwf, .inl (hir.elim (fun h => absurd h.1 (fun h9 => hb141 h9)) fun h => ⟨h.1, h.2.2⟩)⟩, ((hv.kp [] 0 2)).weak hC⟩)
  refine uG (.bool false) rfl (ex_neq rfl rfl rfl (qF hb141)) (uW k140 ?_)
  refine cF rfl (kS ?_)
  refine tK k139 (sK fun _ k144 => ?_)
  refine sK fun _ k145 => rL (uF (vP b5) rfl (kIfa157_0 _ _ _) ?_)
  refine uG (.pointer (some ⟨b5, 3, none⟩)) rfl (ex_index rfl rfl rfl (run_idxA1 (k := 3) kIua155 kIea155 (by omega))) ?_
  refine uL _ rfl (run_load1 s2na4 (hv.load 0 3 rfl rfl)) (uW k145 ?_)
  refine wpIn_cond_split (t := g3) rfl (fun hc146 => ?_) (fun hc146 => ?_)
  ·obtain ⟨p, q, rfl⟩ := h3 hc146
   obtain ⟨hxl2, hnum⟩ : xs.length = 2 ∧ ∀ (i : Nat) t n, [p, q][i]? = some t → xs[i]? = some n → NumP t n true := hir.elim (fun h => ⟨h.2.1, h.2.2⟩) fun h => absurd h.1 (by omega)
   obtain ⟨n0, n1, rfl⟩ : ∃ n0 n1, xs = [n0, n1] := by
    match xs, hxl2 with
    | [n0, n1], _ => exact ⟨n0, n1, rfl⟩
   have hnp := hnum 0 p n0 rfl rfl
   have hnq := hnum 1 q n1 rfl rfl
   obtain ⟨ib, io, had, hrd0⟩ := int_reads hro (show [n0, n1][0]? = some n0 from rfl)
   obtain ⟨ib9, io9, had9, hrd1⟩ := int_reads hro (show [n0, n1][1]? = some n1 from rfl)
   subst had
   cases had9
   refine rW mixed [7, 9] [0,1,2,3,4,5,6,7,8,9] 98 rfl (by kernel_rfl) hv ?_
   simp only [qm, opAt]
   refine dM (.slice (some ⟨ib, io, none⟩) ([n0, n1].length) oc) rfl (dG (.pointer (some ⟨ib, io + 0, none⟩)) rfl (ex_index rfl rfl rfl (run_idx1 (k := 0) Tryz.underlying145 s11es145 (by omega))) ?_)
   refine dL _ rfl (fun hv => ex_load rfl rfl (run_load1 s2na3 (hrd0 _ _ _ (Base.Le.refl _) no_res hv 0 _ rfl))) ?_
   simp only [zP, po]
   refine dM (.slice (some ⟨ib, io, none⟩) ([n0, n1].length) oc) rfl (dG (.pointer (some ⟨ib, io + 1, none⟩)) rfl (ex_index rfl rfl rfl (run_idx1 (k := 1) Tryz.underlying145 s11es145 (by omega))) ?_)
   refine dF _ rfl (fun hv => ex_load rfl rfl (run_load1 s2na3 (hrd1 _ _ _ (Base.Le.refl _) no_res hv 0 _ rfl))) fun f147 hf147 => ?_
   simp only [zP, po]
   refine dG (.pointer (some ⟨b5, 5, none⟩)) rfl (ex_field rfl rfl (kIfa157_1 _ _ _)) (dS rfl fun w148 hv => ?_)
   refine mV 0 (vI n0) rfl hv x3sz3 rfl rfl (fun w149 hv => ?_)
   simp only [zO, sp] at hv
   refine dV hv (fC (fun ww hv => hf147 ww (ex_load rfl rfl (run_load1 s2na3 (hrd1 _ _ _ (Base.Le.refl _) no_res hv 0 _ rfl)))) fN) (dG (.pointer (some ⟨b5, 6, none⟩)) rfl (ex_field rfl rfl (kIfa157_2 _ _ _)) ?_)
   simp only [zP, po]
   refine dS rfl fun w150 hv => mV 0 (vI n1) rfl hv x3sz3 rfl rfl (fun w151 hv => ?_)
   simp only [zO, sp] at hv
   refine dV hv (fK rfl fN) (dE fun w152 hv => ?_)
   simp only [zP, po]
   refine tK k144 (sK fun _ k153 => ?_)
   refine rL (uL (.agg #[.bool g0, .bool g1, .bool g2, .bool g3, .bool g4, vI n0, vI n1, vS tg]) rfl (lM 0 kIwd157 hv rfl rfl rfl rfl) ?_)
   refine xS 1 rfl hv kIsz157 rfl (by exact ⟨rfl, rfl, rfl, rfl, rfl, rfl, rfl, rfl, trivial⟩) (fun w154 hv => ?_)
   simp only [zS, zO, sp] at hv
   refine uA rfl (uW k153 ?_)
   refine rR (bodyPost_ret (res_cell2 rfl rfl (lM 1 kIwd157 hv rfl rfl rfl rfl)) rfl ?_)
   exact ⟨g0, g1, g2, g3, g4, n0, n1, tg, 0, rfl, .inr ⟨_, hwf, .inr ⟨rfl, rfl, rfl, rfl, rfl, rfl, rfl, fun _ => ⟨p, q, rfl, hnp, hnq⟩⟩⟩, ((hv.kp [] 0 2)).weak hC⟩
  refine kS (tK k144 ?_)
  refine sK fun _ k155 => rL (uL (.agg #[.bool g0, .bool g1, .bool g2, .bool g3, .bool g4, vI 0, vI 0, vS tg]) rfl (lM 0 kIwd157 hv rfl rfl rfl rfl) ?_)
  refine xS 1 rfl hv kIsz157 rfl (by exact ⟨rfl, rfl, rfl, rfl, rfl, rfl, rfl, rfl, trivial⟩) (fun w156 hv => ?_)
  simp only [zS, zO, sp] at hv
  refine uA rfl (uW k155 ?_)
  refine rR (bodyPost_ret (res_cell2 rfl rfl (lM 1 kIwd157 hv rfl rfl rfl rfl)) rfl ?_)
  exact ⟨g0, g1, g2, g3, g4, 0, 0, tg, 0, rfl, .inr ⟨_, hwf, .inr ⟨rfl, rfl, rfl, rfl, rfl, rfl, rfl, fun h9 => (by rw [hc146] at h9; cases h9)⟩⟩, ((hv.kp [] 0 2)).weak hC⟩
def thingsV (v : Val) : List (List UInt8) := if v.kind = 3 ∨ v.kind = 4 then v.texts else v.zset.map (·.2)
def ThingsR (M : List (List UInt8 × Ver)) (clk : Int) (k : List UInt8) (out : List (List UInt8)) (ec : Int) : Prop := (gotM M clk k = none ∧ out = [] ∧ ec = 0) ∨ ∃ y, gotM M clk k = some y ∧ (((y.val.kind = 3 ∨ y.val.kind = 4 ∨ y.val.kind = 5) ∧ ec = 0 ∧ out = thingsV y.val) ∨ (y.val.kind ≠ 3 ∧ y.val.kind ≠ 4 ∧ y.val.kind ≠ 5 ∧ ec = 40 ∧ out = []))
theorem kFal50 : AL Tryz.prog 50 [vI 0, .bool false, vI 0, vI 0, vS [], vN, vN, vN] := fun w => by kernel_rfl
theorem kFmk9 : (Tryz.prog.info? 9).map (fun i => (i.zero, i.size, i.bytes)) = some (some (vS []), 1, 16) := by kernel_rfl
theorem kFel26 : Elem Tryz.prog 26 9 (vS []) 1 16 := elem_of Tryz.underlying26 kFmk9 (by rfl) (by decide)
theorem kFal88 : AL Tryz.prog 88 [vI 0, vS []] := fun w => by kernel_rfl
theorem ckThings (B : Base) (H : List Res) (w : World) (v t m s p wb : Nat) (va : Option Addr) (vc : Nat) (sv : Value) (clk : Int) (es : List (List UInt8 × Value)) (M : List (List UInt8 × Ver)) (hM : VM B es M) (aa : Option Addr) (an ac : Nat) (k : List UInt8) (hv : Inv B (Res.cell v [.iface 100 (vP t)] 56 :: txR t m s p wb va vc sv clk es :: H) w) :
  Calls Tryz.prog 91 #[.agg #[vP v, .slice aa an ac], vS k] w fun e w' => ∃ C oa oc out ec, B.Le C ∧ e = .returned (.tuple #[.slice oa out.length oc, vI ec]) ∧ ThingsR M clk k out ec ∧ out.length ≤ 1000000 ∧ SliceOk oa out.length oc ∧ RdV C [] oa (textCells out) ∧ Inv C (Res.cell v [.iface 100 (vP t)] 56 :: txR t m s p wb va vc sv clk es :: H) w' := by
 refine cW Tryz.func91 rfl Tryz.ntmps91 ?_
 simp only [al]
 refine sK fun _ k1 => rL (sl_box (L := [vP v, .slice aa an ac]) tV (wn rfl) rfl rfl hv (fun w => by kernel_rfl) (fun b2 w3 hv => ?_))
 refine uA rfl (uA rfl ?_)
 refine uW k1 (sK fun _ k4 => ?_)
 refine rL (uF (vP b2) rfl (k1fa80_0 _ _ _) ?_)
 refine uL _ rfl (run_load1 k1na24 (hv.load 0 0 rfl rfl)) ?_
 refine uG (vP v) rfl (ex_nil rfl rfl) ?_
 refine uF (vP v) rfl (v1fa56_0 _ _ _) ?_
 refine uL _ rfl (run_load1 v1na54 (hv.load 1 0 rfl rfl)) (uM rfl ?_)
 replace hv := hv.front 2 rfl
 simp only [eS, eZ] at hv
 refine wpi_callI v1callable215 tV wideC rfl (wn rfl) rfl rfl (r := vP t) (fun w => by kernel_rfl) (args := #[vS k]) (by simp only [List.map_toArray, List.map_cons, List.map_nil]; rfl) ((txnGet B _ _ t m s p wb va vc sv clk es M k (hM.more (Base.Le.refl _)) hv).mono ?_)
 rintro e w5 ⟨G, y, yp, yt, yz, ok, hG, rfl, hgot, hyv, hv⟩
 refine ⟨_, rfl, ?_⟩
 obtain ⟨pa, pc, sa, sc, za, zc, rfl, rfl, rfl, hokp, hrp, hoks, hrs, hokz, hrz⟩ := valAt_open hyv
 rcases got_of hgot with ⟨rfl, hg⟩ | ⟨rfl, rfl, hg⟩
 ·refine uM rfl (uE rfl ?_)
  refine uE rfl ?_
  refine sl_alloc tV (wn rfl) rfl hv kFal50 (fun b6 w7 hv => ?_)
  refine xS 0 rfl hv x0sz50 rfl (by exact ⟨rfl, rfl, rfl, rfl, rfl, rfl, rfl, rfl, trivial⟩) (fun w8 hv => ?_)
  simp only [zO, sp] at hv
  refine uA rfl (uW k4 ?_)
  refine sK fun _ k9 => sK fun _ k10 => rL (uM rfl ?_)
  refine uG (.bool false) rfl (ex_not rfl rfl rfl) (uW k10 ?_)
  refine cF rfl (kS ?_)
  refine tK k9 (sK fun _ k11 => ?_)
  refine rL (uA rfl ?_)
  refine uW k11 (sK fun _ k12 => ?_)
  refine sK fun _ k13 => rL (uF (.pointer (some ⟨b6, 3, none⟩)) rfl (x2fa50_3 _ _ _) ?_)
  refine uF (.pointer (some ⟨b6, 3, none⟩)) rfl (s12fa43_0 _ _ _) ?_
  refine uL _ rfl (run_load1 s2na3 (hv.load 0 3 rfl rfl)) (uW k13 ?_)
  refine bB (sK fun _ k14 => ?_)
  refine sK fun _ k15 => rL ?_
  by_cases hb16 : y.val.kind = 3
  ·refine uG (.bool true) rfl (ex_eql rfl rfl rfl (qT hb16)) (uA rfl ?_)
   refine uW k15 (cT rfl ?_)
   refine kS (tK k14 ?_)
   refine cT rfl ?_
   replace hv := hv.rowNil 9 1
   refine rL (uM rfl ?_)
   refine uF (.pointer (some ⟨b6, 3, none⟩)) rfl (x2fa50_3 _ _ _) ?_
   refine uF (.pointer (some ⟨b6, 6, none⟩)) rfl (s1fa43_3 _ _ _) ?_
   refine uL _ rfl (run_load1 s1na26 (hv.load 1 6 rfl rfl)) ?_
   refine sl_append (news := textCells y.val.texts) tV (wn rfl) rfl rfl rfl kFel26 hv hoks (textCells_len _) ((hrs.more (Base.Le.refl _) (fun _ h => by cases h) : RdV G _ _ _).src hv) ((textCells_one _)) (by have := hyv.tm; unfold maxLen; omega) (by have := hyv.tm; omega) (fun rv17 w20 hv => ?_)
   obtain ⟨ra18, rc19, rfl⟩ := row_slice hv.head
   refine uA rfl (uZ ?_)
   refine bN (tK k12 ?_)
   refine sK fun _ k21 => rL (uM rfl ?_)
   refine uA rfl (uA rfl ?_)
   refine uW k21 (rR ?_)
   refine bodyPost_ret (results_tmp2 rfl _ _ _) rfl ?_
   obtain ⟨E, hE, hv, hro, hoko, -⟩ := (((((hv.front 2 rfl).front 4 rfl).front 2 rfl).sub (sC _ (sC _ (sC _ (sD _ (sD _ (sR _)))))))).rowBy
   exact ⟨E, _, _, y.val.texts, 0, hG.trans hE, by rw [Nat.zero_add]; rfl, .inr ⟨y, hg, .inl ⟨.inl hb16, rfl, (if_pos (.inl hb16)).symm⟩⟩, hyv.tm, by rw [Nat.zero_add] at hoko; exact hoko, hro, hv⟩
  refine uG (.bool false) rfl (ex_eql rfl rfl rfl (qF hb16)) (uA rfl ?_)
  refine uW k15 (cF rfl ?_)
  refine rL ?_
  by_cases hb22 : y.val.kind = 4
  ·refine uG (.bool true) rfl (ex_eql rfl rfl rfl (qT hb22)) (uA rfl ?_)
   refine uW k14 (cT rfl ?_)
   replace hv := hv.rowNil 9 1
   refine rL (uM rfl ?_)
   refine uF (.pointer (some ⟨b6, 3, none⟩)) rfl (x2fa50_3 _ _ _) ?_
   refine uF (.pointer (some ⟨b6, 6, none⟩)) rfl (s1fa43_3 _ _ _) ?_
   refine uL _ rfl (run_load1 s1na26 (hv.load 1 6 rfl rfl)) ?_
   refine sl_append (news := textCells y.val.texts) tV (wn rfl) rfl rfl rfl kFel26 hv hoks (textCells_len _) ((hrs.more (Base.Le.refl _) (fun _ h => by cases h) : RdV G _ _ _).src hv) ((textCells_one _)) (by have := hyv.tm; unfold maxLen; omega) (by have := hyv.tm; omega) (fun rv23 w26 hv => ?_)
   obtain ⟨ra24, rc25, rfl⟩ := row_slice hv.head
   refine uA rfl (uZ ?_)
   refine bN (tK k12 ?_)
   refine sK fun _ k27 => rL (uM rfl ?_)
   refine uA rfl (uA rfl ?_)
   refine uW k27 (rR ?_)
   refine bodyPost_ret (results_tmp2 rfl _ _ _) rfl ?_
   obtain ⟨E, hE, hv, hro, hoko, -⟩ := (((((hv.front 2 rfl).front 4 rfl).front 2 rfl).sub (sC _ (sC _ (sC _ (sD _ (sD _ (sR _)))))))).rowBy
   exact ⟨E, _, _, y.val.texts, 0, hG.trans hE, by rw [Nat.zero_add]; rfl, .inr ⟨y, hg, .inl ⟨.inr (.inl hb22), rfl, (if_pos (.inr hb22)).symm⟩⟩, hyv.tm, by rw [Nat.zero_add] at hoko; exact hoko, hro, hv⟩
  refine uG (.bool false) rfl (ex_eql rfl rfl rfl (qF hb22)) (uA rfl ?_)
  refine uW k14 (cF rfl ?_)
  refine sK fun _ k28 => rL ?_
  by_cases hb29 : y.val.kind = 5
  ·refine uG (.bool true) rfl (ex_eql rfl rfl rfl (qT hb29)) (uA rfl ?_)
   refine uW k28 (cT rfl ?_)
   refine sK fun _ k30 => ?_
   replace hv := hv.rowNil 9 1
   refine rL (uF (.pointer (some ⟨b6, 3, none⟩)) rfl (x2fa50_3 _ _ _) ?_)
   refine uF (.pointer (some ⟨b6, 7, none⟩)) rfl (s1fa43_4 _ _ _) ?_
   refine uL _ rfl (run_load1 s1na41 (hv.load 1 7 rfl rfl)) ?_
   refine uG (vI (y.val.zset.length : Int)) rfl (ex_len0 Tryz.underlying41 rfl rfl) (uM rfl ?_)
   refine uW k30 (bB ?_)
   gi_loopw [8, 40] (fun x8 x40 wr => ∃ (i : Nat) (fa : Option Addr) (fc : Nat), x8 = .slice fa i fc ∧ x40 = vI i ∧ i ≤ y.val.zset.length ∧ Inv G (Res.row 9 1 (.slice fa i fc) i (textCells ((y.val.zset.take i).map (·.2))) :: Res.cell b6 [vI y.stamp, .bool y.gone, vI y.expire, vI y.val.kind, vS y.val.text, .slice pa y.val.pairs.length pc, .slice sa y.val.texts.length sc, .slice za y.val.zset.length zc] 50 :: txR t m s p wb va vc sv clk es :: Res.cell b2 [vP v, .slice aa an ac] 80 :: Res.cell v [.iface 100 (vP t)] 56 :: H) wr) (fun x8 x40 _ => y.val.zset.length - (intOf x40).toNat)
   case atStart => exact ⟨0, _, _, rfl, rfl, Nat.zero_le _, (((((hv.front 4 rfl).front 4 rfl).front 4 rfl).front 4 rfl).front 4 rfl)⟩
   case round =>
    obtain ⟨i, fa, fc, rfl, rfl, hi, hv⟩ := hrel
    have hzm := hyv.zm
    refine sK fun _ k32 => rL ?_
    by_cases hb33 : (i : Int) < (y.val.zset.length : Int)
    ·refine uG (.bool true) rfl (ex_lss rfl rfl rfl (qT hb33)) (uW k32 ?_)
     refine sK fun _ k34 => cT rfl (kS ?_)
     refine tK k34 (sK fun _ k35 => ?_)
     refine bB (sK fun _ k36 => ?_)
     obtain ⟨x, hx⟩ : ∃ x, y.val.zset[i]? = some x := ⟨_, List.getElem?_eq_getElem (show i < y.val.zset.length by omega)⟩
     obtain ⟨zb, zo, had, hrdx⟩ := mem_reads hrz hx
     subst had
     refine rL (uG (.pointer (some ⟨zb, zo + i * 2, none⟩)) rfl (ex_index rfl rfl rfl (run_idx (k := i) Tryz.underlying41 s9es41 (by omega))) ?_)
     refine uL (.agg #[vI x.1, vS x.2]) rfl (run_loadR (cs := [vI x.1, vS x.2]) s9wd88 (Reads.mid (pre := []) (mid := [vI x.1, vS x.2]) (post := []) hrdx _ _ _ (Base.Le.refl _) no_res hv)) ?_
     refine sl_alloc tV (wn rfl) rfl hv kFal88 (fun b37 w38 hv => ?_)
     simp only [zP, po]
     refine xS 0 rfl hv s11sz88 rfl (by exact ⟨rfl, rfl, trivial⟩) (fun w39 hv => ?_)
     simp only [zO, sp] at hv
     refine uW k36 (rL ?_)
     refine uM rfl ?_
     refine uF (.pointer (some ⟨b37, 1, none⟩)) rfl (s9fa88_1 _ _ _) ?_
     refine uL _ rfl (run_load1 s9na9 (hv.load 0 1 rfl rfl)) ?_
     refine sl_rowOne (v := vS x.2) tV (wn rfl) rfl rfl hv kFel26 rfl (fun b40 w41 hv => ?_)
     replace hv := hv.front 2 rfl
     simp only [eS, eZ] at hv
     refine sl_append (news := [vS x.2]) tV (wn rfl) rfl rfl rfl kFel26 hv (ok_full (by omega)) rfl (rd_all (hv.get 1 rfl)) (by intro u hu; simp only [List.mem_cons, List.not_mem_nil, or_false] at hu; rcases hu with rfl <;> rfl) (by unfold maxLen; omega) (by omega) (fun rv42 w45 hv => ?_)
     obtain ⟨ra43, rc44, rfl⟩ := row_slice hv.head
     refine uA rfl (uZ ?_)
     refine bN (tK k35 ?_)
     refine rL (uG (vI ((i + 1 : Nat) : Int)) rfl (ex_add rfl rfl rfl (by rw [i64_in (by omega)]; omega)) ?_)
     refine uM rfl (uZ ?_)
     refine then_normal ?_
     go_roundw
     case rel => exact ⟨i + 1, _, _, rfl, rfl, by omega, by rw [take_next hx, List.map_append, List.map_cons, List.map_nil, ← text_snoc]; exact (hv.kp [6, 6, 6, 6, 4] 5 2)⟩
     case measure => show y.val.zset.length - (((i + 1 : Nat) : Int)).toNat < y.val.zset.length - ((i : Int)).toNat; omega
    refine uG (.bool false) rfl (ex_lss rfl rfl rfl (qF hb33)) (uW k32 ?_)
    refine sK fun _ k46 => cF rfl (xE ?_)
    refine tX (tX ?_)
    refine bH (bN ?_)
    refine tK k12 (sK fun _ k47 => ?_)
    refine rL (uM rfl ?_)
    refine uA rfl (uA rfl ?_)
    refine uW k47 (rR ?_)
    refine bodyPost_ret (results_tmp2 rfl _ _ _) rfl ?_
    obtain rfl : i = y.val.zset.length := by omega
    rw [List.take_length] at hv
    obtain ⟨E, hE, hv, hro, hoko, -⟩ := (((((hv.front 2 rfl).front 4 rfl).front 2 rfl).sub (sC _ (sC _ (sC _ (sD _ (sD _ (sR _)))))))).rowBy
    exact ⟨E, fa, fc, y.val.zset.map (·.2), 0, hG.trans hE, by rw [List.length_map]; rfl, .inr ⟨y, hg, .inl ⟨.inr (.inr hb29), rfl, by unfold thingsV; rw [if_neg (fun h9 => h9.elim hb16 hb22)]⟩⟩, by rw [List.length_map]; exact hyv.zm, by rw [List.length_map]; exact hoko, hro, hv⟩
  refine uG (.bool false) rfl (ex_eql rfl rfl rfl (qF hb29)) (uA rfl ?_)
  refine uW k28 (cF rfl ?_)
  refine sK fun _ k48 => rL (uA rfl ?_)
  refine uA rfl (uW k48 ?_)
  refine rR (bZ ?_)
  refine tR (bodyPost_ret (results_tmp2 rfl _ _ _) rfl ?_)
  exact ⟨G, none, 0, [], 40, hG, rfl, .inr ⟨y, hg, .inr ⟨hb16, hb22, hb29, rfl, rfl⟩⟩, Nat.zero_le _, ⟨Nat.le_refl _, Nat.zero_le _, fun _ => rfl⟩, rdV_nil, (hv.kp [1, 3] 2 2)⟩
 refine uM rfl (uE rfl ?_)
 refine uE rfl ?_
 refine sl_alloc tV (wn rfl) rfl hv kFal50 (fun b49 w50 hv => ?_)
 refine xS 0 rfl hv x0sz50 rfl (by exact ⟨rfl, rfl, rfl, rfl, rfl, rfl, rfl, rfl, trivial⟩) (fun w51 hv => ?_)
 simp only [zO, sp] at hv
 refine uA rfl (uW k4 ?_)
 refine sK fun _ k52 => sK fun _ k53 => rL (uM rfl ?_)
 refine uG (.bool true) rfl (ex_not rfl rfl rfl) (uW k53 ?_)
 refine cT rfl (sK fun _ k54 => ?_)
 refine rL (uA rfl ?_)
 refine uA rfl (uW k54 ?_)
 refine rR (tR ?_)
 refine bodyPost_ret (results_tmp2 rfl _ _ _) rfl (⟨G, none, 0, [], 0, hG, rfl, .inl ⟨hg, rfl, rfl⟩, Nat.zero_le _, ⟨Nat.le_refl _, Nat.zero_le _, fun _ => rfl⟩, rdV_nil, (hv.kp [1, 3] 2 2)⟩)
end Go.Proofs.YtngpmolbphinnaaGreatDoor
