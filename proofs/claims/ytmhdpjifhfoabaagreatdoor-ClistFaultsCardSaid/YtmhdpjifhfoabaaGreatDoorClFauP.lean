/- ClistFaults: the law's walk. -/
import Derived.Test.YtmhdpjifhfoabaaGreatDoorClFauC
import Derived.Test.YtmhdpjifhfoabaaGreatDoorClFauJ
import Derived.Test.YtmhdpjifhfoabaaGreatDoorClFauO
import Derived.Test.YtmhdpjifhfoabaaGreatDoorClFauB
import Derived.Test.YtmhdpjifhfoabaaGreatDoorRows
set_option maxRecDepth 100000
set_option maxHeartbeats 16000000
set_option synthInstance.maxSize 4096
set_option synthInstance.maxHeartbeats 400000
namespace Go.Proofs.YtmhdpjifhfoabaaGreatDoor
open Go.RowKit Go.Pm
theorem mod_in (n : Int) {L : Int} (hL : 0 < L) : ∃ j : Nat, (n.tmod L + L).tmod L = (j : Int) ∧ (j : Int) < L ∧ -L < n.tmod L ∧ n.tmod L < L := by
 have h1 := Int.lt_tmod_of_pos n hL
 have h2 := Int.tmod_lt_of_pos n hL
 have h3 : 0 ≤ (n.tmod L + L).tmod L := Int.tmod_nonneg L (by omega)
 have h4 := Int.tmod_lt_of_pos (n.tmod L + L) hL
 exact ⟨((n.tmod L + L).tmod L).toNat, by omega, by omega, h1, h2⟩
theorem gNames_pos : (0 : Int) < (gNames.length : Int) := by rw [gNames_len]; decide
theorem rp_kind {B : Base} {r : Rp} {k : Int} {s : List UInt8} {n : Int} {v : Value} (h : RpAt B r (rpCells k s n v)) : r.kind = k := by
 cases r; simp only [RpAt] at h
 obtain ⟨v2, xs, h1, -⟩ := h
 simp only [List.cons.injEq, Value.int.injEq, true_and] at h1
 exact h1.1.symm
theorem jEcallable6 : Callable Tryz.prog 6 := cb Tryz.func6 (by kernel_rfl)
theorem jEwd44 : Wide Tryz.prog 44 2 := wide_of (fun w => by kernel_rfl) (by kernel_rfl)
theorem jEcallable15 : Callable Tryz.prog 15 := cb Tryz.func15 (by kernel_rfl)
theorem jEcallable16 : Callable Tryz.prog 16 := cb Tryz.func16 (by kernel_rfl)
theorem jEal48 : AL Tryz.prog 48 [vN, vI 0, vN] := fun w => by kernel_rfl
theorem jEcallable14 : Callable Tryz.prog 14 := cb Tryz.func14 (by kernel_rfl)
theorem jEfa44_0 : FA Tryz.prog 44 0 0 := fun w b o => by kernel_rfl
theorem jEal28 : AL Tryz.prog 28 [vI 0, vS [], vI 0, vN] := fun w => by kernel_rfl
theorem jEcallable17 : Callable Tryz.prog 17 := cb Tryz.func17 (by kernel_rfl)
theorem lawFaultsMain (B : Base) (H : List Res) (w : World) (ad : Option Addr) (n ac : Nat) (hkr : KeysRd B ad n) (cn : Int) (xa : Option Addr) (xc : Nat) (xs : List (List UInt8)) (hokx : SliceOk xa xs.length xc) (hrx : RdV B [] xa (textCells xs)) (hxl : ∀ x ∈ xs, x.length ≤ 9223372036854775807) (clock : Int) (hN : NumB B) (hv : Inv B H w) :
  Calls Tryz.prog 5 #[.slice ad n ac, .agg #[vI cn, .slice xa xs.length xc], vI clock] w fun e w' => e = .returned (.bool true) ∧ Inv B H w' := by
 refine cW Tryz.func5 rfl Tryz.ntmps5 ?_
 simp only [al]
 refine sK fun _ k1 => rL (sl_box (L := [vI cn, .slice xa xs.length xc]) tV (wn rfl) rfl rfl hv (fun w => by kernel_rfl) (fun b2 w3 hv => ?_))
 refine uA rfl (uW k1 ?_)
 refine sK fun _ k4 => sK fun _ k5 => rL (xC jEcallable6 rfl ((gAwake B _ _ (hN.more (Base.Le.refl _)) hv).mono ?_) rfl)
 rintro e w6 ⟨rfl, hv⟩
 refine ⟨_, rfl, uG (.bool false) rfl (ex_not rfl rfl rfl) ?_⟩
 refine uM rfl ?_
 refine uL (.agg #[vI cn, .slice xa xs.length xc]) rfl (lM 0 jEwd44 hv rfl rfl rfl rfl) ?_
 refine xC jEcallable15 rfl ((lawSmall B _ _ cn xa xc xs hrx hv).mono ?_) rfl
 rintro e w8 ⟨bl7, rfl, hbl7, hv⟩
 refine ⟨_, rfl, ?_⟩
 cases bl7
 ·refine uG (.bool true) rfl (ex_not rfl rfl rfl) (uK rfl ?_)
  refine uW k5 (cT rfl ?_)
  refine sK fun _ k9 => rL (xC jEcallable6 rfl ((gAwake B _ _ (hN.more (Base.Le.refl _)) hv).mono ?_) rfl)
  rintro e w10 ⟨rfl, hv⟩
  refine ⟨_, rfl, uA rfl ?_⟩
  refine uW k9 (rR ?_)
  refine tR (bR rfl rfl ?_)
  exact ⟨rfl, ((hv.kp [] 0 1)).weak (Base.Le.refl _)⟩
 refine uG (.bool false) rfl (ex_not rfl rfl rfl) (uK rfl ?_)
 refine uW k5 (cF rfl ?_)
 refine kS (tK k4 ?_)
 refine sK fun _ k11 => rL (uM rfl ?_)
 refine uM rfl ?_
 obtain ⟨hx14, hx42⟩ := hbl7 rfl
 refine xC jEcallable16 rfl ((lawBegun B _ _ ad n ac hkr clock hv).mono ?_) rfl
 rintro e w12 ⟨C, now, v, t, m, s, p, wb, va, vc, sv, es, M, K, wl, ka, wa, kc, wc, ks, hC, h0, h1, hKl, hwl, hM, hO, hRK, hKO, hRV, rfl, hv⟩
 refine ⟨_, rfl, uM rfl ?_⟩
 refine uE rfl (uE rfl ?_)
 refine uE rfl ?_
 refine sl_alloc tV (wn rfl) rfl hv jEal48 (fun b13 w14 hv => ?_)
 refine uA rfl ?_
 refine xS 0 rfl hv v2sz48 rfl (by exact ⟨rfl, rfl, rfl, trivial⟩) (fun w15 hv => ?_)
 simp only [zO, sp] at hv
 refine uA rfl (uW k11 ?_)
 refine sK fun _ k16 => rL (xC jEcallable14 rfl ((gNamesC C _ _ hv).mono ?_) rfl)
 rintro e w17 ⟨D, na, nc, hD, rfl, hrn, hokn, hv⟩
 refine ⟨_, rfl, uA rfl ?_⟩
 refine uW k16 (sK fun _ k18 => ?_)
 refine sK fun _ k19 => rL (uM rfl ?_)
 refine uG (.bool false) rfl (ex_not rfl rfl rfl) (uM rfl ?_)
 refine uM rfl ?_
 refine uG (vI (gNames.length : Int)) rfl (ex_len0 Tryz.underlying22 rfl rfl) ?_
 refine uG (.bool false) rfl (ex_eql rfl rfl rfl (qF (by rw [gNames_len]; decide))) (uK rfl ?_)
 refine uW k19 (cF rfl ?_)
 refine kS (tK k18 ?_)
 refine sK fun _ k20 => ?_
 have hnl := gNames_len
 obtain ⟨j, hj, hjl⟩ := mod_in cn gNames_pos
 obtain ⟨nm, hnm⟩ : ∃ x, gNames[j]? = some x := ⟨_, List.getElem?_eq_getElem (show j < gNames.length by omega)⟩
 obtain ⟨nb, no, had, hrdnm⟩ := text_reads hrn hnm
 subst had
 have hnmem := List.mem_of_getElem? hnm
 refine rT mixed (fun az wz => ∃ (E : Base) (es' : List (List UInt8 × Value)) (M' : List (List UInt8 × Ver)) (r : Rp) (rk : Int) (rs : List UInt8) (rn : Int) (rv : Value) (b27 : Nat), (D.Le E) ∧ (RpAt E r (rpCells rk rs rn rv)) ∧ (VM E es' M') ∧ (CmdR M M' r) ∧ az = { tmps := List.toArray (.slice ad n ac :: .agg #[vI cn, .slice xa xs.length xc] :: vI clock :: undef :: vP b2 :: undef :: .bool false :: vP v :: vP b13 :: .bool true :: .slice (some ⟨nb, no, none⟩) gNames.length nc :: vP b27 :: .bool true :: .bool true :: .bool false :: .bool false :: .agg #[vI cn, .slice xa xs.length xc] :: .bool true :: .bool false :: .bool false :: undef :: .tuple #[vP v, .agg #[.slice ka K.length kc, vI now, .slice wa wl.length wc], .bool true] :: .slice ad n ac :: vI clock :: .tuple #[vP v, .agg #[.slice ka K.length kc, vI now, .slice wa wl.length wc], .bool true] :: vP v :: .agg #[.slice ka K.length kc, vI now, .slice wa wl.length wc] :: .bool true :: .slice (some ⟨nb, no, none⟩) gNames.length nc :: .bool true :: .bool false :: .bool false :: .slice (some ⟨nb, no, none⟩) gNames.length nc :: vI (gNames.length : Int) :: .bool false :: .bool false :: .tuple #[.agg #[vI rk, vS rs, vI rn, rv], .bool true] :: vP v :: .slice (some ⟨nb, no, none⟩) gNames.length nc :: vP b2 :: vI cn :: .slice (some ⟨nb, no, none⟩) gNames.length nc :: vI (gNames.length : Int) :: vI (cn.tmod (gNames.length : Int)) :: .slice (some ⟨nb, no, none⟩) gNames.length nc :: vI (gNames.length : Int) :: vI (cn.tmod (gNames.length : Int) + (gNames.length : Int)) :: .slice (some ⟨nb, no, none⟩) gNames.length nc :: vI (gNames.length : Int) :: vI j :: .pointer (some ⟨nb, no + j, none⟩) :: vS nm :: .pointer (some ⟨b2, 1, none⟩) :: .slice xa xs.length xc :: .tuple #[.agg #[vI rk, vS rs, vI rn, rv], .bool true] :: .agg #[vI rk, vS rs, vI rn, rv] :: .bool true :: undef :: undef :: undef :: undef :: undef :: undef :: undef :: undef :: undef :: undef :: undef :: []), defers := [] } ∧ Inv E (Res.cell b27 [vI rk, vS rs, vI rn, rv] 28 :: Res.cell v [.iface 62 (vP t)] 36 :: txR t m s p wb va vc sv now es' :: Res.cell b13 [.slice ka K.length kc, vI now, .slice wa wl.length wc] 48 :: Res.cell b2 [vI cn, .slice xa xs.length xc] 44 :: H) wz) [17, 21, 22] [0,1,2,3,4,5,6,7,8,9,10,11,12,13,14,15,16] [18,19,20,21,22,23] [17,18,19,20,22,23] 17 21 68 rfl (by kernel_rfl) hv ?_ ?_
 ·intro R2 l1 l2 hR2 hl1 hl2
  simp only [qm, opAt]
  refine tG (vP v) rfl (ex_move rfl rfl) (tG (.slice (some ⟨nb, no, none⟩) gNames.length nc) rfl (ex_move rfl rfl) ?_)
  simp only [zP, po]
  refine tG (vP b2) rfl (ex_field rfl rfl (jEfa44_0 _ _ _)) (tF (vI cn) rfl (fun hv => ex_load rfl rfl (run_load1 s2na3 (hv.load 3 0 rfl rfl))) fun f21 hf21 => ?_)
  simp only [zP, po]
  refine tG (.slice (some ⟨nb, no, none⟩) gNames.length nc) rfl (ex_move rfl rfl) (tG (vI (gNames.length : Int)) rfl (ex_len0 Tryz.underlying22 rfl rfl) ?_)
  simp only [zP, po]
  refine tG (vI (cn.tmod (gNames.length : Int))) rfl (ex_rem (m := cn) (n := (gNames.length : Int)) rfl rfl rfl (by omega) rfl) (tG (.slice (some ⟨nb, no, none⟩) gNames.length nc) rfl (ex_move rfl rfl) ?_)
  simp only [zP, po]
  refine tG (vI (gNames.length : Int)) rfl (ex_len0 Tryz.underlying22 rfl rfl) (tG (vI (cn.tmod (gNames.length : Int) + (gNames.length : Int))) rfl (ex_add (m := (cn.tmod (gNames.length : Int))) (n := (gNames.length : Int)) rfl rfl rfl (i64_in (by omega))) ?_)
  simp only [zP, po]
  refine tG (.slice (some ⟨nb, no, none⟩) gNames.length nc) rfl (ex_move rfl rfl) (tG (vI (gNames.length : Int)) rfl (ex_len0 Tryz.underlying22 rfl rfl) ?_)
  simp only [zP, po]
  refine tG (vI j) rfl (ex_rem (m := (cn.tmod (gNames.length : Int) + (gNames.length : Int))) (n := (gNames.length : Int)) rfl rfl rfl (by omega) hj) (tG (.pointer (some ⟨nb, no + j, none⟩)) rfl (ex_index rfl rfl rfl (run_idx1 (k := j) Tryz.underlying22 s9es22 (by omega))) ?_)
  simp only [zP, po]
  refine tF (vS nm) rfl (fun hv => ex_load rfl rfl (run_load1 s9na9 (hrdnm _ _ _ (Base.Le.refl _) no_res hv 0 _ rfl))) fun f22 hf22 => tG (.pointer (some ⟨b2, 1, none⟩)) rfl (ex_field rfl rfl (l3fa44_1 _ _ _)) ?_
  simp only [zP, po]
  refine tF (.slice xa xs.length xc) rfl (fun hv => ex_load rfl rfl (run_load1 s1na22 (hv.load 3 1 rfl rfl))) fun f23 hf23 => ?_
  simp only [zP, po]
  refine tB ?_ ?_
  ·rw [hl1]; clear hl1 hl2
   simp only [qm, opAt]
   refine dS rfl fun w24 hv => ?_
   replace hv := hv.front 2 rfl
   simp only [eS, eZ] at hv
   replace hv := hv.front 2 rfl
   simp only [eS, eZ] at hv
   refine mC jCcallable12 rfl ((gDo D _ _ v t m s p wb va vc sv now es M (hM.more hD) hO xa xc xs (hrx.more (hC.trans hD) (fun _ h => h)) hokx (by omega) nm hxl (.inl fun x hx => by have := hx42 x hx; omega) (hN.more (hC.trans hD)) hv).mono ?_) rfl
   rintro e w25 ⟨E, es', M', r, cs, ok, hE, rfl, hrp, hM', hcmd, hok, -, -, hv⟩
   obtain ⟨rk, rs, rn, rv, rfl⟩ := rp_parts hrp
   obtain rfl : ok = true := hok.2 hnmem
   refine ⟨_, rfl, dV hv (fK rfl (fK rfl (fK rfl fN))) ?_⟩
   refine dM (.tuple #[.agg #[vI rk, vS rs, vI rn, rv], .bool true]) rfl (dG (.agg #[vI rk, vS rs, vI rn, rv]) rfl (ex_extract rfl rfl rfl) ?_)
   simp only [zP, po]
   refine dG (.bool true) rfl (ex_extract rfl rfl rfl) (dS rfl fun w26 hv => ?_)
   refine mem_alloc rfl rfl hv jEal28 (fun b27 w28 hv => ?_)
   refine dV hv (fC (fun ww hv => hf23 ww (ex_load rfl rfl (run_load1 s1na22 (hv.load 4 1 rfl rfl)))) (fC (fun ww hv => hf22 ww (ex_load rfl rfl (run_load1 s9na9 (hrdnm _ _ _ hE no_res hv 0 _ rfl)))) (fC (fun ww hv => hf21 ww (ex_load rfl rfl (run_load1 s2na3 (hv.load 4 0 rfl rfl)))) fN))) (dS rfl fun w29 hv => ?_)
   refine mS 0 rfl hv rssz28 rfl (by exact ⟨rfl, rfl, rfl, hrp.lv.2, trivial⟩) (fun w30 hv => ?_)
   simp only [zO, sp] at hv
   refine dV hv (fK rfl (fK rfl (fK rfl fN))) ?_
   simp only [zP, po]
   refine dA (.bool true) rfl (dE fun wz hv => ?_)
   simp only [zP, po]
   exact hR2 _ _ ⟨E, es', M', r, rk, rs, rn, rv, b27, hE, hrp, hM', hcmd, rfl, (((((hv.front 4 rfl).front 4 rfl).front 4 rfl).front 4 rfl).front 4 rfl)⟩
  rw [hl2]; clear hl1 hl2
  simp only [qm, opAt]
  refine dS rfl fun w31 hv => mem_alloc rfl rfl hv jEal28 (fun b32 w33 hv => ?_)
  refine dV hv (fC (fun ww hv => hf23 ww (ex_load rfl rfl (run_load1 s1na22 (hv.load 4 1 rfl rfl)))) (fC (fun ww hv => hf22 ww (ex_load rfl rfl (run_load1 s9na9 (hrdnm _ _ _ (Base.Le.refl _) no_res hv 0 _ rfl)))) (fC (fun ww hv => hf21 ww (ex_load rfl rfl (run_load1 s2na3 (hv.load 4 0 rfl rfl)))) fN))) (dS rfl fun w34 hv => ?_)
  replace hv := hv.front 3 rfl
  simp only [eS, eZ] at hv
  replace hv := hv.front 3 rfl
  simp only [eS, eZ] at hv
  refine mC jCcallable12 rfl ((gDo D _ _ v t m s p wb va vc sv now es M (hM.more hD) hO xa xc xs (hrx.more (hC.trans hD) (fun _ h => h)) hokx (by omega) nm hxl (.inl fun x hx => by have := hx42 x hx; omega) (hN.more (hC.trans hD)) hv).mono ?_) rfl
  rintro e w35 ⟨E, es', M', r, cs, ok, hE, rfl, hrp, hM', hcmd, hok, -, -, hv⟩
  obtain ⟨rk, rs, rn, rv, rfl⟩ := rp_parts hrp
  obtain rfl : ok = true := hok.2 hnmem
  refine ⟨_, rfl, dV hv (fK rfl (fK rfl (fK rfl fN))) ?_⟩
  refine dM (.tuple #[.agg #[vI rk, vS rs, vI rn, rv], .bool true]) rfl ?_
  simp only [zP, po]
  refine dG (.agg #[vI rk, vS rs, vI rn, rv]) rfl (ex_extract rfl rfl rfl) (dG (.bool true) rfl (ex_extract rfl rfl rfl) ?_)
  refine dS rfl fun w36 hv => mS 2 rfl hv rssz28 rfl (by exact ⟨rfl, rfl, rfl, hrp.lv.2, trivial⟩) (fun w37 hv => ?_)
  simp only [zS, zO, sp] at hv
  refine dV hv (fK rfl (fK rfl (fK rfl fN))) ?_
  simp only [zP, po]
  refine dA (.bool true) rfl (dE fun wz hv => ?_)
  simp only [zP, po]
  exact hR2 _ _ ⟨E, es', M', r, rk, rs, rn, rv, b32, hE, hrp, hM', hcmd, rfl, (((((hv.front 4 rfl).front 4 rfl).front 3 rfl).front 3 rfl).front 4 rfl)⟩
 rintro _ w38 ⟨E, es', M', r, rk, rs, rn, rv, b27, hE, hrp, hM', hcmd, rfl, hv⟩
 refine tK k20 (sK fun _ k39 => ?_)
 refine rL (uM rfl ?_)
 refine uM rfl ?_
 refine uF (vP b27) rfl (l0fa28_0 _ _ _) ?_
 refine uL _ rfl (run_load1 s2na3 (hv.load 0 0 rfl rfl)) ?_
 by_cases hb40 : rk ≠ 1
 ·refine uG (.bool true) rfl (ex_neq rfl rfl rfl (qT hb40)) ?_
  refine uM rfl ?_
  iterate 3 refine uP rfl ?_
  refine uK rfl (uK rfl ?_)
  refine uA rfl (uW k39 ?_)
  refine rR (bR rfl rfl ?_)
  exact ⟨rfl, ((hv.kp [] 0 5)).weak ((hC.trans hD).trans hE)⟩
 refine uG (.bool false) rfl (ex_neq rfl rfl rfl (qF hb40)) ?_
 refine uM rfl ?_
 refine uM rfl ?_
 refine uL (.agg #[.slice ka K.length kc, vI now, .slice wa wl.length wc]) rfl (lM 3 v2wd48 hv rfl rfl rfl rfl) ?_
 replace hv := hv.front 2 rfl
 simp only [eS, eZ] at hv
 replace hv := hv.front 2 rfl
 simp only [eS, eZ] at hv
 have hMM : M' = M := hcmd.2 ((rp_kind hrp).trans (Classical.not_not.1 hb40))
 refine xC jEcallable17 rfl ((lawSame E _ _ v t m s p wb va vc sv now es' M K wl ka wa kc wc ks (by rw [← hMM]; exact hM'.more (Base.Le.refl _)) hRK hKO (hRV.more (hD.trans hE)) hKl hwl hv).mono ?_) rfl
 rintro e w41 ⟨rfl, hv⟩
 refine ⟨_, rfl, ?_⟩
 refine uK rfl (uK rfl ?_)
 refine uA rfl (uW k39 ?_)
 refine rR (bR rfl rfl ?_)
 exact ⟨rfl, ((hv.kp [] 0 5)).weak ((hC.trans hD).trans hE)⟩
end Go.Proofs.YtmhdpjifhfoabaaGreatDoor
