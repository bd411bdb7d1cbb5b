/- CkeyScans: the law's walk. -/
import Derived.Test.YtngpmolbphinnaaGreatDoorCkScnB
import Derived.Test.YtngpmolbphinnaaGreatDoorCkScnJ
import Derived.Test.YtngpmolbphinnaaGreatDoorRows
set_option maxRecDepth 100000
set_option maxHeartbeats 16000000
set_option synthInstance.maxSize 4096
set_option synthInstance.maxHeartbeats 400000
namespace Go.Proofs.YtngpmolbphinnaaGreatDoor
open Go.RowKit Go.Pm
theorem wordsEqN (B : Base) (H : List Res) (w : World) (ad ad' : Option Addr) (c c' n : Nat) {l l' : List (List UInt8)} (hn : n = l.length) (h : l = l') (hr : RdV B [] ad (textCells l)) (hr' : RdV B [] ad' (textCells l')) (hm : l'.length ≤ 1000000) (hv : Inv B H w) :
  Calls Tryz.prog 11 #[.slice ad n c, .slice ad' l'.length c'] w fun e w' => e = .returned (.bool true) ∧ Inv B H w' := by
 subst hn; exact wordsEq B H w ad ad' c c' h hr hr' hm hv
theorem k4callable8 : Callable Tryz.prog 8 := cb Tryz.func8 (by kernel_rfl)
theorem k4callable9 : Callable Tryz.prog 9 := cb Tryz.func9 (by kernel_rfl)
theorem k4al28 : AL Tryz.prog 28 [vN, vI 0, vN] := fun w => by kernel_rfl
theorem k4mk5 : (Tryz.prog.info? 5).map (fun i => (i.zero, i.size, i.bytes)) = some (some (.int .u8 0), 1, 1) := by kernel_rfl
theorem k4el31 : Elem Tryz.prog 31 5 (.int .u8 0) 1 1 := elem_of Tryz.underlying31 k4mk5 (by rfl) (by decide)
theorem k4al34 : AL Tryz.prog 34 [vI 0, vS [], vI 0, vN] := fun w => by kernel_rfl
theorem k4mk9 : (Tryz.prog.info? 9).map (fun i => (i.zero, i.size, i.bytes)) = some (some (vS []), 1, 16) := by kernel_rfl
theorem k4el26 : Elem Tryz.prog 26 9 (vS []) 1 16 := elem_of Tryz.underlying26 k4mk9 (by rfl) (by decide)
theorem k4callable12 : Callable Tryz.prog 12 := cb Tryz.func12 (by kernel_rfl)
theorem k4callable11 : Callable Tryz.prog 11 := cb Tryz.func11 (by kernel_rfl)
theorem ckScansMain (B : Base) (H : List Res) (w : World) (ad : Option Addr) (n ac : Nat) (hkr : KeysRd B ad n) (count clock : Int) (hN : NumB B) (hv : Inv B H w) :
  Calls Tryz.prog 3 #[.slice ad n ac, vI count, vI clock] w fun e w' => e = .returned (.bool true) ∧ Inv B H w' := by
 obtain ⟨r9, c9, hr9, hr91, hr92, hrc9, hc9⟩ := wrap9s count
 refine cW Tryz.func3 rfl Tryz.ntmps3 ?_
 simp only [al]
 refine sK fun _ k1 => rL (uA rfl ?_)
 refine uW k1 (sK fun _ k2 => ?_)
 refine sK fun _ k3 => rL (xC k4callable8 rfl ((lawAwake26 B _ _ (hN.more (Base.Le.refl _)) hv).mono ?_) rfl)
 rintro e w4 ⟨rfl, hv⟩
 refine ⟨_, rfl, uG (.bool false) rfl (ex_not rfl rfl rfl) ?_⟩
 refine uW k3 (cF rfl ?_)
 refine kS (tK k2 ?_)
 refine sK fun _ k5 => rL (uM rfl ?_)
 refine uM rfl ?_
 refine xC k4callable9 rfl ((lawBegun B _ _ ad n ac hkr clock hv).mono ?_) rfl
 rintro e w6 ⟨C, now, v, t, m, s, p, wb, va, vc, sv, es, M, K, wl, ka, wa, kc, wc, ks, hC, h0, h1, hKl, hwl, hM, hO, hRK, hKO, hRV, rfl, hv⟩
 refine ⟨_, rfl, ?_⟩
 have hnl : (namesT M now).length ≤ 10 := by have := namesT_le M now; have := hKO.len; omega
 refine uM rfl (uE rfl ?_)
 refine uE rfl (uE rfl ?_)
 refine sl_alloc tV (wn rfl) rfl hv k4al28 (fun b7 w8 hv => ?_)
 refine uA rfl ?_
 refine xS 0 rfl hv v2sz28 rfl (by exact ⟨rfl, rfl, rfl, trivial⟩) (fun w9 hv => ?_)
 simp only [zO, sp] at hv
 refine uA rfl (uW k5 ?_)
 refine sK fun _ k10 => sK fun _ k11 => rL (uM rfl ?_)
 refine uG (.bool false) rfl (ex_not rfl rfl rfl) (uW k11 ?_)
 refine cF rfl (kS ?_)
 refine tK k10 (sK fun _ k12 => ?_)
 refine rL (uM rfl ?_)
 refine uG (vI r9) rfl (ex_rem (m := count) (n := 9) rfl rfl rfl (by decide) hr9) ?_
 refine uG (vI (r9 + 9)) rfl (ex_add rfl rfl rfl (i64_in (by omega))) ?_
 refine uG (vI c9) rfl (ex_rem (m := (r9 + 9)) (n := 9) rfl rfl rfl (by decide) hrc9) ?_
 refine uG (vI ((49 + c9 : Nat) : Int)) rfl (ex_add rfl rfl rfl (by rw [i64_in (by omega)]; omega)) ?_
 refine uG (.int .u8 ((UInt8.ofNat (49 + c9)).toNat : Int)) rfl (ex_int Tryz.underlying3 Tryz.underlying5 rfl rfl (u8_dig9 c9 hc9)) ?_
 refine sl_rowOne (v := .int .u8 ((UInt8.ofNat (49 + c9)).toNat : Int)) tV (wn rfl) rfl rfl hv k4el31 rfl (fun b13 w14 hv => ?_)
 refine uG (.string ⟨[UInt8.ofNat (49 + c9)].toArray⟩) rfl (ex_str Tryz.underlying31 Tryz.underlying5 Tryz.underlying9 rfl rfl (bytes_all (l := [UInt8.ofNat (49 + c9)]) (hv.get 0 rfl)) (rfl)) (uA rfl ?_)
 refine uW k12 (sK fun _ k15 => ?_)
 refine rL (uA rfl ?_)
 refine uW k15 (sK fun _ k16 => ?_)
 refine rL (uA rfl ?_)
 refine uW k16 (sK fun _ k17 => ?_)
 refine sK fun _ k18 => rL (uA rfl ?_)
 refine uW k18 (bB ?_)
 gi_loopw [11, 12, 13] (fun x11 x12 x13 wr => ∃ (i a : Nat) (D : Base) (ga : Option Addr) (gc : Nat), x11 = .slice ga a gc ∧ x12 = vS (Lib.itoa (a : Int)) ∧ x13 = vI i ∧ C.Le D ∧ a ≤ 9 ∧ i ≤ a ∧ a ≤ (namesT M now).length ∧ Inv D (Res.row 9 1 (.slice ga a gc) a (textCells ((namesT M now).take a)) :: Res.cell v [.iface 100 (vP t)] 56 :: txR t m s p wb va vc sv now es :: Res.cell b7 [.slice ka K.length kc, vI now, .slice wa wl.length wc] 28 :: H) wr) (fun x11 x12 x13 _ => 20 - (intOf x13).toNat)
 case atStart => exact ⟨0, 0, C, none, 0, rfl, congrArg (fun l : List UInt8 => vS l) (show ([48] : List UInt8) = Lib.itoa ((0 : Nat) : Int) from ((itoa_zero (n := 0) (by omega)).2 rfl).symm), rfl, Base.Le.refl _, by omega, Nat.le_refl _, Nat.zero_le _, ((hv.kp [1, 3, 3] 3 1)).rowNil 9 1⟩
 case round =>
  obtain ⟨i, a, D, ga, gc, rfl, rfl, rfl, hCD, ha9, hia, hal, hv⟩ := hrel
  refine sK fun _ k20 => sK fun _ k21 => rL (uM rfl ?_)
  by_cases hb22 : (i : Int) < 20
  ·refine uG (.bool true) rfl (ex_lss rfl rfl rfl (qT hb22)) (uW k21 ?_)
   refine cT rfl (kS ?_)
   refine tK k20 (sK fun _ k23 => ?_)
   refine bB (sK fun _ k24 => ?_)
   refine rL (uM rfl ?_)
   refine uM rfl (uM rfl ?_)
   refine sl_rowN (pv := #[(0, vS (Lib.itoa (a : Int))), (1, vS [67, 79, 85, 78, 84]), (2, .string ⟨[UInt8.ofNat (49 + c9)].toArray⟩)]) (L := [vS (Lib.itoa (a : Int)), vS [67, 79, 85, 78, 84], .string ⟨[UInt8.ofNat (49 + c9)].toArray⟩]) (e := 9) tV (wn rfl) rfl (by simp only [List.map_toArray, List.map_cons, List.map_nil]; rfl) hv (fun w => by kernel_rfl) (fun b25 w26 hv => ?_)
   simp only [zP, po]
   obtain ⟨D27, hD27, hv, hrD27, hoD27, -⟩ := (hv.cellRow (n := 3) (c := 3) (size := 1) rfl (by decide) (by decide)).rowBy
   replace hv := hv.front 2 rfl
   simp only [eS, eZ] at hv
   replace hv := hv.front 2 rfl
   simp only [eS, eZ] at hv
   have hws : ∀ x ∈ ([(Lib.itoa (a : Int)), ([67, 79, 85, 78, 84] : List UInt8), [UInt8.ofNat (49 + c9)]] : List (List UInt8)), x.length ≤ 1000 := all1 (by rw [itoa_small a ha9]; exact Nat.le_of_ble_eq_true rfl) (all1 (by decide) (all1 (Nat.le_of_ble_eq_true rfl) all0))
   refine xC k3callable10 rfl ((ckDoS D27 _ _ v t m s p wb va vc sv now es M (hM.more (hCD.trans hD27)) _ _ [(Lib.itoa (a : Int)), ([67, 79, 85, 78, 84] : List UInt8), [UInt8.ofNat (49 + c9)]] hrD27 hoD27 (Nat.le_of_ble_eq_true rfl) (Nat.le_of_ble_eq_true rfl) hKO.sh (by have := hKO.len; omega) (fun x hx => by have := hws x hx; omega) (.inl fun x hx => by have := hws x hx; omega) (hN.more ((hC.trans hCD).trans hD27)) hv).mono ?_) rfl
   rintro e w28 ⟨F, r, cs, hF, rfl, hrp, hsr, hv⟩
   refine ⟨_, rfl, ?_⟩
   obtain ⟨b, nx, seg, hbl, hsl, rfl, hcat, hnx⟩ := scan_step hnl hc9 hal hsr
   obtain ⟨rb, ro, rc, u0, la, lc, rfl, hrd0, hu0, hw0, hrl, -, hseg⟩ := rp_two hrp
   refine uG (.tuple #[.agg #[vI 5, vS [], vI 0, .slice (some ⟨rb, ro, none⟩) 2 rc], .bool true]) rfl (ex_move rfl rfl) ?_
   refine uG (.agg #[vI 5, vS [], vI 0, .slice (some ⟨rb, ro, none⟩) 2 rc]) rfl (ex_extract rfl rfl rfl) (uE rfl ?_)
   refine sl_alloc tV (wn rfl) rfl hv k4al34 (fun b29 w30 hv => ?_)
   simp only [zP, po]
   refine xS 0 rfl hv rssz34 rfl (by exact ⟨rfl, rfl, rfl, rfl, trivial⟩) (fun w31 hv => ?_)
   simp only [zO, sp] at hv
   refine uA rfl (uW k24 ?_)
   refine sK fun _ k32 => sK fun _ k33 => rL (uM rfl ?_)
   refine uG (.bool false) rfl (ex_not rfl rfl rfl) (uM rfl ?_)
   refine uF (.pointer (some ⟨b29, 3, none⟩)) rfl (rtfa34_3 _ _ _) ?_
   refine uL _ rfl (run_load1 rtna32 (hv.load 0 3 rfl rfl)) ?_
   refine uG (vI 2) rfl (ex_len0 Tryz.underlying32 rfl rfl) ?_
   refine uG (.bool false) rfl (ex_neq rfl rfl rfl (by decide)) (uK rfl ?_)
   refine uW k33 (cF rfl ?_)
   refine kS (tK k32 ?_)
   refine sK fun _ k34 => sK fun _ k35 => rL (uA rfl ?_)
   refine uW k35 (bB ?_)
   gi_loopw [11, 16] (fun x11 x16 wr => ∃ (kk : Nat) (gb : Option Addr) (gd : Nat), x11 = .slice gb (a + kk) gd ∧ x16 = vI kk ∧ kk ≤ seg.length ∧ Inv F (Res.row 9 1 (.slice gb (a + kk) gd) (a + kk) (textCells ((namesT M now).take a ++ seg.take kk)) :: Res.cell v [.iface 100 (vP t)] 56 :: txR t m s p wb va vc sv now es :: Res.cell b7 [.slice ka K.length kc, vI now, .slice wa wl.length wc] 28 :: Res.cell b29 [vI 5, vS [], vI 0, .slice (some ⟨rb, ro, none⟩) 2 rc] 34 :: H) wr) (fun x11 x16 _ => seg.length - (intOf x16).toNat)
   case atStart => exact ⟨0, ga, gc, rfl, rfl, Nat.zero_le _, by rw [List.take_zero, List.append_nil]; exact ((((hv.front 4 rfl).front 3 rfl).front 3 rfl).front 4 rfl)⟩
   case round =>
    obtain ⟨kk, gb, gd, rfl, rfl, hkk, hv⟩ := hrel
    refine sK fun _ k37 => sK fun _ k38 => rL (uM rfl ?_)
    refine uF (.pointer (some ⟨b29, 3, none⟩)) rfl (rtfa34_3 _ _ _) ?_
    refine uL _ rfl (run_load1 rtna32 (hv.load 4 3 rfl rfl)) ?_
    refine uG (.pointer (some ⟨rb, ro + 1 * 4, none⟩)) rfl (ex_index rfl rfl rfl (run_idx (k := 1) Tryz.underlying32 k0es32 (by omega))) ?_
    refine uF (.pointer (some ⟨rb, ro + 1 * 4 + 3, none⟩)) rfl (rtfa34_3 _ _ _) ?_
    refine uL _ rfl (run_load1 rtna32 (hrl _ _ _ (Base.Le.refl _) no_res hv 3 _ rfl)) ?_
    refine uG (vI (seg.length : Int)) rfl (ex_len0 Tryz.underlying32 rfl rfl) ?_
    by_cases hb39 : (kk : Int) < (seg.length : Int)
    ·refine uG (.bool true) rfl (ex_lss rfl rfl rfl (qT hb39)) (uW k38 ?_)
     refine cT rfl (kS ?_)
     refine tK k37 (sK fun _ k40 => ?_)
     refine bB ?_
     obtain ⟨x, hx⟩ : ∃ x, seg[kk]? = some x := ⟨_, List.getElem?_eq_getElem (show kk < seg.length by omega)⟩
     obtain ⟨lb, lo, u2, had, hu2, hw2, hrd2⟩ := hseg kk x hx
     subst had
     refine rL (uM rfl ?_)
     refine uF (.pointer (some ⟨b29, 3, none⟩)) rfl (rtfa34_3 _ _ _) ?_
     refine uL _ rfl (run_load1 rtna32 (hv.load 4 3 rfl rfl)) ?_
     refine uG (.pointer (some ⟨rb, ro + 1 * 4, none⟩)) rfl (ex_index rfl rfl rfl (run_idx (k := 1) Tryz.underlying32 k0es32 (by omega))) ?_
     refine uF (.pointer (some ⟨rb, ro + 1 * 4 + 3, none⟩)) rfl (rtfa34_3 _ _ _) ?_
     refine uL _ rfl (run_load1 rtna32 (hrl _ _ _ (Base.Le.refl _) no_res hv 3 _ rfl)) (uM rfl ?_)
     refine uG (.pointer (some ⟨lb, lo + kk * 4, none⟩)) rfl (ex_index rfl rfl rfl (run_idx (k := kk) Tryz.underlying32 k0es32 (by omega))) ?_
     refine uF (.pointer (some ⟨lb, lo + kk * 4 + 1, none⟩)) rfl (k0fa34_1 _ _ _) ?_
     refine uL _ rfl (run_load1 s9na9 (hrd2 _ _ _ (Base.Le.refl _) no_res hv 1 _ rfl)) ?_
     refine sl_rowOne (v := vS x) tV (wn rfl) rfl rfl hv k4el26 rfl (fun b41 w42 hv => ?_)
     simp only [zP, po]
     replace hv := hv.front 1 rfl
     simp only [eS, eZ] at hv
     refine sl_append (news := [vS x]) tV (wn rfl) rfl rfl rfl k4el26 hv (ok_full (by omega)) rfl (rd_all (hv.get 1 rfl)) (by intro u hu; simp only [List.mem_cons, List.not_mem_nil, or_false] at hu; rcases hu with rfl <;> rfl) (by unfold maxLen; omega) (by omega) (fun rv43 w46 hv => ?_)
     obtain ⟨ra44, rc45, rfl⟩ := row_slice hv.head
     refine uA rfl (uZ ?_)
     refine bN (tK k40 ?_)
     refine rL (uM rfl ?_)
     refine uG (vI ((kk + 1 : Nat) : Int)) rfl (ex_add rfl rfl rfl (by rw [i64_in (by omega)]; omega)) (uA rfl ?_)
     refine uZ (then_normal ?_)
     go_roundw
     case rel => exact ⟨kk + 1, _, _, rfl, rfl, by omega, by rw [take_next hx, ← List.append_assoc, ← text_snoc]; exact (hv.kp [5, 5, 5, 5, 4] 5 1)⟩
     case measure => show seg.length - (((kk + 1 : Nat) : Int)).toNat < seg.length - ((kk : Int)).toNat; omega
    refine uG (.bool false) rfl (ex_lss rfl rfl rfl (qF hb39)) (uW k38 ?_)
    refine cF rfl (xE ?_)
    refine tX (tX ?_)
    refine bH (tK k34 ?_)
    refine sK fun _ k47 => ?_
    obtain rfl : kk = seg.length := by omega
    have hab : a + seg.length = b := by
     have h9 := congrArg List.length hcat
     rw [List.length_append, List.length_take, List.length_take] at h9; omega
    subst hab
    rw [List.take_length, hcat] at hv
    refine rL (uF (.pointer (some ⟨b29, 3, none⟩)) rfl (rtfa34_3 _ _ _) ?_)
    refine uL _ rfl (run_load1 rtna32 (hv.load 4 3 rfl rfl)) ?_
    refine uG (.pointer (some ⟨rb, ro + 0 * 4, none⟩)) rfl (ex_index rfl rfl rfl (run_idx (k := 0) Tryz.underlying32 k0es32 (by omega))) ?_
    refine uF (.pointer (some ⟨rb, ro + 0 * 4 + 1, none⟩)) rfl (k0fa34_1 _ _ _) ?_
    refine uL _ rfl (run_load1 s9na9 (hrd0 _ _ _ (Base.Le.refl _) no_res hv 1 _ rfl)) (uA rfl ?_)
    refine uW k47 (sK fun _ k48 => ?_)
    refine rL (uM rfl ?_)
    by_cases hb49 : (Lib.itoa (nx : Int)) = ([48] : List UInt8)
    ·refine uG (.bool true) rfl (ex_seql rfl rfl rfl (qT hb49)) (uW k48 ?_)
     refine cT rfl (sK fun _ k50 => ?_)
     have hn0 : nx = 0 := (itoa_zero (by omega)).1 hb49
     have hall : a + seg.length = (namesT M now).length := by omega
     refine rL (uM rfl ?_)
     refine uL (.agg #[.slice ka K.length kc, vI now, .slice wa wl.length wc]) rfl (lM 3 v2wd28 hv rfl rfl rfl rfl) ?_
     obtain ⟨E, hE, hv, hrg, -, -⟩ := hv.rowBy
     refine xC k4callable12 rfl ((refNames20 E _ _ K wl ka wa kc wc ks now (hRV.more (((hCD.trans hD27).trans hF).trans hE)) (by omega) (by omega) hRK.nodup hv).mono ?_) rfl
     rintro e w51 ⟨Q, ma, mc, hQ, rfl, hmr, hv⟩
     refine ⟨_, rfl, ?_⟩
     simp only [zP, po]
     refine xC k4callable11 rfl ((wordsEqN Q _ _ gb ma gd mc (a + seg.length) (l := (namesT M now).take (a + seg.length)) (by rw [List.length_take]; omega) (by rw [hall, List.take_length]; exact hRK.names hKO.nd) (hrg.more hQ (fun _ h => h)) hmr (by have := namesR_le K now; omega) hv).mono ?_) rfl
     rintro e w52 ⟨rfl, hv⟩
     refine ⟨_, rfl, uA rfl ?_⟩
     refine uW k50 (rR ?_)
     refine bZ (tR ?_)
     refine tR (bZ ?_)
     refine tR (bR rfl rfl ?_)
     exact ⟨rfl, ((hv.kp [] 0 4)).weak (((((hC.trans hCD).trans hD27).trans hF).trans hE).trans hQ)⟩
    refine uG (.bool false) rfl (ex_seql rfl rfl rfl (qF hb49)) (uW k48 ?_)
    refine cF rfl (kS ?_)
    refine bN (tK k23 ?_)
    obtain ⟨hsp, hsq, rfl⟩ : a < a + seg.length ∧ a + seg.length < (namesT M now).length ∧ nx = a + seg.length := hnx.resolve_left fun h9 => hb49 ((itoa_zero (by omega)).2 h9.2)
    refine rL (uM rfl ?_)
    refine uG (vI ((i + 1 : Nat) : Int)) rfl (ex_add rfl rfl rfl (by rw [i64_in (by omega)]; omega)) (uA rfl ?_)
    refine uZ (then_normal ?_)
    go_roundw
    case rel => exact ⟨i + 1, _, _, _, _, rfl, rfl, rfl, ((hCD.trans hD27).trans hF), by omega, by omega, by omega, (hv.kp [3, 3, 3, 3] 4 1)⟩
    case measure => show 20 - (((i + 1 : Nat) : Int)).toNat < 20 - ((i : Int)).toNat; omega
  refine uG (.bool false) rfl (ex_lss rfl rfl rfl (qF hb22)) (uW k21 ?_)
  refine cF rfl (xE ?_)
  refine tX (tX ?_)
  refine bH (tK k17 ?_)
  refine sK fun _ k53 => rL (uA rfl ?_)
  refine uW k53 (rR ?_)
  refine bR rfl rfl ?_
  exfalso; omega
end Go.Proofs.YtngpmolbphinnaaGreatDoor
