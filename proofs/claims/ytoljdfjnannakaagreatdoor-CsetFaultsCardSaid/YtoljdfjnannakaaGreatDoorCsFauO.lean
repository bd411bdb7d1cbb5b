/- Law 24: begun, same, small. -/
import Derived.Test.YtoljdfjnannakaaGreatDoorCsFauB
import Derived.Test.YtoljdfjnannakaaGreatDoorCsFauL
import Derived.Test.YtoljdfjnannakaaGreatDoorCsFauN
import Derived.Test.YtoljdfjnannakaaGreatDoorRows
import Derived.Test.YtoljdfjnannakaaGreatDoorCsFauF
set_option maxRecDepth 100000
set_option maxHeartbeats 16000000
set_option synthInstance.maxSize 4096
set_option synthInstance.maxHeartbeats 400000
namespace Go.Proofs.YtoljdfjnannakaaGreatDoor
open Go.RowKit Go.Pm
theorem res_tct {P : Program} {fn : Func} {w : World} {t : TypeId} {v : Value} {r i j : Nat} (h : fn.results = #[.tmp r, .cell i t, .tmp j]) {tmps : Array Value} {ad : Addr} (hr : tmps.getD i undef = .pointer (some ad)) (hl : (Instr.loadAt t (.pointer (some ad))).run P w = .ok v w) : (results fn tmps).run P w = .ok (.tuple #[tmps.getD r undef, v, tmps.getD j undef]) w := by
 have hl' : (loadVar t ad).run P w = .ok v w := by simpa [Instr.loadAt, Instr.sureAddr] using hl
 have hr' : tmps[i]?.getD undef = .pointer (some ad) := by rw [← hr, Array.getD_eq_getD_getElem?]
 simp [results, h, hr', asAddr, hl']
theorem gDal47 : AL Tryz.prog 47 [vN, vI 0, vN] := fun w => by kernel_rfl
theorem gDcallable7 : Callable Tryz.prog 7 := cb Tryz.func7 (by kernel_rfl)
theorem gDes41 (w : World) : (sizeOf (Tryz.prog.elem 41)).run Tryz.prog w = .ok 7 w := by kernel_rfl
theorem gDwd80 : Wide Tryz.prog 80 7 := wide_of (fun w => by kernel_rfl) (by kernel_rfl)
theorem gDal80 : AL Tryz.prog 80 [vS [], vI 0, vS [], vN, vN, vN, vI 0] := fun w => by kernel_rfl
theorem gDsz80 : (Tryz.prog.info? 80).map (·.size) = some 7 := by kernel_rfl
theorem gDfa80_0 : FA Tryz.prog 80 0 0 := fun w b o => by kernel_rfl
theorem gDfa80_1 : FA Tryz.prog 80 1 1 := fun w b o => by kernel_rfl
theorem gDcallable27 : Callable Tryz.prog 27 := cb Tryz.func27 (by kernel_rfl)
theorem gDcallable28 : Callable Tryz.prog 28 := cb Tryz.func28 (by kernel_rfl)
theorem gDfa80_2 : FA Tryz.prog 80 2 6 := fun w b o => by kernel_rfl
theorem gDcallable30 : Callable Tryz.prog 30 := cb Tryz.func30 (by kernel_rfl)
theorem lawBegun (B : Base) (H : List Res) (w : World) (ad : Option Addr) (n ac : Nat) (hkr : KeysRd B ad n) (clock : Int) (hv : Inv B H w) :
  Calls Tryz.prog 15 #[.slice ad n ac, vI clock] w fun e w' => ∃ C now v t m s p wb va vc sv es M K wl ka wa kc wc xs, B.Le C ∧ 0 ≤ now ∧ now ≤ 1099511627776 ∧ K.length ≤ 10 ∧ wl.length ≤ 10 ∧ VM C es M ∧ OkM M ∧ RelVK M K ∧ KeysOk M 10 ∧ RefV C K wl ka wa kc wc xs ∧ e = .returned (.tuple #[vP v, .agg #[.slice ka K.length kc, vI now, .slice wa wl.length wc], .bool true]) ∧ Inv C (Res.cell v [.iface 62 (vP t)] 39 :: txR t m s p wb va vc sv now es :: H) w' := by
 refine cW Tryz.func15 rfl Tryz.ntmps15 ?_
 simp only [al]
 refine sK fun _ k1 => rL (uA rfl ?_)
 refine sl_alloc tV (wn rfl) rfl hv gDal47 (fun b2 w3 hv => ?_)
 refine uA rfl (uW k1 ?_)
 refine sK fun _ k4 => rL (uM rfl ?_)
 refine uG (vI (if 0 > clock then 0 else clock)) rfl (ex_max2 (m := clock) (n := 0) rfl rfl rfl rfl) ?_
 refine uG (vI (if 1099511627776 < (if 0 > clock then 0 else clock) then 1099511627776 else (if 0 > clock then 0 else clock))) rfl (ex_min2 (m := (if 0 > clock then 0 else clock)) (n := 1099511627776) rfl rfl rfl rfl) (uA rfl ?_)
 refine uW k4 (sK fun _ k5 => ?_)
 obtain ⟨now, hnow⟩ : ∃ n : Int, n = (if 1099511627776 < (if 0 > clock then 0 else clock) then 1099511627776 else (if 0 > clock then 0 else clock)) := ⟨_, rfl⟩
 rw [← hnow]
 have h0 : 0 ≤ now := by rw [hnow]; split <;> (try split) <;> omega
 have h1 : now ≤ 1099511627776 := by rw [hnow]; split <;> (try split) <;> omega
 clear hnow
 refine rL (uM rfl ?_)
 refine xC gDcallable7 rfl ((lawOpened24 B _ _ now h0 h1 hv).mono ?_) rfl
 rintro e w6 ⟨v, t, m, s, p, wb, va, vc, sv, rfl, hv⟩
 refine ⟨_, rfl, uA rfl ?_⟩
 refine uW k5 (sK fun _ k7 => ?_)
 refine rL (uM rfl ?_)
 refine uG (.agg #[vN, vI now, vN]) rfl (ex_buildN (vs := #[(1, vI now)]) rfl (by simp only [List.map_toArray, List.map_cons, List.map_nil]; rfl) (by kernel_rfl)) ?_
 refine sl_alloc tV (wn rfl) rfl hv gDal47 (fun b8 w9 hv => ?_)
 simp only [zP, po]
 refine xS 0 rfl hv v2sz47 rfl (by exact ⟨rfl, rfl, rfl, trivial⟩) (fun w10 hv => ?_)
 simp only [zO, sp] at hv
 refine uW k7 (sK fun _ k11 => ?_)
 refine sK fun _ k12 => rL (uA rfl ?_)
 refine uW k12 (bB ?_)
 gi_loopw [10] (fun x10 wr => ∃ (i : Nat) (C : Base) (es : List (List UInt8 × Value)) (M : List (List UInt8 × Ver)) (K : List KeyR) (wl : List (List UInt8)) (ka wa : Option Addr) (kc wc : Nat) (xs : List Value), x10 = vI i ∧ B.Le C ∧ i ≤ n ∧ (i ≤ 10 ∧ K.length ≤ i ∧ wl.length ≤ i ∧ VM C es M ∧ OkM M ∧ RelVK M K ∧ KeysOk M i ∧ RefV C K wl ka wa kc wc xs) ∧ Inv C (Res.cell v [.iface 62 (vP t)] 39 :: txR t m s p wb va vc sv now es :: Res.cell b8 [.slice ka K.length kc, vI now, .slice wa wl.length wc] 47 :: Res.cell b2 [vN, vI 0, vN] 47 :: H) wr) (fun x10 _ => n - (intOf x10).toNat)
 case atStart => exact ⟨0, B, [], [], [], [], none, none, 0, 0, [], rfl, Base.Le.refl _, Nat.zero_le _, ⟨Nat.zero_le _, Nat.le_refl _, Nat.le_refl _, trivial, OkM.nil, RelVK.nil, ⟨List.Pairwise.nil, Nat.le_refl _, fun k h => (by cases h)⟩, ⟨⟨Nat.le_refl _, Nat.zero_le _, fun _ => rfl⟩, rdV_nil, rfl, ⟨Nat.le_refl _, Nat.zero_le _, fun _ => rfl⟩, rdV_nil⟩⟩, ((((hv.front 3 rfl).front 1 rfl).front 3 rfl).front 3 rfl)⟩
 case round =>
  obtain ⟨i, C, es, M, K, wl, ka, wa, kc, wc, xs, rfl, hBC, hi, ⟨hi10, hKl, hwl, hM, hO, hRK, hKO, hRV⟩, hv⟩ := hrel
  refine sK fun _ k14 => sK fun _ k15 => rL (uM rfl ?_)
  refine uM rfl ?_
  refine uG (vI n) rfl (ex_len0 Tryz.underlying41 rfl rfl) ?_
  by_cases hb16 : (i : Int) < (n : Int)
  ·refine uG (.bool true) rfl (ex_lss rfl rfl rfl (qT hb16)) (uM rfl ?_)
   refine uM rfl ?_
   by_cases hb17 : (i : Int) < 10
   ·refine uG (.bool true) rfl (ex_lss rfl rfl rfl (qT hb17)) (uK rfl ?_)
    refine uW k15 (cT rfl ?_)
    refine kS (tK k14 ?_)
    refine sK fun _ k18 => bB (sK fun _ k19 => ?_)
    obtain ⟨bb, bo, key, x, xp, xt, xz, ex, had, hrd, hrdv⟩ := hkr i (by omega)
    subst had
    refine rL (uM rfl ?_)
    refine uM rfl ?_
    refine uG (.pointer (some ⟨bb, bo + i * 7, none⟩)) rfl (ex_index rfl rfl rfl (run_idx (k := i) Tryz.underlying41 gDes41 (by omega))) ?_
    refine uL (.agg #[vS key, vI x.kind, vS x.text, xp, xt, xz, vI ex]) rfl (run_loadR (cs := [vS key, vI x.kind, vS x.text, xp, xt, xz, vI ex]) gDwd80 (Reads.mid (pre := []) (mid := [vS key, vI x.kind, vS x.text, xp, xt, xz, vI ex]) (post := []) hrd _ _ _ hBC no_res hv)) ?_
    refine sl_alloc tV (wn rfl) rfl hv gDal80 (fun b20 w21 hv => ?_)
    refine xS 0 rfl hv gDsz80 rfl (by exact ⟨rfl, rfl, rfl, hrdv.p.one, hrdv.t.one, hrdv.z.one, rfl, trivial⟩) (fun w22 hv => ?_)
    simp only [zO, sp] at hv
    refine uW k19 (sK fun _ k23 => ?_)
    refine sK fun _ k24 => rL (uF (vP b20) rfl (gDfa80_0 _ _ _) ?_)
    refine uL _ rfl (run_load1 s9na9 (hv.load 0 0 rfl rfl)) ?_
    refine uG (vI (key.length : Int)) rfl (ex_lenStr Tryz.underlying9 rfl rfl) ?_
    by_cases hb25 : (key.length : Int) > 256
    ·refine uG (.bool true) rfl (ex_gtr rfl rfl rfl (qT hb25)) (uM rfl ?_)
     iterate 4 refine uP rfl ?_
     refine uK rfl (uM rfl ?_)
     iterate 4 refine uP rfl ?_
     refine uK rfl (uM rfl ?_)
     iterate 3 refine uP rfl ?_
     refine uK rfl (uM rfl ?_)
     iterate 3 refine uP rfl ?_
     refine uK rfl (uW k24 ?_)
     refine cT rfl (xE ?_)
     refine tX (bH ?_)
     refine tK k18 (rL ?_)
     refine uM rfl ?_
     refine uG (vI ((i + 1 : Nat) : Int)) rfl (ex_add rfl rfl rfl (by rw [i64_in (by omega)]; omega)) (uA rfl ?_)
     refine uZ (then_normal ?_)
     go_roundw
     case rel => exact ⟨i + 1, _, _, _, _, _, _, _, _, _, _, rfl, hBC, by omega, ⟨by omega, by omega, by omega, hM, hO, hRK, ⟨hKO.nd, by have := hKO.len; omega, hKO.sh⟩, hRV⟩, (hv.kp [4, 4, 4, 4] 4 1)⟩
     case measure => show n - (((i + 1 : Nat) : Int)).toNat < n - ((i : Int)).toNat; omega
    refine uG (.bool false) rfl (ex_gtr rfl rfl rfl (qF hb25)) (uM rfl ?_)
    refine uF (.pointer (some ⟨b20, 1, none⟩)) rfl (gDfa80_1 _ _ _) ?_
    refine uL (.agg #[vI x.kind, vS x.text, xp, xt, xz]) rfl (lM 0 s1wd78 hv rfl rfl rfl rfl) ?_
    refine xC gDcallable27 rfl ((refSmall C _ _ x xp xt xz (hrdv.more hBC) hv).mono ?_) rfl
    rintro e w27 ⟨bl26, rfl, hbl26, hv⟩
    refine ⟨_, rfl, ?_⟩
    cases bl26
    ·refine uG (.bool true) rfl (ex_not rfl rfl rfl) (uK rfl ?_)
     refine uM rfl ?_
     iterate 4 refine uP rfl ?_
     refine uK rfl (uM rfl ?_)
     iterate 3 refine uP rfl ?_
     refine uK rfl (uM rfl ?_)
     iterate 3 refine uP rfl ?_
     refine uK rfl (uW k24 ?_)
     refine cT rfl (xE ?_)
     refine tX (bH ?_)
     refine tK k18 (rL ?_)
     refine uM rfl ?_
     refine uG (vI ((i + 1 : Nat) : Int)) rfl (ex_add rfl rfl rfl (by rw [i64_in (by omega)]; omega)) (uA rfl ?_)
     refine uZ (then_normal ?_)
     go_roundw
     case rel => exact ⟨i + 1, _, _, _, _, _, _, _, _, _, _, rfl, hBC, by omega, ⟨by omega, by omega, by omega, hM, hO, hRK, ⟨hKO.nd, by have := hKO.len; omega, hKO.sh⟩, hRV⟩, (hv.kp [4, 4, 4, 4] 4 1)⟩
     case measure => show n - (((i + 1 : Nat) : Int)).toNat < n - ((i : Int)).toNat; omega
    have hva := valRd_at2 hrdv (hbl26 rfl)
    refine uG (.bool false) rfl (ex_not rfl rfl rfl) (uK rfl ?_)
    refine uM rfl ?_
    refine uF (.pointer (some ⟨b20, 1, none⟩)) rfl (gDfa80_1 _ _ _) ?_
    refine uL (.agg #[vI x.kind, vS x.text, xp, xt, xz]) rfl (lM 0 s1wd78 hv rfl rfl rfl rfl) ?_
    refine xC gDcallable28 rfl ((refRightV C _ _ x xp xt xz (hva.more hBC) hv).mono ?_) rfl
    rintro e w29 ⟨bl28, rfl, hbl28, hv⟩
    refine ⟨_, rfl, ?_⟩
    cases bl28
    ·refine uG (.bool true) rfl (ex_not rfl rfl rfl) (uK rfl ?_)
     refine uM rfl ?_
     iterate 3 refine uP rfl ?_
     refine uK rfl (uM rfl ?_)
     iterate 3 refine uP rfl ?_
     refine uK rfl (uW k24 ?_)
     refine cT rfl (xE ?_)
     refine tX (bH ?_)
     refine tK k18 (rL ?_)
     refine uM rfl ?_
     refine uG (vI ((i + 1 : Nat) : Int)) rfl (ex_add rfl rfl rfl (by rw [i64_in (by omega)]; omega)) (uA rfl ?_)
     refine uZ (then_normal ?_)
     go_roundw
     case rel => exact ⟨i + 1, _, _, _, _, _, _, _, _, _, _, rfl, hBC, by omega, ⟨by omega, by omega, by omega, hM, hO, hRK, ⟨hKO.nd, by have := hKO.len; omega, hKO.sh⟩, hRV⟩, (hv.kp [4, 4, 4, 4] 4 1)⟩
     case measure => show n - (((i + 1 : Nat) : Int)).toNat < n - ((i : Int)).toNat; omega
    refine uG (.bool false) rfl (ex_not rfl rfl rfl) (uK rfl ?_)
    refine uM rfl ?_
    refine uF (.pointer (some ⟨b20, 6, none⟩)) rfl (gDfa80_2 _ _ _) ?_
    refine uL _ rfl (run_load1 s2na3 (hv.load 0 6 rfl rfl)) ?_
    by_cases hb30 : ex < 0
    ·refine uG (.bool true) rfl (ex_lss rfl rfl rfl (qT hb30)) (uK rfl ?_)
     refine uM rfl ?_
     iterate 3 refine uP rfl ?_
     refine uK rfl (uW k24 ?_)
     refine cT rfl (xE ?_)
     refine tX (bH ?_)
     refine tK k18 (rL ?_)
     refine uM rfl ?_
     refine uG (vI ((i + 1 : Nat) : Int)) rfl (ex_add rfl rfl rfl (by rw [i64_in (by omega)]; omega)) (uA rfl ?_)
     refine uZ (then_normal ?_)
     go_roundw
     case rel => exact ⟨i + 1, _, _, _, _, _, _, _, _, _, _, rfl, hBC, by omega, ⟨by omega, by omega, by omega, hM, hO, hRK, ⟨hKO.nd, by have := hKO.len; omega, hKO.sh⟩, hRV⟩, (hv.kp [4, 4, 4, 4] 4 1)⟩
     case measure => show n - (((i + 1 : Nat) : Int)).toNat < n - ((i : Int)).toNat; omega
    refine uG (.bool false) rfl (ex_lss rfl rfl rfl (qF hb30)) (uK rfl ?_)
    refine uM rfl ?_
    refine uF (.pointer (some ⟨b20, 6, none⟩)) rfl (gDfa80_2 _ _ _) ?_
    refine uL _ rfl (run_load1 s2na3 (hv.load 0 6 rfl rfl)) ?_
    by_cases hb31 : ex > 1099511627776
    ·refine uG (.bool true) rfl (ex_gtr rfl rfl rfl (qT hb31)) (uK rfl ?_)
     refine uW k24 (cT rfl ?_)
     refine xE (tX ?_)
     refine bH (tK k18 ?_)
     refine rL (uM rfl ?_)
     refine uG (vI ((i + 1 : Nat) : Int)) rfl (ex_add rfl rfl rfl (by rw [i64_in (by omega)]; omega)) (uA rfl ?_)
     refine uZ (then_normal ?_)
     go_roundw
     case rel => exact ⟨i + 1, _, _, _, _, _, _, _, _, _, _, rfl, hBC, by omega, ⟨by omega, by omega, by omega, hM, hO, hRK, ⟨hKO.nd, by have := hKO.len; omega, hKO.sh⟩, hRV⟩, (hv.kp [4, 4, 4, 4] 4 1)⟩
     case measure => show n - (((i + 1 : Nat) : Int)).toNat < n - ((i : Int)).toNat; omega
    refine uG (.bool false) rfl (ex_gtr rfl rfl rfl (qF hb31)) (uK rfl ?_)
    refine uW k24 (cF rfl ?_)
    refine kS (tK k23 ?_)
    refine sK fun _ k32 => sK fun _ k33 => rL (uM rfl ?_)
    refine uF (vP b20) rfl (gDfa80_0 _ _ _) ?_
    refine uL _ rfl (run_load1 s9na9 (hv.load 0 0 rfl rfl)) ?_
    refine uF (.pointer (some ⟨b20, 1, none⟩)) rfl (gDfa80_1 _ _ _) ?_
    refine uL (.agg #[vI x.kind, vS x.text, xp, xt, xz]) rfl (lM 0 s1wd78 hv rfl rfl rfl rfl) ?_
    refine uF (.pointer (some ⟨b20, 6, none⟩)) rfl (gDfa80_2 _ _ _) ?_
    refine uL _ rfl (run_load1 s2na3 (hv.load 0 6 rfl rfl)) ?_
    replace hv := hv.front 2 rfl
    simp only [eS, eZ] at hv
    replace hv := hv.front 2 rfl
    simp only [eS, eZ] at hv
    refine xC c1callable29 rfl ((viewKeep C _ _ v t m s p wb va vc sv now es M key x xp xt xz ex (hM.more (Base.Le.refl _)) (hva.more hBC) hv).mono ?_) rfl
    rintro e w34 ⟨D, es2, M2, ec, hD, rfl, hM2, hkp, hv⟩
    refine ⟨_, rfl, ?_⟩
    have hO2 := hO.keep hkp
    obtain ⟨hec, hmm⟩ := keep_ok (by omega) (fun _ => ⟨by omega, hbl28.1 rfl, by omega, by omega⟩) hkp
    subst hec
    refine uG (.bool false) rfl (ex_neq rfl rfl rfl (by decide)) (uW k33 ?_)
    refine cF rfl (kS ?_)
    refine tK k32 (rL ?_)
    refine uL (.agg #[.slice ka K.length kc, vI now, .slice wa wl.length wc]) rfl (lM 3 v2wd47 hv rfl rfl rfl rfl) ?_
    refine uF (vP b20) rfl (gDfa80_0 _ _ _) ?_
    refine uL _ rfl (run_load1 s9na9 (hv.load 2 0 rfl rfl)) ?_
    refine uF (.pointer (some ⟨b20, 1, none⟩)) rfl (gDfa80_1 _ _ _) ?_
    refine uL (.agg #[vI x.kind, vS x.text, xp, xt, xz]) rfl (lM 2 s1wd78 hv rfl rfl rfl rfl) ?_
    refine uF (.pointer (some ⟨b20, 6, none⟩)) rfl (gDfa80_2 _ _ _) ?_
    refine uL _ rfl (run_load1 s2na3 (hv.load 2 6 rfl rfl)) ?_
    refine xC gDcallable30 rfl ((refPut20 D _ _ K wl ka wa kc wc xs now (hRV.more hD) (by omega) (by omega) (hRK.short hKO) key x xp xt xz ex (hva.more (hBC.trans hD)) hv).mono ?_) rfl
    rintro e w35 ⟨E, K2, wl2, ka2, kc2, wa2, wc2, xs2, hE, rfl, hRV2, hK2, hwl2, hv⟩
    refine ⟨_, rfl, ?_⟩
    have hRK2 := rel_step hRK hmm hK2
    have hKO2 := hKO.step (by omega) hmm
    have hKl2 := putK_len hK2
    refine xS 3 rfl hv v2sz47 rfl (by exact ⟨rfl, rfl, rfl, trivial⟩) (fun w36 hv => ?_)
    simp only [zS, zO, sp] at hv
    refine uZ (bN ?_)
    refine tK k18 (rL ?_)
    refine uM rfl ?_
    refine uG (vI ((i + 1 : Nat) : Int)) rfl (ex_add rfl rfl rfl (by rw [i64_in (by omega)]; omega)) (uA rfl ?_)
    refine uZ (then_normal ?_)
    go_roundw
    case rel => exact ⟨i + 1, _, _, _, _, _, _, _, _, _, _, rfl, ((hBC.trans hD).trans hE), by omega, ⟨by omega, by omega, by omega, hM2.more hE, hO2, hRK2, hKO2, hRV2.more (Base.Le.refl _)⟩, (hv.kp [4, 4, 3, 3] 4 1)⟩
    case measure => show n - (((i + 1 : Nat) : Int)).toNat < n - ((i : Int)).toNat; omega
   refine uG (.bool false) rfl (ex_lss rfl rfl rfl (qF hb17)) (uK rfl ?_)
   refine uW k15 (cF rfl ?_)
   refine xE (tX ?_)
   refine tX (bH ?_)
   refine tK k11 (sK fun _ k37 => ?_)
   refine rW mixed [3] [0,1,2,3,4] 80 rfl (by kernel_rfl) hv ?_
   simp only [qm, opAt]
   refine dM (vP v) rfl (dL (.agg #[.slice ka K.length kc, vI now, .slice wa wl.length wc]) rfl (fun hv => ex_load rfl rfl (lM 2 v2wd47 hv rfl rfl rfl rfl)) ?_)
   refine dA (vP v) rfl ?_
   simp only [zP, po]
   refine dS rfl fun w38 hv => mS 3 rfl hv v2sz47 rfl (by exact ⟨rfl, rfl, rfl, trivial⟩) (fun w39 hv => ?_)
   simp only [zS, zO, sp] at hv
   refine dW hv (dA (.bool true) rfl ?_)
   refine dE fun w40 hv => ?_
   simp only [zP, po]
   refine tK k37 (rR ?_)
   refine bodyPost_ret (res_tct rfl rfl (lM 3 v2wd47 hv rfl rfl rfl rfl)) rfl (⟨C, now, v, t, m, s, p, wb, va, vc, sv, es, M, K, wl, ka, wa, kc, wc, xs, hBC, h0, h1, by omega, by omega, hM, hO, hRK, ⟨hKO.nd, by have := hKO.len; omega, hKO.sh⟩, hRV, rfl, (hv.kp [1, 1] 2 2)⟩)
  refine uG (.bool false) rfl (ex_lss rfl rfl rfl (qF hb16)) (uM rfl ?_)
  refine uP rfl ?_
  refine uP rfl (uK rfl ?_)
  refine uW k15 (cF rfl ?_)
  refine xE (tX ?_)
  refine tX (bH ?_)
  refine tK k11 (sK fun _ k41 => ?_)
  refine rW mixed [3] [0,1,2,3,4] 80 rfl (by kernel_rfl) hv ?_
  simp only [qm, opAt]
  refine dM (vP v) rfl (dL (.agg #[.slice ka K.length kc, vI now, .slice wa wl.length wc]) rfl (fun hv => ex_load rfl rfl (lM 2 v2wd47 hv rfl rfl rfl rfl)) ?_)
  refine dA (vP v) rfl ?_
  simp only [zP, po]
  refine dS rfl fun w42 hv => mS 3 rfl hv v2sz47 rfl (by exact ⟨rfl, rfl, rfl, trivial⟩) (fun w43 hv => ?_)
  simp only [zS, zO, sp] at hv
  refine dW hv (dA (.bool true) rfl ?_)
  refine dE fun w44 hv => ?_
  simp only [zP, po]
  refine tK k41 (rR ?_)
  refine bodyPost_ret (res_tct rfl rfl (lM 3 v2wd47 hv rfl rfl rfl rfl)) rfl (⟨C, now, v, t, m, s, p, wb, va, vc, sv, es, M, K, wl, ka, wa, kc, wc, xs, hBC, h0, h1, by omega, by omega, hM, hO, hRK, ⟨hKO.nd, by have := hKO.len; omega, hKO.sh⟩, hRV, rfl, (hv.kp [1, 1] 2 2)⟩)
section
variable {M : List (List UInt8 × Ver)} {now : Int} {name : List UInt8} {y : Ver} {ok : Bool} {k : KeyR}
theorem got_yes (h : (ok = true ∧ lookA M name = some y ∧ aliveB y now = true) ∨ (ok = false ∧ y = zver0 ∧ ∀ y9, lookA M name = some y9 → aliveB y9 now = false)) (hl : lookA M name = some ⟨0, false, k.exp, k.val⟩) (ha : aliveB ⟨0, false, k.exp, k.val⟩ now = true) : ok = true ∧ y = kver k := by
 rcases h with ⟨h1, h2, -⟩ | ⟨-, -, h2⟩
 ·rw [hl] at h2; cases h2; exact ⟨h1, rfl⟩
 rw [h2 _ hl] at ha; cases ha
theorem got_no (h : (ok = true ∧ lookA M name = some y ∧ aliveB y now = true) ∨ (ok = false ∧ y = zver0 ∧ ∀ y9, lookA M name = some y9 → aliveB y9 now = false)) (hd : DeadM M now name) : ok = false ∧ y = zver0 := by
 rcases h with ⟨-, h2, h3⟩ | ⟨h1, h2, -⟩
 ·rw [hd y h2] at h3; cases h3
 exact ⟨h1, h2⟩
end
theorem getKB (B : Base) (H : List Res) (w : World) (K : List KeyR) (wl : List (List UInt8)) (ka wa : Option Addr) (kc wc : Nat) (xs : List Value) (clk : Int) (hR : RefV B K wl ka wa kc wc xs) (hm : K.length ≤ 10000) (hmw : wl.length ≤ 10000) (name : List UInt8) (hv : Inv B H w) : Calls Tryz.prog 32 #[.agg #[.slice ka K.length kc, vI clk, .slice wa wl.length wc], vS name] w fun e w' => ∃ x p' t' z' ok, e = .returned (.tuple #[.agg (krCells x p' t' z').toArray, .bool ok]) ∧ ((ok = true ∧ getK K clk name = some x) ∨ (ok = false ∧ x = zkey ∧ getK K clk name = none)) ∧ ValAt B x.val p' t' z' ∧ Inv B H w' := by
 refine (refGet20 B H w K wl ka wa kc wc xs clk hR hm hmw name hv).mono ?_
 rintro e w' ⟨x, p', t', z', ok, rfl, h1, h2, h3⟩
 exact ⟨x, p', t', z', ok, rfl, h1.imp (fun h => ⟨h.1, h.2.1⟩) (fun h => ⟨h.1, h.2.1, h.2.2.1⟩), h2, h3⟩
theorem gFcallable197 : Callable Tryz.prog 197 := cb Tryz.func197 (by kernel_rfl)
theorem gFcallable31 : Callable Tryz.prog 31 := cb Tryz.func31 (by kernel_rfl)
theorem gFal85 : AL Tryz.prog 85 [vI 0, .bool false, vI 0, vI 0, vS [], vN, vN, vN] := fun w => by kernel_rfl
theorem gFal88 : AL Tryz.prog 88 [vS [], vI 0, vS [], vN, vN, vN, vI 0] := fun w => by kernel_rfl
theorem gFfa88_1 : FA Tryz.prog 88 1 1 := fun w b o => by kernel_rfl
theorem gFcallable33 : Callable Tryz.prog 33 := cb Tryz.func33 (by kernel_rfl)
theorem lawSame (B : Base) (H : List Res) (w : World) (v t m s p wb : Nat) (va : Option Addr) (vc : Nat) (sv : Value) (now : Int) (es : List (List UInt8 × Value)) (M : List (List UInt8 × Ver)) (K : List KeyR) (wl : List (List UInt8)) (ka wa : Option Addr) (kc wc : Nat) (xs : List Value) (hM : VM B es M) (hRK : RelVK M K) (hKO : KeysOk M 10) (hRV : RefV B K wl ka wa kc wc xs) (hKl : K.length ≤ 10) (hwl : wl.length ≤ 10) (hv : Inv B (Res.cell v [.iface 62 (vP t)] 39 :: txR t m s p wb va vc sv now es :: H) w) :
  Calls Tryz.prog 16 #[vP v, .agg #[.slice ka K.length kc, vI now, .slice wa wl.length wc]] w fun e w' => e = .returned (.bool true) ∧ Inv B (Res.cell v [.iface 62 (vP t)] 39 :: txR t m s p wb va vc sv now es :: H) w' := by
 refine cW Tryz.func16 rfl Tryz.ntmps16 ?_
 simp only [al]
 refine sK fun _ k1 => rL (sl_box (L := [.slice ka K.length kc, vI now, .slice wa wl.length wc]) tV (wn rfl) rfl rfl hv (fun w => by kernel_rfl) (fun b2 w3 hv => ?_))
 refine uA rfl (uW k1 ?_)
 refine sK fun _ k4 => sK fun _ k5 => rW mixed [4, 6, 7] [0,1,2,3,5,4,6,7,8] 71 rfl (by kernel_rfl) hv ?_
 simp only [qm, opAt]
 refine dM (vP v) rfl (dG (vP v) rfl (ex_nil rfl rfl) ?_)
 refine dG (vP v) rfl (ex_field rfl rfl (v1fa39_0 _ _ _)) ?_
 simp only [zP, po]
 refine dL _ rfl (fun hv => ex_load rfl rfl (run_load1 v1na37 (hv.load 1 0 rfl rfl))) (dF (.agg #[.slice ka K.length kc, vI now, .slice wa wl.length wc]) rfl (fun hv => ex_load rfl rfl (lM 0 v2wd47 hv rfl rfl rfl rfl)) fun f6 hf6 => ?_)
 refine dS rfl fun w7 hv => ?_
 replace hv := hv.front 2 rfl
 simp only [eS, eZ] at hv
 refine stepMem_callI gFcallable197 rfl rfl rfl (r := vP t) (fun w => by kernel_rfl) (args := #[]) (by simp only [List.map_toArray, List.map_nil]) ((txnNamesB B _ _ t m s p wb va vc sv now es M (hM.more (Base.Le.refl _)) hKO.sh (by have := hKO.len; omega) hv).mono ?_)
 rintro e w8 ⟨P, na, nc, hP, rfl, hnr, hv⟩
 refine ⟨_, rfl, dV hv (fC (fun ww hv => hf6 ww ?_) fN) ?_⟩
 ·exact ex_load rfl rfl (lM 1 v2wd47 hv rfl rfl rfl rfl)
 simp only [zP, po]
 refine dS rfl fun w9 hv => mC gFcallable31 rfl ((refNames20 P _ _ K wl ka wa kc wc xs now (hRV.more hP) (by omega) (by omega) hRK.nodup hv).mono ?_) rfl
 rintro e w10 ⟨Q, ma, mc, hQ, rfl, hmr, hv⟩
 refine ⟨_, rfl, dV hv (fK rfl fN) ?_⟩
 refine dS rfl fun w11 hv => mC s18callable12 rfl ((wordsEq Q _ _ na ma nc mc (hRK.names hKO.nd) (hnr.more hQ (fun _ h => h)) hmr (by have := namesR_le K now; omega) hv).mono ?_) rfl
 rintro e w12 ⟨rfl, hv⟩
 refine ⟨_, rfl, dV hv (fK rfl fN) ?_⟩
 refine dG (.bool false) rfl (ex_not rfl rfl rfl) (dE fun w13 hv => ?_)
 simp only [zP, po]
 refine tK k5 (cF rfl ?_)
 refine kS (tK k4 ?_)
 refine sK fun _ k14 => sK fun _ k15 => rL (uA rfl ?_)
 refine uW k15 (bB ?_)
 gi_loopw [5] (fun x5 wr => ∃ (i : Nat), x5 = vI i ∧ i ≤ K.length ∧ Inv B (Res.cell v [.iface 62 (vP t)] 39 :: txR t m s p wb va vc sv now es :: Res.cell b2 [.slice ka K.length kc, vI now, .slice wa wl.length wc] 47 :: H) wr) (fun x5 _ => K.length - (intOf x5).toNat)
 case atStart => exact ⟨0, rfl, Nat.zero_le _, ((((hv.front 1 rfl).front 1 rfl).front 2 rfl)).weak (hP.trans hQ)⟩
 case round =>
  obtain ⟨i, rfl, hi, hv⟩ := hrel
  refine sK fun _ k17 => sK fun _ k18 => rL (uM rfl ?_)
  refine uF (vP b2) rfl (v2fa47_0 _ _ _) ?_
  refine uL _ rfl (run_load1 v2na45 (hv.load 2 0 rfl rfl)) ?_
  refine uG (vI (K.length : Int)) rfl (ex_len0 Tryz.underlying45 rfl rfl) ?_
  by_cases hb19 : (i : Int) < (K.length : Int)
  ·refine uG (.bool true) rfl (ex_lss rfl rfl rfl (qT hb19)) (uW k18 ?_)
   refine cT rfl (kS ?_)
   refine tK k17 (sK fun _ k20 => ?_)
   refine bB (sK fun _ k21 => ?_)
   obtain ⟨x, hx⟩ : ∃ x, K[i]? = some x := ⟨_, List.getElem?_eq_getElem (show i < K.length by omega)⟩
   obtain ⟨kb, ko, xp, xt, xz, had, hvalx, hrdx⟩ := KeysAt.reads hRV.at_ hRV.keys hx
   subst had
   refine rT mixed (fun az wz => ∃ (G : Base) (y : Ver) (yp yt yz : Value) (ok : Bool) (b28 : Nat), (B.Le G) ∧ (ValAt G y.val yp yt yz) ∧ (((ok = true ∧ lookA M x.name = some y ∧ aliveB y now = true) ∨ (ok = false ∧ y = zver0 ∧ ∀ y9, lookA M x.name = some y9 → aliveB y9 now = false))) ∧ az = { tmps := List.toArray (vP v :: .agg #[.slice (some ⟨kb, ko, none⟩) K.length kc, vI now, .slice wa wl.length wc] :: undef :: vP b2 :: u4 :: vI i :: vP b28 :: .bool ok :: u8 :: u9 :: vP v :: vP v :: vP v :: .iface 62 (vP t) :: .slice na ((namesT M now).length) nc :: .agg #[.slice (some ⟨kb, ko, none⟩) K.length kc, vI now, .slice wa wl.length wc] :: .slice ma ((namesR K now).length) mc :: .bool true :: .bool false :: vI i :: vP b2 :: .slice (some ⟨kb, ko, none⟩) K.length kc :: vI (K.length : Int) :: .bool true :: u24 :: u25 :: .tuple #[.agg #[vI y.stamp, .bool y.gone, vI y.expire, vI y.val.kind, vS y.val.text, yp, yt, yz], .bool ok] :: vP v :: vP v :: vP v :: .iface 62 (vP t) :: vP b2 :: .slice (some ⟨kb, ko, none⟩) K.length kc :: vI i :: .pointer (some ⟨kb, ko + i * 7, none⟩) :: .pointer (some ⟨kb, ko + i * 7, none⟩) :: vS x.name :: .iface 62 (vP t) :: .iface 62 (vP t) :: .tuple #[.agg #[vI y.stamp, .bool y.gone, vI y.expire, vI y.val.kind, vS y.val.text, yp, yt, yz], .bool ok] :: .agg #[vI y.stamp, .bool y.gone, vI y.expire, vI y.val.kind, vS y.val.text, yp, yt, yz] :: .bool ok :: u42 :: u43 :: u44 :: u45 :: u46 :: u47 :: u48 :: u49 :: u50 :: u51 :: u52 :: u53 :: u54 :: u55 :: u56 :: u57 :: u58 :: u59 :: u60 :: u61 :: u62 :: u63 :: u64 :: u65 :: u66 :: u67 :: u68 :: u69 :: u70 :: []), defers := [] } ∧ Inv G (Res.cell b28 [vI y.stamp, .bool y.gone, vI y.expire, vI y.val.kind, vS y.val.text, yp, yt, yz] 85 :: txR t m s p wb va vc sv now es :: Res.cell v [.iface 62 (vP t)] 39 :: Res.cell b2 [.slice (some ⟨kb, ko, none⟩) K.length kc, vI now, .slice wa wl.length wc] 47 :: H) wz) [12, 16, 17] [0,1,2,3,4,5,6,7,8,9,10,11] [13,14,15,16,17,18] [12,13,14,15,17,18] 12 16 71 rfl (by kernel_rfl) hv ?_ ?_
   ·intro R2 l1 l2 hR2 hl1 hl2
    simp only [qm, opAt]
    refine tG (vP v) rfl (ex_move rfl rfl) (tG (vP v) rfl (ex_nil rfl rfl) ?_)
    simp only [zP, po]
    refine tG (vP v) rfl (ex_field rfl rfl (v1fa39_0 _ _ _)) (tF (.iface 62 (vP t)) rfl (fun hv => ex_load rfl rfl (run_load1 v1na37 (hv.load 0 0 rfl rfl))) fun f22 hf22 => ?_)
    simp only [zP, po]
    refine tG (vP b2) rfl (ex_field rfl rfl (v2fa47_0 _ _ _)) (tF (.slice (some ⟨kb, ko, none⟩) K.length kc) rfl (fun hv => ex_load rfl rfl (run_load1 v2na45 (hv.load 2 0 rfl rfl))) fun f23 hf23 => ?_)
    simp only [zP, po]
    refine tG (vI i) rfl (ex_move rfl rfl) (tG (.pointer (some ⟨kb, ko + i * 7, none⟩)) rfl (ex_index rfl rfl rfl (run_idx (k := i) Tryz.underlying45 v2es45 (by omega))) ?_)
    simp only [zP, po]
    refine tG (.pointer (some ⟨kb, ko + i * 7, none⟩)) rfl (ex_field rfl rfl (v2fa88_0 _ _ _)) (tF (vS x.name) rfl (fun hv => ex_load rfl rfl (run_load1 s9na9 (hrdx _ _ _ (Base.Le.refl _) no_res hv 0 _ rfl))) fun f24 hf24 => ?_)
    simp only [zP, po]
    refine tG (.iface 62 (vP t)) rfl (ex_nilI rfl rfl) (tG (.iface 62 (vP t)) rfl (ex_move rfl rfl) ?_)
    simp only [zP, po]
    refine tB ?_ ?_
    ·rw [hl1]; clear hl1 hl2
     simp only [qm, opAt]
     refine dS rfl fun w25 hv => ?_
     replace hv := hv.front 1 rfl
     simp only [eS, eZ] at hv
     refine stepMem_callI v1callable196 rfl rfl rfl (r := vP t) (fun w => by kernel_rfl) (args := #[vS x.name]) (by simp only [List.map_toArray, List.map_cons, List.map_nil]; rfl) ((txnGet B _ _ t m s p wb va vc sv now es M x.name (hM.more (Base.Le.refl _)) hv).mono ?_)
     rintro e w26 ⟨G, y, yp, yt, yz, ok, hG, rfl, hgot, hyv, hv⟩
     refine ⟨_, rfl, dV hv (fK rfl (fK rfl (fK rfl fN))) ?_⟩
     refine dM (.tuple #[.agg #[vI y.stamp, .bool y.gone, vI y.expire, vI y.val.kind, vS y.val.text, yp, yt, yz], .bool ok]) rfl (dG (.agg #[vI y.stamp, .bool y.gone, vI y.expire, vI y.val.kind, vS y.val.text, yp, yt, yz]) rfl (ex_extract rfl rfl rfl) ?_)
     simp only [zP, po]
     refine dG (.bool ok) rfl (ex_extract rfl rfl rfl) (dS rfl fun w27 hv => ?_)
     refine mem_alloc rfl rfl hv gFal85 (fun b28 w29 hv => ?_)
     refine dV hv (fC (fun ww hv => hf24 ww (ex_load rfl rfl (run_load1 s9na9 (hrdx _ _ _ hG no_res hv 0 _ rfl)))) (fC (fun ww hv => hf23 ww (ex_load rfl rfl (run_load1 v2na45 (hv.load 3 0 rfl rfl)))) (fC (fun ww hv => hf22 ww (ex_load rfl rfl (run_load1 v1na37 (hv.load 2 0 rfl rfl)))) fN))) (dS rfl fun w30 hv => ?_)
     refine mS 0 rfl hv x0sz85 rfl (by exact ⟨rfl, rfl, rfl, rfl, rfl, hyv.p.one, hyv.t.one, hyv.z.one, trivial⟩) (fun w31 hv => ?_)
     simp only [zO, sp] at hv
     refine dV hv (fK rfl (fK rfl (fK rfl fN))) ?_
     simp only [zP, po]
     refine dA (.bool ok) rfl (dE fun wz hv => ?_)
     simp only [zP, po]
     exact hR2 _ _ ⟨G, y, yp, yt, yz, ok, b28, hG, hyv, hgot, rfl, ((((hv.front 3 rfl).front 3 rfl).front 3 rfl).front 3 rfl)⟩
    rw [hl2]; clear hl1 hl2
    simp only [qm, opAt]
    refine dS rfl fun w32 hv => mem_alloc rfl rfl hv gFal85 (fun b33 w34 hv => ?_)
    refine dV hv (fC (fun ww hv => hf24 ww (ex_load rfl rfl (run_load1 s9na9 (hrdx _ _ _ (Base.Le.refl _) no_res hv 0 _ rfl)))) (fC (fun ww hv => hf23 ww (ex_load rfl rfl (run_load1 v2na45 (hv.load 3 0 rfl rfl)))) (fC (fun ww hv => hf22 ww (ex_load rfl rfl (run_load1 v1na37 (hv.load 1 0 rfl rfl)))) fN))) (dS rfl fun w35 hv => ?_)
    replace hv := hv.front 2 rfl
    simp only [eS, eZ] at hv
    refine stepMem_callI v1callable196 rfl rfl rfl (r := vP t) (fun w => by kernel_rfl) (args := #[vS x.name]) (by simp only [List.map_toArray, List.map_cons, List.map_nil]; rfl) ((txnGet B _ _ t m s p wb va vc sv now es M x.name (hM.more (Base.Le.refl _)) hv).mono ?_)
    rintro e w36 ⟨G, y, yp, yt, yz, ok, hG, rfl, hgot, hyv, hv⟩
    refine ⟨_, rfl, dV hv (fK rfl (fK rfl (fK rfl fN))) ?_⟩
    refine dM (.tuple #[.agg #[vI y.stamp, .bool y.gone, vI y.expire, vI y.val.kind, vS y.val.text, yp, yt, yz], .bool ok]) rfl ?_
    simp only [zP, po]
    refine dG (.agg #[vI y.stamp, .bool y.gone, vI y.expire, vI y.val.kind, vS y.val.text, yp, yt, yz]) rfl (ex_extract rfl rfl rfl) (dG (.bool ok) rfl (ex_extract rfl rfl rfl) ?_)
    refine dS rfl fun w37 hv => mS 1 rfl hv x0sz85 rfl (by exact ⟨rfl, rfl, rfl, rfl, rfl, hyv.p.one, hyv.t.one, hyv.z.one, trivial⟩) (fun w38 hv => ?_)
    simp only [zS, zO, sp] at hv
    refine dV hv (fK rfl (fK rfl (fK rfl fN))) ?_
    simp only [zP, po]
    refine dA (.bool ok) rfl (dE fun wz hv => ?_)
    simp only [zP, po]
    exact hR2 _ _ ⟨G, y, yp, yt, yz, ok, b33, hG, hyv, hgot, rfl, ((((hv.front 3 rfl).front 3 rfl).front 2 rfl).front 3 rfl)⟩
   rintro _ w39 ⟨G, y, yp, yt, yz, ok, b28, hG, hyv, hgot, rfl, hv⟩
   refine tK k21 (sK fun _ k40 => ?_)
   refine rT mixed (fun az wz => ∃ (k : KeyR) (kp kt kz : Value) (ok2 : Bool) (b47 : Nat), (ValAt G k.val kp kt kz) ∧ (((ok2 = true ∧ getK K now x.name = some k) ∨ (ok2 = false ∧ k = zkey ∧ getK K now x.name = none))) ∧ az = { tmps := List.toArray (vP v :: .agg #[.slice (some ⟨kb, ko, none⟩) K.length kc, vI now, .slice wa wl.length wc] :: undef :: vP b2 :: u4 :: vI i :: vP b28 :: .bool ok :: vP b47 :: .bool ok2 :: vP v :: vP v :: vP v :: .iface 62 (vP t) :: .slice na ((namesT M now).length) nc :: .agg #[.slice (some ⟨kb, ko, none⟩) K.length kc, vI now, .slice wa wl.length wc] :: .slice ma ((namesR K now).length) mc :: .bool true :: .bool false :: vI i :: vP b2 :: .slice (some ⟨kb, ko, none⟩) K.length kc :: vI (K.length : Int) :: .bool true :: u24 :: u25 :: .tuple #[.agg #[vI y.stamp, .bool y.gone, vI y.expire, vI y.val.kind, vS y.val.text, yp, yt, yz], .bool ok] :: vP v :: vP v :: vP v :: .iface 62 (vP t) :: vP b2 :: .slice (some ⟨kb, ko, none⟩) K.length kc :: vI i :: .pointer (some ⟨kb, ko + i * 7, none⟩) :: .pointer (some ⟨kb, ko + i * 7, none⟩) :: vS x.name :: .iface 62 (vP t) :: .iface 62 (vP t) :: .tuple #[.agg #[vI y.stamp, .bool y.gone, vI y.expire, vI y.val.kind, vS y.val.text, yp, yt, yz], .bool ok] :: .agg #[vI y.stamp, .bool y.gone, vI y.expire, vI y.val.kind, vS y.val.text, yp, yt, yz] :: .bool ok :: .tuple #[.agg #[vS k.name, vI k.val.kind, vS k.val.text, kp, kt, kz, vI k.exp], .bool ok2] :: .agg #[.slice (some ⟨kb, ko, none⟩) K.length kc, vI now, .slice wa wl.length wc] :: vP b2 :: .slice (some ⟨kb, ko, none⟩) K.length kc :: vI i :: .pointer (some ⟨kb, ko + i * 7, none⟩) :: .pointer (some ⟨kb, ko + i * 7, none⟩) :: vS x.name :: .tuple #[.agg #[vS k.name, vI k.val.kind, vS k.val.text, kp, kt, kz, vI k.exp], .bool ok2] :: .agg #[vS k.name, vI k.val.kind, vS k.val.text, kp, kt, kz, vI k.exp] :: .bool ok2 :: u53 :: u54 :: u55 :: u56 :: u57 :: u58 :: u59 :: u60 :: u61 :: u62 :: u63 :: u64 :: u65 :: u66 :: u67 :: u68 :: u69 :: u70 :: []), defers := [] } ∧ Inv G (Res.cell b47 [vS k.name, vI k.val.kind, vS k.val.text, kp, kt, kz, vI k.exp] 88 :: Res.cell b28 [vI y.stamp, .bool y.gone, vI y.expire, vI y.val.kind, vS y.val.text, yp, yt, yz] 85 :: txR t m s p wb va vc sv now es :: Res.cell v [.iface 62 (vP t)] 39 :: Res.cell b2 [.slice (some ⟨kb, ko, none⟩) K.length kc, vI now, .slice wa wl.length wc] 47 :: H) wz) [7, 11, 12] [0,1,2,3,4,5,6] [8,9,10,11,12,13] [7,8,9,10,12,13] 7 11 71 rfl (by kernel_rfl) hv ?_ ?_
   ·intro R2 l1 l2 hR2 hl1 hl2
    simp only [qm, opAt]
    refine tF (.agg #[.slice (some ⟨kb, ko, none⟩) K.length kc, vI now, .slice wa wl.length wc]) rfl (fun hv => ex_load rfl rfl (lM 3 v2wd47 hv rfl rfl rfl rfl)) fun f41 hf41 => tG (vP b2) rfl (ex_field rfl rfl (v2fa47_0 _ _ _)) ?_
    simp only [zP, po]
    refine tF (.slice (some ⟨kb, ko, none⟩) K.length kc) rfl (fun hv => ex_load rfl rfl (run_load1 v2na45 (hv.load 3 0 rfl rfl))) fun f42 hf42 => tG (vI i) rfl (ex_move rfl rfl) ?_
    simp only [zP, po]
    refine tG (.pointer (some ⟨kb, ko + i * 7, none⟩)) rfl (ex_index rfl rfl rfl (run_idx (k := i) Tryz.underlying45 v2es45 (by omega))) (tG (.pointer (some ⟨kb, ko + i * 7, none⟩)) rfl (ex_field rfl rfl (v2fa88_0 _ _ _)) ?_)
    simp only [zP, po]
    refine tF (vS x.name) rfl (fun hv => ex_load rfl rfl (run_load1 s9na9 (hrdx _ _ _ hG no_res hv 0 _ rfl))) fun f43 hf43 => ?_
    simp only [zP, po]
    refine tB ?_ ?_
    ·rw [hl1]; clear hl1 hl2
     simp only [qm, opAt]
     refine dS rfl fun w44 hv => mC v2callable32 rfl ((getKB G _ _ K wl (some ⟨kb, ko, none⟩) wa kc wc xs now (hRV.more hG) (by omega) (by omega) x.name hv).mono ?_) rfl
     rintro e w45 ⟨k, kp, kt, kz, ok2, rfl, hget, hkv, hv⟩
     refine ⟨_, rfl, dV hv (fK rfl (fK rfl (fK rfl fN))) ?_⟩
     refine dM (.tuple #[.agg #[vS k.name, vI k.val.kind, vS k.val.text, kp, kt, kz, vI k.exp], .bool ok2]) rfl (dG (.agg #[vS k.name, vI k.val.kind, vS k.val.text, kp, kt, kz, vI k.exp]) rfl (ex_extract rfl rfl rfl) ?_)
     simp only [zP, po]
     refine dG (.bool ok2) rfl (ex_extract rfl rfl rfl) (dS rfl fun w46 hv => ?_)
     refine mem_alloc rfl rfl hv gFal88 (fun b47 w48 hv => ?_)
     refine dV hv (fC (fun ww hv => hf43 ww (ex_load rfl rfl (run_load1 s9na9 (hrdx _ _ _ hG no_res hv 0 _ rfl)))) (fC (fun ww hv => hf42 ww (ex_load rfl rfl (run_load1 v2na45 (hv.load 4 0 rfl rfl)))) (fC (fun ww hv => hf41 ww ?_) fN))) ?_
     ·exact ex_load rfl rfl (lM 4 v2wd47 hv rfl rfl rfl rfl)
     refine dS rfl fun w49 hv => mS 0 rfl hv v2sz88 rfl (by exact ⟨rfl, rfl, rfl, hkv.p.one, hkv.t.one, hkv.z.one, rfl, trivial⟩) (fun w50 hv => ?_)
     simp only [zO, sp] at hv
     refine dV hv (fK rfl (fK rfl (fK rfl fN))) ?_
     simp only [zP, po]
     refine dA (.bool ok2) rfl (dE fun wz hv => ?_)
     simp only [zP, po]
     exact hR2 _ _ ⟨k, kp, kt, kz, ok2, b47, hkv, hget, rfl, (((((hv.front 4 rfl).front 4 rfl).front 4 rfl).front 4 rfl).front 4 rfl)⟩
    rw [hl2]; clear hl1 hl2
    simp only [qm, opAt]
    refine dS rfl fun w51 hv => mem_alloc rfl rfl hv gFal88 (fun b52 w53 hv => ?_)
    refine dV hv (fC (fun ww hv => hf43 ww (ex_load rfl rfl (run_load1 s9na9 (hrdx _ _ _ hG no_res hv 0 _ rfl)))) (fC (fun ww hv => hf42 ww (ex_load rfl rfl (run_load1 v2na45 (hv.load 4 0 rfl rfl)))) (fC (fun ww hv => hf41 ww ?_) fN))) ?_
    ·exact ex_load rfl rfl (lM 4 v2wd47 hv rfl rfl rfl rfl)
    refine dS rfl fun w54 hv => mC v2callable32 rfl ((getKB G _ _ K wl (some ⟨kb, ko, none⟩) wa kc wc xs now (hRV.more hG) (by omega) (by omega) x.name hv).mono ?_) rfl
    rintro e w55 ⟨k, kp, kt, kz, ok2, rfl, hget, hkv, hv⟩
    refine ⟨_, rfl, dV hv (fK rfl (fK rfl (fK rfl fN))) ?_⟩
    refine dM (.tuple #[.agg #[vS k.name, vI k.val.kind, vS k.val.text, kp, kt, kz, vI k.exp], .bool ok2]) rfl ?_
    simp only [zP, po]
    refine dG (.agg #[vS k.name, vI k.val.kind, vS k.val.text, kp, kt, kz, vI k.exp]) rfl (ex_extract rfl rfl rfl) (dG (.bool ok2) rfl (ex_extract rfl rfl rfl) ?_)
    refine dS rfl fun w56 hv => mS 0 rfl hv v2sz88 rfl (by exact ⟨rfl, rfl, rfl, hkv.p.one, hkv.t.one, hkv.z.one, rfl, trivial⟩) (fun w57 hv => ?_)
    simp only [zO, sp] at hv
    refine dV hv (fK rfl (fK rfl (fK rfl fN))) ?_
    simp only [zP, po]
    refine dA (.bool ok2) rfl (dE fun wz hv => ?_)
    simp only [zP, po]
    exact hR2 _ _ ⟨k, kp, kt, kz, ok2, b52, hkv, hget, rfl, (((((hv.front 4 rfl).front 4 rfl).front 4 rfl).front 4 rfl).front 4 rfl)⟩
   rintro _ w58 ⟨k, kp, kt, kz, ok2, b47, hkv, hget, rfl, hv⟩
   refine tK k40 (sK fun _ k59 => ?_)
   rcases hget with ⟨rfl, hgk⟩ | ⟨rfl, rfl, hgk⟩
   ·obtain ⟨hl9, ha9⟩ := hRK.got hgk
    obtain ⟨rfl, rfl⟩ := got_yes hgot hl9 ha9
    refine rL (uM rfl ?_)
    refine uM rfl ?_
    refine uG (.bool false) rfl (ex_bneq Tryz.underlying4 rfl rfl rfl rfl) (uM rfl ?_)
    refine uF (.pointer (some ⟨b28, 3, none⟩)) rfl (x2fa85_3 _ _ _) ?_
    refine uL (.agg #[vI ((kver k).val.kind), vS ((kver k).val.text), yp, yt, yz]) rfl (lM 1 s1wd78 hv rfl rfl rfl rfl) ?_
    refine uF (.pointer (some ⟨b47, 1, none⟩)) rfl (gFfa88_1 _ _ _) ?_
    refine uL (.agg #[vI k.val.kind, vS k.val.text, kp, kt, kz]) rfl (lM 0 s1wd78 hv rfl rfl rfl rfl) ?_
    refine xC gFcallable33 rfl ((refSameV G _ _ k.val yp yt yz kp kt kz (hyv.more (Base.Le.refl _)).rd (hkv.more (Base.Le.refl _)).rd hkv.pm hkv.tm hkv.zm hv).mono ?_) rfl
    rintro e w60 ⟨rfl, hv⟩
    refine ⟨_, rfl, uG (.bool false) rfl (ex_not rfl rfl rfl) ?_⟩
    refine uK rfl (uM rfl ?_)
    refine uF (.pointer (some ⟨b28, 2, none⟩)) rfl (s2fa85_2 _ _ _) ?_
    refine uL _ rfl (run_load1 s2na3 (hv.load 1 2 rfl rfl)) ?_
    refine uF (.pointer (some ⟨b47, 6, none⟩)) rfl (v2fa88_2 _ _ _) ?_
    refine uL _ rfl (run_load1 s2na3 (hv.load 0 6 rfl rfl)) ?_
    refine uG (.bool false) rfl (ex_neq rfl rfl rfl (qF (fun h => h rfl))) (uK rfl ?_)
    refine uW k59 (cF rfl ?_)
    refine kS (bN ?_)
    refine tK k20 (rL ?_)
    refine uM rfl ?_
    refine uG (vI ((i + 1 : Nat) : Int)) rfl (ex_add rfl rfl rfl (by rw [i64_in (by omega)]; omega)) (uA rfl ?_)
    refine uZ (then_normal ?_)
    simp only [vP, vI, vS]
    go_roundw
    case rel => exact ⟨i + 1, rfl, by omega, ((hv.kp [4, 3, 4] 3 2)).weak hG⟩
    case measure => show K.length - (((i + 1 : Nat) : Int)).toNat < K.length - ((i : Int)).toNat; omega
   obtain ⟨rfl, rfl⟩ := got_no hgot (hRK.dead hgk)
   refine rL (uM rfl ?_)
   refine uM rfl ?_
   refine uG (.bool false) rfl (ex_bneq Tryz.underlying4 rfl rfl rfl rfl) (uM rfl ?_)
   refine uF (.pointer (some ⟨b28, 3, none⟩)) rfl (x2fa85_3 _ _ _) ?_
   refine uL (.agg #[vI zver0.val.kind, vS zver0.val.text, yp, yt, yz]) rfl (lM 1 s1wd78 hv rfl rfl rfl rfl) ?_
   refine uF (.pointer (some ⟨b47, 1, none⟩)) rfl (gFfa88_1 _ _ _) ?_
   refine uL (.agg #[vI zkey.val.kind, vS zkey.val.text, kp, kt, kz]) rfl (lM 0 s1wd78 hv rfl rfl rfl rfl) ?_
   refine xC gFcallable33 rfl ((refSameV G _ _ zver0.val yp yt yz kp kt kz (hyv.more (Base.Le.refl _)).rd (hkv.more (Base.Le.refl _)).rd hkv.pm hkv.tm hkv.zm hv).mono ?_) rfl
   rintro e w61 ⟨rfl, hv⟩
   refine ⟨_, rfl, uG (.bool false) rfl (ex_not rfl rfl rfl) ?_⟩
   refine uK rfl (uM rfl ?_)
   refine uF (.pointer (some ⟨b28, 2, none⟩)) rfl (s2fa85_2 _ _ _) ?_
   refine uL _ rfl (run_load1 s2na3 (hv.load 1 2 rfl rfl)) ?_
   refine uF (.pointer (some ⟨b47, 6, none⟩)) rfl (v2fa88_2 _ _ _) ?_
   refine uL _ rfl (run_load1 s2na3 (hv.load 0 6 rfl rfl)) ?_
   refine uG (.bool false) rfl (ex_neq rfl rfl rfl (qF (fun h => h rfl))) (uK rfl ?_)
   refine uW k59 (cF rfl ?_)
   refine kS (bN ?_)
   refine tK k20 (rL ?_)
   refine uM rfl ?_
   refine uG (vI ((i + 1 : Nat) : Int)) rfl (ex_add rfl rfl rfl (by rw [i64_in (by omega)]; omega)) (uA rfl ?_)
   refine uZ (then_normal ?_)
   simp only [vP, vI, vS]
   go_roundw
   case rel => exact ⟨i + 1, rfl, by omega, ((hv.kp [4, 3, 4] 3 2)).weak hG⟩
   case measure => show K.length - (((i + 1 : Nat) : Int)).toNat < K.length - ((i : Int)).toNat; omega
  refine uG (.bool false) rfl (ex_lss rfl rfl rfl (qF hb19)) (uW k18 ?_)
  refine cF rfl (xE ?_)
  refine tX (tX ?_)
  refine bH (tK k14 ?_)
  refine sK fun _ k62 => rL (uA rfl ?_)
  refine uW k62 (rR ?_)
  refine bR rfl rfl (⟨rfl, ((hv.kp [1, 1] 2 1)).weak (Base.Le.refl _)⟩)
theorem gHfa43_1 : FA Tryz.prog 43 1 1 := fun w b o => by kernel_rfl
theorem lawSmall (B : Base) (H : List Res) (w : World) (cn : Int) (xa : Option Addr) (xc : Nat) (xs : List (List UInt8)) (hrx : RdV B [] xa (textCells xs)) (hv : Inv B H w) :
  Calls Tryz.prog 14 #[.agg #[vI cn, .slice xa xs.length xc]] w fun e w' => ∃ b, e = .returned (.bool b) ∧ (b = true → xs.length ≤ 14 ∧ ∀ x ∈ xs, x.length ≤ 4200) ∧ Inv B H w' := by
 refine cW Tryz.func14 rfl Tryz.ntmps14 ?_
 simp only [al]
 refine sK fun _ k1 => rL (sl_box (L := [vI cn, .slice xa xs.length xc]) tV (wn rfl) rfl rfl hv (fun w => by kernel_rfl) (fun b2 w3 hv => ?_))
 refine uA rfl (uW k1 ?_)
 refine sK fun _ k4 => sK fun _ k5 => rL (uF (.pointer (some ⟨b2, 1, none⟩)) rfl (gHfa43_1 _ _ _) ?_)
 refine uL _ rfl (run_load1 s1na22 (hv.load 0 1 rfl rfl)) ?_
 refine uG (vI (xs.length : Int)) rfl (ex_len0 Tryz.underlying22 rfl rfl) ?_
 by_cases hb6 : (xs.length : Int) > 14
 ·refine uG (.bool true) rfl (ex_gtr rfl rfl rfl (qT hb6)) (uW k5 ?_)
  refine cT rfl (sK fun _ k7 => ?_)
  refine rL (uA rfl ?_)
  refine uW k7 (rR ?_)
  refine tR (bR rfl rfl ?_)
  exact ⟨false, rfl, fun h9 => (by cases h9), (hv.kp [] 0 1)⟩
 refine uG (.bool false) rfl (ex_gtr rfl rfl rfl (qF hb6)) (uW k5 ?_)
 refine cF rfl (kS ?_)
 refine tK k4 (sK fun _ k8 => ?_)
 refine sK fun _ k9 => rL (uA rfl ?_)
 refine uW k9 (bB ?_)
 gi_loopw [3] (fun x3 wr => ∃ (i : Nat), x3 = vI i ∧ i ≤ xs.length ∧ (∀ x ∈ xs.take i, x.length ≤ 4200) ∧ Inv B (Res.cell b2 [vI cn, .slice xa xs.length xc] 43 :: H) wr) (fun x3 _ => xs.length - (intOf x3).toNat)
 case atStart => exact ⟨0, rfl, Nat.zero_le _, fun x h => (by cases h), hv⟩
 case round =>
  obtain ⟨i, rfl, hi, hall, hv⟩ := hrel
  refine sK fun _ k11 => sK fun _ k12 => rL (uM rfl ?_)
  refine uF (.pointer (some ⟨b2, 1, none⟩)) rfl (gHfa43_1 _ _ _) ?_
  refine uL _ rfl (run_load1 s1na22 (hv.load 0 1 rfl rfl)) ?_
  refine uG (vI (xs.length : Int)) rfl (ex_len0 Tryz.underlying22 rfl rfl) ?_
  by_cases hb13 : (i : Int) < (xs.length : Int)
  ·refine uG (.bool true) rfl (ex_lss rfl rfl rfl (qT hb13)) (uW k12 ?_)
   refine cT rfl (kS ?_)
   refine tK k11 (sK fun _ k14 => ?_)
   refine bB (sK fun _ k15 => ?_)
   obtain ⟨x, hx⟩ : ∃ x, xs[i]? = some x := ⟨_, List.getElem?_eq_getElem (show i < xs.length by omega)⟩
   obtain ⟨xb, xo, had, hrdx⟩ := text_reads hrx hx
   subst had
   refine rL (uF (.pointer (some ⟨b2, 1, none⟩)) rfl (gHfa43_1 _ _ _) ?_)
   refine uL _ rfl (run_load1 s1na22 (hv.load 0 1 rfl rfl)) (uM rfl ?_)
   refine uG (.pointer (some ⟨xb, xo + i, none⟩)) rfl (ex_index rfl rfl rfl (run_idx1 (k := i) Tryz.underlying22 s9es22 (by omega))) ?_
   refine uL _ rfl (run_load1 s9na9 (hrdx _ _ _ (Base.Le.refl _) no_res hv 0 _ rfl)) ?_
   refine uG (vI (x.length : Int)) rfl (ex_lenStr Tryz.underlying9 rfl rfl) ?_
   by_cases hb16 : (x.length : Int) > 4200
   ·refine uG (.bool true) rfl (ex_gtr rfl rfl rfl (qT hb16)) (uW k15 ?_)
    refine cT rfl (sK fun _ k17 => ?_)
    refine rL (uA rfl ?_)
    refine uW k17 (rR ?_)
    refine bZ (tR ?_)
    refine tR (bZ ?_)
    refine tR (bR rfl rfl ?_)
    exact ⟨false, rfl, fun h9 => (by cases h9), (hv.kp [] 0 1)⟩
   refine uG (.bool false) rfl (ex_gtr rfl rfl rfl (qF hb16)) (uW k15 ?_)
   refine cF rfl (kS ?_)
   refine bN (tK k14 ?_)
   refine rL (uM rfl ?_)
   refine uG (vI ((i + 1 : Nat) : Int)) rfl (ex_add rfl rfl rfl (by rw [i64_in (by omega)]; omega)) (uA rfl ?_)
   refine uZ (then_normal ?_)
   go_roundw
   case rel => exact ⟨i + 1, rfl, by omega, fun y hy => (by rw [take_next hx] at hy; rcases List.mem_append.1 hy with h9 | h9; exact hall y h9; rw [List.mem_singleton.1 h9]; omega), hv⟩
   case measure => show xs.length - (((i + 1 : Nat) : Int)).toNat < xs.length - ((i : Int)).toNat; omega
  refine uG (.bool false) rfl (ex_lss rfl rfl rfl (qF hb13)) (uW k12 ?_)
  refine cF rfl (xE ?_)
  refine tX (tX ?_)
  refine bH (tK k8 ?_)
  refine sK fun _ k18 => rL (uA rfl ?_)
  refine uW k18 (rR ?_)
  refine bR rfl rfl ?_
  obtain rfl : i = xs.length := by omega
  rw [List.take_length] at hall
  exact ⟨true, rfl, fun _ => ⟨by omega, hall⟩, (hv.kp [] 0 1)⟩
def setF (f : List UInt8 → List (List UInt8)) (k : List UInt8) (s : List (List UInt8)) : List UInt8 → List (List UInt8) := fun k' => if k = k' then s else f k'
def SeesS (M : List (List UInt8 × Ver)) (f : List UInt8 → List (List UInt8)) : Prop := ∀ k, SortedT (f k) ∧ ((f k = [] ∧ DeadM M 0 k) ∨ (f k ≠ [] ∧ lookA M k = some ⟨0, false, 0, setV (f k)⟩))
section
variable {M M' : List (List UInt8 × Ver)} {f : List UInt8 → List (List UInt8)} {k l x : List UInt8} {out s : List (List UInt8)} {y : Ver} {ec : Int} {r : Rp}
theorem SeesS.nil : SeesS [] fun _ => [] := fun k => ⟨List.Pairwise.nil, .inl ⟨rfl, fun y h => by cases h⟩⟩
theorem SeesS.of_ (h : SeesS M f) (ho : OfI M 0 k 4 y ec) : ec = 0 ∧ y.val.texts = f k ∧ y.expire = 0 := by
 rcases h k with ⟨-, ⟨h1, h2⟩ | ⟨h1, h2⟩⟩
 ·rcases ho with ⟨h3, rfl, -⟩ | ⟨-, -, z, h3, h4, -⟩ | ⟨-, h3, h4, -⟩
  ·exact ⟨h3, by rw [h1]; rfl, rfl⟩
  ·rw [h2 z h3] at h4; cases h4
  rw [h2 y h3] at h4; cases h4
 rcases ho with ⟨-, -, h3⟩ | ⟨-, -, z, h3, -, h5⟩ | ⟨h0, h3, -, -⟩
 ·have := h3 _ h2; cases this
 ·rw [h2] at h3; cases h3; exact absurd rfl h5
 rw [h2] at h3; cases h3; exact ⟨h0, rfl, rfl⟩
theorem SeesS.keep (h : SeesS M f) (hk : k.length ≤ 256) (hs : SetOk out) {e : Int} (he : e = 0) (ho : KeepI M 0 k (setV out) e ec M') : ec = 0 ∧ SeesS M' (setF f k out) := by
 subst he
 have hso := (setOk_iff.1 hs).2.2
 have hfull : out ≠ [] → FullV (setV out) := fun h9 => .inr (by have := List.length_pos_iff.2 h9; show 0 < 0 + out.length + 0; omega)
 have hnot : ¬ FullV (setV out) → out = [] := fun h9 => Classical.byContradiction fun h8 => h9 (hfull h8)
 have hne : FullV (setV out) → out ≠ [] := by
  rintro (h9 | h9) rfl
  ·exact absurd h9 (by decide)
  exact absurd h9 (by decide)
 have other : ∀ (v : Ver) k', k ≠ k' → (SortedT (setF f k out k') ∧ ((setF f k out k' = [] ∧ DeadM (updA M k v) 0 k') ∨ (setF f k out k' ≠ [] ∧ lookA (updA M k v) k' = some ⟨0, false, 0, setV (setF f k out k')⟩))) := by
  intro v k' hn
  have e1 : setF f k out k' = f k' := if_neg hn
  have e2 : lookA (updA M k v) k' = lookA M k' := by rw [look_upd, if_neg hn]
  rw [e1, e2]
  unfold DeadM
  rw [e2]
  exact h k'
 rcases ho with ⟨h1, -, h3, rfl⟩ | ⟨h1, h2, -⟩ | ⟨h1, h2, h3, rfl⟩ | ⟨h1, -, ⟨-, h4, rfl⟩ | ⟨h4, -⟩⟩
 ·refine ⟨h3, fun k' => ?_⟩
  by_cases e : k = k'
  ·subst e
   have e1 : setF f k out k = out := if_pos rfl
   rw [e1, look_upd, if_pos rfl]
   exact ⟨hso, .inr ⟨hne h1, rfl⟩⟩
  exact other _ _ e
 ·have h9 := hne h1
  exact absurd ⟨hk, .inr (.inr (.inr (.inl ⟨rfl, List.length_pos_iff.2 h9, hs, rfl, rfl, rfl⟩))), Int.le_refl _, by decide⟩ h2
 ·obtain rfl := hnot h1
  refine ⟨h3, fun k' => ?_⟩
  by_cases e : k = k'
  ·subst e
   have e1 : setF f k [] k = [] := if_pos rfl
   rw [e1]
   exact ⟨List.Pairwise.nil, .inl ⟨rfl, h2⟩⟩
  have e1 : setF f k [] k' = f k' := if_neg e
  rw [e1]; exact h k'
 ·obtain rfl := hnot h1
  refine ⟨h4, fun k' => ?_⟩
  by_cases e : k = k'
  ·subst e
   have e1 : setF f k [] k = [] := if_pos rfl
   rw [e1]
   refine ⟨List.Pairwise.nil, .inl ⟨rfl, fun y hy => ?_⟩⟩
   rw [look_upd, if_pos rfl] at hy; cases hy; rfl
  exact other _ _ e
 omega
theorem ok_of_bnd (h1 : SortedT s) (h2 : s.length ≤ 512) (h3 : ∀ x ∈ s, x.length ≤ 300) : SetOk s := setOk_iff.2 ⟨h2, fun x hx => by have := h3 x hx; omega, h1⟩
theorem SeesS.self (h : SeesS M f) (hs : s = f k) : SeesS M (setF f k s) := fun k' => by
 have : setF f k s k' = f k' := by
  unfold setF; split
  ·rename_i e; rw [hs, e]
  rfl
 rw [this]; exact h k'
theorem doneR0 {r0 : Rp} (h : DoneR ec r0 r) (he : ec = 0) : r = r0 := h.elim (fun h9 => h9.2) fun h9 => absurd he h9.1
end
section
variable {M M' : List (List UInt8 × Ver)} {f : List UInt8 → List (List UInt8)} {k l x a b : List UInt8} {out s : List (List UInt8)} {y : Ver} {ec : Int} {r : Rp}
theorem change_of (h : SeesS M f) (hk : k.length ≤ 256) {xs : List (List UInt8)} (hc : ChangeR M 0 k true xs M' r) (hx : ∀ out n e, AddR (f k) xs out n e → e = 0 ∧ JoinS (f k) xs out ∧ n = (out.length : Int) - (f k).length ∧ SetOk out ∧ (¬ 0 < n → out = f k)) : ∃ s, SeesS M' (setF f k s) ∧ JoinS (f k) xs s ∧ r = rInt ((s.length : Int) - (f k).length) := by
 obtain ⟨y, ec, ho, h2⟩ := hc
 obtain ⟨rfl, e2, e3⟩ := h.of_ ho
 rcases h2 with ⟨h3, -⟩ | ⟨-, out, n, ec2, ha, h3⟩
 ·exact absurd rfl h3
 rw [if_pos rfl, e2] at ha
 obtain ⟨rfl, hj, rfl, hok, hsame⟩ := hx _ _ _ ha
 rcases h3 with ⟨-, -, ec3, hkp, hd⟩ | ⟨h3, rfl, hd⟩
 ·obtain ⟨rfl, hM⟩ := h.keep hk hok e3 hkp
  exact ⟨out, hM, hj, doneR0 hd rfl⟩
 exact ⟨out, h.self (hsame fun h9 => h3 ⟨rfl, h9⟩), hj, doneR0 hd rfl⟩
theorem sets_two (h : SeesS M f) {ss : List (List (List UInt8))} (hs : SetsR M 0 [a, b] ss ec) : ec = 0 ∧ ss = [f a, f b] := by
 rcases hs with ⟨h1, h2, h3⟩ | ⟨h1, -, k, -, y, ho⟩
 ·refine ⟨h1, ?_⟩
  match ss, h2 with
  | [s, t], _ =>
   obtain ⟨y1, o1, e1⟩ := h3 0 a s rfl rfl
   obtain ⟨y2, o2, e2⟩ := h3 1 b t rfl rfl
   rw [e1, e2, (h.of_ o1).2.1, (h.of_ o2).2.1]
 exact absurd (h.of_ ho).1 h1
end
end Go.Proofs.YtoljdfjnannakaaGreatDoor
namespace Go.Pm
open Go.RowKit
inductive Tr (α : Type) where
 | lin (is : List α)
 | fork (x : α) (t1 : Tr α) (y : α) (t2 : Tr α)
def DX (P : Program) (ops : Array Oper) (x : Nat × Oper) (G : (World → Prop) → Act → Prop) (Fl : List (Nat × (World → Prop))) (J : World → Prop) (a : Act) : Prop :=
 (Region.wanted x.2 (yielded ops a.tmps) = false ∧ G J (a.put x.2.dst undef)) ∨ (Region.wanted x.2 (yielded ops a.tmps) = true ∧
  ∀ w, J w → x.2.wp P a w (fun b w' => ∃ v, b = a.put x.2.dst v ∧ ∃ J' : World → Prop, (∀ w w', J' w → Ext w w' → J' w') ∧ J' w' ∧ FlOk ops x.1 J' Fl ∧ G J' (a.put x.2.dst v)) QF)
def DTr (P : Program) (ops : Array Oper) (mem : List Nat) (R : Act → World → Prop) : Tr (Nat × Oper) → List (Nat × (World → Prop)) → (World → Prop) → Act → Prop
 | .lin is, Fl, J, a => DW P ops mem R is Fl J a
 | .fork x t1 y t2, Fl, J, a => DX P ops x (fun J' a' => DTr P ops mem R t1 Fl J' a') Fl J a ∧ DX P ops y (fun J' a' => DTr P ops mem R t2 Fl J' a') Fl J a
section
variable {P : Program} {ops : Array Oper} {mem perm pre is : List Nat} {R : Act → World → Prop} {Q : Exit → Act → World → Prop} {a0 a aS : Act} {listed : Array Bool} {w w' : World} {val : Nat → Value} {Fl : List (Nat × (World → Prop))} {J : World → Prop} {i : Nat} {o : Oper} {K : Act → World → Prop}
end
section
variable {P : Program} {ops : Array Oper} {mem : List Nat} {Q : Exit → Act → World → Prop} {a0 : Act}
end
section
variable {n : Nat} {P : Program} {ops : Array Oper} {Q : Exit → Act → World → Prop} {a0 : Act} {w0 : World} {B : Base} {H : List Res}
end
section
variable {P : Program} {ops : Array Oper} {mem : List Nat} {R : Act → World → Prop} {D : List (Nat × (World → Prop)) → (World → Prop) → Act → Prop} {i : Nat} {o : Oper} {is : List (Nat × Oper)} {Fl : List (Nat × (World → Prop))} {J : World → Prop} {a : Act} {v : Value} {x y : Nat × Oper} {t1 t2 : Tr (Nat × Oper)} {G : (World → Prop) → Act → Prop} {B : Base} {H : List Res} {w' : World}
theorem gFk (h1 : DX P ops x (fun J' a' => DTr P ops mem R t1 Fl J' a') Fl J a) (h2 : DX P ops y (fun J' a' => DTr P ops mem R t2 Fl J' a') Fl J a) : DTr P ops mem R (.fork x t1 y t2) Fl J a := ⟨h1, h2⟩
end
end Go.Pm
namespace Go.Proofs.YtoljdfjnannakaaGreatDoor
open Go.RowKit Go.Pm
theorem rp_int {B : Base} {n : Int} {cs : List Value} (h : RpAt B (rInt n) cs) : ∃ v, cs = rpCells 2 [] n v := by
 simp only [rInt, RpAt] at h
 obtain ⟨v, xs, h1, -⟩ := h
 exact ⟨v, h1⟩
theorem rp_strs {B : Base} {l : List (List UInt8)} {cs : List Value} (h : RpAt B (rStrs l) cs) : ∃ a c, cs = rpCells 5 [] 0 (.slice a l.length c) := by
 simp only [rStrs, rList, RpAt] at h
 obtain ⟨v, xs, h1, ⟨a, c, rfl, -⟩, -⟩ := h
 exact ⟨a, c, by rw [h1, List.length_map]⟩
theorem vmNil (B : Base) : VM B [] [] := trivial
theorem all0 {p : List UInt8 → Prop} : ∀ x ∈ ([] : List (List UInt8)), p x := fun _ h => by cases h
theorem all1 {p : List UInt8 → Prop} {a : List UInt8} {l : List (List UInt8)} (h : p a) (t : ∀ x ∈ l, p x) : ∀ x ∈ a :: l, p x := fun x hx => (List.mem_cons.1 hx).elim (fun e => e ▸ h) (t x)
section
variable {M M' : List (List UInt8 × Ver)} {f : List UInt8 → List (List UInt8)} {k a b : List UInt8} {r : Rp}
theorem add_new {L : List (List UInt8)} (hL : SortedT L) (h1 : L.length ≤ 100) (h2 : ∀ x ∈ L, x.length ≤ 300) (hf : f k = []) : ∀ out n e, AddR (f k) L out n e → e = 0 ∧ JoinS (f k) L out ∧ n = (out.length : Int) - (f k).length ∧ SetOk out ∧ (¬ 0 < n → out = f k) := fun out n e ha => by
 rw [hf] at ha ⊢
 have same : ∀ j, JoinS [] L j → j = L := fun j hj => sorted_ext hj.1 hL fun z => by rw [hj.2]; simp
 rcases ha with ⟨-, -, -, z, h3, h4⟩ | ⟨-, j, hj, ⟨-, -, -, h3⟩ | ⟨h3, -, rfl, h4⟩⟩
 ·have := h2 z h3; omega
 ·rw [same j hj] at h3; omega
 have e9 := same _ hj
 refine ⟨h3, hj, h4, by rw [e9]; exact ok_of_bnd hL (by omega) h2, fun h9 => List.eq_nil_of_length_eq_zero ?_⟩
 simp only [List.length_nil] at h4
 omega
theorem g_adds (h : SeesS M f) (hk : k.length ≤ 256) {L : List (List UInt8)} (hL : SortedT L) (h1 : L.length ≤ 100) (h2 : ∀ x ∈ L, x.length ≤ 300) (hf : f k = []) (hd : ∃ k', (k :: L)[0]? = some k' ∧ ChangeR M 0 k' true ((k :: L).drop 1) M' r) : SeesS M' (setF f k L) ∧ r = rInt (L.length : Int) := by
 obtain ⟨k', e1, h3⟩ := hd
 cases e1
 obtain ⟨s, h4, h5, h6⟩ := change_of h hk h3 (add_new hL h1 h2 hf)
 rw [hf] at h5 h6
 have e2 : s = L := sorted_ext h5.1 hL fun z => by rw [h5.2]; simp
 subst e2
 exact ⟨h4, by rw [h6]; congr 1⟩
theorem g_diff (h : SeesS M f) (hd : M' = M ∧ ∃ out ec, CombR M 0 nSDIFF [a, b] out ec ∧ DoneR ec (rStrs out) r) : M' = M ∧ r = rStrs (diffS (f a) [f b]) := by
 obtain ⟨hM, out, ec, ⟨ss, e1, hs, h2⟩, hd⟩ := hd
 obtain ⟨rfl, rfl⟩ := sets_two h hs
 rcases h2 with ⟨h2, -⟩ | ⟨-, ⟨-, rfl, q, hq, ho⟩ | ⟨h2, -⟩ | ⟨h2, -⟩⟩
 ·exact absurd rfl h2
 ·cases hq
  exact ⟨hM, by rw [doneR0 hd rfl, ho]; rfl⟩
 ·exact absurd rfl h2
 exact absurd rfl h2
end
def wAw : List (List UInt8) := [[120], [121], [122]]
theorem wAw_sorted : SortedT wAw := by unfold SortedT wAw; decide
theorem w1_sorted : SortedT [[121]] := by unfold SortedT; decide
theorem w_diff : diffS wAw [[[121]]] = [[120], [122]] := by decide
theorem gAcallable7 : Callable Tryz.prog 7 := cb Tryz.func7 (by kernel_rfl)
theorem gAcallable11 : Callable Tryz.prog 11 := cb Tryz.func11 (by kernel_rfl)
theorem gAal28 : AL Tryz.prog 28 [vI 0, vS [], vI 0, vN] := fun w => by kernel_rfl
theorem gAcallable17 : Callable Tryz.prog 17 := cb Tryz.func17 (by kernel_rfl)
theorem gAwake (B : Base) (H : List Res) (w : World) (hN : NumB B) (hv : Inv B H w) :
  Calls Tryz.prog 6 #[] w fun e w' => e = .returned (.bool true) ∧ Inv B H w' := by
 refine cW Tryz.func6 rfl Tryz.ntmps6 ?_
 simp only [al]
 refine sK fun _ k1 => rL (uA rfl ?_)
 refine uW k1 (sK fun _ k2 => ?_)
 refine rL (xC gAcallable7 rfl ((lawOpened24 B _ _ 0 (by omega) (by omega) hv).mono ?_) rfl)
 rintro e w3 ⟨v, t, m, s, p, wb, va, vc, sv, rfl, hv⟩
 refine ⟨_, rfl, uA rfl ?_⟩
 refine uW k2 (sK fun _ k4 => ?_)
 refine sK fun _ k5 => rL (uM rfl ?_)
 refine uG (.bool false) rfl (ex_pisnil Tryz.underlying24 rfl rfl rfl rfl) (uW k5 ?_)
 refine cF rfl (kS ?_)
 refine tK k4 (sK fun _ k6 => ?_)
 refine rL (uM rfl ?_)
 refine sl_rowN (pv := #[(0, vS [97]), (1, vS [120]), (2, vS [121]), (3, vS [122])]) (L := [vS [97], vS [120], vS [121], vS [122]]) (e := 9) tV (wn rfl) rfl (by simp only [List.map_toArray, List.map_cons, List.map_nil]; rfl) hv (fun w => by kernel_rfl) (fun b7 w8 hv => ?_)
 obtain ⟨D9, hD9, hv, hrD9, hoD9, -⟩ := (hv.cellRow (n := 4) (c := 4) (size := 1) rfl (by decide) (by decide)).rowBy
 replace hv := hv.front 1 rfl
 simp only [eS, eZ] at hv
 replace hv := hv.front 1 rfl
 simp only [eS, eZ] at hv
 refine xC gAcallable11 rfl ((gDo D9 _ _ v t m s p wb va vc sv 0 [] [] ((vmNil B).more hD9) OkM.nil _ _ [([97] : List UInt8), ([120] : List UInt8), ([121] : List UInt8), ([122] : List UInt8)] hrD9 hoD9 (by decide) nSADD (all1 (by decide) (all1 (by decide) (all1 (by decide) (all1 (by decide) all0)))) (.inl (all1 (by decide) (all1 (by decide) (all1 (by decide) (all1 (by decide) all0))))) (hN.more hD9) hv).mono ?_) rfl
 rintro e w10 ⟨C1, es1, M1, r1, cs1, ok1, hC1, rfl, hrp1, hM1, ⟨hO1, -⟩, hok1, -, hrel1, hv⟩
 refine ⟨_, rfl, ?_⟩
 obtain rfl : ok1 = true := hok1.2 (by decide)
 obtain ⟨hS1, rfl⟩ := g_adds (L := wAw) SeesS.nil (by decide) wAw_sorted (by decide) (all1 (by decide) (all1 (by decide) (all1 (by decide) all0))) rfl ((hrel1 (by unfold GArgs; decide)).1 rfl)
 obtain ⟨v1, rfl⟩ := rp_int hrp1
 refine uM rfl (uE rfl ?_)
 refine uE rfl ?_
 refine sl_alloc tV (wn rfl) rfl hv gAal28 (fun b11 w12 hv => ?_)
 refine xS 0 rfl hv rssz28 rfl (by exact ⟨rfl, rfl, rfl, hrp1.lv.2, trivial⟩) (fun w13 hv => ?_)
 simp only [zO, sp] at hv
 refine uA rfl (uW k6 ?_)
 refine sK fun _ k14 => rL (uM rfl ?_)
 refine sl_rowN (pv := #[(0, vS [98]), (1, vS [121])]) (L := [vS [98], vS [121]]) (e := 9) tV (wn rfl) rfl (by simp only [List.map_toArray, List.map_cons, List.map_nil]; rfl) hv (fun w => by kernel_rfl) (fun b15 w16 hv => ?_)
 obtain ⟨D17, hD17, hv, hrD17, hoD17, -⟩ := (hv.cellRow (n := 2) (c := 2) (size := 1) rfl (by decide) (by decide)).rowBy
 replace hv := hv.front 2 rfl
 simp only [eS, eZ] at hv
 replace hv := hv.front 2 rfl
 simp only [eS, eZ] at hv
 refine xC gAcallable11 rfl ((gDo D17 _ _ v t m s p wb va vc sv 0 es1 M1 (hM1.more hD17) hO1 _ _ [([98] : List UInt8), ([121] : List UInt8)] hrD17 hoD17 (by decide) nSADD (all1 (by decide) (all1 (by decide) all0)) (.inl (all1 (by decide) (all1 (by decide) all0))) (hN.more ((hD9.trans hC1).trans hD17)) hv).mono ?_) rfl
 rintro e w18 ⟨C2, es2, M2, r2, cs2, ok2, hC2, rfl, hrp2, hM2, ⟨hO2, -⟩, hok2, -, hrel2, hv⟩
 refine ⟨_, rfl, ?_⟩
 obtain rfl : ok2 = true := hok2.2 (by decide)
 obtain ⟨hS2, rfl⟩ := g_adds (L := [[121]]) hS1 (by decide) w1_sorted (by decide) (all1 (by decide) all0) rfl ((hrel2 (by unfold GArgs; decide)).1 rfl)
 obtain ⟨v2, rfl⟩ := rp_int hrp2
 refine uM rfl (uE rfl ?_)
 refine uE rfl ?_
 refine sl_alloc tV (wn rfl) rfl hv gAal28 (fun b19 w20 hv => ?_)
 refine xS 0 rfl hv rssz28 rfl (by exact ⟨rfl, rfl, rfl, hrp2.lv.2, trivial⟩) (fun w21 hv => ?_)
 simp only [zO, sp] at hv
 refine uA rfl (uW k14 ?_)
 refine sK fun _ k22 => rL (uM rfl ?_)
 refine sl_rowN (pv := #[(0, vS [97]), (1, vS [98])]) (L := [vS [97], vS [98]]) (e := 9) tV (wn rfl) rfl (by simp only [List.map_toArray, List.map_cons, List.map_nil]; rfl) hv (fun w => by kernel_rfl) (fun b23 w24 hv => ?_)
 obtain ⟨D25, hD25, hv, hrD25, hoD25, -⟩ := (hv.cellRow (n := 2) (c := 2) (size := 1) rfl (by decide) (by decide)).rowBy
 replace hv := hv.front 2 rfl
 simp only [eS, eZ] at hv
 replace hv := hv.front 2 rfl
 simp only [eS, eZ] at hv
 refine xC gAcallable11 rfl ((gDo D25 _ _ v t m s p wb va vc sv 0 es2 M2 (hM2.more hD25) hO2 _ _ [([97] : List UInt8), ([98] : List UInt8)] hrD25 hoD25 (by decide) nSDIFF (all1 (by decide) (all1 (by decide) all0)) (.inl (all1 (by decide) (all1 (by decide) all0))) (hN.more ((((hD9.trans hC1).trans hD17).trans hC2).trans hD25)) hv).mono ?_) rfl
 rintro e w26 ⟨C3, es3, M3, r3, cs3, ok3, hC3, rfl, hrp3, hM3, ⟨hO3, -⟩, hok3, -, hrel3, hv⟩
 refine ⟨_, rfl, ?_⟩
 obtain rfl : ok3 = true := hok3.2 (by decide)
 obtain ⟨-, rfl⟩ := g_diff hS2 ((hrel3 (by unfold GArgs; decide)).2 rfl)
 rw [show diffS (setF (setF (fun _ => []) [97] wAw) [98] [[121]] [97]) [setF (setF (fun _ => []) [97] wAw) [98] [[121]] [98]] = [[120], [122]] from w_diff] at hrp3
 obtain ⟨a3, c3, rfl⟩ := rp_strs hrp3
 refine uG (.tuple #[.agg #[vI 5, vS [], vI 0, .slice a3 2 c3], .bool true]) rfl (ex_move rfl rfl) ?_
 refine uG (.agg #[vI 5, vS [], vI 0, .slice a3 2 c3]) rfl (ex_extract rfl rfl rfl) (uE rfl ?_)
 refine sl_alloc tV (wn rfl) rfl hv gAal28 (fun b27 w28 hv => ?_)
 refine xS 0 rfl hv rssz28 rfl (by exact ⟨rfl, rfl, rfl, rfl, trivial⟩) (fun w29 hv => ?_)
 simp only [zO, sp] at hv
 refine uA rfl (uW k22 ?_)
 refine sK fun _ k30 => rW mixed [19, 20, 21] [0,1,2,3,4,5,6,7,8,9,10,11,12,13,14,15,16,17,18,19,20,21,22,23] 52 rfl (by kernel_rfl) hv ?_
 simp only [qm, opAt]
 refine dM (.bool true) rfl (dM (.bool true) rfl ?_)
 refine dM (.bool true) rfl ?_
 simp only [zP, po]
 refine dK true (.bool true) rfl (dM (.bool true) rfl ?_)
 refine dM (.bool true) rfl ?_
 simp only [zP, po]
 refine dK true (.bool true) rfl (dM (.bool true) rfl ?_)
 refine dG (.pointer (some ⟨b11, 2, none⟩)) rfl (ex_field rfl rfl (c7fa28_2 _ _ _)) ?_
 simp only [zP, po]
 refine dL _ rfl (fun hv => ex_load rfl rfl (run_load1 s2na3 (hv.load 4 2 rfl rfl))) (dG (.bool true) rfl (ex_eql rfl rfl rfl (by decide)) ?_)
 refine dK true (.bool true) rfl ?_
 simp only [zP, po]
 refine dM (.bool true) rfl (dG (.pointer (some ⟨b19, 2, none⟩)) rfl (ex_field rfl rfl (c7fa28_2 _ _ _)) ?_)
 refine dL _ rfl (fun hv => ex_load rfl rfl (run_load1 s2na3 (hv.load 3 2 rfl rfl))) ?_
 simp only [zP, po]
 refine dG (.bool true) rfl (ex_eql rfl rfl rfl (by decide)) (dK true (.bool true) rfl ?_)
 refine dM (.bool true) rfl ?_
 simp only [zP, po]
 refine dF (.agg #[vI 5, vS [], vI 0, .slice a3 2 c3]) rfl (fun hv => ex_load rfl rfl (lM 0 rswd28 hv rfl rfl rfl rfl)) fun f31 hf31 => dS rfl fun w32 hv => mem_row2 (v1 := vS [120]) (v2 := vS [122]) (e := 9) rfl rfl rfl rfl hv (fun w => by kernel_rfl) (fun b33 w34 hv => ?_)
 refine dV hv (fC (fun ww hv => hf31 ww ?_) fN) ?_
 ·exact ex_load rfl rfl (lM 1 rswd28 hv rfl rfl rfl rfl)
 refine dS rfl fun w35 hv => ?_
 obtain ⟨D36, hD36, hv, hrD36, hoD36, -⟩ := (hv.cellRow (n := 2) (c := 2) (size := 1) rfl (by decide) (by decide)).rowBy
 refine mC gAcallable17 rfl ((ref20Strs D36 _ _ _ _ [([120] : List UInt8), ([122] : List UInt8)] hrD36 (by decide) hv).mono ?_) rfl
 rintro e w37 ⟨E, ve, hE, rfl, hrpE, hv⟩
 refine ⟨_, rfl, dV hv (fC (fun ww hv => hf31 ww ?_) fN) ?_⟩
 ·exact ex_load rfl rfl (lM 0 rswd28 hv rfl rfl rfl rfl)
 simp only [zP, po]
 refine dS rfl fun w38 hv => mC c7callable9 rfl (((sameR_strs (B := E) (l := [[120], [122]]) (by decide)) _ _ (rpCells 5 [] 0 (.slice a3 2 c3)) (rpCells 5 [] 0 ve) (hrp3.more (hD36.trans hE)) (hrpE.more (Base.Le.refl _)) hv).mono ?_) rfl
 rintro e w39 ⟨rfl, hv⟩
 refine ⟨_, rfl, dV hv (fK rfl fN) ?_⟩
 refine dK true (.bool true) rfl (dA (.bool true) rfl ?_)
 refine dE fun w40 hv => ?_
 simp only [zP, po]
 refine tK k30 (rR ?_)
 refine bR rfl rfl (⟨rfl, ((hv.kp [] 0 5)).weak (((((((hD9.trans hC1).trans hD17).trans hC2).trans hD25).trans hC3).trans hD36).trans hE)⟩)
theorem mod_in (n : Int) {L : Int} (hL : 0 < L) : ∃ j : Nat, (n.tmod L + L).tmod L = (j : Int) ∧ (j : Int) < L ∧ -L < n.tmod L ∧ n.tmod L < L := by
 have h1 := Int.lt_tmod_of_pos n hL
 have h2 := Int.tmod_lt_of_pos n hL
 have h3 : 0 ≤ (n.tmod L + L).tmod L := Int.tmod_nonneg L (by omega)
 have h4 := Int.tmod_lt_of_pos (n.tmod L + L) hL
 exact ⟨((n.tmod L + L).tmod L).toNat, by omega, by omega, h1, h2⟩
theorem gNames_pos : (0 : Int) < (gNames.length : Int) := by rw [gNames_len]; decide
theorem rp_kind {B : Base} {r : Rp} {k : Int} {s : List UInt8} {n : Int} {v : Value} (h : RpAt B r (rpCells k s n v)) : r.kind = k := by
 cases r; simp only [RpAt] at h
 obtain ⟨v2, xs, h1, -⟩ := h
 simp only [List.cons.injEq, Value.int.injEq, true_and] at h1
 exact h1.1.symm
theorem gEcallable6 : Callable Tryz.prog 6 := cb Tryz.func6 (by kernel_rfl)
theorem gEwd43 : Wide Tryz.prog 43 2 := wide_of (fun w => by kernel_rfl) (by kernel_rfl)
theorem gEcallable14 : Callable Tryz.prog 14 := cb Tryz.func14 (by kernel_rfl)
theorem gEcallable15 : Callable Tryz.prog 15 := cb Tryz.func15 (by kernel_rfl)
theorem gEal47 : AL Tryz.prog 47 [vN, vI 0, vN] := fun w => by kernel_rfl
theorem gEcallable13 : Callable Tryz.prog 13 := cb Tryz.func13 (by kernel_rfl)
theorem gEfa43_0 : FA Tryz.prog 43 0 0 := fun w b o => by kernel_rfl
theorem gEal28 : AL Tryz.prog 28 [vI 0, vS [], vI 0, vN] := fun w => by kernel_rfl
theorem gEcallable16 : Callable Tryz.prog 16 := cb Tryz.func16 (by kernel_rfl)
theorem lawFaultsMain (B : Base) (H : List Res) (w : World) (ad : Option Addr) (n ac : Nat) (hkr : KeysRd B ad n) (cn : Int) (xa : Option Addr) (xc : Nat) (xs : List (List UInt8)) (hokx : SliceOk xa xs.length xc) (hrx : RdV B [] xa (textCells xs)) (hxl : ∀ x ∈ xs, x.length ≤ 9223372036854775807) (clock : Int) (hN : NumB B) (hv : Inv B H w) :
  Calls Tryz.prog 5 #[.slice ad n ac, .agg #[vI cn, .slice xa xs.length xc], vI clock] w fun e w' => e = .returned (.bool true) ∧ Inv B H w' := by
 refine cW Tryz.func5 rfl Tryz.ntmps5 ?_
 simp only [al]
 refine sK fun _ k1 => rL (sl_box (L := [vI cn, .slice xa xs.length xc]) tV (wn rfl) rfl rfl hv (fun w => by kernel_rfl) (fun b2 w3 hv => ?_))
 refine uA rfl (uW k1 ?_)
 refine sK fun _ k4 => sK fun _ k5 => rL (xC gEcallable6 rfl ((gAwake B _ _ (hN.more (Base.Le.refl _)) hv).mono ?_) rfl)
 rintro e w6 ⟨rfl, hv⟩
 refine ⟨_, rfl, uG (.bool false) rfl (ex_not rfl rfl rfl) ?_⟩
 refine uM rfl ?_
 refine uL (.agg #[vI cn, .slice xa xs.length xc]) rfl (lM 0 gEwd43 hv rfl rfl rfl rfl) ?_
 refine xC gEcallable14 rfl ((lawSmall B _ _ cn xa xc xs hrx hv).mono ?_) rfl
 rintro e w8 ⟨bl7, rfl, hbl7, hv⟩
 refine ⟨_, rfl, ?_⟩
 cases bl7
 ·refine uG (.bool true) rfl (ex_not rfl rfl rfl) (uK rfl ?_)
  refine uW k5 (cT rfl ?_)
  refine sK fun _ k9 => rL (xC gEcallable6 rfl ((gAwake B _ _ (hN.more (Base.Le.refl _)) hv).mono ?_) rfl)
  rintro e w10 ⟨rfl, hv⟩
  refine ⟨_, rfl, uA rfl ?_⟩
  refine uW k9 (rR ?_)
  refine tR (bR rfl rfl ?_)
  exact ⟨rfl, ((hv.kp [] 0 1)).weak (Base.Le.refl _)⟩
 refine uG (.bool false) rfl (ex_not rfl rfl rfl) (uK rfl ?_)
 refine uW k5 (cF rfl ?_)
 refine kS (tK k4 ?_)
 refine sK fun _ k11 => rL (uM rfl ?_)
 refine uM rfl ?_
 obtain ⟨hx14, hx42⟩ := hbl7 rfl
 refine xC gEcallable15 rfl ((lawBegun B _ _ ad n ac hkr clock hv).mono ?_) rfl
 rintro e w12 ⟨C, now, v, t, m, s, p, wb, va, vc, sv, es, M, K, wl, ka, wa, kc, wc, ks, hC, h0, h1, hKl, hwl, hM, hO, hRK, hKO, hRV, rfl, hv⟩
 refine ⟨_, rfl, uM rfl ?_⟩
 refine uE rfl (uE rfl ?_)
 refine uE rfl ?_
 refine sl_alloc tV (wn rfl) rfl hv gEal47 (fun b13 w14 hv => ?_)
 refine uA rfl ?_
 refine xS 0 rfl hv v2sz47 rfl (by exact ⟨rfl, rfl, rfl, trivial⟩) (fun w15 hv => ?_)
 simp only [zO, sp] at hv
 refine uA rfl (uW k11 ?_)
 refine sK fun _ k16 => rL (xC gEcallable13 rfl ((gNamesC C _ _ hv).mono ?_) rfl)
 rintro e w17 ⟨D, na, nc, hD, rfl, hrn, hokn, hv⟩
 refine ⟨_, rfl, uA rfl ?_⟩
 refine uW k16 (sK fun _ k18 => ?_)
 refine sK fun _ k19 => rL (uM rfl ?_)
 refine uG (.bool false) rfl (ex_not rfl rfl rfl) (uM rfl ?_)
 refine uM rfl ?_
 refine uG (vI (gNames.length : Int)) rfl (ex_len0 Tryz.underlying22 rfl rfl) ?_
 refine uG (.bool false) rfl (ex_eql rfl rfl rfl (qF (by rw [gNames_len]; decide))) (uK rfl ?_)
 refine uW k19 (cF rfl ?_)
 refine kS (tK k18 ?_)
 refine sK fun _ k20 => ?_
 have hnl := gNames_len
 obtain ⟨j, hj, hjl⟩ := mod_in cn gNames_pos
 obtain ⟨nm, hnm⟩ : ∃ x, gNames[j]? = some x := ⟨_, List.getElem?_eq_getElem (show j < gNames.length by omega)⟩
 obtain ⟨nb, no, had, hrdnm⟩ := text_reads hrn hnm
 subst had
 have hnmem := List.mem_of_getElem? hnm
 refine rT mixed (fun az wz => ∃ (E : Base) (es' : List (List UInt8 × Value)) (M' : List (List UInt8 × Ver)) (r : Rp) (rk : Int) (rs : List UInt8) (rn : Int) (rv : Value) (b27 : Nat), (D.Le E) ∧ (RpAt E r (rpCells rk rs rn rv)) ∧ (VM E es' M') ∧ (CmdR M M' r) ∧ az = { tmps := List.toArray (.slice ad n ac :: .agg #[vI cn, .slice xa xs.length xc] :: vI clock :: undef :: vP b2 :: undef :: .bool false :: vP v :: vP b13 :: .bool true :: .slice (some ⟨nb, no, none⟩) gNames.length nc :: vP b27 :: .bool true :: .bool true :: .bool false :: .bool false :: .agg #[vI cn, .slice xa xs.length xc] :: .bool true :: .bool false :: .bool false :: undef :: .tuple #[vP v, .agg #[.slice ka K.length kc, vI now, .slice wa wl.length wc], .bool true] :: .slice ad n ac :: vI clock :: .tuple #[vP v, .agg #[.slice ka K.length kc, vI now, .slice wa wl.length wc], .bool true] :: vP v :: .agg #[.slice ka K.length kc, vI now, .slice wa wl.length wc] :: .bool true :: .slice (some ⟨nb, no, none⟩) gNames.length nc :: .bool true :: .bool false :: .bool false :: .slice (some ⟨nb, no, none⟩) gNames.length nc :: vI (gNames.length : Int) :: .bool false :: .bool false :: .tuple #[.agg #[vI rk, vS rs, vI rn, rv], .bool true] :: vP v :: .slice (some ⟨nb, no, none⟩) gNames.length nc :: vP b2 :: vI cn :: .slice (some ⟨nb, no, none⟩) gNames.length nc :: vI (gNames.length : Int) :: vI (cn.tmod (gNames.length : Int)) :: .slice (some ⟨nb, no, none⟩) gNames.length nc :: vI (gNames.length : Int) :: vI (cn.tmod (gNames.length : Int) + (gNames.length : Int)) :: .slice (some ⟨nb, no, none⟩) gNames.length nc :: vI (gNames.length : Int) :: vI j :: .pointer (some ⟨nb, no + j, none⟩) :: vS nm :: .pointer (some ⟨b2, 1, none⟩) :: .slice xa xs.length xc :: .tuple #[.agg #[vI rk, vS rs, vI rn, rv], .bool true] :: .agg #[vI rk, vS rs, vI rn, rv] :: .bool true :: undef :: undef :: undef :: undef :: undef :: undef :: undef :: undef :: undef :: undef :: undef :: []), defers := [] } ∧ Inv E (Res.cell b27 [vI rk, vS rs, vI rn, rv] 28 :: Res.cell v [.iface 62 (vP t)] 39 :: txR t m s p wb va vc sv now es' :: Res.cell b13 [.slice ka K.length kc, vI now, .slice wa wl.length wc] 47 :: Res.cell b2 [vI cn, .slice xa xs.length xc] 43 :: H) wz) [17, 21, 22] [0,1,2,3,4,5,6,7,8,9,10,11,12,13,14,15,16] [18,19,20,21,22,23] [17,18,19,20,22,23] 17 21 68 rfl (by kernel_rfl) hv ?_ ?_
 ·intro R2 l1 l2 hR2 hl1 hl2
  simp only [qm, opAt]
  refine tG (vP v) rfl (ex_move rfl rfl) (tG (.slice (some ⟨nb, no, none⟩) gNames.length nc) rfl (ex_move rfl rfl) ?_)
  simp only [zP, po]
  refine tG (vP b2) rfl (ex_field rfl rfl (gEfa43_0 _ _ _)) (tF (vI cn) rfl (fun hv => ex_load rfl rfl (run_load1 s2na3 (hv.load 3 0 rfl rfl))) fun f21 hf21 => ?_)
  simp only [zP, po]
  refine tG (.slice (some ⟨nb, no, none⟩) gNames.length nc) rfl (ex_move rfl rfl) (tG (vI (gNames.length : Int)) rfl (ex_len0 Tryz.underlying22 rfl rfl) ?_)
  simp only [zP, po]
  refine tG (vI (cn.tmod (gNames.length : Int))) rfl (ex_rem (m := cn) (n := (gNames.length : Int)) rfl rfl rfl (by omega) rfl) (tG (.slice (some ⟨nb, no, none⟩) gNames.length nc) rfl (ex_move rfl rfl) ?_)
  simp only [zP, po]
  refine tG (vI (gNames.length : Int)) rfl (ex_len0 Tryz.underlying22 rfl rfl) (tG (vI (cn.tmod (gNames.length : Int) + (gNames.length : Int))) rfl (ex_add (m := (cn.tmod (gNames.length : Int))) (n := (gNames.length : Int)) rfl rfl rfl (i64_in (by omega))) ?_)
  simp only [zP, po]
  refine tG (.slice (some ⟨nb, no, none⟩) gNames.length nc) rfl (ex_move rfl rfl) (tG (vI (gNames.length : Int)) rfl (ex_len0 Tryz.underlying22 rfl rfl) ?_)
  simp only [zP, po]
  refine tG (vI j) rfl (ex_rem (m := (cn.tmod (gNames.length : Int) + (gNames.length : Int))) (n := (gNames.length : Int)) rfl rfl rfl (by omega) hj) (tG (.pointer (some ⟨nb, no + j, none⟩)) rfl (ex_index rfl rfl rfl (run_idx1 (k := j) Tryz.underlying22 s9es22 (by omega))) ?_)
  simp only [zP, po]
  refine tF (vS nm) rfl (fun hv => ex_load rfl rfl (run_load1 s9na9 (hrdnm _ _ _ (Base.Le.refl _) no_res hv 0 _ rfl))) fun f22 hf22 => tG (.pointer (some ⟨b2, 1, none⟩)) rfl (ex_field rfl rfl (gHfa43_1 _ _ _)) ?_
  simp only [zP, po]
  refine tF (.slice xa xs.length xc) rfl (fun hv => ex_load rfl rfl (run_load1 s1na22 (hv.load 3 1 rfl rfl))) fun f23 hf23 => ?_
  simp only [zP, po]
  refine tB ?_ ?_
  ·rw [hl1]; clear hl1 hl2
   simp only [qm, opAt]
   refine dS rfl fun w24 hv => ?_
   replace hv := hv.front 2 rfl
   simp only [eS, eZ] at hv
   replace hv := hv.front 2 rfl
   simp only [eS, eZ] at hv
   refine mC gAcallable11 rfl ((gDo D _ _ v t m s p wb va vc sv now es M (hM.more hD) hO xa xc xs (hrx.more (hC.trans hD) (fun _ h => h)) hokx (by omega) nm hxl (.inl fun x hx => by have := hx42 x hx; omega) (hN.more (hC.trans hD)) hv).mono ?_) rfl
   rintro e w25 ⟨E, es', M', r, cs, ok, hE, rfl, hrp, hM', hcmd, hok, -, -, hv⟩
   obtain ⟨rk, rs, rn, rv, rfl⟩ := rp_parts hrp
   obtain rfl : ok = true := hok.2 hnmem
   refine ⟨_, rfl, dV hv (fK rfl (fK rfl (fK rfl fN))) ?_⟩
   refine dM (.tuple #[.agg #[vI rk, vS rs, vI rn, rv], .bool true]) rfl (dG (.agg #[vI rk, vS rs, vI rn, rv]) rfl (ex_extract rfl rfl rfl) ?_)
   simp only [zP, po]
   refine dG (.bool true) rfl (ex_extract rfl rfl rfl) (dS rfl fun w26 hv => ?_)
   refine mem_alloc rfl rfl hv gEal28 (fun b27 w28 hv => ?_)
   refine dV hv (fC (fun ww hv => hf23 ww (ex_load rfl rfl (run_load1 s1na22 (hv.load 4 1 rfl rfl)))) (fC (fun ww hv => hf22 ww (ex_load rfl rfl (run_load1 s9na9 (hrdnm _ _ _ hE no_res hv 0 _ rfl)))) (fC (fun ww hv => hf21 ww (ex_load rfl rfl (run_load1 s2na3 (hv.load 4 0 rfl rfl)))) fN))) (dS rfl fun w29 hv => ?_)
   refine mS 0 rfl hv rssz28 rfl (by exact ⟨rfl, rfl, rfl, hrp.lv.2, trivial⟩) (fun w30 hv => ?_)
   simp only [zO, sp] at hv
   refine dV hv (fK rfl (fK rfl (fK rfl fN))) ?_
   simp only [zP, po]
   refine dA (.bool true) rfl (dE fun wz hv => ?_)
   simp only [zP, po]
   exact hR2 _ _ ⟨E, es', M', r, rk, rs, rn, rv, b27, hE, hrp, hM', hcmd, rfl, (((((hv.front 4 rfl).front 4 rfl).front 4 rfl).front 4 rfl).front 4 rfl)⟩
  rw [hl2]; clear hl1 hl2
  simp only [qm, opAt]
  refine dS rfl fun w31 hv => mem_alloc rfl rfl hv gEal28 (fun b32 w33 hv => ?_)
  refine dV hv (fC (fun ww hv => hf23 ww (ex_load rfl rfl (run_load1 s1na22 (hv.load 4 1 rfl rfl)))) (fC (fun ww hv => hf22 ww (ex_load rfl rfl (run_load1 s9na9 (hrdnm _ _ _ (Base.Le.refl _) no_res hv 0 _ rfl)))) (fC (fun ww hv => hf21 ww (ex_load rfl rfl (run_load1 s2na3 (hv.load 4 0 rfl rfl)))) fN))) (dS rfl fun w34 hv => ?_)
  replace hv := hv.front 3 rfl
  simp only [eS, eZ] at hv
  replace hv := hv.front 3 rfl
  simp only [eS, eZ] at hv
  refine mC gAcallable11 rfl ((gDo D _ _ v t m s p wb va vc sv now es M (hM.more hD) hO xa xc xs (hrx.more (hC.trans hD) (fun _ h => h)) hokx (by omega) nm hxl (.inl fun x hx => by have := hx42 x hx; omega) (hN.more (hC.trans hD)) hv).mono ?_) rfl
  rintro e w35 ⟨E, es', M', r, cs, ok, hE, rfl, hrp, hM', hcmd, hok, -, -, hv⟩
  obtain ⟨rk, rs, rn, rv, rfl⟩ := rp_parts hrp
  obtain rfl : ok = true := hok.2 hnmem
  refine ⟨_, rfl, dV hv (fK rfl (fK rfl (fK rfl fN))) ?_⟩
  refine dM (.tuple #[.agg #[vI rk, vS rs, vI rn, rv], .bool true]) rfl ?_
  simp only [zP, po]
  refine dG (.agg #[vI rk, vS rs, vI rn, rv]) rfl (ex_extract rfl rfl rfl) (dG (.bool true) rfl (ex_extract rfl rfl rfl) ?_)
  refine dS rfl fun w36 hv => mS 2 rfl hv rssz28 rfl (by exact ⟨rfl, rfl, rfl, hrp.lv.2, trivial⟩) (fun w37 hv => ?_)
  simp only [zS, zO, sp] at hv
  refine dV hv (fK rfl (fK rfl (fK rfl fN))) ?_
  simp only [zP, po]
  refine dA (.bool true) rfl (dE fun wz hv => ?_)
  simp only [zP, po]
  exact hR2 _ _ ⟨E, es', M', r, rk, rs, rn, rv, b32, hE, hrp, hM', hcmd, rfl, (((((hv.front 4 rfl).front 4 rfl).front 3 rfl).front 3 rfl).front 4 rfl)⟩
 rintro _ w38 ⟨E, es', M', r, rk, rs, rn, rv, b27, hE, hrp, hM', hcmd, rfl, hv⟩
 refine tK k20 (sK fun _ k39 => ?_)
 refine rL (uM rfl ?_)
 refine uM rfl ?_
 refine uF (vP b27) rfl (c7fa28_0 _ _ _) ?_
 refine uL _ rfl (run_load1 s2na3 (hv.load 0 0 rfl rfl)) ?_
 by_cases hb40 : rk ≠ 1
 ·refine uG (.bool true) rfl (ex_neq rfl rfl rfl (qT hb40)) ?_
  refine uM rfl ?_
  iterate 3 refine uP rfl ?_
  refine uK rfl (uK rfl ?_)
  refine uA rfl (uW k39 ?_)
  refine rR (bR rfl rfl ?_)
  exact ⟨rfl, ((hv.kp [] 0 5)).weak ((hC.trans hD).trans hE)⟩
 refine uG (.bool false) rfl (ex_neq rfl rfl rfl (qF hb40)) ?_
 refine uM rfl ?_
 refine uM rfl ?_
 refine uL (.agg #[.slice ka K.length kc, vI now, .slice wa wl.length wc]) rfl (lM 3 v2wd47 hv rfl rfl rfl rfl) ?_
 replace hv := hv.front 2 rfl
 simp only [eS, eZ] at hv
 replace hv := hv.front 2 rfl
 simp only [eS, eZ] at hv
 have hMM : M' = M := hcmd.2 ((rp_kind hrp).trans (Classical.not_not.1 hb40))
 refine xC gEcallable16 rfl ((lawSame E _ _ v t m s p wb va vc sv now es' M K wl ka wa kc wc ks (by rw [← hMM]; exact hM'.more (Base.Le.refl _)) hRK hKO (hRV.more (hD.trans hE)) hKl hwl hv).mono ?_) rfl
 rintro e w41 ⟨rfl, hv⟩
 refine ⟨_, rfl, ?_⟩
 refine uK rfl (uK rfl ?_)
 refine uA rfl (uW k39 ?_)
 refine rR (bR rfl rfl ?_)
 exact ⟨rfl, ((hv.kp [] 0 5)).weak ((hC.trans hD).trans hE)⟩
end Go.Proofs.YtoljdfjnannakaaGreatDoor
