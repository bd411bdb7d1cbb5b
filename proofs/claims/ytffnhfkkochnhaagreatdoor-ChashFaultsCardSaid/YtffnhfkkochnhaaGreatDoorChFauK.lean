/- The law: begun. -/
import Derived.Test.YtffnhfkkochnhaaGreatDoorChFauC
import Derived.Test.YtffnhfkkochnhaaGreatDoorChFauH
import Derived.Test.YtffnhfkkochnhaaGreatDoorChFauI
import Derived.Test.YtffnhfkkochnhaaGreatDoorChFauJ
import Derived.Test.YtffnhfkkochnhaaGreatDoorChFauB
import Derived.Test.YtffnhfkkochnhaaGreatDoorRows
import Derived.Test.YtffnhfkkochnhaaGreatDoorChFauF
import Derived.Sort.Walk0
import Derived.Sort.KeysCollected
import Derived.Lib.SlicesCompact
import Derived.Test.YtffnhfkkochnhaaGreatDoorChFauE
set_option maxRecDepth 100000
set_option maxHeartbeats 16000000
set_option synthInstance.maxSize 4096
set_option synthInstance.maxHeartbeats 400000
namespace Go.Proofs.YtffnhfkkochnhaaGreatDoor
open Go.RowKit Go.Pm
theorem res_tct {P : Program} {fn : Func} {w : World} {t : TypeId} {v : Value} {r i j : Nat} (h : fn.results = #[.tmp r, .cell i t, .tmp j]) {tmps : Array Value} {ad : Addr} (hr : tmps.getD i undef = .pointer (some ad)) (hl : (Instr.loadAt t (.pointer (some ad))).run P w = .ok v w) : (results fn tmps).run P w = .ok (.tuple #[tmps.getD r undef, v, tmps.getD j undef]) w := by
 have hl' : (loadVar t ad).run P w = .ok v w := by simpa [Instr.loadAt, Instr.sureAddr] using hl
 have hr' : tmps[i]?.getD undef = .pointer (some ad) := by rw [← hr, Array.getD_eq_getD_getElem?]
 simp [results, h, hr', asAddr, hl']
theorem l1al48 : AL Tryz.prog 48 [vN, vI 0, vN] := fun w => by kernel_rfl
theorem l1callable7 : Callable Tryz.prog 7 := cb Tryz.func7 (by kernel_rfl)
theorem l1es42 (w : World) : (sizeOf (Tryz.prog.elem 42)).run Tryz.prog w = .ok 7 w := by kernel_rfl
theorem l1wd81 : Wide Tryz.prog 81 7 := wide_of (fun w => by kernel_rfl) (by kernel_rfl)
theorem l1al81 : AL Tryz.prog 81 [vS [], vI 0, vS [], vN, vN, vN, vI 0] := fun w => by kernel_rfl
theorem l1sz81 : (Tryz.prog.info? 81).map (·.size) = some 7 := by kernel_rfl
theorem l1fa81_0 : FA Tryz.prog 81 0 0 := fun w b o => by kernel_rfl
theorem l1fa81_1 : FA Tryz.prog 81 1 1 := fun w b o => by kernel_rfl
theorem l1callable27 : Callable Tryz.prog 27 := cb Tryz.func27 (by kernel_rfl)
theorem l1callable28 : Callable Tryz.prog 28 := cb Tryz.func28 (by kernel_rfl)
theorem l1fa81_2 : FA Tryz.prog 81 2 6 := fun w b o => by kernel_rfl
theorem l1callable29 : Callable Tryz.prog 29 := cb Tryz.func29 (by kernel_rfl)
theorem l1callable30 : Callable Tryz.prog 30 := cb Tryz.func30 (by kernel_rfl)
theorem lawBegun (B : Base) (H : List Res) (w : World) (ad : Option Addr) (n ac : Nat) (hkr : KeysRd B ad n) (clock : Int) (hv : Inv B H w) :
  Calls Tryz.prog 15 #[.slice ad n ac, vI clock] w fun e w' => ∃ C now v t m s p wb va vc sv es M K wl ka wa kc wc xs, B.Le C ∧ 0 ≤ now ∧ now ≤ 1099511627776 ∧ K.length ≤ 10 ∧ wl.length ≤ 10 ∧ VM C es M ∧ OkM M ∧ RelVK M K ∧ KeysOk M 10 ∧ RefV C K wl ka wa kc wc xs ∧ e = .returned (.tuple #[vP v, .agg #[.slice ka K.length kc, vI now, .slice wa wl.length wc], .bool true]) ∧ Inv C (Res.cell v [.iface 63 (vP t)] 40 :: txR t m s p wb va vc sv now es :: H) w' := by
 refine cW Tryz.func15 rfl Tryz.ntmps15 ?_
 simp only [al]
 refine sK fun _ k1 => rL (uA rfl ?_)
 refine sl_alloc tV (wn rfl) rfl hv l1al48 (fun b2 w3 hv => ?_)
 refine uA rfl (uW k1 ?_)
 refine sK fun _ k4 => rL (uM rfl ?_)
 refine uG (vI (if 0 > clock then 0 else clock)) rfl (ex_max2 (m := clock) (n := 0) rfl rfl rfl rfl) ?_
 refine uG (vI (if 1099511627776 < (if 0 > clock then 0 else clock) then 1099511627776 else (if 0 > clock then 0 else clock))) rfl (ex_min2 (m := (if 0 > clock then 0 else clock)) (n := 1099511627776) rfl rfl rfl rfl) (uA rfl ?_)
 refine uW k4 (sK fun _ k5 => ?_)
 obtain ⟨now, hnow⟩ : ∃ n : Int, n = (if 1099511627776 < (if 0 > clock then 0 else clock) then 1099511627776 else (if 0 > clock then 0 else clock)) := ⟨_, rfl⟩
 rw [← hnow]
 have h0 : 0 ≤ now := by rw [hnow]; split <;> (try split) <;> omega
 have h1 : now ≤ 1099511627776 := by rw [hnow]; split <;> (try split) <;> omega
 clear hnow
 refine rL (uM rfl ?_)
 refine xC l1callable7 rfl ((lawOpened B _ _ now h0 h1 hv).mono ?_) rfl
 rintro e w6 ⟨v, t, m, s, p, wb, va, vc, sv, rfl, hv⟩
 refine ⟨_, rfl, uA rfl ?_⟩
 refine uW k5 (sK fun _ k7 => ?_)
 refine rL (uM rfl ?_)
 refine uG (.agg #[vN, vI now, vN]) rfl (ex_buildN (vs := #[(1, vI now)]) rfl (by simp only [List.map_toArray, List.map_cons, List.map_nil]; rfl) (by kernel_rfl)) ?_
 refine sl_alloc tV (wn rfl) rfl hv l1al48 (fun b8 w9 hv => ?_)
 simp only [zP, po]
 refine xS 0 rfl hv v2sz48 rfl (by exact ⟨rfl, rfl, rfl, trivial⟩) (fun w10 hv => ?_)
 simp only [zO, sp] at hv
 refine uW k7 (sK fun _ k11 => ?_)
 refine sK fun _ k12 => rL (uA rfl ?_)
 refine uW k12 (bB ?_)
 gi_loopw [10] (fun x10 wr => ∃ (i : Nat) (C : Base) (es : List (List UInt8 × Value)) (M : List (List UInt8 × Ver)) (K : List KeyR) (wl : List (List UInt8)) (ka wa : Option Addr) (kc wc : Nat) (xs : List Value), x10 = vI i ∧ B.Le C ∧ i ≤ n ∧ (i ≤ 10 ∧ K.length ≤ i ∧ wl.length ≤ i ∧ VM C es M ∧ OkM M ∧ RelVK M K ∧ KeysOk M i ∧ RefV C K wl ka wa kc wc xs) ∧ Inv C (Res.cell v [.iface 63 (vP t)] 40 :: txR t m s p wb va vc sv now es :: Res.cell b8 [.slice ka K.length kc, vI now, .slice wa wl.length wc] 48 :: Res.cell b2 [vN, vI 0, vN] 48 :: H) wr) (fun x10 _ => n - (intOf x10).toNat)
 case atStart => exact ⟨0, B, [], [], [], [], none, none, 0, 0, [], rfl, Base.Le.refl _, Nat.zero_le _, ⟨Nat.zero_le _, Nat.le_refl _, Nat.le_refl _, trivial, OkM.nil, RelVK.nil, ⟨List.Pairwise.nil, Nat.le_refl _, fun k h => (by cases h)⟩, ⟨⟨Nat.le_refl _, Nat.zero_le _, fun _ => rfl⟩, rdV_nil, rfl, ⟨Nat.le_refl _, Nat.zero_le _, fun _ => rfl⟩, rdV_nil⟩⟩, ((((hv.front 3 rfl).front 1 rfl).front 3 rfl).front 3 rfl)⟩
 case round =>
  obtain ⟨i, C, es, M, K, wl, ka, wa, kc, wc, xs, rfl, hBC, hi, ⟨hi10, hKl, hwl, hM, hO, hRK, hKO, hRV⟩, hv⟩ := hrel
  refine sK fun _ k14 => sK fun _ k15 => rL (uM rfl ?_)
  refine uM rfl ?_
  refine uG (vI n) rfl (ex_len0 Tryz.underlying42 rfl rfl) ?_
  by_cases hb16 : (i : Int) < (n : Int)
  ·refine uG (.bool true) rfl (ex_lss rfl rfl rfl (qT hb16)) (uM rfl ?_)
   refine uM rfl ?_
   by_cases hb17 : (i : Int) < 10
   ·refine uG (.bool true) rfl (ex_lss rfl rfl rfl (qT hb17)) (uK rfl ?_)
    refine uW k15 (cT rfl ?_)
    refine kS (tK k14 ?_)
    refine sK fun _ k18 => bB (sK fun _ k19 => ?_)
    obtain ⟨bb, bo, key, x, xp, xt, xz, ex, had, hrd, hrdv⟩ := hkr i (by omega)
    subst had
    refine rL (uM rfl ?_)
    refine uM rfl ?_
    refine uG (.pointer (some ⟨bb, bo + i * 7, none⟩)) rfl (ex_index rfl rfl rfl (run_idx (k := i) Tryz.underlying42 l1es42 (by omega))) ?_
    refine uL (.agg #[vS key, vI x.kind, vS x.text, xp, xt, xz, vI ex]) rfl (run_loadR (cs := [vS key, vI x.kind, vS x.text, xp, xt, xz, vI ex]) l1wd81 (Reads.mid (pre := []) (mid := [vS key, vI x.kind, vS x.text, xp, xt, xz, vI ex]) (post := []) hrd _ _ _ hBC no_res hv)) ?_
    refine sl_alloc tV (wn rfl) rfl hv l1al81 (fun b20 w21 hv => ?_)
    simp only [zP, po]
    refine xS 0 rfl hv l1sz81 rfl (by exact ⟨rfl, rfl, rfl, hrdv.p.one, hrdv.t.one, hrdv.z.one, rfl, trivial⟩) (fun w22 hv => ?_)
    simp only [zO, sp] at hv
    refine uW k19 (sK fun _ k23 => ?_)
    refine sK fun _ k24 => rL (uF (vP b20) rfl (l1fa81_0 _ _ _) ?_)
    refine uL _ rfl (run_load1 s9na9 (hv.load 0 0 rfl rfl)) ?_
    refine uG (vI (key.length : Int)) rfl (ex_lenStr Tryz.underlying9 rfl rfl) ?_
    by_cases hb25 : (key.length : Int) > 256
    ·refine uG (.bool true) rfl (ex_gtr rfl rfl rfl (qT hb25)) (uM rfl ?_)
     iterate 4 refine uP rfl ?_
     refine uK rfl (uM rfl ?_)
     iterate 4 refine uP rfl ?_
     refine uK rfl (uM rfl ?_)
     iterate 3 refine uP rfl ?_
     refine uK rfl (uM rfl ?_)
     iterate 3 refine uP rfl ?_
     refine uK rfl (uW k24 ?_)
     refine cT rfl (xE ?_)
     refine tX (bH ?_)
     refine tK k18 (rL ?_)
     refine uM rfl ?_
     refine uG (vI ((i + 1 : Nat) : Int)) rfl (ex_add rfl rfl rfl (by rw [i64_in (by omega)]; omega)) (uA rfl ?_)
     refine uZ (then_normal ?_)
     go_roundw
     case rel => exact ⟨i + 1, _, _, _, _, _, _, _, _, _, _, rfl, hBC, by omega, ⟨by omega, by omega, by omega, hM, hO, hRK, ⟨hKO.nd, by have := hKO.len; omega, hKO.sh⟩, hRV⟩, (hv.kp [4, 4, 4, 4] 4 1)⟩
     case measure => show n - (((i + 1 : Nat) : Int)).toNat < n - ((i : Int)).toNat; omega
    refine uG (.bool false) rfl (ex_gtr rfl rfl rfl (qF hb25)) (uM rfl ?_)
    refine uF (.pointer (some ⟨b20, 1, none⟩)) rfl (l1fa81_1 _ _ _) ?_
    refine uL (.agg #[vI x.kind, vS x.text, xp, xt, xz]) rfl (lM 0 s1wd79 hv rfl rfl rfl rfl) ?_
    refine xC l1callable27 rfl ((refSmall C _ _ x xp xt xz (hrdv.more hBC) hv).mono ?_) rfl
    rintro e w27 ⟨bl26, rfl, hbl26, hv⟩
    refine ⟨_, rfl, ?_⟩
    cases bl26
    ·refine uG (.bool true) rfl (ex_not rfl rfl rfl) (uK rfl ?_)
     refine uM rfl ?_
     iterate 4 refine uP rfl ?_
     refine uK rfl (uM rfl ?_)
     iterate 3 refine uP rfl ?_
     refine uK rfl (uM rfl ?_)
     iterate 3 refine uP rfl ?_
     refine uK rfl (uW k24 ?_)
     refine cT rfl (xE ?_)
     refine tX (bH ?_)
     refine tK k18 (rL ?_)
     refine uM rfl ?_
     refine uG (vI ((i + 1 : Nat) : Int)) rfl (ex_add rfl rfl rfl (by rw [i64_in (by omega)]; omega)) (uA rfl ?_)
     refine uZ (then_normal ?_)
     go_roundw
     case rel => exact ⟨i + 1, _, _, _, _, _, _, _, _, _, _, rfl, hBC, by omega, ⟨by omega, by omega, by omega, hM, hO, hRK, ⟨hKO.nd, by have := hKO.len; omega, hKO.sh⟩, hRV⟩, (hv.kp [4, 4, 4, 4] 4 1)⟩
     case measure => show n - (((i + 1 : Nat) : Int)).toNat < n - ((i : Int)).toNat; omega
    have hva := valRd_at2 hrdv (hbl26 rfl)
    refine uG (.bool false) rfl (ex_not rfl rfl rfl) (uK rfl ?_)
    refine uM rfl ?_
    refine uF (.pointer (some ⟨b20, 1, none⟩)) rfl (l1fa81_1 _ _ _) ?_
    refine uL (.agg #[vI x.kind, vS x.text, xp, xt, xz]) rfl (lM 0 s1wd79 hv rfl rfl rfl rfl) ?_
    refine xC l1callable28 rfl ((refRightV C _ _ x xp xt xz (hva.more hBC) hv).mono ?_) rfl
    rintro e w29 ⟨bl28, rfl, hbl28, hv⟩
    refine ⟨_, rfl, ?_⟩
    cases bl28
    ·refine uG (.bool true) rfl (ex_not rfl rfl rfl) (uK rfl ?_)
     refine uM rfl ?_
     iterate 3 refine uP rfl ?_
     refine uK rfl (uM rfl ?_)
     iterate 3 refine uP rfl ?_
     refine uK rfl (uW k24 ?_)
     refine cT rfl (xE ?_)
     refine tX (bH ?_)
     refine tK k18 (rL ?_)
     refine uM rfl ?_
     refine uG (vI ((i + 1 : Nat) : Int)) rfl (ex_add rfl rfl rfl (by rw [i64_in (by omega)]; omega)) (uA rfl ?_)
     refine uZ (then_normal ?_)
     go_roundw
     case rel => exact ⟨i + 1, _, _, _, _, _, _, _, _, _, _, rfl, hBC, by omega, ⟨by omega, by omega, by omega, hM, hO, hRK, ⟨hKO.nd, by have := hKO.len; omega, hKO.sh⟩, hRV⟩, (hv.kp [4, 4, 4, 4] 4 1)⟩
     case measure => show n - (((i + 1 : Nat) : Int)).toNat < n - ((i : Int)).toNat; omega
    refine uG (.bool false) rfl (ex_not rfl rfl rfl) (uK rfl ?_)
    refine uM rfl ?_
    refine uF (.pointer (some ⟨b20, 6, none⟩)) rfl (l1fa81_2 _ _ _) ?_
    refine uL _ rfl (run_load1 s2na3 (hv.load 0 6 rfl rfl)) ?_
    by_cases hb30 : ex < 0
    ·refine uG (.bool true) rfl (ex_lss rfl rfl rfl (qT hb30)) (uK rfl ?_)
     refine uM rfl ?_
     iterate 3 refine uP rfl ?_
     refine uK rfl (uW k24 ?_)
     refine cT rfl (xE ?_)
     refine tX (bH ?_)
     refine tK k18 (rL ?_)
     refine uM rfl ?_
     refine uG (vI ((i + 1 : Nat) : Int)) rfl (ex_add rfl rfl rfl (by rw [i64_in (by omega)]; omega)) (uA rfl ?_)
     refine uZ (then_normal ?_)
     go_roundw
     case rel => exact ⟨i + 1, _, _, _, _, _, _, _, _, _, _, rfl, hBC, by omega, ⟨by omega, by omega, by omega, hM, hO, hRK, ⟨hKO.nd, by have := hKO.len; omega, hKO.sh⟩, hRV⟩, (hv.kp [4, 4, 4, 4] 4 1)⟩
     case measure => show n - (((i + 1 : Nat) : Int)).toNat < n - ((i : Int)).toNat; omega
    refine uG (.bool false) rfl (ex_lss rfl rfl rfl (qF hb30)) (uK rfl ?_)
    refine uM rfl ?_
    refine uF (.pointer (some ⟨b20, 6, none⟩)) rfl (l1fa81_2 _ _ _) ?_
    refine uL _ rfl (run_load1 s2na3 (hv.load 0 6 rfl rfl)) ?_
    by_cases hb31 : ex > 1099511627776
    ·refine uG (.bool true) rfl (ex_gtr rfl rfl rfl (qT hb31)) (uK rfl ?_)
     refine uW k24 (cT rfl ?_)
     refine xE (tX ?_)
     refine bH (tK k18 ?_)
     refine rL (uM rfl ?_)
     refine uG (vI ((i + 1 : Nat) : Int)) rfl (ex_add rfl rfl rfl (by rw [i64_in (by omega)]; omega)) (uA rfl ?_)
     refine uZ (then_normal ?_)
     go_roundw
     case rel => exact ⟨i + 1, _, _, _, _, _, _, _, _, _, _, rfl, hBC, by omega, ⟨by omega, by omega, by omega, hM, hO, hRK, ⟨hKO.nd, by have := hKO.len; omega, hKO.sh⟩, hRV⟩, (hv.kp [4, 4, 4, 4] 4 1)⟩
     case measure => show n - (((i + 1 : Nat) : Int)).toNat < n - ((i : Int)).toNat; omega
    refine uG (.bool false) rfl (ex_gtr rfl rfl rfl (qF hb31)) (uK rfl ?_)
    refine uW k24 (cF rfl ?_)
    refine kS (tK k23 ?_)
    refine sK fun _ k32 => sK fun _ k33 => rL (uM rfl ?_)
    refine uF (vP b20) rfl (l1fa81_0 _ _ _) ?_
    refine uL _ rfl (run_load1 s9na9 (hv.load 0 0 rfl rfl)) ?_
    refine uF (.pointer (some ⟨b20, 1, none⟩)) rfl (l1fa81_1 _ _ _) ?_
    refine uL (.agg #[vI x.kind, vS x.text, xp, xt, xz]) rfl (lM 0 s1wd79 hv rfl rfl rfl rfl) ?_
    refine uF (.pointer (some ⟨b20, 6, none⟩)) rfl (l1fa81_2 _ _ _) ?_
    refine uL _ rfl (run_load1 s2na3 (hv.load 0 6 rfl rfl)) ?_
    replace hv := hv.front 2 rfl
    simp only [eS, eZ] at hv
    replace hv := hv.front 2 rfl
    simp only [eS, eZ] at hv
    refine xC l1callable29 rfl ((viewKeep C _ _ v t m s p wb va vc sv now es M key x xp xt xz ex (hM.more (Base.Le.refl _)) (hva.more hBC) hv).mono ?_) rfl
    rintro e w34 ⟨D, es2, M2, ec, hD, rfl, hM2, hkp, hv⟩
    refine ⟨_, rfl, ?_⟩
    have hO2 := hO.keep hkp
    obtain ⟨hec, hmm⟩ := keep_ok (by omega) (fun _ => ⟨by omega, hbl28.1 rfl, by omega, by omega⟩) hkp
    subst hec
    refine uG (.bool false) rfl (ex_neq rfl rfl rfl (by decide)) (uW k33 ?_)
    refine cF rfl (kS ?_)
    refine tK k32 (rL ?_)
    refine uL (.agg #[.slice ka K.length kc, vI now, .slice wa wl.length wc]) rfl (lM 3 v2wd48 hv rfl rfl rfl rfl) ?_
    refine uF (vP b20) rfl (l1fa81_0 _ _ _) ?_
    refine uL _ rfl (run_load1 s9na9 (hv.load 2 0 rfl rfl)) ?_
    refine uF (.pointer (some ⟨b20, 1, none⟩)) rfl (l1fa81_1 _ _ _) ?_
    refine uL (.agg #[vI x.kind, vS x.text, xp, xt, xz]) rfl (lM 2 s1wd79 hv rfl rfl rfl rfl) ?_
    refine uF (.pointer (some ⟨b20, 6, none⟩)) rfl (l1fa81_2 _ _ _) ?_
    refine uL _ rfl (run_load1 s2na3 (hv.load 2 6 rfl rfl)) ?_
    refine xC l1callable30 rfl ((refPut20 D _ _ K wl ka wa kc wc xs now (hRV.more hD) (by omega) (by omega) (hRK.short hKO) key x xp xt xz ex (hva.more (hBC.trans hD)) hv).mono ?_) rfl
    rintro e w35 ⟨E, K2, wl2, ka2, kc2, wa2, wc2, xs2, hE, rfl, hRV2, hK2, hwl2, hv⟩
    refine ⟨_, rfl, ?_⟩
    have hRK2 := rel_step hRK hmm hK2
    have hKO2 := hKO.step (by omega) hmm
    have hKl2 := putK_len hK2
    simp only [zP, po]
    refine xS 3 rfl hv v2sz48 rfl (by exact ⟨rfl, rfl, rfl, trivial⟩) (fun w36 hv => ?_)
    simp only [zS, zO, sp] at hv
    refine uZ (bN ?_)
    refine tK k18 (rL ?_)
    refine uM rfl ?_
    refine uG (vI ((i + 1 : Nat) : Int)) rfl (ex_add rfl rfl rfl (by rw [i64_in (by omega)]; omega)) (uA rfl ?_)
    refine uZ (then_normal ?_)
    go_roundw
    case rel => exact ⟨i + 1, _, _, _, _, _, _, _, _, _, _, rfl, ((hBC.trans hD).trans hE), by omega, ⟨by omega, by omega, by omega, hM2.more hE, hO2, hRK2, hKO2, hRV2.more (Base.Le.refl _)⟩, (hv.kp [4, 4, 3, 3] 4 1)⟩
    case measure => show n - (((i + 1 : Nat) : Int)).toNat < n - ((i : Int)).toNat; omega
   refine uG (.bool false) rfl (ex_lss rfl rfl rfl (qF hb17)) (uK rfl ?_)
   refine uW k15 (cF rfl ?_)
   refine xE (tX ?_)
   refine tX (bH ?_)
   refine tK k11 (sK fun _ k37 => ?_)
   refine rW mixed [3] [0,1,2,3,4] 80 rfl (by kernel_rfl) hv ?_
   simp only [qm, opAt]
   refine dM (vP v) rfl (dL (.agg #[.slice ka K.length kc, vI now, .slice wa wl.length wc]) rfl (fun hv => ex_load rfl rfl (lM 2 v2wd48 hv rfl rfl rfl rfl)) ?_)
   refine dA (vP v) rfl ?_
   simp only [zP, po]
   refine dS rfl fun w38 hv => mS 3 rfl hv v2sz48 rfl (by exact ⟨rfl, rfl, rfl, trivial⟩) (fun w39 hv => ?_)
   simp only [zS, zO, sp] at hv
   refine dW hv (dA (.bool true) rfl ?_)
   refine dE fun w40 hv => ?_
   simp only [zP, po]
   refine tK k37 (rR ?_)
   refine bodyPost_ret (res_tct rfl rfl (lM 3 v2wd48 hv rfl rfl rfl rfl)) rfl (⟨C, now, v, t, m, s, p, wb, va, vc, sv, es, M, K, wl, ka, wa, kc, wc, xs, hBC, h0, h1, by omega, by omega, hM, hO, hRK, ⟨hKO.nd, by have := hKO.len; omega, hKO.sh⟩, hRV, rfl, (hv.kp [1, 1] 2 2)⟩)
  refine uG (.bool false) rfl (ex_lss rfl rfl rfl (qF hb16)) (uM rfl ?_)
  refine uP rfl ?_
  refine uP rfl (uK rfl ?_)
  refine uW k15 (cF rfl ?_)
  refine xE (tX ?_)
  refine tX (bH ?_)
  refine tK k11 (sK fun _ k41 => ?_)
  refine rW mixed [3] [0,1,2,3,4] 80 rfl (by kernel_rfl) hv ?_
  simp only [qm, opAt]
  refine dM (vP v) rfl (dL (.agg #[.slice ka K.length kc, vI now, .slice wa wl.length wc]) rfl (fun hv => ex_load rfl rfl (lM 2 v2wd48 hv rfl rfl rfl rfl)) ?_)
  refine dA (vP v) rfl ?_
  simp only [zP, po]
  refine dS rfl fun w42 hv => mS 3 rfl hv v2sz48 rfl (by exact ⟨rfl, rfl, rfl, trivial⟩) (fun w43 hv => ?_)
  simp only [zS, zO, sp] at hv
  refine dW hv (dA (.bool true) rfl ?_)
  refine dE fun w44 hv => ?_
  simp only [zP, po]
  refine tK k41 (rR ?_)
  refine bodyPost_ret (res_tct rfl rfl (lM 3 v2wd48 hv rfl rfl rfl rfl)) rfl (⟨C, now, v, t, m, s, p, wb, va, vc, sv, es, M, K, wl, ka, wa, kc, wc, xs, hBC, h0, h1, by omega, by omega, hM, hO, hRK, ⟨hKO.nd, by have := hKO.len; omega, hKO.sh⟩, hRV, rfl, (hv.kp [1, 1] 2 2)⟩)
section
variable {M : List (List UInt8 × Ver)} {now : Int} {name : List UInt8} {y : Ver} {ok : Bool} {k : KeyR}
theorem got_yes (h : (ok = true ∧ lookA M name = some y ∧ aliveB y now = true) ∨ (ok = false ∧ y = zver0 ∧ ∀ y9, lookA M name = some y9 → aliveB y9 now = false)) (hl : lookA M name = some ⟨0, false, k.exp, k.val⟩) (ha : aliveB ⟨0, false, k.exp, k.val⟩ now = true) : ok = true ∧ y = kver k := by
 rcases h with ⟨h1, h2, -⟩ | ⟨-, -, h2⟩
 ·rw [hl] at h2; cases h2; exact ⟨h1, rfl⟩
 rw [h2 _ hl] at ha; cases ha
theorem got_no (h : (ok = true ∧ lookA M name = some y ∧ aliveB y now = true) ∨ (ok = false ∧ y = zver0 ∧ ∀ y9, lookA M name = some y9 → aliveB y9 now = false)) (hd : DeadM M now name) : ok = false ∧ y = zver0 := by
 rcases h with ⟨-, h2, h3⟩ | ⟨h1, h2, -⟩
 ·rw [hd y h2] at h3; cases h3
 exact ⟨h1, h2⟩
end
theorem getKB (B : Base) (H : List Res) (w : World) (K : List KeyR) (wl : List (List UInt8)) (ka wa : Option Addr) (kc wc : Nat) (xs : List Value) (clk : Int) (hR : RefV B K wl ka wa kc wc xs) (hm : K.length ≤ 10000) (hmw : wl.length ≤ 10000) (name : List UInt8) (hv : Inv B H w) : Calls Tryz.prog 32 #[.agg #[.slice ka K.length kc, vI clk, .slice wa wl.length wc], vS name] w fun e w' => ∃ x p' t' z' ok, e = .returned (.tuple #[.agg (krCells x p' t' z').toArray, .bool ok]) ∧ ((ok = true ∧ getK K clk name = some x) ∨ (ok = false ∧ x = zkey ∧ getK K clk name = none)) ∧ ValAt B x.val p' t' z' ∧ Inv B H w' := by
 refine (refGet20 B H w K wl ka wa kc wc xs clk hR hm hmw name hv).mono ?_
 rintro e w' ⟨x, p', t', z', ok, rfl, h1, h2, h3⟩
 exact ⟨x, p', t', z', ok, rfl, h1.imp (fun h => ⟨h.1, h.2.1⟩) (fun h => ⟨h.1, h.2.1, h.2.2.1⟩), h2, h3⟩
theorem l2callable172 : Callable Tryz.prog 172 := cb Tryz.func172 (by kernel_rfl)
theorem l2callable31 : Callable Tryz.prog 31 := cb Tryz.func31 (by kernel_rfl)
theorem l2al86 : AL Tryz.prog 86 [vI 0, .bool false, vI 0, vI 0, vS [], vN, vN, vN] := fun w => by kernel_rfl
theorem l2al89 : AL Tryz.prog 89 [vS [], vI 0, vS [], vN, vN, vN, vI 0] := fun w => by kernel_rfl
theorem l2fa89_1 : FA Tryz.prog 89 1 1 := fun w b o => by kernel_rfl
theorem l2callable33 : Callable Tryz.prog 33 := cb Tryz.func33 (by kernel_rfl)
theorem lawSame (B : Base) (H : List Res) (w : World) (v t m s p wb : Nat) (va : Option Addr) (vc : Nat) (sv : Value) (now : Int) (es : List (List UInt8 × Value)) (M : List (List UInt8 × Ver)) (K : List KeyR) (wl : List (List UInt8)) (ka wa : Option Addr) (kc wc : Nat) (xs : List Value) (hM : VM B es M) (hRK : RelVK M K) (hKO : KeysOk M 10) (hRV : RefV B K wl ka wa kc wc xs) (hKl : K.length ≤ 10) (hwl : wl.length ≤ 10) (hv : Inv B (Res.cell v [.iface 63 (vP t)] 40 :: txR t m s p wb va vc sv now es :: H) w) :
  Calls Tryz.prog 16 #[vP v, .agg #[.slice ka K.length kc, vI now, .slice wa wl.length wc]] w fun e w' => e = .returned (.bool true) ∧ Inv B (Res.cell v [.iface 63 (vP t)] 40 :: txR t m s p wb va vc sv now es :: H) w' := by
 refine cW Tryz.func16 rfl Tryz.ntmps16 ?_
 simp only [al]
 refine sK fun _ k1 => rL (sl_box (L := [.slice ka K.length kc, vI now, .slice wa wl.length wc]) tV (wn rfl) rfl rfl hv (fun w => by kernel_rfl) (fun b2 w3 hv => ?_))
 refine uA rfl (uW k1 ?_)
 refine sK fun _ k4 => sK fun _ k5 => rW mixed [4, 6, 7] [0,1,2,3,5,4,6,7,8] 71 rfl (by kernel_rfl) hv ?_
 simp only [qm, opAt]
 refine dM (vP v) rfl (dG (vP v) rfl (ex_nil rfl rfl) ?_)
 refine dG (vP v) rfl (ex_field rfl rfl (v1fa40_0 _ _ _)) ?_
 simp only [zP, po]
 refine dL _ rfl (fun hv => ex_load rfl rfl (run_load1 v1na38 (hv.load 1 0 rfl rfl))) (dF (.agg #[.slice ka K.length kc, vI now, .slice wa wl.length wc]) rfl (fun hv => ex_load rfl rfl (lM 0 v2wd48 hv rfl rfl rfl rfl)) fun f6 hf6 => ?_)
 refine dS rfl fun w7 hv => ?_
 replace hv := hv.front 2 rfl
 simp only [eS, eZ] at hv
 refine stepMem_callI l2callable172 rfl rfl rfl (r := vP t) (fun w => by kernel_rfl) (args := #[]) (by simp only [List.map_toArray, List.map_nil]) ((txnNamesB B _ _ t m s p wb va vc sv now es M (hM.more (Base.Le.refl _)) hKO.sh (by have := hKO.len; omega) hv).mono ?_)
 rintro e w8 ⟨P, na, nc, hP, rfl, hnr, hv⟩
 refine ⟨_, rfl, dV hv (fC (fun ww hv => hf6 ww ?_) fN) ?_⟩
 ·exact ex_load rfl rfl (lM 1 v2wd48 hv rfl rfl rfl rfl)
 simp only [zP, po]
 refine dS rfl fun w9 hv => mC l2callable31 rfl ((refNames20 P _ _ K wl ka wa kc wc xs now (hRV.more hP) (by omega) (by omega) hRK.nodup hv).mono ?_) rfl
 rintro e w10 ⟨Q, ma, mc, hQ, rfl, hmr, hv⟩
 refine ⟨_, rfl, dV hv (fK rfl fN) ?_⟩
 refine dS rfl fun w11 hv => mC s18callable12 rfl ((wordsEq Q _ _ na ma nc mc (hRK.names hKO.nd) (hnr.more hQ (fun _ h => h)) hmr (by have := namesR_le K now; omega) hv).mono ?_) rfl
 rintro e w12 ⟨rfl, hv⟩
 refine ⟨_, rfl, dV hv (fK rfl fN) ?_⟩
 refine dG (.bool false) rfl (ex_not rfl rfl rfl) (dE fun w13 hv => ?_)
 simp only [zP, po]
 refine tK k5 (cF rfl ?_)
 refine kS (tK k4 ?_)
 refine sK fun _ k14 => sK fun _ k15 => rL (uA rfl ?_)
 refine uW k15 (bB ?_)
 gi_loopw [5] (fun x5 wr => ∃ (i : Nat), x5 = vI i ∧ i ≤ K.length ∧ Inv B (Res.cell v [.iface 63 (vP t)] 40 :: txR t m s p wb va vc sv now es :: Res.cell b2 [.slice ka K.length kc, vI now, .slice wa wl.length wc] 48 :: H) wr) (fun x5 _ => K.length - (intOf x5).toNat)
 case atStart => exact ⟨0, rfl, Nat.zero_le _, ((((hv.front 1 rfl).front 1 rfl).front 2 rfl)).weak (hP.trans hQ)⟩
 case round =>
  obtain ⟨i, rfl, hi, hv⟩ := hrel
  refine sK fun _ k17 => sK fun _ k18 => rL (uM rfl ?_)
  refine uF (vP b2) rfl (v2fa48_0 _ _ _) ?_
  refine uL _ rfl (run_load1 v2na46 (hv.load 2 0 rfl rfl)) ?_
  refine uG (vI (K.length : Int)) rfl (ex_len0 Tryz.underlying46 rfl rfl) ?_
  by_cases hb19 : (i : Int) < (K.length : Int)
  ·refine uG (.bool true) rfl (ex_lss rfl rfl rfl (qT hb19)) (uW k18 ?_)
   refine cT rfl (kS ?_)
   refine tK k17 (sK fun _ k20 => ?_)
   refine bB (sK fun _ k21 => ?_)
   obtain ⟨x, hx⟩ : ∃ x, K[i]? = some x := ⟨_, List.getElem?_eq_getElem (show i < K.length by omega)⟩
   obtain ⟨kb, ko, xp, xt, xz, had, hvalx, hrdx⟩ := KeysAt.reads hRV.at_ hRV.keys hx
   subst had
   refine rT mixed (fun az wz => ∃ (G : Base) (y : Ver) (yp yt yz : Value) (ok : Bool) (b28 : Nat), (B.Le G) ∧ (ValAt G y.val yp yt yz) ∧ (((ok = true ∧ lookA M x.name = some y ∧ aliveB y now = true) ∨ (ok = false ∧ y = zver0 ∧ ∀ y9, lookA M x.name = some y9 → aliveB y9 now = false))) ∧ az = { tmps := List.toArray (vP v :: .agg #[.slice (some ⟨kb, ko, none⟩) K.length kc, vI now, .slice wa wl.length wc] :: undef :: vP b2 :: u4 :: vI i :: vP b28 :: .bool ok :: u8 :: u9 :: vP v :: vP v :: vP v :: .iface 63 (vP t) :: .slice na ((namesT M now).length) nc :: .agg #[.slice (some ⟨kb, ko, none⟩) K.length kc, vI now, .slice wa wl.length wc] :: .slice ma ((namesR K now).length) mc :: .bool true :: .bool false :: vI i :: vP b2 :: .slice (some ⟨kb, ko, none⟩) K.length kc :: vI (K.length : Int) :: .bool true :: u24 :: u25 :: .tuple #[.agg #[vI y.stamp, .bool y.gone, vI y.expire, vI y.val.kind, vS y.val.text, yp, yt, yz], .bool ok] :: vP v :: vP v :: vP v :: .iface 63 (vP t) :: vP b2 :: .slice (some ⟨kb, ko, none⟩) K.length kc :: vI i :: .pointer (some ⟨kb, ko + i * 7, none⟩) :: .pointer (some ⟨kb, ko + i * 7, none⟩) :: vS x.name :: .iface 63 (vP t) :: .iface 63 (vP t) :: .tuple #[.agg #[vI y.stamp, .bool y.gone, vI y.expire, vI y.val.kind, vS y.val.text, yp, yt, yz], .bool ok] :: .agg #[vI y.stamp, .bool y.gone, vI y.expire, vI y.val.kind, vS y.val.text, yp, yt, yz] :: .bool ok :: u42 :: u43 :: u44 :: u45 :: u46 :: u47 :: u48 :: u49 :: u50 :: u51 :: u52 :: u53 :: u54 :: u55 :: u56 :: u57 :: u58 :: u59 :: u60 :: u61 :: u62 :: u63 :: u64 :: u65 :: u66 :: u67 :: u68 :: u69 :: u70 :: []), defers := [] } ∧ Inv G (Res.cell b28 [vI y.stamp, .bool y.gone, vI y.expire, vI y.val.kind, vS y.val.text, yp, yt, yz] 86 :: txR t m s p wb va vc sv now es :: Res.cell v [.iface 63 (vP t)] 40 :: Res.cell b2 [.slice (some ⟨kb, ko, none⟩) K.length kc, vI now, .slice wa wl.length wc] 48 :: H) wz) [12, 16, 17] [0,1,2,3,4,5,6,7,8,9,10,11] [13,14,15,16,17,18] [12,13,14,15,17,18] 12 16 71 rfl (by kernel_rfl) hv ?_ ?_
   ·intro R2 l1 l2 hR2 hl1 hl2
    simp only [qm, opAt]
    refine tG (vP v) rfl (ex_move rfl rfl) (tG (vP v) rfl (ex_nil rfl rfl) ?_)
    simp only [zP, po]
    refine tG (vP v) rfl (ex_field rfl rfl (v1fa40_0 _ _ _)) (tF (.iface 63 (vP t)) rfl (fun hv => ex_load rfl rfl (run_load1 v1na38 (hv.load 0 0 rfl rfl))) fun f22 hf22 => ?_)
    simp only [zP, po]
    refine tG (vP b2) rfl (ex_field rfl rfl (v2fa48_0 _ _ _)) (tF (.slice (some ⟨kb, ko, none⟩) K.length kc) rfl (fun hv => ex_load rfl rfl (run_load1 v2na46 (hv.load 2 0 rfl rfl))) fun f23 hf23 => ?_)
    simp only [zP, po]
    refine tG (vI i) rfl (ex_move rfl rfl) (tG (.pointer (some ⟨kb, ko + i * 7, none⟩)) rfl (ex_index rfl rfl rfl (run_idx (k := i) Tryz.underlying46 v2es46 (by omega))) ?_)
    simp only [zP, po]
    refine tG (.pointer (some ⟨kb, ko + i * 7, none⟩)) rfl (ex_field rfl rfl (v2fa89_0 _ _ _)) (tF (vS x.name) rfl (fun hv => ex_load rfl rfl (run_load1 s9na9 (hrdx _ _ _ (Base.Le.refl _) no_res hv 0 _ rfl))) fun f24 hf24 => ?_)
    simp only [zP, po]
    refine tG (.iface 63 (vP t)) rfl (ex_nilI rfl rfl) (tG (.iface 63 (vP t)) rfl (ex_move rfl rfl) ?_)
    simp only [zP, po]
    refine tB ?_ ?_
    ·rw [hl1]; clear hl1 hl2
     simp only [qm, opAt]
     refine dS rfl fun w25 hv => ?_
     replace hv := hv.front 1 rfl
     simp only [eS, eZ] at hv
     refine stepMem_callI v1callable171 rfl rfl rfl (r := vP t) (fun w => by kernel_rfl) (args := #[vS x.name]) (by simp only [List.map_toArray, List.map_cons, List.map_nil]; rfl) ((txnGet B _ _ t m s p wb va vc sv now es M x.name (hM.more (Base.Le.refl _)) hv).mono ?_)
     rintro e w26 ⟨G, y, yp, yt, yz, ok, hG, rfl, hgot, hyv, hv⟩
     refine ⟨_, rfl, dV hv (fK rfl (fK rfl (fK rfl fN))) ?_⟩
     refine dM (.tuple #[.agg #[vI y.stamp, .bool y.gone, vI y.expire, vI y.val.kind, vS y.val.text, yp, yt, yz], .bool ok]) rfl (dG (.agg #[vI y.stamp, .bool y.gone, vI y.expire, vI y.val.kind, vS y.val.text, yp, yt, yz]) rfl (ex_extract rfl rfl rfl) ?_)
     simp only [zP, po]
     refine dG (.bool ok) rfl (ex_extract rfl rfl rfl) (dS rfl fun w27 hv => ?_)
     refine mem_alloc rfl rfl hv l2al86 (fun b28 w29 hv => ?_)
     refine dV hv (fC (fun ww hv => hf24 ww (ex_load rfl rfl (run_load1 s9na9 (hrdx _ _ _ hG no_res hv 0 _ rfl)))) (fC (fun ww hv => hf23 ww (ex_load rfl rfl (run_load1 v2na46 (hv.load 3 0 rfl rfl)))) (fC (fun ww hv => hf22 ww (ex_load rfl rfl (run_load1 v1na38 (hv.load 2 0 rfl rfl)))) fN))) (dS rfl fun w30 hv => ?_)
     refine mS 0 rfl hv x0sz86 rfl (by exact ⟨rfl, rfl, rfl, rfl, rfl, hyv.p.one, hyv.t.one, hyv.z.one, trivial⟩) (fun w31 hv => ?_)
     simp only [zO, sp] at hv
     refine dV hv (fK rfl (fK rfl (fK rfl fN))) ?_
     simp only [zP, po]
     refine dA (.bool ok) rfl (dE fun wz hv => ?_)
     simp only [zP, po]
     exact hR2 _ _ ⟨G, y, yp, yt, yz, ok, b28, hG, hyv, hgot, rfl, ((((hv.front 3 rfl).front 3 rfl).front 3 rfl).front 3 rfl)⟩
    rw [hl2]; clear hl1 hl2
    simp only [qm, opAt]
    refine dS rfl fun w32 hv => mem_alloc rfl rfl hv l2al86 (fun b33 w34 hv => ?_)
    refine dV hv (fC (fun ww hv => hf24 ww (ex_load rfl rfl (run_load1 s9na9 (hrdx _ _ _ (Base.Le.refl _) no_res hv 0 _ rfl)))) (fC (fun ww hv => hf23 ww (ex_load rfl rfl (run_load1 v2na46 (hv.load 3 0 rfl rfl)))) (fC (fun ww hv => hf22 ww (ex_load rfl rfl (run_load1 v1na38 (hv.load 1 0 rfl rfl)))) fN))) (dS rfl fun w35 hv => ?_)
    replace hv := hv.front 2 rfl
    simp only [eS, eZ] at hv
    refine stepMem_callI v1callable171 rfl rfl rfl (r := vP t) (fun w => by kernel_rfl) (args := #[vS x.name]) (by simp only [List.map_toArray, List.map_cons, List.map_nil]; rfl) ((txnGet B _ _ t m s p wb va vc sv now es M x.name (hM.more (Base.Le.refl _)) hv).mono ?_)
    rintro e w36 ⟨G, y, yp, yt, yz, ok, hG, rfl, hgot, hyv, hv⟩
    refine ⟨_, rfl, dV hv (fK rfl (fK rfl (fK rfl fN))) ?_⟩
    refine dM (.tuple #[.agg #[vI y.stamp, .bool y.gone, vI y.expire, vI y.val.kind, vS y.val.text, yp, yt, yz], .bool ok]) rfl ?_
    simp only [zP, po]
    refine dG (.agg #[vI y.stamp, .bool y.gone, vI y.expire, vI y.val.kind, vS y.val.text, yp, yt, yz]) rfl (ex_extract rfl rfl rfl) (dG (.bool ok) rfl (ex_extract rfl rfl rfl) ?_)
    refine dS rfl fun w37 hv => mS 1 rfl hv x0sz86 rfl (by exact ⟨rfl, rfl, rfl, rfl, rfl, hyv.p.one, hyv.t.one, hyv.z.one, trivial⟩) (fun w38 hv => ?_)
    simp only [zS, zO, sp] at hv
    refine dV hv (fK rfl (fK rfl (fK rfl fN))) ?_
    simp only [zP, po]
    refine dA (.bool ok) rfl (dE fun wz hv => ?_)
    simp only [zP, po]
    exact hR2 _ _ ⟨G, y, yp, yt, yz, ok, b33, hG, hyv, hgot, rfl, ((((hv.front 3 rfl).front 3 rfl).front 2 rfl).front 3 rfl)⟩
   rintro _ w39 ⟨G, y, yp, yt, yz, ok, b28, hG, hyv, hgot, rfl, hv⟩
   refine tK k21 (sK fun _ k40 => ?_)
   refine rT mixed (fun az wz => ∃ (k : KeyR) (kp kt kz : Value) (ok2 : Bool) (b47 : Nat), (ValAt G k.val kp kt kz) ∧ (((ok2 = true ∧ getK K now x.name = some k) ∨ (ok2 = false ∧ k = zkey ∧ getK K now x.name = none))) ∧ az = { tmps := List.toArray (vP v :: .agg #[.slice (some ⟨kb, ko, none⟩) K.length kc, vI now, .slice wa wl.length wc] :: undef :: vP b2 :: u4 :: vI i :: vP b28 :: .bool ok :: vP b47 :: .bool ok2 :: vP v :: vP v :: vP v :: .iface 63 (vP t) :: .slice na ((namesT M now).length) nc :: .agg #[.slice (some ⟨kb, ko, none⟩) K.length kc, vI now, .slice wa wl.length wc] :: .slice ma ((namesR K now).length) mc :: .bool true :: .bool false :: vI i :: vP b2 :: .slice (some ⟨kb, ko, none⟩) K.length kc :: vI (K.length : Int) :: .bool true :: u24 :: u25 :: .tuple #[.agg #[vI y.stamp, .bool y.gone, vI y.expire, vI y.val.kind, vS y.val.text, yp, yt, yz], .bool ok] :: vP v :: vP v :: vP v :: .iface 63 (vP t) :: vP b2 :: .slice (some ⟨kb, ko, none⟩) K.length kc :: vI i :: .pointer (some ⟨kb, ko + i * 7, none⟩) :: .pointer (some ⟨kb, ko + i * 7, none⟩) :: vS x.name :: .iface 63 (vP t) :: .iface 63 (vP t) :: .tuple #[.agg #[vI y.stamp, .bool y.gone, vI y.expire, vI y.val.kind, vS y.val.text, yp, yt, yz], .bool ok] :: .agg #[vI y.stamp, .bool y.gone, vI y.expire, vI y.val.kind, vS y.val.text, yp, yt, yz] :: .bool ok :: .tuple #[.agg #[vS k.name, vI k.val.kind, vS k.val.text, kp, kt, kz, vI k.exp], .bool ok2] :: .agg #[.slice (some ⟨kb, ko, none⟩) K.length kc, vI now, .slice wa wl.length wc] :: vP b2 :: .slice (some ⟨kb, ko, none⟩) K.length kc :: vI i :: .pointer (some ⟨kb, ko + i * 7, none⟩) :: .pointer (some ⟨kb, ko + i * 7, none⟩) :: vS x.name :: .tuple #[.agg #[vS k.name, vI k.val.kind, vS k.val.text, kp, kt, kz, vI k.exp], .bool ok2] :: .agg #[vS k.name, vI k.val.kind, vS k.val.text, kp, kt, kz, vI k.exp] :: .bool ok2 :: u53 :: u54 :: u55 :: u56 :: u57 :: u58 :: u59 :: u60 :: u61 :: u62 :: u63 :: u64 :: u65 :: u66 :: u67 :: u68 :: u69 :: u70 :: []), defers := [] } ∧ Inv G (Res.cell b47 [vS k.name, vI k.val.kind, vS k.val.text, kp, kt, kz, vI k.exp] 89 :: Res.cell b28 [vI y.stamp, .bool y.gone, vI y.expire, vI y.val.kind, vS y.val.text, yp, yt, yz] 86 :: txR t m s p wb va vc sv now es :: Res.cell v [.iface 63 (vP t)] 40 :: Res.cell b2 [.slice (some ⟨kb, ko, none⟩) K.length kc, vI now, .slice wa wl.length wc] 48 :: H) wz) [7, 11, 12] [0,1,2,3,4,5,6] [8,9,10,11,12,13] [7,8,9,10,12,13] 7 11 71 rfl (by kernel_rfl) hv ?_ ?_
   ·intro R2 l1 l2 hR2 hl1 hl2
    simp only [qm, opAt]
    refine tF (.agg #[.slice (some ⟨kb, ko, none⟩) K.length kc, vI now, .slice wa wl.length wc]) rfl (fun hv => ex_load rfl rfl (lM 3 v2wd48 hv rfl rfl rfl rfl)) fun f41 hf41 => tG (vP b2) rfl (ex_field rfl rfl (v2fa48_0 _ _ _)) ?_
    simp only [zP, po]
    refine tF (.slice (some ⟨kb, ko, none⟩) K.length kc) rfl (fun hv => ex_load rfl rfl (run_load1 v2na46 (hv.load 3 0 rfl rfl))) fun f42 hf42 => tG (vI i) rfl (ex_move rfl rfl) ?_
    simp only [zP, po]
    refine tG (.pointer (some ⟨kb, ko + i * 7, none⟩)) rfl (ex_index rfl rfl rfl (run_idx (k := i) Tryz.underlying46 v2es46 (by omega))) (tG (.pointer (some ⟨kb, ko + i * 7, none⟩)) rfl (ex_field rfl rfl (v2fa89_0 _ _ _)) ?_)
    simp only [zP, po]
    refine tF (vS x.name) rfl (fun hv => ex_load rfl rfl (run_load1 s9na9 (hrdx _ _ _ hG no_res hv 0 _ rfl))) fun f43 hf43 => ?_
    simp only [zP, po]
    refine tB ?_ ?_
    ·rw [hl1]; clear hl1 hl2
     simp only [qm, opAt]
     refine dS rfl fun w44 hv => mC v2callable32 rfl ((getKB G _ _ K wl (some ⟨kb, ko, none⟩) wa kc wc xs now (hRV.more hG) (by omega) (by omega) x.name hv).mono ?_) rfl
     rintro e w45 ⟨k, kp, kt, kz, ok2, rfl, hget, hkv, hv⟩
     refine ⟨_, rfl, dV hv (fK rfl (fK rfl (fK rfl fN))) ?_⟩
     refine dM (.tuple #[.agg #[vS k.name, vI k.val.kind, vS k.val.text, kp, kt, kz, vI k.exp], .bool ok2]) rfl (dG (.agg #[vS k.name, vI k.val.kind, vS k.val.text, kp, kt, kz, vI k.exp]) rfl (ex_extract rfl rfl rfl) ?_)
     simp only [zP, po]
     refine dG (.bool ok2) rfl (ex_extract rfl rfl rfl) (dS rfl fun w46 hv => ?_)
     refine mem_alloc rfl rfl hv l2al89 (fun b47 w48 hv => ?_)
     refine dV hv (fC (fun ww hv => hf43 ww (ex_load rfl rfl (run_load1 s9na9 (hrdx _ _ _ hG no_res hv 0 _ rfl)))) (fC (fun ww hv => hf42 ww (ex_load rfl rfl (run_load1 v2na46 (hv.load 4 0 rfl rfl)))) (fC (fun ww hv => hf41 ww ?_) fN))) ?_
     ·exact ex_load rfl rfl (lM 4 v2wd48 hv rfl rfl rfl rfl)
     refine dS rfl fun w49 hv => mS 0 rfl hv v2sz89 rfl (by exact ⟨rfl, rfl, rfl, hkv.p.one, hkv.t.one, hkv.z.one, rfl, trivial⟩) (fun w50 hv => ?_)
     simp only [zO, sp] at hv
     refine dV hv (fK rfl (fK rfl (fK rfl fN))) ?_
     simp only [zP, po]
     refine dA (.bool ok2) rfl (dE fun wz hv => ?_)
     simp only [zP, po]
     exact hR2 _ _ ⟨k, kp, kt, kz, ok2, b47, hkv, hget, rfl, (((((hv.front 4 rfl).front 4 rfl).front 4 rfl).front 4 rfl).front 4 rfl)⟩
    rw [hl2]; clear hl1 hl2
    simp only [qm, opAt]
    refine dS rfl fun w51 hv => mem_alloc rfl rfl hv l2al89 (fun b52 w53 hv => ?_)
    refine dV hv (fC (fun ww hv => hf43 ww (ex_load rfl rfl (run_load1 s9na9 (hrdx _ _ _ hG no_res hv 0 _ rfl)))) (fC (fun ww hv => hf42 ww (ex_load rfl rfl (run_load1 v2na46 (hv.load 4 0 rfl rfl)))) (fC (fun ww hv => hf41 ww ?_) fN))) ?_
    ·exact ex_load rfl rfl (lM 4 v2wd48 hv rfl rfl rfl rfl)
    refine dS rfl fun w54 hv => mC v2callable32 rfl ((getKB G _ _ K wl (some ⟨kb, ko, none⟩) wa kc wc xs now (hRV.more hG) (by omega) (by omega) x.name hv).mono ?_) rfl
    rintro e w55 ⟨k, kp, kt, kz, ok2, rfl, hget, hkv, hv⟩
    refine ⟨_, rfl, dV hv (fK rfl (fK rfl (fK rfl fN))) ?_⟩
    refine dM (.tuple #[.agg #[vS k.name, vI k.val.kind, vS k.val.text, kp, kt, kz, vI k.exp], .bool ok2]) rfl ?_
    simp only [zP, po]
    refine dG (.agg #[vS k.name, vI k.val.kind, vS k.val.text, kp, kt, kz, vI k.exp]) rfl (ex_extract rfl rfl rfl) (dG (.bool ok2) rfl (ex_extract rfl rfl rfl) ?_)
    refine dS rfl fun w56 hv => mS 0 rfl hv v2sz89 rfl (by exact ⟨rfl, rfl, rfl, hkv.p.one, hkv.t.one, hkv.z.one, rfl, trivial⟩) (fun w57 hv => ?_)
    simp only [zO, sp] at hv
    refine dV hv (fK rfl (fK rfl (fK rfl fN))) ?_
    simp only [zP, po]
    refine dA (.bool ok2) rfl (dE fun wz hv => ?_)
    simp only [zP, po]
    exact hR2 _ _ ⟨k, kp, kt, kz, ok2, b52, hkv, hget, rfl, (((((hv.front 4 rfl).front 4 rfl).front 4 rfl).front 4 rfl).front 4 rfl)⟩
   rintro _ w58 ⟨k, kp, kt, kz, ok2, b47, hkv, hget, rfl, hv⟩
   refine tK k40 (sK fun _ k59 => ?_)
   rcases hget with ⟨rfl, hgk⟩ | ⟨rfl, rfl, hgk⟩
   ·obtain ⟨hl9, ha9⟩ := hRK.got hgk
    obtain ⟨rfl, rfl⟩ := got_yes hgot hl9 ha9
    refine rL (uM rfl ?_)
    refine uM rfl ?_
    refine uG (.bool false) rfl (ex_bneq Tryz.underlying4 rfl rfl rfl rfl) (uM rfl ?_)
    refine uF (.pointer (some ⟨b28, 3, none⟩)) rfl (x2fa86_3 _ _ _) ?_
    refine uL (.agg #[vI ((kver k).val.kind), vS ((kver k).val.text), yp, yt, yz]) rfl (lM 1 s1wd79 hv rfl rfl rfl rfl) ?_
    refine uF (.pointer (some ⟨b47, 1, none⟩)) rfl (l2fa89_1 _ _ _) ?_
    refine uL (.agg #[vI k.val.kind, vS k.val.text, kp, kt, kz]) rfl (lM 0 s1wd79 hv rfl rfl rfl rfl) ?_
    refine xC l2callable33 rfl ((refSameV G _ _ k.val yp yt yz kp kt kz (hyv.more (Base.Le.refl _)).rd (hkv.more (Base.Le.refl _)).rd hkv.pm hkv.tm hkv.zm hv).mono ?_) rfl
    rintro e w60 ⟨rfl, hv⟩
    refine ⟨_, rfl, uG (.bool false) rfl (ex_not rfl rfl rfl) ?_⟩
    refine uK rfl (uM rfl ?_)
    refine uF (.pointer (some ⟨b28, 2, none⟩)) rfl (s2fa86_2 _ _ _) ?_
    refine uL _ rfl (run_load1 s2na3 (hv.load 1 2 rfl rfl)) ?_
    refine uF (.pointer (some ⟨b47, 6, none⟩)) rfl (v2fa89_2 _ _ _) ?_
    refine uL _ rfl (run_load1 s2na3 (hv.load 0 6 rfl rfl)) ?_
    refine uG (.bool false) rfl (ex_neq rfl rfl rfl (qF (fun h => h rfl))) (uK rfl ?_)
    refine uW k59 (cF rfl ?_)
    refine kS (bN ?_)
    refine tK k20 (rL ?_)
    refine uM rfl ?_
    refine uG (vI ((i + 1 : Nat) : Int)) rfl (ex_add rfl rfl rfl (by rw [i64_in (by omega)]; omega)) (uA rfl ?_)
    refine uZ (then_normal ?_)
    simp only [vP, vI, vS]
    go_roundw
    case rel => exact ⟨i + 1, rfl, by omega, ((hv.kp [4, 3, 4] 3 2)).weak hG⟩
    case measure => show K.length - (((i + 1 : Nat) : Int)).toNat < K.length - ((i : Int)).toNat; omega
   obtain ⟨rfl, rfl⟩ := got_no hgot (hRK.dead hgk)
   refine rL (uM rfl ?_)
   refine uM rfl ?_
   refine uG (.bool false) rfl (ex_bneq Tryz.underlying4 rfl rfl rfl rfl) (uM rfl ?_)
   refine uF (.pointer (some ⟨b28, 3, none⟩)) rfl (x2fa86_3 _ _ _) ?_
   refine uL (.agg #[vI zver0.val.kind, vS zver0.val.text, yp, yt, yz]) rfl (lM 1 s1wd79 hv rfl rfl rfl rfl) ?_
   refine uF (.pointer (some ⟨b47, 1, none⟩)) rfl (l2fa89_1 _ _ _) ?_
   refine uL (.agg #[vI zkey.val.kind, vS zkey.val.text, kp, kt, kz]) rfl (lM 0 s1wd79 hv rfl rfl rfl rfl) ?_
   refine xC l2callable33 rfl ((refSameV G _ _ zver0.val yp yt yz kp kt kz (hyv.more (Base.Le.refl _)).rd (hkv.more (Base.Le.refl _)).rd hkv.pm hkv.tm hkv.zm hv).mono ?_) rfl
   rintro e w61 ⟨rfl, hv⟩
   refine ⟨_, rfl, uG (.bool false) rfl (ex_not rfl rfl rfl) ?_⟩
   refine uK rfl (uM rfl ?_)
   refine uF (.pointer (some ⟨b28, 2, none⟩)) rfl (s2fa86_2 _ _ _) ?_
   refine uL _ rfl (run_load1 s2na3 (hv.load 1 2 rfl rfl)) ?_
   refine uF (.pointer (some ⟨b47, 6, none⟩)) rfl (v2fa89_2 _ _ _) ?_
   refine uL _ rfl (run_load1 s2na3 (hv.load 0 6 rfl rfl)) ?_
   refine uG (.bool false) rfl (ex_neq rfl rfl rfl (qF (fun h => h rfl))) (uK rfl ?_)
   refine uW k59 (cF rfl ?_)
   refine kS (bN ?_)
   refine tK k20 (rL ?_)
   refine uM rfl ?_
   refine uG (vI ((i + 1 : Nat) : Int)) rfl (ex_add rfl rfl rfl (by rw [i64_in (by omega)]; omega)) (uA rfl ?_)
   refine uZ (then_normal ?_)
   simp only [vP, vI, vS]
   go_roundw
   case rel => exact ⟨i + 1, rfl, by omega, ((hv.kp [4, 3, 4] 3 2)).weak hG⟩
   case measure => show K.length - (((i + 1 : Nat) : Int)).toNat < K.length - ((i : Int)).toNat; omega
  refine uG (.bool false) rfl (ex_lss rfl rfl rfl (qF hb19)) (uW k18 ?_)
  refine cF rfl (xE ?_)
  refine tX (tX ?_)
  refine bH (tK k14 ?_)
  refine sK fun _ k62 => rL (uA rfl ?_)
  refine uW k62 (rR ?_)
  refine bR rfl rfl (⟨rfl, ((hv.kp [1, 1] 2 1)).weak (Base.Le.refl _)⟩)
theorem l3fa44_1 : FA Tryz.prog 44 1 1 := fun w b o => by kernel_rfl
theorem lawSmall (B : Base) (H : List Res) (w : World) (cn : Int) (xa : Option Addr) (xc : Nat) (xs : List (List UInt8)) (hrx : RdV B [] xa (textCells xs)) (hv : Inv B H w) :
  Calls Tryz.prog 14 #[.agg #[vI cn, .slice xa xs.length xc]] w fun e w' => ∃ b, e = .returned (.bool b) ∧ (b = true → xs.length ≤ 14 ∧ ∀ x ∈ xs, x.length ≤ 4200) ∧ Inv B H w' := by
 refine cW Tryz.func14 rfl Tryz.ntmps14 ?_
 simp only [al]
 refine sK fun _ k1 => rL (sl_box (L := [vI cn, .slice xa xs.length xc]) tV (wn rfl) rfl rfl hv (fun w => by kernel_rfl) (fun b2 w3 hv => ?_))
 refine uA rfl (uW k1 ?_)
 refine sK fun _ k4 => sK fun _ k5 => rL (uF (.pointer (some ⟨b2, 1, none⟩)) rfl (l3fa44_1 _ _ _) ?_)
 refine uL _ rfl (run_load1 s1na22 (hv.load 0 1 rfl rfl)) ?_
 refine uG (vI (xs.length : Int)) rfl (ex_len0 Tryz.underlying22 rfl rfl) ?_
 by_cases hb6 : (xs.length : Int) > 14
 ·refine uG (.bool true) rfl (ex_gtr rfl rfl rfl (qT hb6)) (uW k5 ?_)
  refine cT rfl (sK fun _ k7 => ?_)
  refine rL (uA rfl ?_)
  refine uW k7 (rR ?_)
  refine tR (bR rfl rfl ?_)
  exact ⟨false, rfl, fun h9 => (by cases h9), (hv.kp [] 0 1)⟩
 refine uG (.bool false) rfl (ex_gtr rfl rfl rfl (qF hb6)) (uW k5 ?_)
 refine cF rfl (kS ?_)
 refine tK k4 (sK fun _ k8 => ?_)
 refine sK fun _ k9 => rL (uA rfl ?_)
 refine uW k9 (bB ?_)
 gi_loopw [3] (fun x3 wr => ∃ (i : Nat), x3 = vI i ∧ i ≤ xs.length ∧ (∀ x ∈ xs.take i, x.length ≤ 4200) ∧ Inv B (Res.cell b2 [vI cn, .slice xa xs.length xc] 44 :: H) wr) (fun x3 _ => xs.length - (intOf x3).toNat)
 case atStart => exact ⟨0, rfl, Nat.zero_le _, fun x h => (by cases h), hv⟩
 case round =>
  obtain ⟨i, rfl, hi, hall, hv⟩ := hrel
  refine sK fun _ k11 => sK fun _ k12 => rL (uM rfl ?_)
  refine uF (.pointer (some ⟨b2, 1, none⟩)) rfl (l3fa44_1 _ _ _) ?_
  refine uL _ rfl (run_load1 s1na22 (hv.load 0 1 rfl rfl)) ?_
  refine uG (vI (xs.length : Int)) rfl (ex_len0 Tryz.underlying22 rfl rfl) ?_
  by_cases hb13 : (i : Int) < (xs.length : Int)
  ·refine uG (.bool true) rfl (ex_lss rfl rfl rfl (qT hb13)) (uW k12 ?_)
   refine cT rfl (kS ?_)
   refine tK k11 (sK fun _ k14 => ?_)
   refine bB (sK fun _ k15 => ?_)
   obtain ⟨x, hx⟩ : ∃ x, xs[i]? = some x := ⟨_, List.getElem?_eq_getElem (show i < xs.length by omega)⟩
   obtain ⟨xb, xo, had, hrdx⟩ := text_reads hrx hx
   subst had
   refine rL (uF (.pointer (some ⟨b2, 1, none⟩)) rfl (l3fa44_1 _ _ _) ?_)
   refine uL _ rfl (run_load1 s1na22 (hv.load 0 1 rfl rfl)) (uM rfl ?_)
   refine uG (.pointer (some ⟨xb, xo + i, none⟩)) rfl (ex_index rfl rfl rfl (run_idx1 (k := i) Tryz.underlying22 s9es22 (by omega))) ?_
   refine uL _ rfl (run_load1 s9na9 (hrdx _ _ _ (Base.Le.refl _) no_res hv 0 _ rfl)) ?_
   refine uG (vI (x.length : Int)) rfl (ex_lenStr Tryz.underlying9 rfl rfl) ?_
   by_cases hb16 : (x.length : Int) > 4200
   ·refine uG (.bool true) rfl (ex_gtr rfl rfl rfl (qT hb16)) (uW k15 ?_)
    refine cT rfl (sK fun _ k17 => ?_)
    refine rL (uA rfl ?_)
    refine uW k17 (rR ?_)
    refine bZ (tR ?_)
    refine tR (bZ ?_)
    refine tR (bR rfl rfl ?_)
    exact ⟨false, rfl, fun h9 => (by cases h9), (hv.kp [] 0 1)⟩
   refine uG (.bool false) rfl (ex_gtr rfl rfl rfl (qF hb16)) (uW k15 ?_)
   refine cF rfl (kS ?_)
   refine bN (tK k14 ?_)
   refine rL (uM rfl ?_)
   refine uG (vI ((i + 1 : Nat) : Int)) rfl (ex_add rfl rfl rfl (by rw [i64_in (by omega)]; omega)) (uA rfl ?_)
   refine uZ (then_normal ?_)
   go_roundw
   case rel => exact ⟨i + 1, rfl, by omega, fun y hy => (by rw [take_next hx] at hy; rcases List.mem_append.1 hy with h9 | h9; exact hall y h9; rw [List.mem_singleton.1 h9]; omega), hv⟩
   case measure => show xs.length - (((i + 1 : Nat) : Int)).toNat < xs.length - ((i : Int)).toNat; omega
  refine uG (.bool false) rfl (ex_lss rfl rfl rfl (qF hb13)) (uW k12 ?_)
  refine cF rfl (xE ?_)
  refine tX (tX ?_)
  refine bH (tK k8 ?_)
  refine sK fun _ k18 => rL (uA rfl ?_)
  refine uW k18 (rR ?_)
  refine bR rfl rfl ?_
  obtain rfl : i = xs.length := by omega
  rw [List.take_length] at hall
  exact ⟨true, rfl, fun _ => ⟨by omega, hall⟩, (hv.kp [] 0 1)⟩
end Go.Proofs.YtffnhfkkochnhaaGreatDoor
namespace Go.Pm
open Go.RowKit Go.Sort
theorem pair_at {α : Type} {R : α → α → Prop} {l : List α} (h : l.Pairwise R) {i j : Nat} {x y : α} (hij : i < j) (hx : l[i]? = some x) (hy : l[j]? = some y) : R x y := by
 obtain ⟨h1, rfl⟩ := List.getElem?_eq_some_iff.1 hx
 obtain ⟨h2, rfl⟩ := List.getElem?_eq_some_iff.1 hy
 exact List.pairwise_iff_getElem.1 h i j h1 h2 hij
section
variable {s fresh out : List (List UInt8)} {i j : Nat} {x z : List UInt8}
end
abbrev Pr := List UInt8 × List UInt8
def getH (h : List Pr) (f : List UInt8) : Option (List UInt8) := (h.find? fun p => decide (p.1 = f)).map (·.2)
def insH : List Pr → List UInt8 → List UInt8 → List Pr
 | [], f, t => [(f, t)]
 | p :: h, f, t => if Op.bytesLess p.1 f = true then p :: insH h f t else if p.1 = f then (f, t) :: h else (f, t) :: p :: h
def delH (h : List Pr) (fs : List (List UInt8)) : List Pr := h.filter fun p => decide (p.1 ∉ fs)
def SortedH (h : List Pr) : Prop := (h.map (·.1)).Pairwise (fun a b => Op.bytesLess a b = true)
def UptoH (h : List Pr) (f : List UInt8) (i : Nat) : Prop := i ≤ h.length ∧ (∀ p, h[i]? = some p → Op.bytesLess p.1 f = false) ∧ ∀ j p, i = j + 1 → h[j]? = some p → Op.bytesLess p.1 f = true
section
variable {h : List Pr} {f g t u : List UInt8} {i : Nat} {p : Pr}
theorem SortedH.tail {q : Pr} (hs : SortedH (q :: h)) : SortedH h := (List.pairwise_cons.1 hs).2
theorem SortedH.head {q : Pr} (hs : SortedH (q :: h)) : ∀ p ∈ h, Op.bytesLess q.1 p.1 = true := fun p hp => (List.pairwise_cons.1 hs).1 _ (List.mem_map_of_mem hp)
theorem SortedH.at_ {j k : Nat} {p q : Pr} (hs : SortedH h) (hjk : j < k) (hp : h[j]? = some p) (hq : h[k]? = some q) : Op.bytesLess p.1 q.1 = true :=
 pair_at (R := fun a b => Op.bytesLess a b = true) (l := h.map (fun x : Pr => x.1)) hs hjk (by rw [List.getElem?_map, hp]; rfl) (by rw [List.getElem?_map, hq]; rfl)
theorem UptoH.le (hs : SortedH h) (hu : UptoH h f i) : ∀ j p, j < i → h[j]? = some p → Op.bytesLess p.1 f = true := fun j p hj hp => by
 obtain ⟨k, rfl⟩ : ∃ k, i = k + 1 := ⟨i - 1, by omega⟩
 obtain ⟨q, hq⟩ : ∃ q, h[k]? = some q := ⟨_, List.getElem?_eq_getElem (by have := hu.1; omega)⟩
 have h1 := hu.2.2 k q rfl hq
 rcases Nat.eq_or_lt_of_le (show j ≤ k by omega) with rfl | h2
 ·rw [hp] at hq; cases hq; exact h1
 exact lt_trans _ _ _ (hs.at_ h2 hp hq) h1
theorem UptoH.ge (hs : SortedH h) (hu : UptoH h f i) : ∀ j p, i < j → h[j]? = some p → Op.bytesLess f p.1 = true := fun j p hj hp => by
 have hjl := (List.getElem?_eq_some_iff.1 hp).1
 obtain ⟨q, hq⟩ : ∃ q, h[i]? = some q := ⟨_, List.getElem?_eq_getElem (by omega)⟩
 have h1 := hu.2.1 q hq
 have h2 : Op.bytesLess q.1 p.1 = true := hs.at_ hj hq hp
 cases h3 : Op.bytesLess f q.1 with
 | true => exact lt_trans _ _ _ h3 h2
 | false => rw [lt_total _ _ h3 h1]; exact h2
theorem UptoH.yes (hs : SortedH h) (hu : UptoH h f i) (hp : h[i]? = some p) (he : p.1 = f) : getH h f = some p.2 := by
 induction h generalizing i with
 | nil => cases hp
 | cons q h ih =>
  unfold getH
  rw [List.find?_cons]
  cases i with
  | zero => cases hp; simp [he]
  | succ i =>
   have h1 : Op.bytesLess q.1 f = true := hu.le hs 0 q (by omega) rfl
   have h2 : ¬ q.1 = f := fun e => by rw [e, lt_irrefl] at h1; cases h1
   simp only [h2, decide_false]
   exact ih hs.tail ⟨by have := hu.1; simp at this; omega, fun p hp => hu.2.1 p hp, fun j p hj hp => hu.2.2 (j + 1) p (by omega) hp⟩ hp
theorem getH_none (hn : ∀ p ∈ h, p.1 ≠ f) : getH h f = none := by
 unfold getH
 rw [List.find?_eq_none.2 (fun p hp => by simp [hn p hp])]; rfl
theorem UptoH.no (hs : SortedH h) (hu : UptoH h f i) (hn : ∀ p, h[i]? = some p → p.1 ≠ f) : getH h f = none := getH_none fun p hp e => by
 obtain ⟨j, hj⟩ := List.mem_iff_getElem?.1 hp
 rcases Nat.lt_trichotomy j i with h1 | rfl | h1
 ·have := hu.le hs j p h1 hj; rw [e, lt_irrefl] at this; cases this
 ·exact hn p hj e
 have := hu.ge hs j p h1 hj; rw [e, lt_irrefl] at this; cases this
theorem UptoH.set (hs : SortedH h) (hu : UptoH h f i) (hp : h[i]? = some p) (he : p.1 = f) : insH h f t = h.set i (f, t) := by
 induction h generalizing i with
 | nil => cases hp
 | cons q h ih =>
  cases i with
  | zero => cases hp; unfold insH; rw [if_neg (by rw [he, lt_irrefl]; decide), if_pos he]; rfl
  | succ i =>
   unfold insH
   rw [if_pos (hu.le hs 0 q (by omega) rfl)]
   exact congrArg (q :: ·) (ih hs.tail ⟨by have := hu.1; simp at this; omega, fun p hp => hu.2.1 p hp, fun j p hj hp => hu.2.2 (j + 1) p (by omega) hp⟩ hp)
theorem UptoH.ins (hs : SortedH h) (hu : UptoH h f i) (hn : ∀ p, h[i]? = some p → p.1 ≠ f) : insH h f t = h.take i ++ (f, t) :: h.drop i := by
 induction h generalizing i with
 | nil => have := hu.1; simp at this; subst this; rfl
 | cons q h ih =>
  cases i with
  | zero => unfold insH; rw [if_neg (by rw [hu.2.1 q rfl]; decide), if_neg (hn q rfl)]; rfl
  | succ i =>
   unfold insH
   rw [if_pos (hu.le hs 0 q (by omega) rfl)]
   exact congrArg (q :: ·) (ih hs.tail ⟨by have := hu.1; simp at this; omega, fun p hp => hu.2.1 p hp, fun j p hj hp => hu.2.2 (j + 1) p (by omega) hp⟩ hn)
theorem insH_mem {q : Pr} (hq : q ∈ insH h f t) : q = (f, t) ∨ q ∈ h := by
 induction h with
 | nil => exact .inl (List.mem_singleton.1 hq)
 | cons p h ih =>
  unfold insH at hq
  split at hq
  ·rcases List.mem_cons.1 hq with rfl | hq
   ·exact .inr List.mem_cons_self
   exact (ih hq).imp id (List.mem_cons_of_mem _)
  split at hq
  ·rcases List.mem_cons.1 hq with rfl | hq
   ·exact .inl rfl
   exact .inr (List.mem_cons_of_mem _ hq)
  rcases List.mem_cons.1 hq with rfl | hq
  ·exact .inl rfl
  exact .inr hq
theorem SortedH.ins (hs : SortedH h) : SortedH (insH h f t) := by
 induction h with
 | nil => exact List.pairwise_singleton _ _
 | cons p h ih =>
  unfold insH
  split
  ·rename_i h1
   refine List.pairwise_cons.2 ⟨fun x hx => ?_, ih hs.tail⟩
   obtain ⟨q, hq, rfl⟩ := List.mem_map.1 hx
   rcases insH_mem hq with rfl | hq
   ·exact h1
   exact hs.head q hq
  rename_i h1
  split
  ·rename_i h2
   subst h2
   exact hs
  rename_i h2
  have h3 : Op.bytesLess f p.1 = true := by
   cases h3 : Op.bytesLess f p.1 with
   | true => rfl
   | false => exact absurd (lt_total _ _ h3 (by simpa using h1)).symm h2
  refine List.pairwise_cons.2 ⟨fun x hx => ?_, hs⟩
  obtain ⟨q, hq, rfl⟩ := List.mem_map.1 hx
  rcases List.mem_cons.1 hq with rfl | hq
  ·exact h3
  exact lt_trans _ _ _ h3 (hs.head q hq)
theorem SortedH.del (hs : SortedH h) (fs : List (List UInt8)) : SortedH (delH h fs) := by
 unfold SortedH delH
 exact hs.sublist (List.filter_sublist.map _)
end
def setsH (h : List Pr) (ps : List Pr) : List Pr := ps.foldl (fun h p => insH h p.1 p.2) h
theorem setsH_sorted {h : List Pr} (hs : SortedH h) : ∀ ps : List Pr, SortedH (setsH h ps) := fun ps => by
 unfold setsH
 induction ps generalizing h with
 | nil => exact hs
 | cons p ps ih => exact ih hs.ins
theorem insH_len {h : List Pr} {f t : List UInt8} : (insH h f t).length = h.length ∨ (insH h f t).length = h.length + 1 := by
 induction h with
 | nil => exact .inr rfl
 | cons p h ih =>
  unfold insH
  split
  ·simp only [List.length_cons]; omega
  split <;> simp
theorem setsH_next {h ps : List Pr} {i : Nat} {p : Pr} (hp : ps[i]? = some p) : setsH h (ps.take (i + 1)) = insH (setsH h (ps.take i)) p.1 p.2 := by
 unfold setsH
 rw [take_next hp, List.foldl_append]; rfl
end Go.Pm
namespace Go.Proofs.YtffnhfkkochnhaaGreatDoor
open Go.RowKit Go.Pm
theorem pair_readsW {B : Base} {R : List Res} {l : List Pr} {ad : Option Addr} {i : Nat} {x : Pr} (hr : RdW B R ad (pairCells l)) (hx : l[i]? = some x) : ∃ b off, ad = some ⟨b, off, none⟩ ∧ Reads B R b (off + i * 2) [strV x.1, strV x.2] := by
 have hi := (List.getElem?_eq_some_iff.1 hx).1
 refine rdW_reads (k := i * 2) (m := 2) hr (by rw [pairCells_len]; omega) (by decide) rfl (fun j hj => ?_)
 exact (two_get (fun m : Pr => [strV m.1, strV m.2]) (fun _ => rfl) hx j hj).symm
theorem h1es76 (w : World) : (sizeOf (Tryz.prog.elem 76)).run Tryz.prog w = .ok 2 w := by kernel_rfl
theorem h1fa121_0 : FA Tryz.prog 121 0 0 := fun w b o => by kernel_rfl
theorem h1na9 (w : World) : (isAgg 9).run Tryz.prog w = .ok false w := by kernel_rfl
theorem hfindFn (B : Base) (H : List Res) (w : World) (b1 b2 k : Nat) (x : Pr) (ad : Option Addr) (c : Nat) (h : List Pr) (f : List UInt8) (R : List Res) (hRH : ∀ r ∈ R, r ∈ H) (hr : RdW B R ad (pairCells h)) (hx : h[k]? = some x) (hv : Inv B (Res.cell b2 [vS f] 9 :: Res.cell b1 [.slice ad h.length c] 76 :: H) w) :
  Calls Tryz.prog 92 #[vI k, vP b1, vP b2] w fun e w' => e = .returned (.bool (!Op.bytesLess x.1 f)) ∧ Inv B (Res.cell b2 [vS f] 9 :: Res.cell b1 [.slice ad h.length c] 76 :: H) w' := by
 have hkl : k < h.length := (List.getElem?_eq_some_iff.1 hx).1
 refine cW Tryz.func92 rfl Tryz.ntmps92 ?_
 simp only [al]
 refine sK fun _ k1 => rL (uA rfl ?_)
 refine uW k1 (sK fun _ k2 => ?_)
 obtain ⟨bb, bo, had, hrdx⟩ := pair_readsW hr hx
 subst had
 refine rW mixed [] [0,1,2,3,4,5,6,7] 12 rfl (by kernel_rfl) hv ?_
 simp only [qm, opAt]
 refine dL _ rfl (fun hv => ex_load rfl rfl (run_load1 s1na76 (hv.load 1 0 rfl rfl))) (dM (vI k) rfl ?_)
 refine dG (.pointer (some ⟨bb, bo + k * 2, none⟩)) rfl (ex_index rfl rfl rfl (run_idx (k := k) Tryz.underlying76 h1es76 (by omega))) ?_
 simp only [zP, po]
 refine dG (.pointer (some ⟨bb, bo + k * 2, none⟩)) rfl (ex_field rfl rfl (h1fa121_0 _ _ _)) (dL _ rfl (fun hv => ex_load rfl rfl (run_load1 h1na9 (hrdx _ _ _ (Base.Le.refl _) (fun r9 hr9 => (List.mem_cons_of_mem _ (List.mem_cons_of_mem _ (hRH r9 hr9)))) hv 0 _ rfl))) ?_)
 refine dL _ rfl (fun hv => ex_load rfl rfl (run_load1 h1na9 (hv.load 0 0 rfl rfl))) ?_
 simp only [zP, po]
 refine dG (.bool (!Op.bytesLess x.1 f)) rfl (ex_sgeq rfl rfl rfl rfl) (dA (.bool (!Op.bytesLess x.1 f)) rfl ?_)
 refine dE fun w3 hv => ?_
 simp only [zP, po]
 refine tK k2 (rR ?_)
 refine bR rfl rfl (⟨rfl, hv⟩)
theorem h1callable92 : Callable Tryz.prog 92 := cb Tryz.func92 (by kernel_rfl)
theorem h1callable91 : Callable Tryz.prog 91 := cb Tryz.func91 (by kernel_rfl)
theorem hashFind (B : Base) (H : List Res) (w : World) (ad : Option Addr) (c : Nat) (h : List Pr) (f : List UInt8) (R : List Res) (hRH : ∀ r ∈ R, r ∈ H) (hr : RdW B R ad (pairCells h)) (hm : h.length ≤ 1000000) (hv : Inv B H w) :
  Calls Tryz.prog 75 #[.slice ad h.length c, vS f] w fun e w' => ∃ (i : Nat) (b : Bool), UptoH h f i ∧ e = .returned (.tuple #[vI i, .bool b]) ∧ (b = true ↔ ∃ p, h[i]? = some p ∧ p.1 = f) ∧ Inv B H w' := by
 refine cW Tryz.func75 rfl Tryz.ntmps75 ?_
 simp only [al]
 refine sK fun _ k1 => rL (sl_box (L := [.slice ad h.length c]) tV (wn rfl) rfl rfl hv (fun w => by kernel_rfl) (fun b2 w3 hv => ?_))
 refine sl_box (L := [vS f]) tV (wn rfl) rfl rfl hv (fun w => by kernel_rfl) (fun b4 w5 hv => ?_)
 refine uA rfl (uA rfl ?_)
 refine uW k1 (sK fun _ k6 => ?_)
 refine rL (uL _ rfl (run_load1 s1na76 (hv.load 1 0 rfl rfl)) ?_)
 refine uG (vI (h.length : Int)) rfl (ex_len0 Tryz.underlying76 rfl rfl) ?_
 refine uG (.func (.func 92) #[] #[vP b2, vP b4]) rfl (ex_makeFunc (c' := #[vP b2, vP b4]) rfl (by simp only [List.map_toArray, List.map_nil]) (by simp only [List.map_toArray, List.map_cons, List.map_nil]; rfl)) ?_
 have hfn : ∀ k, k < h.length → ∀ w, Inv B (Res.cell b4 [vS f] 9 :: Res.cell b2 [.slice ad h.length c] 76 :: H) w → Calls Tryz.prog 92 (#[vI k] ++ #[vP b2, vP b4]) w fun e w' => e = .returned (.bool ((h[k]?.map fun x => !Op.bytesLess x.1 f).getD false)) ∧ Inv B (Res.cell b4 [vS f] 9 :: Res.cell b2 [.slice ad h.length c] 76 :: H) w' := fun k hk w hv => by
  obtain ⟨x, hx⟩ : ∃ x, h[k]? = some x := ⟨_, List.getElem?_eq_getElem hk⟩
  rw [hx]
  exact hfindFn B H w _ _ k x ad c h f R hRH hr hx hv
 refine xC h1callable91 rfl ((sortSearch B _ _ 92 _ h.length _ h1callable92 hfn (by omega) hv).mono ?_) rfl
 rintro e w8 ⟨i7, hi1, hi2, hi3, rfl, hv⟩
 refine ⟨_, rfl, uA rfl ?_⟩
 refine uW k6 (sK fun _ k9 => ?_)
 by_cases hin : i7 < h.length
 ·obtain ⟨x, hx⟩ : ∃ x, h[i7]? = some x := ⟨_, List.getElem?_eq_getElem (show i7 < h.length by omega)⟩
  obtain ⟨bb, bo, had, hrdx⟩ := pair_readsW hr hx
  subst had
  refine rW mixed [] [0,1,2,3,4,5,6,7,8,9,10,11,12,13,14,15] 25 rfl (by kernel_rfl) hv ?_
  simp only [qm, opAt]
  refine dM (vI i7) rfl (dM (vI i7) rfl ?_)
  refine dL _ rfl (fun hv => ex_load rfl rfl (run_load1 s1na76 (hv.load 1 0 rfl rfl))) ?_
  simp only [zP, po]
  refine dG (vI (h.length : Int)) rfl (ex_len0 Tryz.underlying76 rfl rfl) (dG (.bool true) rfl (ex_lss rfl rfl rfl (qT (by omega))) ?_)
  refine dM (.bool true) rfl ?_
  simp only [zP, po]
  refine dL _ rfl (fun hv => ex_load rfl rfl (run_load1 s1na76 (hv.load 1 0 rfl rfl))) (dM (vI i7) rfl ?_)
  refine dG (.pointer (some ⟨bb, bo + i7 * 2, none⟩)) rfl (ex_index rfl rfl rfl (run_idx (k := i7) Tryz.underlying76 h1es76 (by omega))) ?_
  simp only [zP, po]
  refine dG (.pointer (some ⟨bb, bo + i7 * 2, none⟩)) rfl (ex_field rfl rfl (h1fa121_0 _ _ _)) (dL _ rfl (fun hv => ex_load rfl rfl (run_load1 h1na9 (hrdx _ _ _ (Base.Le.refl _) (fun r9 hr9 => (List.mem_cons_of_mem _ (List.mem_cons_of_mem _ (hRH r9 hr9)))) hv 0 _ rfl))) ?_)
  refine dL _ rfl (fun hv => ex_load rfl rfl (run_load1 h1na9 (hv.load 0 0 rfl rfl))) ?_
  simp only [zP, po]
  refine dG (.bool (decide (x.1 = f))) rfl (ex_seql rfl rfl rfl rfl) (dK true (.bool (decide (x.1 = f))) rfl ?_)
  refine dA (vI i7) rfl ?_
  simp only [zP, po]
  refine dA (.bool (decide (x.1 = f))) rfl (dE fun w10 hv => ?_)
  simp only [zP, po]
  refine tK k9 (rR ?_)
  refine bodyPost_ret (results_tmp2 rfl _ _ _) rfl (⟨i7, decide (x.1 = f), ⟨hi1, fun p hp => (by have h9 := hi2 (List.getElem?_eq_some_iff.1 hp).1; rw [hp] at h9; simpa using h9), fun j p hj hp => (by have h9 := hi3 j hj; rw [hp] at h9; simpa using h9)⟩, rfl, ⟨fun h9 => ⟨x, hx, of_decide_eq_true h9⟩, fun ⟨p, hp, h9⟩ => (by rw [hx] at hp; cases hp; exact qT h9)⟩, (hv.kp [] 0 2)⟩)
 refine rW mixed [] [0,1,2,3,4,5,6,7,8,9,10,11,12,13,14,15] 25 rfl (by kernel_rfl) hv ?_
 simp only [qm, opAt]
 refine dM (vI i7) rfl (dM (vI i7) rfl ?_)
 refine dL _ rfl (fun hv => ex_load rfl rfl (run_load1 s1na76 (hv.load 1 0 rfl rfl))) ?_
 simp only [zP, po]
 refine dG (vI (h.length : Int)) rfl (ex_len0 Tryz.underlying76 rfl rfl) (dG (.bool false) rfl (ex_lss rfl rfl rfl (qF (by omega))) ?_)
 refine dM (.bool false) rfl ?_
 simp only [zP, po]
 iterate 7 refine dN rfl ?_
 refine dK false (.bool false) rfl (dA (vI i7) rfl ?_)
 refine dA (.bool false) rfl (dE fun w11 hv => ?_)
 simp only [zP, po]
 refine tK k9 (rR ?_)
 refine bodyPost_ret (results_tmp2 rfl _ _ _) rfl (⟨i7, false, ⟨hi1, fun p hp => (by have h9 := hi2 (List.getElem?_eq_some_iff.1 hp).1; rw [hp] at h9; simpa using h9), fun j p hj hp => (by have h9 := hi3 j hj; rw [hp] at h9; simpa using h9)⟩, rfl, ⟨fun h9 => (by cases h9), fun ⟨p, hp, _⟩ => absurd (List.getElem?_eq_some_iff.1 hp).1 (by omega)⟩, (hv.kp [] 0 2)⟩)
theorem h1callable75 : Callable Tryz.prog 75 := cb Tryz.func75 (by kernel_rfl)
theorem h1fa121_1 : FA Tryz.prog 121 1 1 := fun w b o => by kernel_rfl
theorem hashGet (B : Base) (H : List Res) (w : World) (ad : Option Addr) (c : Nat) (h : List Pr) (f : List UInt8) (R : List Res) (hRH : ∀ r ∈ R, r ∈ H) (hr : RdW B R ad (pairCells h)) (hs : SortedH h) (hm : h.length ≤ 1000000) (hv : Inv B H w) :
  Calls Tryz.prog 43 #[.slice ad h.length c, vS f] w fun e w' => e = .returned (.tuple #[vS ((getH h f).getD []), .bool (getH h f).isSome]) ∧ Inv B H w' := by
 refine cW Tryz.func43 rfl Tryz.ntmps43 ?_
 simp only [al]
 refine sK fun _ k1 => rL (uA rfl ?_)
 refine uA rfl (uW k1 ?_)
 refine sK fun _ k2 => rL (uM rfl ?_)
 refine uM rfl ?_
 refine xC h1callable75 rfl ((hashFind B _ _ ad c h f R hRH hr hm hv).mono ?_) rfl
 rintro e w3 ⟨i, b, hu, rfl, hb, hv⟩
 refine ⟨_, rfl, uM rfl ?_⟩
 refine uE rfl (uE rfl ?_)
 refine uA rfl (uA rfl ?_)
 refine uW k2 (sK fun _ k4 => ?_)
 refine sK fun _ k5 => rL (uM rfl ?_)
 refine uG (.bool (!b)) rfl (ex_not rfl rfl rfl) (uW k5 ?_)
 refine wpIn_cond_split (t := !b) rfl (fun hc6 => ?_) (fun hc6 => ?_)
 ·refine sK fun _ k7 => rL (uA rfl ?_)
  refine uA rfl (uW k7 ?_)
  refine rR (tR ?_)
  refine bodyPost_ret (results_tmp2 rfl _ _ _) rfl ?_
  have hb9 : b = false := by simpa using hc6
  have hn := hu.no hs (fun p hp he => by have := hb.2 ⟨p, hp, he⟩; rw [hb9] at this; cases this)
  exact ⟨by rw [hn]; rfl, hv⟩
 refine kS (tK k4 ?_)
 refine sK fun _ k8 => ?_
 obtain rfl : b = true := by simpa using hc6
 obtain ⟨p, hp, hpf⟩ := hb.1 rfl
 have hil : i < h.length := (List.getElem?_eq_some_iff.1 hp).1
 obtain ⟨bb, bo, had, hrdp⟩ := pair_readsW hr hp
 subst had
 refine rL (uM rfl ?_)
 refine uM rfl ?_
 refine uG (.pointer (some ⟨bb, bo + i * 2, none⟩)) rfl (ex_index rfl rfl rfl (run_idx (k := i) Tryz.underlying76 h1es76 (by omega))) ?_
 refine uF (.pointer (some ⟨bb, bo + i * 2 + 1, none⟩)) rfl (h1fa121_1 _ _ _) ?_
 refine uL _ rfl (run_load1 h1na9 (hrdp _ _ _ (Base.Le.refl _) (fun r9 hr9 => (hRH r9 hr9)) hv 1 _ rfl)) (uA rfl ?_)
 refine uA rfl (uW k8 ?_)
 refine rR (bodyPost_ret (results_tmp2 rfl _ _ _) rfl ?_)
 exact ⟨by rw [hu.yes hs hp hpf]; rfl, hv⟩
def fitsI (n : Int) : Prop := -9223372036854775808 ≤ n ∧ n ≤ 9223372036854775807
instance (n : Int) : Decidable (fitsI n) := inferInstanceAs (Decidable (_ ∧ _))
def addF (a : Int) : List Int → Option Int
 | [] => some a
 | b :: bs => if fitsI (a + b) then addF (a + b) bs else none
theorem addF_at {bs : List Int} {i : Nat} {b s : Int} {r : Option Int} (h : r = addF s (bs.drop i)) (hb : bs[i]? = some b) : r = if fitsI (s + b) then addF (s + b) (bs.drop (i + 1)) else none := by
 obtain ⟨hi, rfl⟩ := List.getElem?_eq_some_iff.1 hb
 rw [h, List.drop_eq_getElem_cons hi]; rfl
theorem addF_one {a b : Int} : addF a [b] = if fitsI (a + b) then some (a + b) else none := rfl
theorem ndes148 (w : World) : (sizeOf (Tryz.prog.elem 148)).run Tryz.prog w = .ok 1 w := by kernel_rfl
theorem ndna3 (w : World) : (isAgg 3).run Tryz.prog w = .ok false w := by kernel_rfl
theorem numAdd (B : Base) (H : List Res) (w : World) (a : Int) (ha : -9223372036854775808 ≤ a ∧ a ≤ 9223372036854775807) (ba : Option Addr) (bc : Nat) (bs : List Int) (hrb : RdV B [] ba (intCells bs)) (hm : bs.length ≤ 1000000) (hbs : ∀ b ∈ bs, -9223372036854775808 ≤ b ∧ b ≤ 9223372036854775807) (hv : Inv B H w) :
  Calls Tryz.prog 88 #[vI a, .slice ba bs.length bc] w fun e w' => ∃ r ok, e = .returned (.tuple #[vI r, .bool ok]) ∧ ((ok = true ∧ (-9223372036854775808 ≤ r ∧ r ≤ 9223372036854775807) ∧ addF a bs = some r) ∨ (ok = false ∧ addF a bs = none)) ∧ Inv B H w' := by
 refine cW Tryz.func88 rfl Tryz.ntmps88 ?_
 simp only [al]
 refine sK fun _ k1 => rL (uA rfl ?_)
 refine uA rfl (uW k1 ?_)
 refine sK fun _ k2 => rL (uM rfl ?_)
 refine uA rfl (uW k2 ?_)
 refine sK fun _ k3 => sK fun _ k4 => rL (uM rfl ?_)
 refine uG (vI (bs.length : Int)) rfl (ex_len0 Tryz.underlying148 rfl rfl) (uM rfl ?_)
 refine uW k4 (bB ?_)
 gi_loopw [6, 12] (fun x6 x12 wr => ∃ (i : Nat) (s : Int), x6 = vI s ∧ x12 = vI i ∧ i ≤ bs.length ∧ (-9223372036854775808 ≤ s ∧ s ≤ 9223372036854775807) ∧ addF a bs = addF s (bs.drop i) ∧ Inv B H wr) (fun x6 x12 _ => bs.length - (intOf x12).toNat)
 case atStart => exact ⟨0, a, rfl, rfl, Nat.zero_le _, ha, rfl, hv⟩
 case round =>
  obtain ⟨i, s, rfl, rfl, hi, hs, hsum, hv⟩ := hrel
  refine sK fun _ k6 => rL ?_
  by_cases hb7 : (i : Int) < (bs.length : Int)
  ·refine uG (.bool true) rfl (ex_lss rfl rfl rfl (qT hb7)) (uW k6 ?_)
   refine sK fun _ k8 => cT rfl (kS ?_)
   refine tK k8 (sK fun _ k9 => ?_)
   refine bB (sK fun _ k10 => ?_)
   obtain ⟨b, hb⟩ : ∃ x, bs[i]? = some x := ⟨_, List.getElem?_eq_getElem (show i < bs.length by omega)⟩
   have hbf : -9223372036854775808 ≤ b ∧ b ≤ 9223372036854775807 := hbs b (List.mem_of_getElem? hb)
   obtain ⟨ib, io, had, hrdb⟩ := int_reads hrb hb
   subst had
   refine rL (uG (.pointer (some ⟨ib, io + i, none⟩)) rfl (ex_index rfl rfl rfl (run_idx1 (k := i) Tryz.underlying148 ndes148 (by omega))) ?_)
   refine uL _ rfl (run_load1 ndna3 (hrdb _ _ _ (Base.Le.refl _) no_res hv 0 _ rfl)) (uA rfl ?_)
   refine uW k10 (sK fun _ k11 => ?_)
   refine sK fun _ k12 => rL (uM rfl ?_)
   by_cases hb13 : b > 0
   ·refine uG (.bool true) rfl (ex_gtr rfl rfl rfl (qT hb13)) (uM rfl ?_)
    refine uM rfl ?_
    refine uM rfl ?_
    refine uG (vI (9223372036854775807 - b)) rfl (ex_sub rfl rfl rfl (i64_in (by omega))) ?_
    by_cases hb14 : s > (9223372036854775807 - b)
    ·refine uG (.bool true) rfl (ex_gtr rfl rfl rfl (qT hb14)) (uK rfl ?_)
     refine uW k12 (cT rfl ?_)
     refine sK fun _ k15 => rL (uA rfl ?_)
     refine uA rfl (uW k15 ?_)
     refine rR (tR ?_)
     refine bZ (tR ?_)
     refine tR (bZ ?_)
     refine tR (bodyPost_ret (results_tmp2 rfl _ _ _) rfl ?_)
     exact ⟨0, false, rfl, .inr ⟨rfl, by rw [addF_at hsum hb, if_neg (fun h9 : fitsI (s + b) => by have h8 := h9.1; have h7 := h9.2; omega)]⟩, hv⟩
    refine uG (.bool false) rfl (ex_gtr rfl rfl rfl (qF hb14)) (uK rfl ?_)
    refine uW k12 (cF rfl ?_)
    refine kS (tK k11 ?_)
    refine sK fun _ k16 => sK fun _ k17 => rL (uM rfl ?_)
    by_cases hb18 : b < 0
    ·refine uG (.bool true) rfl (ex_lss rfl rfl rfl (qT hb18)) (uM rfl ?_)
     refine uM rfl ?_
     refine uM rfl ?_
     refine uG (vI ((-9223372036854775808) - b)) rfl (ex_sub rfl rfl rfl (i64_in (by omega))) ?_
     by_cases hb19 : s < ((-9223372036854775808) - b)
     ·refine uG (.bool true) rfl (ex_lss rfl rfl rfl (qT hb19)) (uK rfl ?_)
      refine uW k17 (cT rfl ?_)
      refine sK fun _ k20 => rL (uA rfl ?_)
      refine uA rfl (uW k20 ?_)
      refine rR (tR ?_)
      refine bZ (tR ?_)
      refine tR (bZ ?_)
      refine tR (bodyPost_ret (results_tmp2 rfl _ _ _) rfl ?_)
      exact ⟨0, false, rfl, .inr ⟨rfl, by rw [addF_at hsum hb, if_neg (fun h9 : fitsI (s + b) => by have h8 := h9.1; have h7 := h9.2; omega)]⟩, hv⟩
     refine uG (.bool false) rfl (ex_lss rfl rfl rfl (qF hb19)) (uK rfl ?_)
     refine uW k17 (cF rfl ?_)
     refine kS (tK k16 ?_)
     refine rL (uM rfl ?_)
     refine uM rfl ?_
     refine uG (vI (s + b)) rfl (ex_add rfl rfl rfl (i64_in (by omega))) (uA rfl ?_)
     refine uZ (bN ?_)
     refine tK k9 (rL ?_)
     refine uG (vI ((i + 1 : Nat) : Int)) rfl (ex_add rfl rfl rfl (by rw [i64_in (by omega)]; omega)) (uM rfl ?_)
     refine uZ (then_normal ?_)
     go_roundw
     case rel => exact ⟨i + 1, s + b, rfl, rfl, by omega, by omega, by rw [addF_at hsum hb, if_pos (show fitsI (s + b) from ⟨by omega, by omega⟩)], hv⟩
     case measure => show bs.length - (((i + 1 : Nat) : Int)).toNat < bs.length - ((i : Int)).toNat; omega
    refine uG (.bool false) rfl (ex_lss rfl rfl rfl (qF hb18)) (uM rfl ?_)
    iterate 4 refine uP rfl ?_
    refine uK rfl (uW k17 ?_)
    refine cF rfl (kS ?_)
    refine tK k16 (rL ?_)
    refine uM rfl (uM rfl ?_)
    refine uG (vI (s + b)) rfl (ex_add rfl rfl rfl (i64_in (by omega))) (uA rfl ?_)
    refine uZ (bN ?_)
    refine tK k9 (rL ?_)
    refine uG (vI ((i + 1 : Nat) : Int)) rfl (ex_add rfl rfl rfl (by rw [i64_in (by omega)]; omega)) (uM rfl ?_)
    refine uZ (then_normal ?_)
    go_roundw
    case rel => exact ⟨i + 1, s + b, rfl, rfl, by omega, by omega, by rw [addF_at hsum hb, if_pos (show fitsI (s + b) from ⟨by omega, by omega⟩)], hv⟩
    case measure => show bs.length - (((i + 1 : Nat) : Int)).toNat < bs.length - ((i : Int)).toNat; omega
   refine uG (.bool false) rfl (ex_gtr rfl rfl rfl (qF hb13)) (uM rfl ?_)
   iterate 4 refine uP rfl ?_
   refine uK rfl (uW k12 ?_)
   refine cF rfl (kS ?_)
   refine tK k11 (sK fun _ k21 => ?_)
   refine sK fun _ k22 => rL (uM rfl ?_)
   by_cases hb23 : b < 0
   ·refine uG (.bool true) rfl (ex_lss rfl rfl rfl (qT hb23)) (uM rfl ?_)
    refine uM rfl ?_
    refine uM rfl ?_
    refine uG (vI ((-9223372036854775808) - b)) rfl (ex_sub rfl rfl rfl (i64_in (by omega))) ?_
    by_cases hb24 : s < ((-9223372036854775808) - b)
    ·refine uG (.bool true) rfl (ex_lss rfl rfl rfl (qT hb24)) (uK rfl ?_)
     refine uW k22 (cT rfl ?_)
     refine sK fun _ k25 => rL (uA rfl ?_)
     refine uA rfl (uW k25 ?_)
     refine rR (tR ?_)
     refine bZ (tR ?_)
     refine tR (bZ ?_)
     refine tR (bodyPost_ret (results_tmp2 rfl _ _ _) rfl ?_)
     exact ⟨0, false, rfl, .inr ⟨rfl, by rw [addF_at hsum hb, if_neg (fun h9 : fitsI (s + b) => by have h8 := h9.1; have h7 := h9.2; omega)]⟩, hv⟩
    refine uG (.bool false) rfl (ex_lss rfl rfl rfl (qF hb24)) (uK rfl ?_)
    refine uW k22 (cF rfl ?_)
    refine kS (tK k21 ?_)
    refine rL (uM rfl ?_)
    refine uM rfl ?_
    refine uG (vI (s + b)) rfl (ex_add rfl rfl rfl (i64_in (by omega))) (uA rfl ?_)
    refine uZ (bN ?_)
    refine tK k9 (rL ?_)
    refine uG (vI ((i + 1 : Nat) : Int)) rfl (ex_add rfl rfl rfl (by rw [i64_in (by omega)]; omega)) (uM rfl ?_)
    refine uZ (then_normal ?_)
    go_roundw
    case rel => exact ⟨i + 1, s + b, rfl, rfl, by omega, by omega, by rw [addF_at hsum hb, if_pos (show fitsI (s + b) from ⟨by omega, by omega⟩)], hv⟩
    case measure => show bs.length - (((i + 1 : Nat) : Int)).toNat < bs.length - ((i : Int)).toNat; omega
   refine uG (.bool false) rfl (ex_lss rfl rfl rfl (qF hb23)) (uM rfl ?_)
   iterate 4 refine uP rfl ?_
   refine uK rfl (uW k22 ?_)
   refine cF rfl (kS ?_)
   refine tK k21 (rL ?_)
   refine uM rfl (uM rfl ?_)
   refine uG (vI (s + b)) rfl (ex_add rfl rfl rfl (i64_in (by omega))) (uA rfl ?_)
   refine uZ (bN ?_)
   refine tK k9 (rL ?_)
   refine uG (vI ((i + 1 : Nat) : Int)) rfl (ex_add rfl rfl rfl (by rw [i64_in (by omega)]; omega)) (uM rfl ?_)
   refine uZ (then_normal ?_)
   go_roundw
   case rel => exact ⟨i + 1, s + b, rfl, rfl, by omega, by omega, by rw [addF_at hsum hb, if_pos (show fitsI (s + b) from ⟨by omega, by omega⟩)], hv⟩
   case measure => show bs.length - (((i + 1 : Nat) : Int)).toNat < bs.length - ((i : Int)).toNat; omega
  refine uG (.bool false) rfl (ex_lss rfl rfl rfl (qF hb7)) (uW k6 ?_)
  refine sK fun _ k26 => cF rfl (xE ?_)
  refine tX (tX ?_)
  refine bH (tK k3 ?_)
  refine sK fun _ k27 => rL (uM rfl ?_)
  refine uA rfl (uA rfl ?_)
  refine uW k27 (rR ?_)
  refine bodyPost_ret (results_tmp2 rfl _ _ _) rfl ?_
  obtain rfl : i = bs.length := by omega
  rw [List.drop_length] at hsum
  exact ⟨s, true, rfl, .inl ⟨rfl, hs, hsum⟩, hv⟩
theorem hashOk_iff {h : List Pr} : HashOk h ↔ h.length ≤ 512 ∧ (∀ p ∈ h, p.1.length ≤ 4096 ∧ p.2.length ≤ 4096) ∧ SortedH h := by
 constructor
 ·rintro ⟨h1, h2⟩
  refine ⟨h1, fun x hx => ?_, ?_⟩
  ·obtain ⟨i, hi⟩ := List.mem_iff_getElem?.1 hx
   exact (h2 i x hi).1
  have step : ∀ (i : Nat) x y, h[i]? = some x → h[i + 1]? = some y → Op.bytesLess x.1 y.1 = true := fun i x y hx hy => (h2 (i + 1) y hy).2 i x rfl hx
  have far : ∀ (d i : Nat) x y, h[i]? = some x → h[i + d + 1]? = some y → Op.bytesLess x.1 y.1 = true := by
   intro d
   induction d with
   | zero => intro i x y hx hy; exact step i x y hx hy
   | succ d ih =>
    intro i x y hx hy
    obtain ⟨z, hz⟩ : ∃ z, h[i + d + 1]? = some z := ⟨_, List.getElem?_eq_getElem (by have := (List.getElem?_eq_some_iff.1 hy).1; omega)⟩
    exact lt_trans _ _ _ (ih i x z hx hz) (step (i + d + 1) z y hz hy)
  refine List.pairwise_iff_getElem.2 fun i j hi hj hij => ?_
  simp only [List.length_map] at hi hj
  rw [List.getElem_map, List.getElem_map]
  refine far (j - i - 1) i _ _ (List.getElem?_eq_getElem hi) ?_
  rw [show i + (j - i - 1) + 1 = j by omega]; exact List.getElem?_eq_getElem hj
 rintro ⟨h1, h2, h3⟩
 exact ⟨h1, fun i x hx => ⟨h2 x (List.mem_of_getElem? hx), fun j y hj hy => h3.at_ (show j < i by omega) hy hx⟩⟩
section
variable {M M' : List (List UInt8 × Ver)} {clk exp ec : Int} {key : List UInt8} {x : Val} {y : Ver}
theorem valOk2 {v : Val} (h : ValOk v) (hk : v.kind = 2) : HashOk v.pairs ∧ 0 < v.pairs.length := by
 rcases h with ⟨h1, -⟩ | ⟨h1, h2, h3, -⟩ | ⟨h1, -⟩ | ⟨h1, -⟩ | ⟨h1, -⟩
 ·omega
 ·exact ⟨h3, h2⟩
 ·omega
 ·omega
 omega
theorem OkM.hash (h : OkM M) (ho : OfI M clk key 2 y ec) : HashOk y.val.pairs := by
 rcases ho with ⟨-, rfl, -⟩ | ⟨-, rfl, -⟩ | ⟨-, h1, h2, h3⟩
 ·exact ⟨Nat.zero_le _, fun i x hx => by simp [zver0] at hx⟩
 ·exact ⟨Nat.zero_le _, fun i x hx => by simp [zver0] at hx⟩
 exact (valOk2 (h.alive h1 h2).2.1 h3).1
theorem OkM.hsorted (h : OkM M) (ho : OfI M clk key 2 y ec) : SortedH y.val.pairs := (hashOk_iff.1 (h.hash ho)).2.2
end
def hashV (h : List Pr) : Val := ⟨2, [], h, [], []⟩
def FitP (p : Pr) : Prop := p.1.length ≤ 4096 ∧ p.2.length ≤ 4096
def SetHI (h ps out : List Pr) (n ec : Int) : Prop :=
 (ec ≠ 0 ∧ out = [] ∧ n = 0 ∧ ((∃ p ∈ ps, ¬ FitP p) ∨ 512 < (setsH h ps).length)) ∨ (ec = 0 ∧ (∀ p ∈ ps, FitP p) ∧ out = setsH h ps ∧ out.length ≤ 512 ∧ n = (out.length : Int) - h.length)
def HSetR (M : List (List UInt8 × Ver)) (clk : Int) (key : List UInt8) (ps : List Pr) (M' : List (List UInt8 × Ver)) (r : Rp) : Prop :=
 ∃ y ec, OfI M clk key 2 y ec ∧ ((ec ≠ 0 ∧ M' = M ∧ IsF r) ∨ (ec = 0 ∧ ∃ out n e2, SetHI y.val.pairs ps out n e2 ∧ ((e2 ≠ 0 ∧ M' = M ∧ IsF r) ∨ (e2 = 0 ∧ ∃ e3, KeepI M clk key (hashV out) y.expire e3 M' ∧ DoneR e3 (rInt n) r))))
def HDelR (M : List (List UInt8 × Ver)) (clk : Int) (key : List UInt8) (fs : List (List UInt8)) (M' : List (List UInt8 × Ver)) (r : Rp) : Prop :=
 ∃ y ec, OfI M clk key 2 y ec ∧ ((ec ≠ 0 ∧ M' = M ∧ IsF r) ∨ (ec = 0 ∧ ∃ n : Int, n = (y.val.pairs.length : Int) - (delH y.val.pairs fs).length ∧ ((n = 0 ∧ M' = M ∧ r = rInt 0) ∨ (n ≠ 0 ∧ ∃ e3, KeepI M clk key (hashV (delH y.val.pairs fs)) y.expire e3 M' ∧ DoneR e3 (rInt n) r))))
def flatH (h : List Pr) : List (List UInt8) := h.flatMap fun p => [p.1, p.2]
def HAllR (M : List (List UInt8 × Ver)) (clk : Int) (key : List UInt8) (M' : List (List UInt8 × Ver)) (r : Rp) : Prop :=
 M' = M ∧ ∃ y ec, OfI M clk key 2 y ec ∧ ((ec ≠ 0 ∧ IsF r) ∨ (ec = 0 ∧ r = rStrs (flatH y.val.pairs)))
def IncrI (s : List UInt8) (by_ sum ec : Int) : Prop := (ec ≠ 0 ∧ ((s ≠ [] ∧ NumP s 0 false) ∨ ∃ n, ((s = [] ∧ n = 0) ∨ NumP s n true) ∧ ¬ fitsI (n + by_))) ∨ (ec = 0 ∧ fitsI sum ∧ ∃ n, ((s = [] ∧ n = 0) ∨ NumP s n true) ∧ sum = n + by_)
def HIncR (M : List (List UInt8 × Ver)) (clk : Int) (key f by_ : List UInt8) (M' : List (List UInt8 × Ver)) (r : Rp) : Prop :=
 (NumP by_ 0 false ∧ M' = M ∧ IsF r) ∨ ∃ b, NumP by_ b true ∧ ∃ y ec, OfI M clk key 2 y ec ∧ ((ec ≠ 0 ∧ M' = M ∧ IsF r) ∨ (ec = 0 ∧ ((getH y.val.pairs f = some [] ∧ M' = M ∧ IsF r) ∨ (getH y.val.pairs f ≠ some [] ∧ ∃ sum e1, IncrI ((getH y.val.pairs f).getD []) b sum e1 ∧
  ((e1 ≠ 0 ∧ M' = M ∧ IsF r) ∨ (e1 = 0 ∧ ∃ out n e2, SetHI y.val.pairs [(f, Lib.itoa sum)] out n e2 ∧ ((e2 ≠ 0 ∧ M' = M ∧ IsF r) ∨ (e2 = 0 ∧ ∃ e3, KeepI M clk key (hashV out) y.expire e3 M' ∧ DoneR e3 (rInt sum) r))))))))
section
variable {M M' : List (List UInt8 × Ver)} {clk : Int} {key f by_ : List UInt8} {ps : List Pr} {fs : List (List UInt8)} {r : Rp}
theorem HIncR.cmd (hM : OkM M) (h : HIncR M clk key f by_ M' r) : CmdR M M' r := by
 rcases h with ⟨-, rfl, -⟩ | ⟨b, -, y, ec, -, ⟨-, rfl, -⟩ | ⟨-, ⟨-, rfl, -⟩ | ⟨-, sum, e1, -, ⟨-, rfl, -⟩ | ⟨-, out, n, e2, -, ⟨-, rfl, -⟩ | ⟨-, e3, hk, hd⟩⟩⟩⟩⟩
 ·exact ⟨hM, fun _ => rfl⟩
 ·exact ⟨hM, fun _ => rfl⟩
 ·exact ⟨hM, fun _ => rfl⟩
 ·exact ⟨hM, fun _ => rfl⟩
 ·exact ⟨hM, fun _ => rfl⟩
 exact hd.keep hM hk isF_int
end
abbrev kH : List UInt8 := [104]
structure HasH (M : List (List UInt8 × Ver)) (h : List Pr) : Prop where
 so : SortedH h
 at_ : (h = [] ∧ DeadM M 0 kH) ∨ (h ≠ [] ∧ lookA M kH = some ⟨0, false, 0, hashV h⟩)
 no : ∀ k, k ≠ kH → lookA M k = none
 one : M = [] ∨ ∃ v, M = [(kH, v)]
theorem upd_kH {M : List (List UInt8 × Ver)} (h : M = [] ∨ ∃ v, M = [(kH, v)]) (v : Ver) : updA M kH v = [] ∨ ∃ u, updA M kH v = [(kH, u)] := by
 rcases h with rfl | ⟨u, rfl⟩
 ·exact .inr ⟨v, rfl⟩
 exact .inr ⟨v, by unfold updA; rw [if_pos rfl]⟩
theorem HasH.short {M : List (List UInt8 × Ver)} {h : List Pr} (hs : HasH M h) : ∀ k ∈ M.map (·.1), k.length ≤ 256 := fun k hk => by
 rcases hs.one with rfl | ⟨u, rfl⟩
 ·cases hk
 rw [List.mem_singleton.1 hk]; exact show kH.length ≤ 256 by decide
theorem HasH.few {M : List (List UInt8 × Ver)} {h : List Pr} (hs : HasH M h) : M.length ≤ 1 := by
 rcases hs.one with rfl | ⟨u, rfl⟩
 ·exact Nat.zero_le _
 exact Nat.le_refl _
section
variable {M M' : List (List UInt8 × Ver)} {h : List Pr} {y : Ver} {ec : Int} {r : Rp} {ps out : List Pr} {fs : List (List UInt8)}
theorem HasH.nil : HasH [] [] := ⟨List.Pairwise.nil, .inl ⟨rfl, fun y h => by cases h⟩, fun k _ => rfl, .inl rfl⟩
theorem HasH.of_ (hs : HasH M h) (ho : OfI M 0 kH 2 y ec) : ec = 0 ∧ y.val.pairs = h ∧ y.expire = 0 := by
 rcases hs.at_ with ⟨h1, h2⟩ | ⟨h1, h2⟩
 ·rcases ho with ⟨h3, rfl, -⟩ | ⟨-, -, z, h3, h4, -⟩ | ⟨-, h3, h4, -⟩
  ·exact ⟨h3, by rw [h1]; rfl, rfl⟩
  ·rw [h2 z h3] at h4; cases h4
  rw [h2 y h3] at h4; cases h4
 rcases ho with ⟨-, -, h3⟩ | ⟨-, -, z, h3, -, h5⟩ | ⟨h0, h3, -, -⟩
 ·have := h3 _ h2; cases this
 ·rw [h2] at h3; cases h3; exact absurd rfl h5
 rw [h2] at h3; cases h3; exact ⟨h0, rfl, rfl⟩
theorem HasH.keep (hs : HasH M h) (hO : HashOk out) (hk : KeepI M 0 kH (hashV out) 0 ec M') : ec = 0 ∧ HasH M' out := by
 have hso := (hashOk_iff.1 hO).2.2
 have hfull : out ≠ [] → FullV (hashV out) := fun h9 => .inr (by have := List.length_pos_iff.2 h9; show 0 < out.length + 0 + 0; omega)
 have hnot : ¬ FullV (hashV out) → out = [] := fun h9 => Classical.byContradiction fun h8 => h9 (hfull h8)
 have hne : FullV (hashV out) → out ≠ [] := by
  rintro (h9 | h9) rfl
  ·exact absurd h9 (by decide)
  exact absurd h9 (by decide)
 have no : ∀ (v : Ver) k, k ≠ kH → lookA (updA M kH v) k = none := fun v k hn => by rw [look_upd, if_neg (Ne.symm hn)]; exact hs.no k hn
 rcases hk with ⟨h1, -, h3, rfl⟩ | ⟨h1, h2, -⟩ | ⟨h1, h2, h3, rfl⟩ | ⟨h1, -, ⟨-, h4, rfl⟩ | ⟨h4, -⟩⟩
 ·exact ⟨h3, hso, .inr ⟨hne h1, by rw [look_upd, if_pos rfl]⟩, no _, upd_kH hs.one _⟩
 ·exact absurd ⟨by decide, .inr (.inl ⟨rfl, List.length_pos_iff.2 (hne h1), hO, rfl, rfl, rfl⟩), Int.le_refl _, by decide⟩ h2
 ·obtain rfl := hnot h1
  exact ⟨h3, List.Pairwise.nil, .inl ⟨rfl, h2⟩, hs.no, hs.one⟩
 ·obtain rfl := hnot h1
  refine ⟨h4, List.Pairwise.nil, .inl ⟨rfl, fun y hy => ?_⟩, no _, upd_kH hs.one _⟩
  rw [look_upd, if_pos rfl] at hy; cases hy; rfl
 exact absurd h4 (by decide)
theorem done_eq {r0 : Rp} (he : ec = 0) (hd : DoneR ec r0 r) : r = r0 := hd.elim (fun h9 => h9.2) fun h9 => absurd he h9.1
theorem setsH_mem : ∀ (ps h : List Pr) (q : Pr), q ∈ setsH h ps → q ∈ ps ∨ q ∈ h
 | [], h, q, hq => .inr hq
 | p :: ps, h, q, hq => by
  rcases setsH_mem ps (insH h p.1 p.2) q hq with h1 | h1
  ·exact .inl (List.mem_cons_of_mem _ h1)
  exact (insH_mem h1).imp (fun e => by rw [e]; exact List.mem_cons_self) id
theorem setsH_len : ∀ (ps h : List Pr), h.length ≤ (setsH h ps).length ∧ (setsH h ps).length ≤ h.length + ps.length
 | [], h => ⟨Nat.le_refl _, Nat.le_refl _⟩
 | p :: ps, h => by
  have h1 := setsH_len ps (insH h p.1 p.2)
  have h2 := insH_len (h := h) (f := p.1) (t := p.2)
  have e : setsH h (p :: ps) = setsH (insH h p.1 p.2) ps := rfl
  rw [e, List.length_cons]
  omega
theorem HasH.set (hs : HasH M h) (hl : h.length + ps.length ≤ 512) (hf : ∀ p ∈ h, FitP p) (hp : ∀ p ∈ ps, FitP p) (hr : HSetR M 0 kH ps M' r) : HasH M' (setsH h ps) ∧ r = rInt (((setsH h ps).length : Int) - h.length) := by
 obtain ⟨y, e0, ho, hr⟩ := hr
 obtain ⟨rfl, hy, hx⟩ := hs.of_ ho
 have hlen := setsH_len ps h
 rcases hr with ⟨h1, -⟩ | ⟨-, out, n, e2, h2, hr⟩
 ·exact absurd rfl h1
 rw [hy] at h2
 rcases h2 with ⟨-, -, -, ⟨p, h3, h4⟩ | h3⟩ | ⟨rfl, -, rfl, -, rfl⟩
 ·exact absurd (hp p h3) h4
 ·omega
 rcases hr with ⟨h1, -⟩ | ⟨-, e3, hk, hd⟩
 ·exact absurd rfl h1
 rw [hx] at hk
 obtain ⟨h5, h6⟩ := hs.keep (hashOk_iff.2 ⟨by omega, fun q hq => (setsH_mem ps h q hq).elim (hp q) (hf q), setsH_sorted hs.so ps⟩) hk
 exact ⟨h6, done_eq h5 hd⟩
theorem delH_sub {q : Pr} (hq : q ∈ delH h fs) : q ∈ h := (List.mem_filter.1 hq).1
theorem delH_len : (delH h fs).length ≤ h.length := List.length_filter_le _ _
theorem HasH.del (hs : HasH M h) (hl : h.length ≤ 512) (hf : ∀ p ∈ h, FitP p) (hr : HDelR M 0 kH fs M' r) : HasH M' (delH h fs) ∧ r = rInt ((h.length : Int) - (delH h fs).length) := by
 obtain ⟨y, e0, ho, hr⟩ := hr
 obtain ⟨rfl, hy, hx⟩ := hs.of_ ho
 have hlen := delH_len (h := h) (fs := fs)
 rcases hr with ⟨h1, -⟩ | ⟨-, n, hn, hr⟩
 ·exact absurd rfl h1
 rw [hy] at hn hr
 rcases hr with ⟨h1, rfl, rfl⟩ | ⟨-, e3, hk, hd⟩
 ·have e : delH h fs = h := List.Sublist.eq_of_length List.filter_sublist (show (delH h fs).length = h.length by omega)
  rw [e]
  exact ⟨hs, by congr 1; omega⟩
 rw [hx] at hk
 obtain ⟨h5, h6⟩ := hs.keep (hashOk_iff.2 ⟨by omega, fun q hq => hf q (delH_sub hq), hs.so.del fs⟩) hk
 exact ⟨h6, by rw [done_eq h5 hd, hn]⟩
theorem HasH.all (hs : HasH M h) (hr : HAllR M 0 kH M' r) : M' = M ∧ r = rStrs (flatH h) := by
 obtain ⟨hM, y, e0, ho, hr⟩ := hr
 obtain ⟨rfl, hy, -⟩ := hs.of_ ho
 rcases hr with ⟨h1, -⟩ | ⟨-, h1⟩
 ·exact absurd rfl h1
 exact ⟨hM, by rw [h1, hy]⟩
end
open Go.Sort
section
variable {h ps : List Pr} {f t : List UInt8} {fs : List (List UInt8)} {i : Nat} {p : Pr}
-- set
theorem setsH_app (a b : List Pr) : setsH h (a ++ b) = setsH (setsH h a) b := by unfold setsH; rw [List.foldl_append]
theorem setsH_ge (ps : List Pr) : ∀ h : List Pr, h.length ≤ (setsH h ps).length := by
 induction ps with
 | nil => exact fun h => Nat.le_refl _
 | cons p ps ih =>
  intro h
  have h1 := ih (insH h p.1 p.2)
  have h2 := insH_len (h := h) (f := p.1) (t := p.2)
  show h.length ≤ (setsH (insH h p.1 p.2) ps).length
  omega
theorem setsH_more (h ps : List Pr) (i : Nat) : (setsH h (ps.take i)).length ≤ (setsH h ps).length := by
 conv => rhs; rw [← List.take_append_drop i ps, setsH_app]
 exact setsH_ge _ _
theorem _root_.Go.Pm.UptoH.set_len (hs : SortedH h) (hu : UptoH h f i) (hp : h[i]? = some p) (he : p.1 = f) : (insH h f t).length = h.length := by rw [hu.set hs hp he, List.length_set]
theorem _root_.Go.Pm.UptoH.ins_len (hs : SortedH h) (hu : UptoH h f i) (hn : ∀ p, h[i]? = some p → p.1 ≠ f) : (insH h f t).length = h.length + 1 := by
 rw [hu.ins hs hn, List.length_append, List.length_cons, List.length_take, List.length_drop]
 have := hu.1; omega
theorem pairCells_app (a b : List Pr) : pairCells (a ++ b) = pairCells a ++ pairCells b := by unfold pairCells; rw [List.flatMap_append]
theorem pairCells_split (h : List Pr) (i : Nat) : pairCells h = pairCells (h.take i) ++ pairCells (h.drop i) := by rw [← pairCells_app, List.take_append_drop]
theorem pairCells_ins (hs : SortedH h) (hu : UptoH h f i) (hn : ∀ p, h[i]? = some p → p.1 ≠ f) : pairCells (insH h f t) = pairCells (h.take i) ++ [strV f, strV t] ++ pairCells (h.drop i) := by
 rw [hu.ins hs hn, pairCells_app, List.append_assoc]; rfl
theorem pairCells_set : ∀ {h : List Pr} {i : Nat} {p : Pr}, h[i]? = some p → pairCells (h.set i (p.1, t)) = (pairCells h).set (i * 2 + 1) (strV t)
 | q :: h, 0, p, hp => by cases hp; rfl
 | q :: h, i + 1, p, hp => by
  have h1 := pairCells_set (h := h) (i := i) (p := p) hp
  rw [List.set_cons_succ, pairCells, List.flatMap_cons]
  show strV q.1 :: strV q.2 :: pairCells (h.set i (p.1, t)) = _
  rw [h1, show (i + 1) * 2 + 1 = i * 2 + 1 + 2 by omega]
  rfl
-- deleted
def goneH (h : List Pr) (fs : List (List UInt8)) : List Bool := h.map fun p => decide (p.1 ∈ fs)
theorem goneH_len : (goneH h fs).length = h.length := List.length_map ..
theorem goneH_nil : goneH h [] = List.replicate h.length false := by
 unfold goneH
 induction h with
 | nil => rfl
 | cons p h ih => rw [List.map_cons, ih, List.length_cons, List.replicate_succ]; simp
theorem goneH_at {j : Nat} {q : Pr} (hq : h[j]? = some q) : (goneH h fs)[j]? = some (decide (q.1 ∈ fs)) := by unfold goneH; rw [List.getElem?_map, hq]; rfl
theorem goneH_yes (hs : SortedH h) (hp : h[i]? = some p) (he : p.1 = f) : (goneH h fs).set i true = goneH h (fs ++ [f]) := by
 apply List.ext_getElem?
 intro j
 rw [List.getElem?_set, goneH_len]
 have hil := (List.getElem?_eq_some_iff.1 hp).1
 by_cases hij : i = j
 ·subst hij
  rw [if_pos rfl, if_pos hil, goneH_at hp, he]
  simp
 rw [if_neg hij]
 rcases Nat.lt_or_ge j h.length with h1 | h1
 ·obtain ⟨q, hq⟩ : ∃ q, h[j]? = some q := ⟨_, List.getElem?_eq_getElem h1⟩
  have hne : q.1 ≠ f := fun h9 => by
   rcases Nat.lt_or_gt_of_ne hij with h2 | h2
   ·have := hs.at_ h2 hp hq; rw [he, h9, lt_irrefl] at this; cases this
   have := hs.at_ h2 hq hp; rw [he, h9, lt_irrefl] at this; cases this
  rw [goneH_at hq, goneH_at hq]
  simp [hne]
 rw [List.getElem?_eq_none (by rw [goneH_len]; exact h1), List.getElem?_eq_none (by rw [goneH_len]; exact h1)]
theorem goneH_no (hs : SortedH h) (hu : UptoH h f i) (hn : ∀ p, h[i]? = some p → p.1 ≠ f) : goneH h fs = goneH h (fs ++ [f]) := by
 unfold goneH
 refine List.map_congr_left fun p hp => ?_
 have hne : p.1 ≠ f := fun e => by
  obtain ⟨j, hj⟩ := List.mem_iff_getElem?.1 hp
  rcases Nat.lt_trichotomy j i with h1 | rfl | h1
  ·have := hu.le hs j p h1 hj; rw [e, lt_irrefl] at this; cases this
  ·exact hn p hj e
  have := hu.ge hs j p h1 hj; rw [e, lt_irrefl] at this; cases this
 simp [hne]
def boolC (l : List Bool) : List Value := l.map Value.bool
theorem boolC_len (l : List Bool) : (boolC l).length = l.length := List.length_map ..
theorem boolC_zero (h : List Pr) (fs : List (List UInt8)) : boolC (goneH h (fs.take 0)) = List.replicate h.length (.bool false) := by
 rw [List.take_zero, goneH_nil]; unfold boolC; rw [List.map_replicate]
theorem boolC_yes {x : List UInt8} (hs : SortedH h) (hx : fs[i]? = some x) {j : Nat} (hp : h[j]? = some p) (he : p.1 = x) : (boolC (goneH h (fs.take i))).set j (.bool true) = boolC (goneH h (fs.take (i + 1))) := by
 rw [take_next hx, ← goneH_yes hs hp he]
 unfold boolC
 rw [List.map_set]
theorem boolC_no {x : List UInt8} (hs : SortedH h) (hx : fs[i]? = some x) {j : Nat} (hu : UptoH h x j) (hn : ∀ p, h[j]? = some p → p.1 ≠ x) : boolC (goneH h (fs.take (i + 1))) = boolC (goneH h (fs.take i)) := by
 rw [take_next hx, ← goneH_no hs hu hn]
theorem boolC_at {j : Nat} {q : Pr} (hq : h[j]? = some q) : (boolC (goneH h fs))[j]? = some (.bool (decide (q.1 ∈ fs))) := by unfold boolC; rw [List.getElem?_map, goneH_at hq]; rfl
theorem delH_next (hp : h[i]? = some p) : delH (h.take (i + 1)) fs = delH (h.take i) fs ++ (if p.1 ∈ fs then [] else [p]) := by
 unfold delH
 rw [take_next hp, List.filter_append]
 congr 1
 by_cases h1 : p.1 ∈ fs <;> simp [h1]
-- pairs from words
def prsF : List (List UInt8) → List Pr
 | f :: t :: r => (f, t) :: prsF r
 | _ => []
theorem prsF_app : ∀ (k : Nat) {a b : List (List UInt8)}, a.length = 2 * k → prsF (a ++ b) = prsF a ++ prsF b
 | 0, a, b, ha => by rw [List.eq_nil_of_length_eq_zero ha]; rfl
 | k + 1, a, b, ha => by
  match a, ha with
  | [], ha => cases ha
  | [x], ha => simp at ha; omega
  | x :: y :: a, ha =>
   have h1 := prsF_app k (a := a) (b := b) (by simp only [List.length_cons] at ha; omega)
   show (x, y) :: prsF (a ++ b) = (x, y) :: prsF a ++ prsF b
   rw [h1]; rfl
theorem prsF_next {k : Nat} (hf : fs[2 * k]? = some f) (ht : fs[2 * k + 1]? = some t) : prsF (fs.take (2 * (k + 1))) = prsF (fs.take (2 * k)) ++ [(f, t)] := by
 have h1 := (List.getElem?_eq_some_iff.1 ht).1
 rw [show 2 * (k + 1) = 2 * k + 1 + 1 by omega, take_next ht, take_next hf, List.append_assoc]
 exact prsF_app k (by rw [List.length_take]; omega)
theorem prsF_end {k : Nat} (hk : 2 * k ≤ fs.length) (h1 : fs.length ≤ 2 * k + 1) : prsF fs = prsF (fs.take (2 * k)) := by
 conv => lhs; rw [← List.take_append_drop (2 * k) fs, prsF_app k (by rw [List.length_take]; omega)]
 have h2 : prsF (fs.drop (2 * k)) = [] := by
  match hd : fs.drop (2 * k) with
  | [] => rfl
  | [x] => rfl
  | x :: y :: r => have := congrArg List.length hd; rw [List.length_drop] at this; simp only [List.length_cons] at this; omega
 rw [h2, List.append_nil]
theorem flatH_next (hp : h[i]? = some p) : flatH (h.take (i + 1)) = flatH (h.take i) ++ [p.1, p.2] := by
 unfold flatH
 rw [take_next hp, List.flatMap_append]; rfl
theorem flatH_len : (flatH h).length = 2 * h.length := by
 unfold flatH
 induction h with
 | nil => rfl
 | cons p h ih => rw [List.flatMap_cons, List.length_append, ih]; simp only [List.length_cons, List.length_nil]; omega
end
theorem h2mk4 : (Tryz.prog.info? 4).map (fun i => (i.zero, i.size, i.bytes)) = some (some (.bool false), 1, 1) := by kernel_rfl
theorem h2es157 (w : World) : (sizeOf (Tryz.prog.elem 157)).run Tryz.prog w = .ok 1 w := by kernel_rfl
theorem h2sz4 : (Tryz.prog.info? 4).map (·.size) = some 1 := by kernel_rfl
theorem h2al121 : AL Tryz.prog 121 [vS [], vS []] := fun w => by kernel_rfl
theorem h2mk121 : (Tryz.prog.info? 121).map (fun i => (i.zero, i.size, i.bytes)) = some (some (.agg #[vS [], vS []]), 2, 32) := by kernel_rfl
theorem h2el76 : Elem Tryz.prog 76 121 (.agg #[vS [], vS []]) 2 32 := elem_of Tryz.underlying76 h2mk121 (by rfl) (by decide)
theorem hashDel (B : Base) (H : List Res) (w : World) (ad : Option Addr) (c : Nat) (h : List Pr) (hr : RdV B [] ad (pairCells h)) (hm : h.length ≤ 1000000) (hs : SortedH h) (fa : Option Addr) (fc : Nat) (fs : List (List UInt8)) (hrf : RdV B [] fa (textCells fs)) (hmf : fs.length ≤ 1000000) (hv : Inv B H w) :
  Calls Tryz.prog 45 #[.slice ad h.length c, .slice fa fs.length fc] w fun e w' => ∃ C oa oc out, B.Le C ∧ e = .returned (.tuple #[.slice oa out.length oc, vI ((h.length : Int) - (out.length : Int))]) ∧ SliceOk oa out.length oc ∧ RdV C [] oa (pairCells out) ∧ out = delH h fs ∧ Inv C H w' := by
 refine cW Tryz.func45 rfl Tryz.ntmps45 ?_
 simp only [al]
 refine sK fun _ k1 => rL (uA rfl ?_)
 refine uA rfl (uW k1 ?_)
 refine sK fun _ k2 => rL (uM rfl ?_)
 refine uG (vI (h.length : Int)) rfl (ex_len0 Tryz.underlying76 rfl rfl) ?_
 refine sl_make1 (len := h.length) (cap := h.length) tV (wn rfl) rfl rfl rfl Tryz.underlying157 h2mk4 rfl (by omega) (by unfold maxLen; omega) (by omega) hv (fun b3 w4 hv => ?_)
 refine uA rfl (uW k2 ?_)
 refine sK fun _ k5 => sK fun _ k6 => rL (uM rfl ?_)
 refine uG (vI (fs.length : Int)) rfl (ex_len0 Tryz.underlying22 rfl rfl) (uM rfl ?_)
 refine uW k6 (bB ?_)
 gi_loopw [19] (fun x19 wr => ∃ (i : Nat), x19 = vI i ∧ i ≤ fs.length ∧ Inv B (Res.cell b3 (boolC (goneH h (fs.take i))) 4 :: H) wr) (fun x19 _ => fs.length - (intOf x19).toNat)
 case atStart => exact ⟨0, rfl, Nat.zero_le _, by rw [boolC_zero]; exact hv⟩
 case round =>
  obtain ⟨i, rfl, hi, hv⟩ := hrel
  refine sK fun _ k8 => rL ?_
  by_cases hb9 : (i : Int) < (fs.length : Int)
  ·refine uG (.bool true) rfl (ex_lss rfl rfl rfl (qT hb9)) (uW k8 ?_)
   refine sK fun _ k10 => cT rfl (kS ?_)
   refine tK k10 (sK fun _ k11 => ?_)
   refine bB (sK fun _ k12 => ?_)
   obtain ⟨x, hx⟩ : ∃ x, fs[i]? = some x := ⟨_, List.getElem?_eq_getElem (show i < fs.length by omega)⟩
   obtain ⟨fb, fo, had, hrdx⟩ := text_reads hrf hx
   subst had
   refine rL (uG (.pointer (some ⟨fb, fo + i, none⟩)) rfl (ex_index rfl rfl rfl (run_idx1 (k := i) Tryz.underlying22 s9es22 (by omega))) ?_)
   refine uL _ rfl (run_load1 s9na9 (hrdx _ _ _ (Base.Le.refl _) no_res hv 0 _ rfl)) (uA rfl ?_)
   refine uW k12 (sK fun _ k13 => ?_)
   refine rL (uM rfl ?_)
   refine uM rfl ?_
   refine xC h1callable75 rfl ((hashFind B _ _ ad c h x [] (fun r9 h9 => absurd h9 List.not_mem_nil) (hr.rdW []) hm hv).mono ?_) rfl
   rintro e w14 ⟨j, b, hu, rfl, hb, hv⟩
   refine ⟨_, rfl, ?_⟩
   cases b
   ·have hn : ∀ p, h[j]? = some p → p.1 ≠ x := fun p hp he => by have h9 := hb.2 ⟨p, hp, he⟩; cases h9
    refine uM rfl (uE rfl ?_)
    refine uE rfl (uA rfl ?_)
    refine uA rfl (uW k13 ?_)
    refine sK fun _ k15 => rL (uM rfl ?_)
    refine uW k15 (cF rfl ?_)
    refine kS (bN ?_)
    refine tK k11 (rL ?_)
    refine uG (vI ((i + 1 : Nat) : Int)) rfl (ex_add rfl rfl rfl (by rw [i64_in (by omega)]; omega)) (uM rfl ?_)
    refine uZ (then_normal ?_)
    go_roundw
    case rel => exact ⟨i + 1, rfl, by omega, by rw [boolC_no hs hx hu hn]; exact hv⟩
    case measure => show fs.length - (((i + 1 : Nat) : Int)).toNat < fs.length - ((i : Int)).toNat; omega
   obtain ⟨p, hp, hpf⟩ := hb.1 rfl
   have hjl : j < h.length := (List.getElem?_eq_some_iff.1 hp).1
   refine uM rfl (uE rfl ?_)
   refine uE rfl (uA rfl ?_)
   refine uA rfl (uW k13 ?_)
   refine sK fun _ k16 => rL (uM rfl ?_)
   refine uW k16 (cT rfl ?_)
   refine rL (uM rfl ?_)
   refine uM rfl ?_
   refine uG (.pointer (some ⟨b3, 0 + j, none⟩)) rfl (ex_index rfl rfl rfl (run_idx1 (k := j) Tryz.underlying157 h2es157 (by omega))) ?_
   refine sl_storeAt 0 (off := 0 + j) (v := .bool true) (L' := boolC (goneH h (fs.take (i + 1)))) tV (wn rfl) rfl rfl rfl hv rfl h2sz4 (by rw [boolC_len, goneH_len]; omega) rfl rfl (by rw [Nat.zero_add]; exact boolC_yes hs hx hp hpf) (fun w17 hv => ?_)
   simp only [zO] at hv
   refine uZ (bN ?_)
   refine tK k11 (rL ?_)
   refine uG (vI ((i + 1 : Nat) : Int)) rfl (ex_add rfl rfl rfl (by rw [i64_in (by omega)]; omega)) (uM rfl ?_)
   refine uZ (then_normal ?_)
   go_roundw
   case rel => exact ⟨i + 1, rfl, by omega, hv⟩
   case measure => show fs.length - (((i + 1 : Nat) : Int)).toNat < fs.length - ((i : Int)).toNat; omega
  refine uG (.bool false) rfl (ex_lss rfl rfl rfl (qF hb9)) (uW k8 ?_)
  refine sK fun _ k18 => cF rfl (xE ?_)
  refine tX (tX ?_)
  refine bH (tK k5 ?_)
  refine sK fun _ k19 => ?_
  obtain rfl : i = fs.length := by omega
  replace hv := hv.cellRow (n := h.length) (c := h.length) (size := 1) (by rw [boolC_len, goneH_len, Nat.mul_one]) (Nat.le_refl _) (by unfold maxLen; omega)
  have h9 : (boolC (goneH h (fs.take fs.length))).take (h.length * 1) = boolC (goneH h fs) := by rw [List.take_length]; exact List.take_of_length_le (by rw [boolC_len, goneH_len]; omega)
  rw [h9] at hv
  obtain ⟨D, hD, hv, hrg, -, -⟩ := hv.rowBy
  refine rL (uA rfl ?_)
  refine uW k19 (sK fun _ k20 => ?_)
  refine sK fun _ k21 => rL (uM rfl ?_)
  refine uG (vI (h.length : Int)) rfl (ex_len0 Tryz.underlying76 rfl rfl) (uM rfl ?_)
  refine uW k21 (bB ?_)
  gi_loopw [11, 36] (fun x11 x36 wr => ∃ (k : Nat) (out : List Pr) (ra : Option Addr) (rc : Nat), x11 = .slice ra out.length rc ∧ x36 = vI k ∧ k ≤ h.length ∧ out = delH (h.take k) fs ∧ Inv D (Res.row 121 2 (.slice ra out.length rc) out.length (pairCells out) :: H) wr) (fun x11 x36 _ => h.length - (intOf x36).toNat)
  case atStart => exact ⟨0, [], none, 0, rfl, rfl, Nat.zero_le _, rfl, (hv).rowNil 121 2⟩
  case round =>
   obtain ⟨k, out, ra, rc, rfl, rfl, hk, hout, hv⟩ := hrel
   have hol : out.length ≤ h.length := by rw [hout]; exact Nat.le_trans delH_len (by rw [List.length_take]; omega)
   refine sK fun _ k23 => rL ?_
   by_cases hb24 : (k : Int) < (h.length : Int)
   ·refine uG (.bool true) rfl (ex_lss rfl rfl rfl (qT hb24)) (uW k23 ?_)
    refine sK fun _ k25 => cT rfl (kS ?_)
    refine tK k25 (sK fun _ k26 => ?_)
    refine bB (sK fun _ k27 => ?_)
    obtain ⟨p, hp⟩ : ∃ x, h[k]? = some x := ⟨_, List.getElem?_eq_getElem (show k < h.length by omega)⟩
    obtain ⟨bb, bo, had, hrdp⟩ := pair_reads hr hp
    subst had
    refine rL (uM rfl ?_)
    refine uG (.pointer (some ⟨bb, bo + k * 2, none⟩)) rfl (ex_index rfl rfl rfl (run_idx (k := k) Tryz.underlying76 s10es76 (by omega))) ?_
    refine uL (.agg #[vS p.1, vS p.2]) rfl (run_loadR (cs := [vS p.1, vS p.2]) s10wd121 (Reads.mid (pre := []) (mid := [vS p.1, vS p.2]) (post := []) hrdp _ _ _ hD no_res hv)) ?_
    refine sl_alloc tV (wn rfl) rfl hv h2al121 (fun b28 w29 hv => ?_)
    refine uA rfl ?_
    refine xS 0 rfl hv s10sz121 rfl (by exact ⟨rfl, rfl, trivial⟩) (fun w30 hv => ?_)
    simp only [zO, sp] at hv
    refine uW k27 (sK fun _ k31 => ?_)
    obtain ⟨b9, o9, had9, hrdg⟩ := row1_reads (hrg.rdW []) (boolC_at (fs := fs) hp)
    cases had9
    refine rL (uM rfl ?_)
    refine uM rfl ?_
    refine uG (.pointer (some ⟨b3, 0 + k, none⟩)) rfl (ex_index rfl rfl rfl (run_idx1 (k := k) Tryz.underlying157 h2es157 (by omega))) ?_
    refine uL _ rfl (run_load1 s2na4 (hrdg _ _ _ (Base.Le.refl _) no_res hv 0 _ rfl)) ?_
    refine uG (.bool (!(decide (p.1 ∈ fs)))) rfl (ex_not rfl rfl rfl) (uW k31 ?_)
    refine wpIn_cond_split (t := !(decide (p.1 ∈ fs))) rfl (fun hc32 => ?_) (fun hc32 => ?_)
    ·refine rL (uM rfl ?_)
     refine uL (.agg #[vS p.1, vS p.2]) rfl (lM 0 s10wd121 hv rfl rfl rfl rfl) ?_
     refine sl_rowAgg (L := [vS p.1, vS p.2]) tV (wn rfl) rfl rfl hv h2el76 rfl (by decide) (fun b33 w34 hv => ?_)
     simp only [zP, po]
     replace hv := hv.front 2 rfl
     simp only [eS, eZ] at hv
     refine sl_append (news := [vS p.1, vS p.2]) tV (wn rfl) rfl rfl rfl h2el76 hv (ok_full (by omega)) rfl (rd_all (hv.get 1 rfl)) (by intro u hu; simp only [List.mem_cons, List.not_mem_nil, or_false] at hu; rcases hu with rfl | rfl <;> rfl) (by unfold maxLen; omega) (by omega) (fun rv35 w38 hv => ?_)
     obtain ⟨ra36, rc37, rfl⟩ := row_slice hv.head
     refine uA rfl (uZ ?_)
     refine bN (tK k26 ?_)
     refine rL (uG (vI ((k + 1 : Nat) : Int)) rfl (ex_add rfl rfl rfl (by rw [i64_in (by omega)]; omega)) ?_)
     refine uM rfl (uZ ?_)
     refine then_normal ?_
     go_roundw
     case rel => exact ⟨k + 1, out ++ [p], _, _, by rw [List.length_append, List.length_singleton], rfl, by omega, by rw [hout, delH_next hp, if_neg (by simpa using hc32)], by rw [List.length_append, List.length_singleton, pairCells_app]; exact (hv.kp [] 1 2)⟩
     case measure => show h.length - (((k + 1 : Nat) : Int)).toNat < h.length - ((k : Int)).toNat; omega
    refine kS (bN ?_)
    refine tK k26 (rL ?_)
    refine uG (vI ((k + 1 : Nat) : Int)) rfl (ex_add rfl rfl rfl (by rw [i64_in (by omega)]; omega)) (uM rfl ?_)
    refine uZ (then_normal ?_)
    go_roundw
    case rel => exact ⟨k + 1, out, _, _, rfl, rfl, by omega, by rw [hout, delH_next hp, if_pos (by simpa using hc32), List.append_nil], (hv.kp [1] 1 1)⟩
    case measure => show h.length - (((k + 1 : Nat) : Int)).toNat < h.length - ((k : Int)).toNat; omega
   refine uG (.bool false) rfl (ex_lss rfl rfl rfl (qF hb24)) (uW k23 ?_)
   refine sK fun _ k39 => cF rfl (xE ?_)
   refine tX (tX ?_)
   refine bH (tK k20 ?_)
   refine sK fun _ k40 => rL (uM rfl ?_)
   refine uM rfl ?_
   refine uG (vI (h.length : Int)) rfl (ex_len0 Tryz.underlying76 rfl rfl) (uM rfl ?_)
   refine uG (vI (out.length : Int)) rfl (ex_len0 Tryz.underlying76 rfl rfl) ?_
   refine uG (vI ((h.length : Int) - (out.length : Int))) rfl (ex_sub rfl rfl rfl (by rw [i64_in (by omega)])) (uA rfl ?_)
   refine uA rfl (uW k40 ?_)
   refine rR (bodyPost_ret (results_tmp2 rfl _ _ _) rfl ?_)
   obtain rfl : k = h.length := by omega
   rw [List.take_length] at hout
   obtain ⟨E, hE, hv, hro, hoko, -⟩ := (hv).rowBy
   exact ⟨E, ra, rc, out, hD.trans hE, rfl, hoko, hro, hout, hv⟩
theorem row_snoc {B : Base} {H : List Res} {w : World} {out : List (List UInt8)} {x : List UInt8} {ra : Option Addr} {rc : Nat} (h : Inv B (Res.row 9 1 (.slice ra (out.length + 1) rc) (out.length + 1) (textCells out ++ [strV x]) :: H) w) : Inv B (Res.row 9 1 (.slice ra (out ++ [x]).length rc) (out ++ [x]).length (textCells (out ++ [x])) :: H) w := by
 rw [show textCells out ++ [strV x] = textCells (out ++ [x]) by simp [textCells]] at h
 rw [List.length_append, List.length_singleton]; exact h
theorem h3mk9 : (Tryz.prog.info? 9).map (fun i => (i.zero, i.size, i.bytes)) = some (some (vS []), 1, 16) := by kernel_rfl
theorem h3el22 : Elem Tryz.prog 22 9 (vS []) 1 16 := elem_of Tryz.underlying22 h3mk9 (by rfl) (by decide)
theorem h3al121 : AL Tryz.prog 121 [vS [], vS []] := fun w => by kernel_rfl
theorem hashFields (B : Base) (H : List Res) (w : World) (ad : Option Addr) (c : Nat) (h : List Pr) (hr : RdV B [] ad (pairCells h)) (hm : h.length ≤ 1000000) (hv : Inv B H w) :
  Calls Tryz.prog 52 #[.slice ad h.length c] w fun e w' => ∃ C oa oc out, B.Le C ∧ e = .returned (.slice oa out.length oc) ∧ SliceOk oa out.length oc ∧ RdV C [] oa (textCells out) ∧ out = h.map (·.1) ∧ Inv C H w' := by
 refine cW Tryz.func52 rfl Tryz.ntmps52 ?_
 simp only [al]
 refine sK fun _ k1 => rL (uA rfl ?_)
 refine uW k1 (sK fun _ k2 => ?_)
 refine rL (uM rfl ?_)
 refine uG (vI (h.length : Int)) rfl (ex_len0 Tryz.underlying76 rfl rfl) ?_
 refine sl_makeRow (cap := h.length) tV (wn rfl) rfl rfl rfl h3el22 (by unfold maxLen; omega) (by omega) hv (fun b3 w4 hv => ?_)
 refine uA rfl (uW k2 ?_)
 refine sK fun _ k5 => sK fun _ k6 => rL (uM rfl ?_)
 refine uG (vI (h.length : Int)) rfl (ex_len0 Tryz.underlying76 rfl rfl) (uM rfl ?_)
 refine uW k6 (bB ?_)
 gi_loopw [3, 11] (fun x3 x11 wr => ∃ (k : Nat) (out : List (List UInt8)) (ra : Option Addr) (rc : Nat), x3 = .slice ra out.length rc ∧ x11 = vI k ∧ k ≤ h.length ∧ out = (h.take k).map (·.1) ∧ Inv B (Res.row 9 1 (.slice ra out.length rc) out.length (textCells out) :: H) wr) (fun x3 x11 _ => h.length - (intOf x11).toNat)
 case atStart => exact ⟨0, [], _, _, rfl, rfl, Nat.zero_le _, rfl, hv⟩
 case round =>
  obtain ⟨k, out, ra, rc, rfl, rfl, hk, hout, hv⟩ := hrel
  have hol : out.length ≤ h.length := by rw [hout, List.length_map, List.length_take]; omega
  refine sK fun _ k8 => rL ?_
  by_cases hb9 : (k : Int) < (h.length : Int)
  ·refine uG (.bool true) rfl (ex_lss rfl rfl rfl (qT hb9)) (uW k8 ?_)
   refine sK fun _ k10 => cT rfl (kS ?_)
   refine tK k10 (sK fun _ k11 => ?_)
   refine bB (sK fun _ k12 => ?_)
   obtain ⟨p, hp⟩ : ∃ x, h[k]? = some x := ⟨_, List.getElem?_eq_getElem (show k < h.length by omega)⟩
   obtain ⟨bb, bo, had, hrdp⟩ := pair_reads hr hp
   subst had
   refine rL (uG (.pointer (some ⟨bb, bo + k * 2, none⟩)) rfl (ex_index rfl rfl rfl (run_idx (k := k) Tryz.underlying76 s10es76 (by omega))) ?_)
   refine uL (.agg #[vS p.1, vS p.2]) rfl (run_loadR (cs := [vS p.1, vS p.2]) s10wd121 (Reads.mid (pre := []) (mid := [vS p.1, vS p.2]) (post := []) hrdp _ _ _ (Base.Le.refl _) no_res hv)) ?_
   refine sl_alloc tV (wn rfl) rfl hv h3al121 (fun b13 w14 hv => ?_)
   simp only [zP, po]
   refine xS 0 rfl hv s10sz121 rfl (by exact ⟨rfl, rfl, trivial⟩) (fun w15 hv => ?_)
   simp only [zO, sp] at hv
   refine uW k12 (rL ?_)
   refine uM rfl ?_
   refine uF (vP b13) rfl (s10fa121_0 _ _ _) ?_
   refine uL _ rfl (run_load1 s9na9 (hv.load 0 0 rfl rfl)) ?_
   refine sl_rowOne (v := vS p.1) tV (wn rfl) rfl rfl hv h3el22 rfl (fun b16 w17 hv => ?_)
   replace hv := hv.front 2 rfl
   simp only [eS, eZ] at hv
   refine sl_append (news := [vS p.1]) tV (wn rfl) rfl rfl rfl h3el22 hv (ok_full (by omega)) rfl (rd_all (hv.get 1 rfl)) (by intro u hu; simp only [List.mem_cons, List.not_mem_nil, or_false] at hu; rcases hu with rfl <;> rfl) (by unfold maxLen; omega) (by omega) (fun rv18 w21 hv => ?_)
   obtain ⟨ra19, rc20, rfl⟩ := row_slice hv.head
   refine uA rfl (uZ ?_)
   refine bN (tK k11 ?_)
   refine rL (uG (vI ((k + 1 : Nat) : Int)) rfl (ex_add rfl rfl rfl (by rw [i64_in (by omega)]; omega)) ?_)
   refine uM rfl (uZ ?_)
   refine then_normal ?_
   go_roundw
   case rel => exact ⟨k + 1, out ++ [p.1], _, _, by rw [List.length_append, List.length_singleton], rfl, by omega, by rw [hout, take_next hp, List.map_append]; rfl, row_snoc (hv.kp [] 1 2)⟩
   case measure => show h.length - (((k + 1 : Nat) : Int)).toNat < h.length - ((k : Int)).toNat; omega
  refine uG (.bool false) rfl (ex_lss rfl rfl rfl (qF hb9)) (uW k8 ?_)
  refine sK fun _ k22 => cF rfl (xE ?_)
  refine tX (tX ?_)
  refine bH (tK k5 ?_)
  refine sK fun _ k23 => rL (uM rfl ?_)
  refine uA rfl (uW k23 ?_)
  refine rR (bR rfl rfl ?_)
  obtain rfl : k = h.length := by omega
  rw [List.take_length] at hout
  obtain ⟨D, hD, hv, hro, hoko, -⟩ := (hv).rowBy
  exact ⟨D, ra, rc, out, hD, rfl, hoko, hro, hout, hv⟩
theorem hashTexts (B : Base) (H : List Res) (w : World) (ad : Option Addr) (c : Nat) (h : List Pr) (hr : RdV B [] ad (pairCells h)) (hm : h.length ≤ 1000000) (hv : Inv B H w) :
  Calls Tryz.prog 53 #[.slice ad h.length c] w fun e w' => ∃ C oa oc out, B.Le C ∧ e = .returned (.slice oa out.length oc) ∧ SliceOk oa out.length oc ∧ RdV C [] oa (textCells out) ∧ out = h.map (·.2) ∧ Inv C H w' := by
 refine cW Tryz.func53 rfl Tryz.ntmps53 ?_
 simp only [al]
 refine sK fun _ k1 => rL (uA rfl ?_)
 refine uW k1 (sK fun _ k2 => ?_)
 refine rL (uM rfl ?_)
 refine uG (vI (h.length : Int)) rfl (ex_len0 Tryz.underlying76 rfl rfl) ?_
 refine sl_makeRow (cap := h.length) tV (wn rfl) rfl rfl rfl h3el22 (by unfold maxLen; omega) (by omega) hv (fun b3 w4 hv => ?_)
 refine uA rfl (uW k2 ?_)
 refine sK fun _ k5 => sK fun _ k6 => rL (uM rfl ?_)
 refine uG (vI (h.length : Int)) rfl (ex_len0 Tryz.underlying76 rfl rfl) (uM rfl ?_)
 refine uW k6 (bB ?_)
 gi_loopw [3, 11] (fun x3 x11 wr => ∃ (k : Nat) (out : List (List UInt8)) (ra : Option Addr) (rc : Nat), x3 = .slice ra out.length rc ∧ x11 = vI k ∧ k ≤ h.length ∧ out = (h.take k).map (·.2) ∧ Inv B (Res.row 9 1 (.slice ra out.length rc) out.length (textCells out) :: H) wr) (fun x3 x11 _ => h.length - (intOf x11).toNat)
 case atStart => exact ⟨0, [], _, _, rfl, rfl, Nat.zero_le _, rfl, hv⟩
 case round =>
  obtain ⟨k, out, ra, rc, rfl, rfl, hk, hout, hv⟩ := hrel
  have hol : out.length ≤ h.length := by rw [hout, List.length_map, List.length_take]; omega
  refine sK fun _ k8 => rL ?_
  by_cases hb9 : (k : Int) < (h.length : Int)
  ·refine uG (.bool true) rfl (ex_lss rfl rfl rfl (qT hb9)) (uW k8 ?_)
   refine sK fun _ k10 => cT rfl (kS ?_)
   refine tK k10 (sK fun _ k11 => ?_)
   refine bB (sK fun _ k12 => ?_)
   obtain ⟨p, hp⟩ : ∃ x, h[k]? = some x := ⟨_, List.getElem?_eq_getElem (show k < h.length by omega)⟩
   obtain ⟨bb, bo, had, hrdp⟩ := pair_reads hr hp
   subst had
   refine rL (uG (.pointer (some ⟨bb, bo + k * 2, none⟩)) rfl (ex_index rfl rfl rfl (run_idx (k := k) Tryz.underlying76 s10es76 (by omega))) ?_)
   refine uL (.agg #[vS p.1, vS p.2]) rfl (run_loadR (cs := [vS p.1, vS p.2]) s10wd121 (Reads.mid (pre := []) (mid := [vS p.1, vS p.2]) (post := []) hrdp _ _ _ (Base.Le.refl _) no_res hv)) ?_
   refine sl_alloc tV (wn rfl) rfl hv h3al121 (fun b13 w14 hv => ?_)
   simp only [zP, po]
   refine xS 0 rfl hv s10sz121 rfl (by exact ⟨rfl, rfl, trivial⟩) (fun w15 hv => ?_)
   simp only [zO, sp] at hv
   refine uW k12 (rL ?_)
   refine uM rfl ?_
   refine uF (.pointer (some ⟨b13, 1, none⟩)) rfl (s10fa121_1 _ _ _) ?_
   refine uL _ rfl (run_load1 s9na9 (hv.load 0 1 rfl rfl)) ?_
   refine sl_rowOne (v := vS p.2) tV (wn rfl) rfl rfl hv h3el22 rfl (fun b16 w17 hv => ?_)
   replace hv := hv.front 2 rfl
   simp only [eS, eZ] at hv
   refine sl_append (news := [vS p.2]) tV (wn rfl) rfl rfl rfl h3el22 hv (ok_full (by omega)) rfl (rd_all (hv.get 1 rfl)) (by intro u hu; simp only [List.mem_cons, List.not_mem_nil, or_false] at hu; rcases hu with rfl <;> rfl) (by unfold maxLen; omega) (by omega) (fun rv18 w21 hv => ?_)
   obtain ⟨ra19, rc20, rfl⟩ := row_slice hv.head
   refine uA rfl (uZ ?_)
   refine bN (tK k11 ?_)
   refine rL (uG (vI ((k + 1 : Nat) : Int)) rfl (ex_add rfl rfl rfl (by rw [i64_in (by omega)]; omega)) ?_)
   refine uM rfl (uZ ?_)
   refine then_normal ?_
   go_roundw
   case rel => exact ⟨k + 1, out ++ [p.2], _, _, by rw [List.length_append, List.length_singleton], rfl, by omega, by rw [hout, take_next hp, List.map_append]; rfl, row_snoc (hv.kp [] 1 2)⟩
   case measure => show h.length - (((k + 1 : Nat) : Int)).toNat < h.length - ((k : Int)).toNat; omega
  refine uG (.bool false) rfl (ex_lss rfl rfl rfl (qF hb9)) (uW k8 ?_)
  refine sK fun _ k22 => cF rfl (xE ?_)
  refine tX (tX ?_)
  refine bH (tK k5 ?_)
  refine sK fun _ k23 => rL (uM rfl ?_)
  refine uA rfl (uW k23 ?_)
  refine rR (bR rfl rfl ?_)
  obtain rfl : k = h.length := by omega
  rw [List.take_length] at hout
  obtain ⟨D, hD, hv, hro, hoko, -⟩ := (hv).rowBy
  exact ⟨D, ra, rc, out, hD, rfl, hoko, hro, hout, hv⟩
end Go.Proofs.YtffnhfkkochnhaaGreatDoor
