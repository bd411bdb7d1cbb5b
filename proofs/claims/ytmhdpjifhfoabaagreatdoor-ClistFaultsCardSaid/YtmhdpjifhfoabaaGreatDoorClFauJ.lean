/- The law: begun. -/
import Derived.Test.YtmhdpjifhfoabaaGreatDoorClFauC
import Derived.Test.YtmhdpjifhfoabaaGreatDoorClFauH
import Derived.Test.YtmhdpjifhfoabaaGreatDoorClFauI
import Derived.Test.YtmhdpjifhfoabaaGreatDoorClFauB
import Derived.Test.YtmhdpjifhfoabaaGreatDoorRows
import Derived.Test.YtmhdpjifhfoabaaGreatDoorClFauE
import Derived.Test.YtmhdpjifhfoabaaGreatDoorClFauF
set_option maxRecDepth 100000
set_option maxHeartbeats 16000000
set_option synthInstance.maxSize 4096
set_option synthInstance.maxHeartbeats 400000
namespace Go.Proofs.YtmhdpjifhfoabaaGreatDoor
open Go.RowKit Go.Pm
theorem res_tct {P : Program} {fn : Func} {w : World} {t : TypeId} {v : Value} {r i j : Nat} (h : fn.results = #[.tmp r, .cell i t, .tmp j]) {tmps : Array Value} {ad : Addr} (hr : tmps.getD i undef = .pointer (some ad)) (hl : (Instr.loadAt t (.pointer (some ad))).run P w = .ok v w) : (results fn tmps).run P w = .ok (.tuple #[tmps.getD r undef, v, tmps.getD j undef]) w := by
 have hl' : (loadVar t ad).run P w = .ok v w := by simpa [Instr.loadAt, Instr.sureAddr] using hl
 have hr' : tmps[i]?.getD undef = .pointer (some ad) := by rw [← hr, Array.getD_eq_getD_getElem?]
 simp [results, h, hr', asAddr, hl']
theorem l1al48 : AL Tryz.prog 48 [vN, vI 0, vN] := fun w => by kernel_rfl
theorem l1callable7 : Callable Tryz.prog 7 := cb Tryz.func7 (by kernel_rfl)
theorem l1es42 (w : World) : (sizeOf (Tryz.prog.elem 42)).run Tryz.prog w = .ok 7 w := by kernel_rfl
theorem l1wd80 : Wide Tryz.prog 80 7 := wide_of (fun w => by kernel_rfl) (by kernel_rfl)
theorem l1al80 : AL Tryz.prog 80 [vS [], vI 0, vS [], vN, vN, vN, vI 0] := fun w => by kernel_rfl
theorem l1sz80 : (Tryz.prog.info? 80).map (·.size) = some 7 := by kernel_rfl
theorem l1fa80_0 : FA Tryz.prog 80 0 0 := fun w b o => by kernel_rfl
theorem l1fa80_1 : FA Tryz.prog 80 1 1 := fun w b o => by kernel_rfl
theorem l1callable28 : Callable Tryz.prog 28 := cb Tryz.func28 (by kernel_rfl)
theorem l1callable29 : Callable Tryz.prog 29 := cb Tryz.func29 (by kernel_rfl)
theorem l1fa80_2 : FA Tryz.prog 80 2 6 := fun w b o => by kernel_rfl
theorem l1callable30 : Callable Tryz.prog 30 := cb Tryz.func30 (by kernel_rfl)
theorem l1callable31 : Callable Tryz.prog 31 := cb Tryz.func31 (by kernel_rfl)
theorem lawBegun (B : Base) (H : List Res) (w : World) (ad : Option Addr) (n ac : Nat) (hkr : KeysRd B ad n) (clock : Int) (hv : Inv B H w) :
  Calls Tryz.prog 16 #[.slice ad n ac, vI clock] w fun e w' => ∃ C now v t m s p wb va vc sv es M K wl ka wa kc wc xs, B.Le C ∧ 0 ≤ now ∧ now ≤ 1099511627776 ∧ K.length ≤ 10 ∧ wl.length ≤ 10 ∧ VM C es M ∧ OkM M ∧ RelVK M K ∧ KeysOk M 10 ∧ RefV C K wl ka wa kc wc xs ∧ e = .returned (.tuple #[vP v, .agg #[.slice ka K.length kc, vI now, .slice wa wl.length wc], .bool true]) ∧ Inv C (Res.cell v [.iface 62 (vP t)] 36 :: txR t m s p wb va vc sv now es :: H) w' := by
 refine cW Tryz.func16 rfl Tryz.ntmps16 ?_
 simp only [al]
 refine sK fun _ k1 => rL (uA rfl ?_)
 refine sl_alloc tV (wn rfl) rfl hv l1al48 (fun b2 w3 hv => ?_)
 refine uA rfl (uW k1 ?_)
 refine sK fun _ k4 => rL (uM rfl ?_)
 refine uG (vI (if 0 > clock then 0 else clock)) rfl (ex_max2 (m := clock) (n := 0) rfl rfl rfl rfl) ?_
 refine uG (vI (if 1099511627776 < (if 0 > clock then 0 else clock) then 1099511627776 else (if 0 > clock then 0 else clock))) rfl (ex_min2 (m := (if 0 > clock then 0 else clock)) (n := 1099511627776) rfl rfl rfl rfl) (uA rfl ?_)
 refine uW k4 (sK fun _ k5 => ?_)
 obtain ⟨now, hnow⟩ : ∃ n : Int, n = (if 1099511627776 < (if 0 > clock then 0 else clock) then 1099511627776 else (if 0 > clock then 0 else clock)) := ⟨_, rfl⟩
 rw [← hnow]
 have h0 : 0 ≤ now := by rw [hnow]; split <;> (try split) <;> omega
 have h1 : now ≤ 1099511627776 := by rw [hnow]; split <;> (try split) <;> omega
 clear hnow
 refine rL (uM rfl ?_)
 refine xC l1callable7 rfl ((lawOpened B _ _ now h0 h1 hv).mono ?_) rfl
 rintro e w6 ⟨v, t, m, s, p, wb, va, vc, sv, rfl, hv⟩
 refine ⟨_, rfl, uA rfl ?_⟩
 refine uW k5 (sK fun _ k7 => ?_)
 refine rL (uM rfl ?_)
 refine uG (.agg #[vN, vI now, vN]) rfl (ex_buildN (vs := #[(1, vI now)]) rfl (by simp only [List.map_toArray, List.map_cons, List.map_nil]; rfl) (by kernel_rfl)) ?_
 refine sl_alloc tV (wn rfl) rfl hv l1al48 (fun b8 w9 hv => ?_)
 simp only [zP, po]
 refine xS 0 rfl hv v2sz48 rfl (by exact ⟨rfl, rfl, rfl, trivial⟩) (fun w10 hv => ?_)
 simp only [zO, sp] at hv
 refine uW k7 (sK fun _ k11 => ?_)
 refine sK fun _ k12 => rL (uA rfl ?_)
 refine uW k12 (bB ?_)
 gi_loopw [10] (fun x10 wr => ∃ (i : Nat) (C : Base) (es : List (List UInt8 × Value)) (M : List (List UInt8 × Ver)) (K : List KeyR) (wl : List (List UInt8)) (ka wa : Option Addr) (kc wc : Nat) (xs : List Value), x10 = vI i ∧ B.Le C ∧ i ≤ n ∧ (i ≤ 10 ∧ K.length ≤ i ∧ wl.length ≤ i ∧ VM C es M ∧ OkM M ∧ RelVK M K ∧ KeysOk M i ∧ RefV C K wl ka wa kc wc xs) ∧ Inv C (Res.cell v [.iface 62 (vP t)] 36 :: txR t m s p wb va vc sv now es :: Res.cell b8 [.slice ka K.length kc, vI now, .slice wa wl.length wc] 48 :: Res.cell b2 [vN, vI 0, vN] 48 :: H) wr) (fun x10 _ => n - (intOf x10).toNat)
 case atStart => exact ⟨0, B, [], [], [], [], none, none, 0, 0, [], rfl, Base.Le.refl _, Nat.zero_le _, ⟨Nat.zero_le _, Nat.le_refl _, Nat.le_refl _, trivial, OkM.nil, RelVK.nil, ⟨List.Pairwise.nil, Nat.le_refl _, fun k h => (by cases h)⟩, ⟨⟨Nat.le_refl _, Nat.zero_le _, fun _ => rfl⟩, rdV_nil, rfl, ⟨Nat.le_refl _, Nat.zero_le _, fun _ => rfl⟩, rdV_nil⟩⟩, ((((hv.front 3 rfl).front 1 rfl).front 3 rfl).front 3 rfl)⟩
 case round =>
  obtain ⟨i, C, es, M, K, wl, ka, wa, kc, wc, xs, rfl, hBC, hi, ⟨hi10, hKl, hwl, hM, hO, hRK, hKO, hRV⟩, hv⟩ := hrel
  refine sK fun _ k14 => sK fun _ k15 => rL (uM rfl ?_)
  refine uM rfl ?_
  refine uG (vI n) rfl (ex_len0 Tryz.underlying42 rfl rfl) ?_
  by_cases hb16 : (i : Int) < (n : Int)
  ·refine uG (.bool true) rfl (ex_lss rfl rfl rfl (qT hb16)) (uM rfl ?_)
   refine uM rfl ?_
   by_cases hb17 : (i : Int) < 10
   ·refine uG (.bool true) rfl (ex_lss rfl rfl rfl (qT hb17)) (uK rfl ?_)
    refine uW k15 (cT rfl ?_)
    refine kS (tK k14 ?_)
    refine sK fun _ k18 => bB (sK fun _ k19 => ?_)
    obtain ⟨bb, bo, key, x, xp, xt, xz, ex, had, hrd, hrdv⟩ := hkr i (by omega)
    subst had
    refine rL (uM rfl ?_)
    refine uM rfl ?_
    refine uG (.pointer (some ⟨bb, bo + i * 7, none⟩)) rfl (ex_index rfl rfl rfl (run_idx (k := i) Tryz.underlying42 l1es42 (by omega))) ?_
    refine uL (.agg #[vS key, vI x.kind, vS x.text, xp, xt, xz, vI ex]) rfl (run_loadR (cs := [vS key, vI x.kind, vS x.text, xp, xt, xz, vI ex]) l1wd80 (Reads.mid (pre := []) (mid := [vS key, vI x.kind, vS x.text, xp, xt, xz, vI ex]) (post := []) hrd _ _ _ hBC no_res hv)) ?_
    refine sl_alloc tV (wn rfl) rfl hv l1al80 (fun b20 w21 hv => ?_)
    simp only [zP, po]
    refine xS 0 rfl hv l1sz80 rfl (by exact ⟨rfl, rfl, rfl, hrdv.p.one, hrdv.t.one, hrdv.z.one, rfl, trivial⟩) (fun w22 hv => ?_)
    simp only [zO, sp] at hv
    refine uW k19 (sK fun _ k23 => ?_)
    refine sK fun _ k24 => rL (uF (vP b20) rfl (l1fa80_0 _ _ _) ?_)
    refine uL _ rfl (run_load1 s9na9 (hv.load 0 0 rfl rfl)) ?_
    refine uG (vI (key.length : Int)) rfl (ex_lenStr Tryz.underlying9 rfl rfl) ?_
    by_cases hb25 : (key.length : Int) > 256
    ·refine uG (.bool true) rfl (ex_gtr rfl rfl rfl (qT hb25)) (uM rfl ?_)
     iterate 4 refine uP rfl ?_
     refine uK rfl (uM rfl ?_)
     iterate 4 refine uP rfl ?_
     refine uK rfl (uM rfl ?_)
     iterate 3 refine uP rfl ?_
     refine uK rfl (uM rfl ?_)
     iterate 3 refine uP rfl ?_
     refine uK rfl (uW k24 ?_)
     refine cT rfl (xE ?_)
     refine tX (bH ?_)
     refine tK k18 (rL ?_)
     refine uM rfl ?_
     refine uG (vI ((i + 1 : Nat) : Int)) rfl (ex_add rfl rfl rfl (by rw [i64_in (by omega)]; omega)) (uA rfl ?_)
     refine uZ (then_normal ?_)
     go_roundw
     case rel => exact ⟨i + 1, _, _, _, _, _, _, _, _, _, _, rfl, hBC, by omega, ⟨by omega, by omega, by omega, hM, hO, hRK, ⟨hKO.nd, by have := hKO.len; omega, hKO.sh⟩, hRV⟩, (hv.kp [4, 4, 4, 4] 4 1)⟩
     case measure => show n - (((i + 1 : Nat) : Int)).toNat < n - ((i : Int)).toNat; omega
    refine uG (.bool false) rfl (ex_gtr rfl rfl rfl (qF hb25)) (uM rfl ?_)
    refine uF (.pointer (some ⟨b20, 1, none⟩)) rfl (l1fa80_1 _ _ _) ?_
    refine uL (.agg #[vI x.kind, vS x.text, xp, xt, xz]) rfl (lM 0 s1wd78 hv rfl rfl rfl rfl) ?_
    refine xC l1callable28 rfl ((refSmall C _ _ x xp xt xz (hrdv.more hBC) hv).mono ?_) rfl
    rintro e w27 ⟨bl26, rfl, hbl26, hv⟩
    refine ⟨_, rfl, ?_⟩
    cases bl26
    ·refine uG (.bool true) rfl (ex_not rfl rfl rfl) (uK rfl ?_)
     refine uM rfl ?_
     iterate 4 refine uP rfl ?_
     refine uK rfl (uM rfl ?_)
     iterate 3 refine uP rfl ?_
     refine uK rfl (uM rfl ?_)
     iterate 3 refine uP rfl ?_
     refine uK rfl (uW k24 ?_)
     refine cT rfl (xE ?_)
     refine tX (bH ?_)
     refine tK k18 (rL ?_)
     refine uM rfl ?_
     refine uG (vI ((i + 1 : Nat) : Int)) rfl (ex_add rfl rfl rfl (by rw [i64_in (by omega)]; omega)) (uA rfl ?_)
     refine uZ (then_normal ?_)
     go_roundw
     case rel => exact ⟨i + 1, _, _, _, _, _, _, _, _, _, _, rfl, hBC, by omega, ⟨by omega, by omega, by omega, hM, hO, hRK, ⟨hKO.nd, by have := hKO.len; omega, hKO.sh⟩, hRV⟩, (hv.kp [4, 4, 4, 4] 4 1)⟩
     case measure => show n - (((i + 1 : Nat) : Int)).toNat < n - ((i : Int)).toNat; omega
    have hva := valRd_at2 hrdv (hbl26 rfl)
    refine uG (.bool false) rfl (ex_not rfl rfl rfl) (uK rfl ?_)
    refine uM rfl ?_
    refine uF (.pointer (some ⟨b20, 1, none⟩)) rfl (l1fa80_1 _ _ _) ?_
    refine uL (.agg #[vI x.kind, vS x.text, xp, xt, xz]) rfl (lM 0 s1wd78 hv rfl rfl rfl rfl) ?_
    refine xC l1callable29 rfl ((refRightV C _ _ x xp xt xz (hva.more hBC) hv).mono ?_) rfl
    rintro e w29 ⟨bl28, rfl, hbl28, hv⟩
    refine ⟨_, rfl, ?_⟩
    cases bl28
    ·refine uG (.bool true) rfl (ex_not rfl rfl rfl) (uK rfl ?_)
     refine uM rfl ?_
     iterate 3 refine uP rfl ?_
     refine uK rfl (uM rfl ?_)
     iterate 3 refine uP rfl ?_
     refine uK rfl (uW k24 ?_)
     refine cT rfl (xE ?_)
     refine tX (bH ?_)
     refine tK k18 (rL ?_)
     refine uM rfl ?_
     refine uG (vI ((i + 1 : Nat) : Int)) rfl (ex_add rfl rfl rfl (by rw [i64_in (by omega)]; omega)) (uA rfl ?_)
     refine uZ (then_normal ?_)
     go_roundw
     case rel => exact ⟨i + 1, _, _, _, _, _, _, _, _, _, _, rfl, hBC, by omega, ⟨by omega, by omega, by omega, hM, hO, hRK, ⟨hKO.nd, by have := hKO.len; omega, hKO.sh⟩, hRV⟩, (hv.kp [4, 4, 4, 4] 4 1)⟩
     case measure => show n - (((i + 1 : Nat) : Int)).toNat < n - ((i : Int)).toNat; omega
    refine uG (.bool false) rfl (ex_not rfl rfl rfl) (uK rfl ?_)
    refine uM rfl ?_
    refine uF (.pointer (some ⟨b20, 6, none⟩)) rfl (l1fa80_2 _ _ _) ?_
    refine uL _ rfl (run_load1 s2na3 (hv.load 0 6 rfl rfl)) ?_
    by_cases hb30 : ex < 0
    ·refine uG (.bool true) rfl (ex_lss rfl rfl rfl (qT hb30)) (uK rfl ?_)
     refine uM rfl ?_
     iterate 3 refine uP rfl ?_
     refine uK rfl (uW k24 ?_)
     refine cT rfl (xE ?_)
     refine tX (bH ?_)
     refine tK k18 (rL ?_)
     refine uM rfl ?_
     refine uG (vI ((i + 1 : Nat) : Int)) rfl (ex_add rfl rfl rfl (by rw [i64_in (by omega)]; omega)) (uA rfl ?_)
     refine uZ (then_normal ?_)
     go_roundw
     case rel => exact ⟨i + 1, _, _, _, _, _, _, _, _, _, _, rfl, hBC, by omega, ⟨by omega, by omega, by omega, hM, hO, hRK, ⟨hKO.nd, by have := hKO.len; omega, hKO.sh⟩, hRV⟩, (hv.kp [4, 4, 4, 4] 4 1)⟩
     case measure => show n - (((i + 1 : Nat) : Int)).toNat < n - ((i : Int)).toNat; omega
    refine uG (.bool false) rfl (ex_lss rfl rfl rfl (qF hb30)) (uK rfl ?_)
    refine uM rfl ?_
    refine uF (.pointer (some ⟨b20, 6, none⟩)) rfl (l1fa80_2 _ _ _) ?_
    refine uL _ rfl (run_load1 s2na3 (hv.load 0 6 rfl rfl)) ?_
    by_cases hb31 : ex > 1099511627776
    ·refine uG (.bool true) rfl (ex_gtr rfl rfl rfl (qT hb31)) (uK rfl ?_)
     refine uW k24 (cT rfl ?_)
     refine xE (tX ?_)
     refine bH (tK k18 ?_)
     refine rL (uM rfl ?_)
     refine uG (vI ((i + 1 : Nat) : Int)) rfl (ex_add rfl rfl rfl (by rw [i64_in (by omega)]; omega)) (uA rfl ?_)
     refine uZ (then_normal ?_)
     go_roundw
     case rel => exact ⟨i + 1, _, _, _, _, _, _, _, _, _, _, rfl, hBC, by omega, ⟨by omega, by omega, by omega, hM, hO, hRK, ⟨hKO.nd, by have := hKO.len; omega, hKO.sh⟩, hRV⟩, (hv.kp [4, 4, 4, 4] 4 1)⟩
     case measure => show n - (((i + 1 : Nat) : Int)).toNat < n - ((i : Int)).toNat; omega
    refine uG (.bool false) rfl (ex_gtr rfl rfl rfl (qF hb31)) (uK rfl ?_)
    refine uW k24 (cF rfl ?_)
    refine kS (tK k23 ?_)
    refine sK fun _ k32 => sK fun _ k33 => rL (uM rfl ?_)
    refine uF (vP b20) rfl (l1fa80_0 _ _ _) ?_
    refine uL _ rfl (run_load1 s9na9 (hv.load 0 0 rfl rfl)) ?_
    refine uF (.pointer (some ⟨b20, 1, none⟩)) rfl (l1fa80_1 _ _ _) ?_
    refine uL (.agg #[vI x.kind, vS x.text, xp, xt, xz]) rfl (lM 0 s1wd78 hv rfl rfl rfl rfl) ?_
    refine uF (.pointer (some ⟨b20, 6, none⟩)) rfl (l1fa80_2 _ _ _) ?_
    refine uL _ rfl (run_load1 s2na3 (hv.load 0 6 rfl rfl)) ?_
    replace hv := hv.front 2 rfl
    simp only [eS, eZ] at hv
    replace hv := hv.front 2 rfl
    simp only [eS, eZ] at hv
    refine xC l1callable30 rfl ((viewKeep C _ _ v t m s p wb va vc sv now es M key x xp xt xz ex (hM.more (Base.Le.refl _)) (hva.more hBC) hv).mono ?_) rfl
    rintro e w34 ⟨D, es2, M2, ec, hD, rfl, hM2, hkp, hv⟩
    refine ⟨_, rfl, ?_⟩
    have hO2 := hO.keep hkp
    obtain ⟨hec, hmm⟩ := keep_ok (by omega) (fun _ => ⟨by omega, hbl28.1 rfl, by omega, by omega⟩) hkp
    subst hec
    refine uG (.bool false) rfl (ex_neq rfl rfl rfl (by decide)) (uW k33 ?_)
    refine cF rfl (kS ?_)
    refine tK k32 (rL ?_)
    refine uL (.agg #[.slice ka K.length kc, vI now, .slice wa wl.length wc]) rfl (lM 3 v2wd48 hv rfl rfl rfl rfl) ?_
    refine uF (vP b20) rfl (l1fa80_0 _ _ _) ?_
    refine uL _ rfl (run_load1 s9na9 (hv.load 2 0 rfl rfl)) ?_
    refine uF (.pointer (some ⟨b20, 1, none⟩)) rfl (l1fa80_1 _ _ _) ?_
    refine uL (.agg #[vI x.kind, vS x.text, xp, xt, xz]) rfl (lM 2 s1wd78 hv rfl rfl rfl rfl) ?_
    refine uF (.pointer (some ⟨b20, 6, none⟩)) rfl (l1fa80_2 _ _ _) ?_
    refine uL _ rfl (run_load1 s2na3 (hv.load 2 6 rfl rfl)) ?_
    refine xC l1callable31 rfl ((refPut20 D _ _ K wl ka wa kc wc xs now (hRV.more hD) (by omega) (by omega) (hRK.short hKO) key x xp xt xz ex (hva.more (hBC.trans hD)) hv).mono ?_) rfl
    rintro e w35 ⟨E, K2, wl2, ka2, kc2, wa2, wc2, xs2, hE, rfl, hRV2, hK2, hwl2, hv⟩
    refine ⟨_, rfl, ?_⟩
    have hRK2 := rel_step hRK hmm hK2
    have hKO2 := hKO.step (by omega) hmm
    have hKl2 := putK_len hK2
    simp only [zP, po]
    refine xS 3 rfl hv v2sz48 rfl (by exact ⟨rfl, rfl, rfl, trivial⟩) (fun w36 hv => ?_)
    simp only [zS, zO, sp] at hv
    refine uZ (bN ?_)
    refine tK k18 (rL ?_)
    refine uM rfl ?_
    refine uG (vI ((i + 1 : Nat) : Int)) rfl (ex_add rfl rfl rfl (by rw [i64_in (by omega)]; omega)) (uA rfl ?_)
    refine uZ (then_normal ?_)
    go_roundw
    case rel => exact ⟨i + 1, _, _, _, _, _, _, _, _, _, _, rfl, ((hBC.trans hD).trans hE), by omega, ⟨by omega, by omega, by omega, hM2.more hE, hO2, hRK2, hKO2, hRV2.more (Base.Le.refl _)⟩, (hv.kp [4, 4, 3, 3] 4 1)⟩
    case measure => show n - (((i + 1 : Nat) : Int)).toNat < n - ((i : Int)).toNat; omega
   refine uG (.bool false) rfl (ex_lss rfl rfl rfl (qF hb17)) (uK rfl ?_)
   refine uW k15 (cF rfl ?_)
   refine xE (tX ?_)
   refine tX (bH ?_)
   refine tK k11 (sK fun _ k37 => ?_)
   refine rW mixed [3] [0,1,2,3,4] 80 rfl (by kernel_rfl) hv ?_
   simp only [qm, opAt]
   refine dM (vP v) rfl (dL (.agg #[.slice ka K.length kc, vI now, .slice wa wl.length wc]) rfl (fun hv => ex_load rfl rfl (lM 2 v2wd48 hv rfl rfl rfl rfl)) ?_)
   refine dA (vP v) rfl ?_
   simp only [zP, po]
   refine dS rfl fun w38 hv => mS 3 rfl hv v2sz48 rfl (by exact ⟨rfl, rfl, rfl, trivial⟩) (fun w39 hv => ?_)
   simp only [zS, zO, sp] at hv
   refine dW hv (dA (.bool true) rfl ?_)
   refine dE fun w40 hv => ?_
   simp only [zP, po]
   refine tK k37 (rR ?_)
   refine bodyPost_ret (res_tct rfl rfl (lM 3 v2wd48 hv rfl rfl rfl rfl)) rfl (⟨C, now, v, t, m, s, p, wb, va, vc, sv, es, M, K, wl, ka, wa, kc, wc, xs, hBC, h0, h1, by omega, by omega, hM, hO, hRK, ⟨hKO.nd, by have := hKO.len; omega, hKO.sh⟩, hRV, rfl, (hv.kp [1, 1] 2 2)⟩)
  refine uG (.bool false) rfl (ex_lss rfl rfl rfl (qF hb16)) (uM rfl ?_)
  refine uP rfl ?_
  refine uP rfl (uK rfl ?_)
  refine uW k15 (cF rfl ?_)
  refine xE (tX ?_)
  refine tX (bH ?_)
  refine tK k11 (sK fun _ k41 => ?_)
  refine rW mixed [3] [0,1,2,3,4] 80 rfl (by kernel_rfl) hv ?_
  simp only [qm, opAt]
  refine dM (vP v) rfl (dL (.agg #[.slice ka K.length kc, vI now, .slice wa wl.length wc]) rfl (fun hv => ex_load rfl rfl (lM 2 v2wd48 hv rfl rfl rfl rfl)) ?_)
  refine dA (vP v) rfl ?_
  simp only [zP, po]
  refine dS rfl fun w42 hv => mS 3 rfl hv v2sz48 rfl (by exact ⟨rfl, rfl, rfl, trivial⟩) (fun w43 hv => ?_)
  simp only [zS, zO, sp] at hv
  refine dW hv (dA (.bool true) rfl ?_)
  refine dE fun w44 hv => ?_
  simp only [zP, po]
  refine tK k41 (rR ?_)
  refine bodyPost_ret (res_tct rfl rfl (lM 3 v2wd48 hv rfl rfl rfl rfl)) rfl (⟨C, now, v, t, m, s, p, wb, va, vc, sv, es, M, K, wl, ka, wa, kc, wc, xs, hBC, h0, h1, by omega, by omega, hM, hO, hRK, ⟨hKO.nd, by have := hKO.len; omega, hKO.sh⟩, hRV, rfl, (hv.kp [1, 1] 2 2)⟩)
section
variable {M : List (List UInt8 × Ver)} {now : Int} {name : List UInt8} {y : Ver} {ok : Bool} {k : KeyR}
theorem got_yes (h : (ok = true ∧ lookA M name = some y ∧ aliveB y now = true) ∨ (ok = false ∧ y = zver0 ∧ ∀ y9, lookA M name = some y9 → aliveB y9 now = false)) (hl : lookA M name = some ⟨0, false, k.exp, k.val⟩) (ha : aliveB ⟨0, false, k.exp, k.val⟩ now = true) : ok = true ∧ y = kver k := by
 rcases h with ⟨h1, h2, -⟩ | ⟨-, -, h2⟩
 ·rw [hl] at h2; cases h2; exact ⟨h1, rfl⟩
 rw [h2 _ hl] at ha; cases ha
theorem got_no (h : (ok = true ∧ lookA M name = some y ∧ aliveB y now = true) ∨ (ok = false ∧ y = zver0 ∧ ∀ y9, lookA M name = some y9 → aliveB y9 now = false)) (hd : DeadM M now name) : ok = false ∧ y = zver0 := by
 rcases h with ⟨-, h2, h3⟩ | ⟨h1, h2, -⟩
 ·rw [hd y h2] at h3; cases h3
 exact ⟨h1, h2⟩
end
theorem getKB (B : Base) (H : List Res) (w : World) (K : List KeyR) (wl : List (List UInt8)) (ka wa : Option Addr) (kc wc : Nat) (xs : List Value) (clk : Int) (hR : RefV B K wl ka wa kc wc xs) (hm : K.length ≤ 10000) (hmw : wl.length ≤ 10000) (name : List UInt8) (hv : Inv B H w) : Calls Tryz.prog 33 #[.agg #[.slice ka K.length kc, vI clk, .slice wa wl.length wc], vS name] w fun e w' => ∃ x p' t' z' ok, e = .returned (.tuple #[.agg (krCells x p' t' z').toArray, .bool ok]) ∧ ((ok = true ∧ getK K clk name = some x) ∨ (ok = false ∧ x = zkey ∧ getK K clk name = none)) ∧ ValAt B x.val p' t' z' ∧ Inv B H w' := by
 refine (refGet20 B H w K wl ka wa kc wc xs clk hR hm hmw name hv).mono ?_
 rintro e w' ⟨x, p', t', z', ok, rfl, h1, h2, h3⟩
 exact ⟨x, p', t', z', ok, rfl, h1.imp (fun h => ⟨h.1, h.2.1⟩) (fun h => ⟨h.1, h.2.1, h.2.2.1⟩), h2, h3⟩
theorem l2callable193 : Callable Tryz.prog 193 := cb Tryz.func193 (by kernel_rfl)
theorem l2callable32 : Callable Tryz.prog 32 := cb Tryz.func32 (by kernel_rfl)
theorem l2al85 : AL Tryz.prog 85 [vI 0, .bool false, vI 0, vI 0, vS [], vN, vN, vN] := fun w => by kernel_rfl
theorem l2al88 : AL Tryz.prog 88 [vS [], vI 0, vS [], vN, vN, vN, vI 0] := fun w => by kernel_rfl
theorem l2fa88_1 : FA Tryz.prog 88 1 1 := fun w b o => by kernel_rfl
theorem l2callable34 : Callable Tryz.prog 34 := cb Tryz.func34 (by kernel_rfl)
theorem lawSame (B : Base) (H : List Res) (w : World) (v t m s p wb : Nat) (va : Option Addr) (vc : Nat) (sv : Value) (now : Int) (es : List (List UInt8 × Value)) (M : List (List UInt8 × Ver)) (K : List KeyR) (wl : List (List UInt8)) (ka wa : Option Addr) (kc wc : Nat) (xs : List Value) (hM : VM B es M) (hRK : RelVK M K) (hKO : KeysOk M 10) (hRV : RefV B K wl ka wa kc wc xs) (hKl : K.length ≤ 10) (hwl : wl.length ≤ 10) (hv : Inv B (Res.cell v [.iface 62 (vP t)] 36 :: txR t m s p wb va vc sv now es :: H) w) :
  Calls Tryz.prog 17 #[vP v, .agg #[.slice ka K.length kc, vI now, .slice wa wl.length wc]] w fun e w' => e = .returned (.bool true) ∧ Inv B (Res.cell v [.iface 62 (vP t)] 36 :: txR t m s p wb va vc sv now es :: H) w' := by
 refine cW Tryz.func17 rfl Tryz.ntmps17 ?_
 simp only [al]
 refine sK fun _ k1 => rL (sl_box (L := [.slice ka K.length kc, vI now, .slice wa wl.length wc]) tV (wn rfl) rfl rfl hv (fun w => by kernel_rfl) (fun b2 w3 hv => ?_))
 refine uA rfl (uW k1 ?_)
 refine sK fun _ k4 => sK fun _ k5 => rW mixed [4, 6, 7] [0,1,2,3,5,4,6,7,8] 71 rfl (by kernel_rfl) hv ?_
 simp only [qm, opAt]
 refine dM (vP v) rfl (dG (vP v) rfl (ex_nil rfl rfl) ?_)
 refine dG (vP v) rfl (ex_field rfl rfl (v1fa36_0 _ _ _)) ?_
 simp only [zP, po]
 refine dL _ rfl (fun hv => ex_load rfl rfl (run_load1 v1na34 (hv.load 1 0 rfl rfl))) (dF (.agg #[.slice ka K.length kc, vI now, .slice wa wl.length wc]) rfl (fun hv => ex_load rfl rfl (lM 0 v2wd48 hv rfl rfl rfl rfl)) fun f6 hf6 => ?_)
 refine dS rfl fun w7 hv => ?_
 replace hv := hv.front 2 rfl
 simp only [eS, eZ] at hv
 refine stepMem_callI l2callable193 rfl rfl rfl (r := vP t) (fun w => by kernel_rfl) (args := #[]) (by simp only [List.map_toArray, List.map_nil]) ((txnNamesB B _ _ t m s p wb va vc sv now es M (hM.more (Base.Le.refl _)) hKO.sh (by have := hKO.len; omega) hv).mono ?_)
 rintro e w8 ⟨P, na, nc, hP, rfl, hnr, hv⟩
 refine ⟨_, rfl, dV hv (fC (fun ww hv => hf6 ww ?_) fN) ?_⟩
 ·exact ex_load rfl rfl (lM 1 v2wd48 hv rfl rfl rfl rfl)
 simp only [zP, po]
 refine dS rfl fun w9 hv => mC l2callable32 rfl ((refNames20 P _ _ K wl ka wa kc wc xs now (hRV.more hP) (by omega) (by omega) hRK.nodup hv).mono ?_) rfl
 rintro e w10 ⟨Q, ma, mc, hQ, rfl, hmr, hv⟩
 refine ⟨_, rfl, dV hv (fK rfl fN) ?_⟩
 refine dS rfl fun w11 hv => mC s18callable13 rfl ((wordsEq Q _ _ na ma nc mc (hRK.names hKO.nd) (hnr.more hQ (fun _ h => h)) hmr (by have := namesR_le K now; omega) hv).mono ?_) rfl
 rintro e w12 ⟨rfl, hv⟩
 refine ⟨_, rfl, dV hv (fK rfl fN) ?_⟩
 refine dG (.bool false) rfl (ex_not rfl rfl rfl) (dE fun w13 hv => ?_)
 simp only [zP, po]
 refine tK k5 (cF rfl ?_)
 refine kS (tK k4 ?_)
 refine sK fun _ k14 => sK fun _ k15 => rL (uA rfl ?_)
 refine uW k15 (bB ?_)
 gi_loopw [5] (fun x5 wr => ∃ (i : Nat), x5 = vI i ∧ i ≤ K.length ∧ Inv B (Res.cell v [.iface 62 (vP t)] 36 :: txR t m s p wb va vc sv now es :: Res.cell b2 [.slice ka K.length kc, vI now, .slice wa wl.length wc] 48 :: H) wr) (fun x5 _ => K.length - (intOf x5).toNat)
 case atStart => exact ⟨0, rfl, Nat.zero_le _, ((((hv.front 1 rfl).front 1 rfl).front 2 rfl)).weak (hP.trans hQ)⟩
 case round =>
  obtain ⟨i, rfl, hi, hv⟩ := hrel
  refine sK fun _ k17 => sK fun _ k18 => rL (uM rfl ?_)
  refine uF (vP b2) rfl (v2fa48_0 _ _ _) ?_
  refine uL _ rfl (run_load1 v2na46 (hv.load 2 0 rfl rfl)) ?_
  refine uG (vI (K.length : Int)) rfl (ex_len0 Tryz.underlying46 rfl rfl) ?_
  by_cases hb19 : (i : Int) < (K.length : Int)
  ·refine uG (.bool true) rfl (ex_lss rfl rfl rfl (qT hb19)) (uW k18 ?_)
   refine cT rfl (kS ?_)
   refine tK k17 (sK fun _ k20 => ?_)
   refine bB (sK fun _ k21 => ?_)
   obtain ⟨x, hx⟩ : ∃ x, K[i]? = some x := ⟨_, List.getElem?_eq_getElem (show i < K.length by omega)⟩
   obtain ⟨kb, ko, xp, xt, xz, had, hvalx, hrdx⟩ := KeysAt.reads hRV.at_ hRV.keys hx
   subst had
   refine rT mixed (fun az wz => ∃ (G : Base) (y : Ver) (yp yt yz : Value) (ok : Bool) (b28 : Nat), (B.Le G) ∧ (ValAt G y.val yp yt yz) ∧ (((ok = true ∧ lookA M x.name = some y ∧ aliveB y now = true) ∨ (ok = false ∧ y = zver0 ∧ ∀ y9, lookA M x.name = some y9 → aliveB y9 now = false))) ∧ az = { tmps := List.toArray (vP v :: .agg #[.slice (some ⟨kb, ko, none⟩) K.length kc, vI now, .slice wa wl.length wc] :: undef :: vP b2 :: u4 :: vI i :: vP b28 :: .bool ok :: u8 :: u9 :: vP v :: vP v :: vP v :: .iface 62 (vP t) :: .slice na ((namesT M now).length) nc :: .agg #[.slice (some ⟨kb, ko, none⟩) K.length kc, vI now, .slice wa wl.length wc] :: .slice ma ((namesR K now).length) mc :: .bool true :: .bool false :: vI i :: vP b2 :: .slice (some ⟨kb, ko, none⟩) K.length kc :: vI (K.length : Int) :: .bool true :: u24 :: u25 :: .tuple #[.agg #[vI y.stamp, .bool y.gone, vI y.expire, vI y.val.kind, vS y.val.text, yp, yt, yz], .bool ok] :: vP v :: vP v :: vP v :: .iface 62 (vP t) :: vP b2 :: .slice (some ⟨kb, ko, none⟩) K.length kc :: vI i :: .pointer (some ⟨kb, ko + i * 7, none⟩) :: .pointer (some ⟨kb, ko + i * 7, none⟩) :: vS x.name :: .iface 62 (vP t) :: .iface 62 (vP t) :: .tuple #[.agg #[vI y.stamp, .bool y.gone, vI y.expire, vI y.val.kind, vS y.val.text, yp, yt, yz], .bool ok] :: .agg #[vI y.stamp, .bool y.gone, vI y.expire, vI y.val.kind, vS y.val.text, yp, yt, yz] :: .bool ok :: u42 :: u43 :: u44 :: u45 :: u46 :: u47 :: u48 :: u49 :: u50 :: u51 :: u52 :: u53 :: u54 :: u55 :: u56 :: u57 :: u58 :: u59 :: u60 :: u61 :: u62 :: u63 :: u64 :: u65 :: u66 :: u67 :: u68 :: u69 :: u70 :: []), defers := [] } ∧ Inv G (Res.cell b28 [vI y.stamp, .bool y.gone, vI y.expire, vI y.val.kind, vS y.val.text, yp, yt, yz] 85 :: txR t m s p wb va vc sv now es :: Res.cell v [.iface 62 (vP t)] 36 :: Res.cell b2 [.slice (some ⟨kb, ko, none⟩) K.length kc, vI now, .slice wa wl.length wc] 48 :: H) wz) [12, 16, 17] [0,1,2,3,4,5,6,7,8,9,10,11] [13,14,15,16,17,18] [12,13,14,15,17,18] 12 16 71 rfl (by kernel_rfl) hv ?_ ?_
   ·intro R2 l1 l2 hR2 hl1 hl2
    simp only [qm, opAt]
    refine tG (vP v) rfl (ex_move rfl rfl) (tG (vP v) rfl (ex_nil rfl rfl) ?_)
    simp only [zP, po]
    refine tG (vP v) rfl (ex_field rfl rfl (v1fa36_0 _ _ _)) (tF (.iface 62 (vP t)) rfl (fun hv => ex_load rfl rfl (run_load1 v1na34 (hv.load 0 0 rfl rfl))) fun f22 hf22 => ?_)
    simp only [zP, po]
    refine tG (vP b2) rfl (ex_field rfl rfl (v2fa48_0 _ _ _)) (tF (.slice (some ⟨kb, ko, none⟩) K.length kc) rfl (fun hv => ex_load rfl rfl (run_load1 v2na46 (hv.load 2 0 rfl rfl))) fun f23 hf23 => ?_)
    simp only [zP, po]
    refine tG (vI i) rfl (ex_move rfl rfl) (tG (.pointer (some ⟨kb, ko + i * 7, none⟩)) rfl (ex_index rfl rfl rfl (run_idx (k := i) Tryz.underlying46 v2es46 (by omega))) ?_)
    simp only [zP, po]
    refine tG (.pointer (some ⟨kb, ko + i * 7, none⟩)) rfl (ex_field rfl rfl (v2fa88_0 _ _ _)) (tF (vS x.name) rfl (fun hv => ex_load rfl rfl (run_load1 s9na9 (hrdx _ _ _ (Base.Le.refl _) no_res hv 0 _ rfl))) fun f24 hf24 => ?_)
    simp only [zP, po]
    refine tG (.iface 62 (vP t)) rfl (ex_nilI rfl rfl) (tG (.iface 62 (vP t)) rfl (ex_move rfl rfl) ?_)
    simp only [zP, po]
    refine tB ?_ ?_
    ·rw [hl1]; clear hl1 hl2
     simp only [qm, opAt]
     refine dS rfl fun w25 hv => ?_
     replace hv := hv.front 1 rfl
     simp only [eS, eZ] at hv
     refine stepMem_callI v1callable192 rfl rfl rfl (r := vP t) (fun w => by kernel_rfl) (args := #[vS x.name]) (by simp only [List.map_toArray, List.map_cons, List.map_nil]; rfl) ((txnGet B _ _ t m s p wb va vc sv now es M x.name (hM.more (Base.Le.refl _)) hv).mono ?_)
     rintro e w26 ⟨G, y, yp, yt, yz, ok, hG, rfl, hgot, hyv, hv⟩
     refine ⟨_, rfl, dV hv (fK rfl (fK rfl (fK rfl fN))) ?_⟩
     refine dM (.tuple #[.agg #[vI y.stamp, .bool y.gone, vI y.expire, vI y.val.kind, vS y.val.text, yp, yt, yz], .bool ok]) rfl (dG (.agg #[vI y.stamp, .bool y.gone, vI y.expire, vI y.val.kind, vS y.val.text, yp, yt, yz]) rfl (ex_extract rfl rfl rfl) ?_)
     simp only [zP, po]
     refine dG (.bool ok) rfl (ex_extract rfl rfl rfl) (dS rfl fun w27 hv => ?_)
     refine mem_alloc rfl rfl hv l2al85 (fun b28 w29 hv => ?_)
     refine dV hv (fC (fun ww hv => hf24 ww (ex_load rfl rfl (run_load1 s9na9 (hrdx _ _ _ hG no_res hv 0 _ rfl)))) (fC (fun ww hv => hf23 ww (ex_load rfl rfl (run_load1 v2na46 (hv.load 3 0 rfl rfl)))) (fC (fun ww hv => hf22 ww (ex_load rfl rfl (run_load1 v1na34 (hv.load 2 0 rfl rfl)))) fN))) (dS rfl fun w30 hv => ?_)
     refine mS 0 rfl hv x0sz85 rfl (by exact ⟨rfl, rfl, rfl, rfl, rfl, hyv.p.one, hyv.t.one, hyv.z.one, trivial⟩) (fun w31 hv => ?_)
     simp only [zO, sp] at hv
     refine dV hv (fK rfl (fK rfl (fK rfl fN))) ?_
     simp only [zP, po]
     refine dA (.bool ok) rfl (dE fun wz hv => ?_)
     simp only [zP, po]
     exact hR2 _ _ ⟨G, y, yp, yt, yz, ok, b28, hG, hyv, hgot, rfl, ((((hv.front 3 rfl).front 3 rfl).front 3 rfl).front 3 rfl)⟩
    rw [hl2]; clear hl1 hl2
    simp only [qm, opAt]
    refine dS rfl fun w32 hv => mem_alloc rfl rfl hv l2al85 (fun b33 w34 hv => ?_)
    refine dV hv (fC (fun ww hv => hf24 ww (ex_load rfl rfl (run_load1 s9na9 (hrdx _ _ _ (Base.Le.refl _) no_res hv 0 _ rfl)))) (fC (fun ww hv => hf23 ww (ex_load rfl rfl (run_load1 v2na46 (hv.load 3 0 rfl rfl)))) (fC (fun ww hv => hf22 ww (ex_load rfl rfl (run_load1 v1na34 (hv.load 1 0 rfl rfl)))) fN))) (dS rfl fun w35 hv => ?_)
    replace hv := hv.front 2 rfl
    simp only [eS, eZ] at hv
    refine stepMem_callI v1callable192 rfl rfl rfl (r := vP t) (fun w => by kernel_rfl) (args := #[vS x.name]) (by simp only [List.map_toArray, List.map_cons, List.map_nil]; rfl) ((txnGet B _ _ t m s p wb va vc sv now es M x.name (hM.more (Base.Le.refl _)) hv).mono ?_)
    rintro e w36 ⟨G, y, yp, yt, yz, ok, hG, rfl, hgot, hyv, hv⟩
    refine ⟨_, rfl, dV hv (fK rfl (fK rfl (fK rfl fN))) ?_⟩
    refine dM (.tuple #[.agg #[vI y.stamp, .bool y.gone, vI y.expire, vI y.val.kind, vS y.val.text, yp, yt, yz], .bool ok]) rfl ?_
    simp only [zP, po]
    refine dG (.agg #[vI y.stamp, .bool y.gone, vI y.expire, vI y.val.kind, vS y.val.text, yp, yt, yz]) rfl (ex_extract rfl rfl rfl) (dG (.bool ok) rfl (ex_extract rfl rfl rfl) ?_)
    refine dS rfl fun w37 hv => mS 1 rfl hv x0sz85 rfl (by exact ⟨rfl, rfl, rfl, rfl, rfl, hyv.p.one, hyv.t.one, hyv.z.one, trivial⟩) (fun w38 hv => ?_)
    simp only [zS, zO, sp] at hv
    refine dV hv (fK rfl (fK rfl (fK rfl fN))) ?_
    simp only [zP, po]
    refine dA (.bool ok) rfl (dE fun wz hv => ?_)
    simp only [zP, po]
    exact hR2 _ _ ⟨G, y, yp, yt, yz, ok, b33, hG, hyv, hgot, rfl, ((((hv.front 3 rfl).front 3 rfl).front 2 rfl).front 3 rfl)⟩
   rintro _ w39 ⟨G, y, yp, yt, yz, ok, b28, hG, hyv, hgot, rfl, hv⟩
   refine tK k21 (sK fun _ k40 => ?_)
   refine rT mixed (fun az wz => ∃ (k : KeyR) (kp kt kz : Value) (ok2 : Bool) (b47 : Nat), (ValAt G k.val kp kt kz) ∧ (((ok2 = true ∧ getK K now x.name = some k) ∨ (ok2 = false ∧ k = zkey ∧ getK K now x.name = none))) ∧ az = { tmps := List.toArray (vP v :: .agg #[.slice (some ⟨kb, ko, none⟩) K.length kc, vI now, .slice wa wl.length wc] :: undef :: vP b2 :: u4 :: vI i :: vP b28 :: .bool ok :: vP b47 :: .bool ok2 :: vP v :: vP v :: vP v :: .iface 62 (vP t) :: .slice na ((namesT M now).length) nc :: .agg #[.slice (some ⟨kb, ko, none⟩) K.length kc, vI now, .slice wa wl.length wc] :: .slice ma ((namesR K now).length) mc :: .bool true :: .bool false :: vI i :: vP b2 :: .slice (some ⟨kb, ko, none⟩) K.length kc :: vI (K.length : Int) :: .bool true :: u24 :: u25 :: .tuple #[.agg #[vI y.stamp, .bool y.gone, vI y.expire, vI y.val.kind, vS y.val.text, yp, yt, yz], .bool ok] :: vP v :: vP v :: vP v :: .iface 62 (vP t) :: vP b2 :: .slice (some ⟨kb, ko, none⟩) K.length kc :: vI i :: .pointer (some ⟨kb, ko + i * 7, none⟩) :: .pointer (some ⟨kb, ko + i * 7, none⟩) :: vS x.name :: .iface 62 (vP t) :: .iface 62 (vP t) :: .tuple #[.agg #[vI y.stamp, .bool y.gone, vI y.expire, vI y.val.kind, vS y.val.text, yp, yt, yz], .bool ok] :: .agg #[vI y.stamp, .bool y.gone, vI y.expire, vI y.val.kind, vS y.val.text, yp, yt, yz] :: .bool ok :: .tuple #[.agg #[vS k.name, vI k.val.kind, vS k.val.text, kp, kt, kz, vI k.exp], .bool ok2] :: .agg #[.slice (some ⟨kb, ko, none⟩) K.length kc, vI now, .slice wa wl.length wc] :: vP b2 :: .slice (some ⟨kb, ko, none⟩) K.length kc :: vI i :: .pointer (some ⟨kb, ko + i * 7, none⟩) :: .pointer (some ⟨kb, ko + i * 7, none⟩) :: vS x.name :: .tuple #[.agg #[vS k.name, vI k.val.kind, vS k.val.text, kp, kt, kz, vI k.exp], .bool ok2] :: .agg #[vS k.name, vI k.val.kind, vS k.val.text, kp, kt, kz, vI k.exp] :: .bool ok2 :: u53 :: u54 :: u55 :: u56 :: u57 :: u58 :: u59 :: u60 :: u61 :: u62 :: u63 :: u64 :: u65 :: u66 :: u67 :: u68 :: u69 :: u70 :: []), defers := [] } ∧ Inv G (Res.cell b47 [vS k.name, vI k.val.kind, vS k.val.text, kp, kt, kz, vI k.exp] 88 :: Res.cell b28 [vI y.stamp, .bool y.gone, vI y.expire, vI y.val.kind, vS y.val.text, yp, yt, yz] 85 :: txR t m s p wb va vc sv now es :: Res.cell v [.iface 62 (vP t)] 36 :: Res.cell b2 [.slice (some ⟨kb, ko, none⟩) K.length kc, vI now, .slice wa wl.length wc] 48 :: H) wz) [7, 11, 12] [0,1,2,3,4,5,6] [8,9,10,11,12,13] [7,8,9,10,12,13] 7 11 71 rfl (by kernel_rfl) hv ?_ ?_
   ·intro R2 l1 l2 hR2 hl1 hl2
    simp only [qm, opAt]
    refine tF (.agg #[.slice (some ⟨kb, ko, none⟩) K.length kc, vI now, .slice wa wl.length wc]) rfl (fun hv => ex_load rfl rfl (lM 3 v2wd48 hv rfl rfl rfl rfl)) fun f41 hf41 => tG (vP b2) rfl (ex_field rfl rfl (v2fa48_0 _ _ _)) ?_
    simp only [zP, po]
    refine tF (.slice (some ⟨kb, ko, none⟩) K.length kc) rfl (fun hv => ex_load rfl rfl (run_load1 v2na46 (hv.load 3 0 rfl rfl))) fun f42 hf42 => tG (vI i) rfl (ex_move rfl rfl) ?_
    simp only [zP, po]
    refine tG (.pointer (some ⟨kb, ko + i * 7, none⟩)) rfl (ex_index rfl rfl rfl (run_idx (k := i) Tryz.underlying46 v2es46 (by omega))) (tG (.pointer (some ⟨kb, ko + i * 7, none⟩)) rfl (ex_field rfl rfl (v2fa88_0 _ _ _)) ?_)
    simp only [zP, po]
    refine tF (vS x.name) rfl (fun hv => ex_load rfl rfl (run_load1 s9na9 (hrdx _ _ _ hG no_res hv 0 _ rfl))) fun f43 hf43 => ?_
    simp only [zP, po]
    refine tB ?_ ?_
    ·rw [hl1]; clear hl1 hl2
     simp only [qm, opAt]
     refine dS rfl fun w44 hv => mC v2callable33 rfl ((getKB G _ _ K wl (some ⟨kb, ko, none⟩) wa kc wc xs now (hRV.more hG) (by omega) (by omega) x.name hv).mono ?_) rfl
     rintro e w45 ⟨k, kp, kt, kz, ok2, rfl, hget, hkv, hv⟩
     refine ⟨_, rfl, dV hv (fK rfl (fK rfl (fK rfl fN))) ?_⟩
     refine dM (.tuple #[.agg #[vS k.name, vI k.val.kind, vS k.val.text, kp, kt, kz, vI k.exp], .bool ok2]) rfl (dG (.agg #[vS k.name, vI k.val.kind, vS k.val.text, kp, kt, kz, vI k.exp]) rfl (ex_extract rfl rfl rfl) ?_)
     simp only [zP, po]
     refine dG (.bool ok2) rfl (ex_extract rfl rfl rfl) (dS rfl fun w46 hv => ?_)
     refine mem_alloc rfl rfl hv l2al88 (fun b47 w48 hv => ?_)
     refine dV hv (fC (fun ww hv => hf43 ww (ex_load rfl rfl (run_load1 s9na9 (hrdx _ _ _ hG no_res hv 0 _ rfl)))) (fC (fun ww hv => hf42 ww (ex_load rfl rfl (run_load1 v2na46 (hv.load 4 0 rfl rfl)))) (fC (fun ww hv => hf41 ww ?_) fN))) ?_
     ·exact ex_load rfl rfl (lM 4 v2wd48 hv rfl rfl rfl rfl)
     refine dS rfl fun w49 hv => mS 0 rfl hv v2sz88 rfl (by exact ⟨rfl, rfl, rfl, hkv.p.one, hkv.t.one, hkv.z.one, rfl, trivial⟩) (fun w50 hv => ?_)
     simp only [zO, sp] at hv
     refine dV hv (fK rfl (fK rfl (fK rfl fN))) ?_
     simp only [zP, po]
     refine dA (.bool ok2) rfl (dE fun wz hv => ?_)
     simp only [zP, po]
     exact hR2 _ _ ⟨k, kp, kt, kz, ok2, b47, hkv, hget, rfl, (((((hv.front 4 rfl).front 4 rfl).front 4 rfl).front 4 rfl).front 4 rfl)⟩
    rw [hl2]; clear hl1 hl2
    simp only [qm, opAt]
    refine dS rfl fun w51 hv => mem_alloc rfl rfl hv l2al88 (fun b52 w53 hv => ?_)
    refine dV hv (fC (fun ww hv => hf43 ww (ex_load rfl rfl (run_load1 s9na9 (hrdx _ _ _ hG no_res hv 0 _ rfl)))) (fC (fun ww hv => hf42 ww (ex_load rfl rfl (run_load1 v2na46 (hv.load 4 0 rfl rfl)))) (fC (fun ww hv => hf41 ww ?_) fN))) ?_
    ·exact ex_load rfl rfl (lM 4 v2wd48 hv rfl rfl rfl rfl)
    refine dS rfl fun w54 hv => mC v2callable33 rfl ((getKB G _ _ K wl (some ⟨kb, ko, none⟩) wa kc wc xs now (hRV.more hG) (by omega) (by omega) x.name hv).mono ?_) rfl
    rintro e w55 ⟨k, kp, kt, kz, ok2, rfl, hget, hkv, hv⟩
    refine ⟨_, rfl, dV hv (fK rfl (fK rfl (fK rfl fN))) ?_⟩
    refine dM (.tuple #[.agg #[vS k.name, vI k.val.kind, vS k.val.text, kp, kt, kz, vI k.exp], .bool ok2]) rfl ?_
    simp only [zP, po]
    refine dG (.agg #[vS k.name, vI k.val.kind, vS k.val.text, kp, kt, kz, vI k.exp]) rfl (ex_extract rfl rfl rfl) (dG (.bool ok2) rfl (ex_extract rfl rfl rfl) ?_)
    refine dS rfl fun w56 hv => mS 0 rfl hv v2sz88 rfl (by exact ⟨rfl, rfl, rfl, hkv.p.one, hkv.t.one, hkv.z.one, rfl, trivial⟩) (fun w57 hv => ?_)
    simp only [zO, sp] at hv
    refine dV hv (fK rfl (fK rfl (fK rfl fN))) ?_
    simp only [zP, po]
    refine dA (.bool ok2) rfl (dE fun wz hv => ?_)
    simp only [zP, po]
    exact hR2 _ _ ⟨k, kp, kt, kz, ok2, b52, hkv, hget, rfl, (((((hv.front 4 rfl).front 4 rfl).front 4 rfl).front 4 rfl).front 4 rfl)⟩
   rintro _ w58 ⟨k, kp, kt, kz, ok2, b47, hkv, hget, rfl, hv⟩
   refine tK k40 (sK fun _ k59 => ?_)
   rcases hget with ⟨rfl, hgk⟩ | ⟨rfl, rfl, hgk⟩
   ·obtain ⟨hl9, ha9⟩ := hRK.got hgk
    obtain ⟨rfl, rfl⟩ := got_yes hgot hl9 ha9
    refine rL (uM rfl ?_)
    refine uM rfl ?_
    refine uG (.bool false) rfl (ex_bneq Tryz.underlying4 rfl rfl rfl rfl) (uM rfl ?_)
    refine uF (.pointer (some ⟨b28, 3, none⟩)) rfl (x2fa85_3 _ _ _) ?_
    refine uL (.agg #[vI ((kver k).val.kind), vS ((kver k).val.text), yp, yt, yz]) rfl (lM 1 s1wd78 hv rfl rfl rfl rfl) ?_
    refine uF (.pointer (some ⟨b47, 1, none⟩)) rfl (l2fa88_1 _ _ _) ?_
    refine uL (.agg #[vI k.val.kind, vS k.val.text, kp, kt, kz]) rfl (lM 0 s1wd78 hv rfl rfl rfl rfl) ?_
    refine xC l2callable34 rfl ((refSameV G _ _ k.val yp yt yz kp kt kz (hyv.more (Base.Le.refl _)).rd (hkv.more (Base.Le.refl _)).rd hkv.pm hkv.tm hkv.zm hv).mono ?_) rfl
    rintro e w60 ⟨rfl, hv⟩
    refine ⟨_, rfl, uG (.bool false) rfl (ex_not rfl rfl rfl) ?_⟩
    refine uK rfl (uM rfl ?_)
    refine uF (.pointer (some ⟨b28, 2, none⟩)) rfl (s2fa85_2 _ _ _) ?_
    refine uL _ rfl (run_load1 s2na3 (hv.load 1 2 rfl rfl)) ?_
    refine uF (.pointer (some ⟨b47, 6, none⟩)) rfl (v2fa88_2 _ _ _) ?_
    refine uL _ rfl (run_load1 s2na3 (hv.load 0 6 rfl rfl)) ?_
    refine uG (.bool false) rfl (ex_neq rfl rfl rfl (qF (fun h => h rfl))) (uK rfl ?_)
    refine uW k59 (cF rfl ?_)
    refine kS (bN ?_)
    refine tK k20 (rL ?_)
    refine uM rfl ?_
    refine uG (vI ((i + 1 : Nat) : Int)) rfl (ex_add rfl rfl rfl (by rw [i64_in (by omega)]; omega)) (uA rfl ?_)
    refine uZ (then_normal ?_)
    simp only [vP, vI, vS]
    go_roundw
    case rel => exact ⟨i + 1, rfl, by omega, ((hv.kp [4, 3, 4] 3 2)).weak hG⟩
    case measure => show K.length - (((i + 1 : Nat) : Int)).toNat < K.length - ((i : Int)).toNat; omega
   obtain ⟨rfl, rfl⟩ := got_no hgot (hRK.dead hgk)
   refine rL (uM rfl ?_)
   refine uM rfl ?_
   refine uG (.bool false) rfl (ex_bneq Tryz.underlying4 rfl rfl rfl rfl) (uM rfl ?_)
   refine uF (.pointer (some ⟨b28, 3, none⟩)) rfl (x2fa85_3 _ _ _) ?_
   refine uL (.agg #[vI zver0.val.kind, vS zver0.val.text, yp, yt, yz]) rfl (lM 1 s1wd78 hv rfl rfl rfl rfl) ?_
   refine uF (.pointer (some ⟨b47, 1, none⟩)) rfl (l2fa88_1 _ _ _) ?_
   refine uL (.agg #[vI zkey.val.kind, vS zkey.val.text, kp, kt, kz]) rfl (lM 0 s1wd78 hv rfl rfl rfl rfl) ?_
   refine xC l2callable34 rfl ((refSameV G _ _ zver0.val yp yt yz kp kt kz (hyv.more (Base.Le.refl _)).rd (hkv.more (Base.Le.refl _)).rd hkv.pm hkv.tm hkv.zm hv).mono ?_) rfl
   rintro e w61 ⟨rfl, hv⟩
   refine ⟨_, rfl, uG (.bool false) rfl (ex_not rfl rfl rfl) ?_⟩
   refine uK rfl (uM rfl ?_)
   refine uF (.pointer (some ⟨b28, 2, none⟩)) rfl (s2fa85_2 _ _ _) ?_
   refine uL _ rfl (run_load1 s2na3 (hv.load 1 2 rfl rfl)) ?_
   refine uF (.pointer (some ⟨b47, 6, none⟩)) rfl (v2fa88_2 _ _ _) ?_
   refine uL _ rfl (run_load1 s2na3 (hv.load 0 6 rfl rfl)) ?_
   refine uG (.bool false) rfl (ex_neq rfl rfl rfl (qF (fun h => h rfl))) (uK rfl ?_)
   refine uW k59 (cF rfl ?_)
   refine kS (bN ?_)
   refine tK k20 (rL ?_)
   refine uM rfl ?_
   refine uG (vI ((i + 1 : Nat) : Int)) rfl (ex_add rfl rfl rfl (by rw [i64_in (by omega)]; omega)) (uA rfl ?_)
   refine uZ (then_normal ?_)
   simp only [vP, vI, vS]
   go_roundw
   case rel => exact ⟨i + 1, rfl, by omega, ((hv.kp [4, 3, 4] 3 2)).weak hG⟩
   case measure => show K.length - (((i + 1 : Nat) : Int)).toNat < K.length - ((i : Int)).toNat; omega
  refine uG (.bool false) rfl (ex_lss rfl rfl rfl (qF hb19)) (uW k18 ?_)
  refine cF rfl (xE ?_)
  refine tX (tX ?_)
  refine bH (tK k14 ?_)
  refine sK fun _ k62 => rL (uA rfl ?_)
  refine uW k62 (rR ?_)
  refine bR rfl rfl (⟨rfl, ((hv.kp [1, 1] 2 1)).weak (Base.Le.refl _)⟩)
theorem l3fa44_1 : FA Tryz.prog 44 1 1 := fun w b o => by kernel_rfl
theorem lawSmall (B : Base) (H : List Res) (w : World) (cn : Int) (xa : Option Addr) (xc : Nat) (xs : List (List UInt8)) (hrx : RdV B [] xa (textCells xs)) (hv : Inv B H w) :
  Calls Tryz.prog 15 #[.agg #[vI cn, .slice xa xs.length xc]] w fun e w' => ∃ b, e = .returned (.bool b) ∧ (b = true → xs.length ≤ 14 ∧ ∀ x ∈ xs, x.length ≤ 4200) ∧ Inv B H w' := by
 refine cW Tryz.func15 rfl Tryz.ntmps15 ?_
 simp only [al]
 refine sK fun _ k1 => rL (sl_box (L := [vI cn, .slice xa xs.length xc]) tV (wn rfl) rfl rfl hv (fun w => by kernel_rfl) (fun b2 w3 hv => ?_))
 refine uA rfl (uW k1 ?_)
 refine sK fun _ k4 => sK fun _ k5 => rL (uF (.pointer (some ⟨b2, 1, none⟩)) rfl (l3fa44_1 _ _ _) ?_)
 refine uL _ rfl (run_load1 s1na22 (hv.load 0 1 rfl rfl)) ?_
 refine uG (vI (xs.length : Int)) rfl (ex_len0 Tryz.underlying22 rfl rfl) ?_
 by_cases hb6 : (xs.length : Int) > 14
 ·refine uG (.bool true) rfl (ex_gtr rfl rfl rfl (qT hb6)) (uW k5 ?_)
  refine cT rfl (sK fun _ k7 => ?_)
  refine rL (uA rfl ?_)
  refine uW k7 (rR ?_)
  refine tR (bR rfl rfl ?_)
  exact ⟨false, rfl, fun h9 => (by cases h9), (hv.kp [] 0 1)⟩
 refine uG (.bool false) rfl (ex_gtr rfl rfl rfl (qF hb6)) (uW k5 ?_)
 refine cF rfl (kS ?_)
 refine tK k4 (sK fun _ k8 => ?_)
 refine sK fun _ k9 => rL (uA rfl ?_)
 refine uW k9 (bB ?_)
 gi_loopw [3] (fun x3 wr => ∃ (i : Nat), x3 = vI i ∧ i ≤ xs.length ∧ (∀ x ∈ xs.take i, x.length ≤ 4200) ∧ Inv B (Res.cell b2 [vI cn, .slice xa xs.length xc] 44 :: H) wr) (fun x3 _ => xs.length - (intOf x3).toNat)
 case atStart => exact ⟨0, rfl, Nat.zero_le _, fun x h => (by cases h), hv⟩
 case round =>
  obtain ⟨i, rfl, hi, hall, hv⟩ := hrel
  refine sK fun _ k11 => sK fun _ k12 => rL (uM rfl ?_)
  refine uF (.pointer (some ⟨b2, 1, none⟩)) rfl (l3fa44_1 _ _ _) ?_
  refine uL _ rfl (run_load1 s1na22 (hv.load 0 1 rfl rfl)) ?_
  refine uG (vI (xs.length : Int)) rfl (ex_len0 Tryz.underlying22 rfl rfl) ?_
  by_cases hb13 : (i : Int) < (xs.length : Int)
  ·refine uG (.bool true) rfl (ex_lss rfl rfl rfl (qT hb13)) (uW k12 ?_)
   refine cT rfl (kS ?_)
   refine tK k11 (sK fun _ k14 => ?_)
   refine bB (sK fun _ k15 => ?_)
   obtain ⟨x, hx⟩ : ∃ x, xs[i]? = some x := ⟨_, List.getElem?_eq_getElem (show i < xs.length by omega)⟩
   obtain ⟨xb, xo, had, hrdx⟩ := text_reads hrx hx
   subst had
   refine rL (uF (.pointer (some ⟨b2, 1, none⟩)) rfl (l3fa44_1 _ _ _) ?_)
   refine uL _ rfl (run_load1 s1na22 (hv.load 0 1 rfl rfl)) (uM rfl ?_)
   refine uG (.pointer (some ⟨xb, xo + i, none⟩)) rfl (ex_index rfl rfl rfl (run_idx1 (k := i) Tryz.underlying22 s9es22 (by omega))) ?_
   refine uL _ rfl (run_load1 s9na9 (hrdx _ _ _ (Base.Le.refl _) no_res hv 0 _ rfl)) ?_
   refine uG (vI (x.length : Int)) rfl (ex_lenStr Tryz.underlying9 rfl rfl) ?_
   by_cases hb16 : (x.length : Int) > 4200
   ·refine uG (.bool true) rfl (ex_gtr rfl rfl rfl (qT hb16)) (uW k15 ?_)
    refine cT rfl (sK fun _ k17 => ?_)
    refine rL (uA rfl ?_)
    refine uW k17 (rR ?_)
    refine bZ (tR ?_)
    refine tR (bZ ?_)
    refine tR (bR rfl rfl ?_)
    exact ⟨false, rfl, fun h9 => (by cases h9), (hv.kp [] 0 1)⟩
   refine uG (.bool false) rfl (ex_gtr rfl rfl rfl (qF hb16)) (uW k15 ?_)
   refine cF rfl (kS ?_)
   refine bN (tK k14 ?_)
   refine rL (uM rfl ?_)
   refine uG (vI ((i + 1 : Nat) : Int)) rfl (ex_add rfl rfl rfl (by rw [i64_in (by omega)]; omega)) (uA rfl ?_)
   refine uZ (then_normal ?_)
   go_roundw
   case rel => exact ⟨i + 1, rfl, by omega, fun y hy => (by rw [take_next hx] at hy; rcases List.mem_append.1 hy with h9 | h9; exact hall y h9; rw [List.mem_singleton.1 h9]; omega), hv⟩
   case measure => show xs.length - (((i + 1 : Nat) : Int)).toNat < xs.length - ((i : Int)).toNat; omega
  refine uG (.bool false) rfl (ex_lss rfl rfl rfl (qF hb13)) (uW k12 ?_)
  refine cF rfl (xE ?_)
  refine tX (tX ?_)
  refine bH (tK k8 ?_)
  refine sK fun _ k18 => rL (uA rfl ?_)
  refine uW k18 (rR ?_)
  refine bR rfl rfl ?_
  obtain rfl : i = xs.length := by omega
  rw [List.take_length] at hall
  exact ⟨true, rfl, fun _ => ⟨by omega, hall⟩, (hv.kp [] 0 1)⟩
abbrev Tx := List (List UInt8)
theorem listR_iff {l : Tx} : listRight l = true ↔ l.length ≤ 512 ∧ ∀ x ∈ l, x.length ≤ 4096 := by
 unfold listRight
 rw [Bool.and_eq_true, decide_eq_true_eq, Bool.not_eq_true', List.any_eq_false]
 refine and_congr Iff.rfl ⟨fun h x hx => ?_, fun h x hx => ?_⟩
 ·have := h x hx; simp only [decide_eq_true_eq] at this; omega
 have := h x hx; simp only [decide_eq_true_eq]; omega
section
variable {M M' : List (List UInt8 × Ver)} {clk exp ec : Int} {key : List UInt8} {x : Val} {y : Ver}
theorem valOk3 {v : Val} (h : ValOk v) (hk : v.kind = 3) : listRight v.texts = true ∧ 0 < v.texts.length := by
 rcases h with ⟨h1, -⟩ | ⟨h1, -⟩ | ⟨h1, h2, h3, -⟩ | ⟨h1, -⟩ | ⟨h1, -⟩
 ·omega
 ·omega
 ·exact ⟨h3, h2⟩
 ·omega
 omega
theorem OkM.list (h : OkM M) (ho : OfI M clk key 3 y ec) : listRight y.val.texts = true := by
 rcases ho with ⟨-, rfl, -⟩ | ⟨-, rfl, -⟩ | ⟨-, h1, h2, h3⟩
 ·rfl
 ·rfl
 exact (valOk3 (h.alive h1 h2).2.1 h3).1
theorem OkM.listPut (h : OkM M) (ho : OfI M clk key 3 y ec) (hne : y.val.texts ≠ []) : key.length ≤ 256 ∧ 0 ≤ y.expire ∧ y.expire ≤ 1099511627776 := by
 rcases ho with ⟨-, rfl, -⟩ | ⟨-, rfl, -⟩ | ⟨-, h1, h2, h3⟩
 ·exact absurd rfl hne
 ·exact absurd rfl hne
 have := h.alive h1 h2; exact ⟨this.1, this.2.2.1, this.2.2.2⟩
end
def listV (l : Tx) : Val := ⟨3, [], [], l, []⟩
def PushI (l : Tx) (front : Bool) (ss out : Tx) (ec : Int) : Prop :=
 (ec ≠ 0 ∧ out = [] ∧ ((∃ s ∈ ss, 4096 < s.length) ∨ 512 < l.length + ss.length)) ∨ (ec = 0 ∧ (∀ s ∈ ss, s.length ≤ 4096) ∧ l.length + ss.length ≤ 512 ∧ out = if front then ss.reverse ++ l else l ++ ss)
def popN (l : Tx) (n : Int) : Nat := min n.toNat l.length
def popL (l : Tx) (front : Bool) (n : Int) : Tx := if front then l.drop (popN l n) else l.take (l.length - popN l n)
def popG (l : Tx) (front : Bool) (n : Int) : Tx := if front then l.take (popN l n) else (l.drop (l.length - popN l n)).reverse
def LPushR (M : List (List UInt8 × Ver)) (clk : Int) (key : List UInt8) (front there : Bool) (xs : Tx) (M' : List (List UInt8 × Ver)) (r : Rp) : Prop :=
 ∃ y ec, OfI M clk key 3 y ec ∧ ((ec ≠ 0 ∧ M' = M ∧ IsF r) ∨ (ec = 0 ∧ ((there = true ∧ y.val.kind ≠ 3 ∧ M' = M ∧ r = rInt 0) ∨ (¬ (there = true ∧ y.val.kind ≠ 3) ∧ ∃ out e2, PushI y.val.texts front xs out e2 ∧ ((e2 ≠ 0 ∧ M' = M ∧ IsF r) ∨ (e2 = 0 ∧ ∃ e3, KeepI M clk key (listV out) y.expire e3 M' ∧ DoneR e3 (rInt (out.length : Int)) r))))))
def LMoveR (M : List (List UInt8 × Ver)) (clk : Int) (k l : List UInt8) (fr to : Bool) (M' : List (List UInt8 × Ver)) (r : Rp) : Prop :=
 ∃ y1 e1, OfI M clk k 3 y1 e1 ∧ ((e1 ≠ 0 ∧ M' = M ∧ IsF r) ∨ (e1 = 0 ∧ ∃ y2 e2, OfI M clk l 3 y2 e2 ∧ ((e2 ≠ 0 ∧ M' = M ∧ IsF r) ∨ (e2 = 0 ∧ ((popG y1.val.texts fr 1 = [] ∧ M' = M ∧ r = rNone) ∨ ∃ g, popG y1.val.texts fr 1 = [g] ∧ ∃ out e3, PushI (if k = l then popL y1.val.texts fr 1 else y2.val.texts) to [g] out e3 ∧
  ((e3 ≠ 0 ∧ M' = M ∧ IsF r) ∨ (e3 = 0 ∧ ∃ M1 e4, KeepI M clk l (listV out) y2.expire e4 M1 ∧ ((e4 ≠ 0 ∧ M' = M1 ∧ IsF r) ∨ (e4 = 0 ∧ ((k = l ∧ M' = M1 ∧ r = rStr g) ∨ (k ≠ l ∧ ∃ e5, KeepI M1 clk k (listV (popL y1.val.texts fr 1)) y1.expire e5 M' ∧ DoneR e5 (rStr g) r)))))))))))
section
variable {M M' : List (List UInt8 × Ver)} {clk : Int} {key k l : List UInt8} {xs : Tx} {r : Rp} {front there fr to : Bool}
theorem isF_str {s : List UInt8} : ¬ IsF (rStr s) := fun h => absurd (show (3 : Int) = 1 from h) (by decide)
theorem LPushR.cmd (hM : OkM M) (h : LPushR M clk key front there xs M' r) : CmdR M M' r := by
 obtain ⟨y, ec, -, ⟨-, rfl, -⟩ | ⟨-, ⟨-, -, rfl, -⟩ | ⟨-, out, e2, -, ⟨-, rfl, -⟩ | ⟨-, e3, hk, hd⟩⟩⟩⟩ := h
 ·exact ⟨hM, fun _ => rfl⟩
 ·exact ⟨hM, fun _ => rfl⟩
 ·exact ⟨hM, fun _ => rfl⟩
 exact hd.keep hM hk isF_int
theorem popL_right {t : Tx} {n : Int} (h : listRight t = true) : listRight (popL t fr n) = true := by
 obtain ⟨h1, h2⟩ := listR_iff.1 h
 unfold popL
 split
 ·exact listR_iff.2 ⟨by rw [List.length_drop]; omega, fun x hx => h2 x (List.mem_of_mem_drop hx)⟩
 exact listR_iff.2 ⟨by rw [List.length_take]; omega, fun x hx => h2 x (List.mem_of_mem_take hx)⟩
theorem LMoveR.cmd (hO : OkM M) (h : LMoveR M clk k l fr to M' r) : CmdR M M' r := by
 obtain ⟨y1, e1, hof, ⟨-, rfl, -⟩ | ⟨-, y2, e2, -, ⟨-, rfl, -⟩ | ⟨-, ⟨-, rfl, -⟩ | ⟨g, hg, out, e3, -, ⟨-, rfl, -⟩ | ⟨-, M1, e4, hk, ⟨he4, rfl, -⟩ | ⟨-, ⟨-, rfl, rfl⟩ | ⟨-, e5, hk2, hd⟩⟩⟩⟩⟩⟩⟩ := h
 ·exact ⟨hO, fun _ => rfl⟩
 ·exact ⟨hO, fun _ => rfl⟩
 ·exact ⟨hO, fun _ => rfl⟩
 ·exact ⟨hO, fun _ => rfl⟩
 ·exact ⟨hO.keep hk, fun _ => keep_not hk he4⟩
 ·exact ⟨hO.keep hk, fun hf => absurd hf isF_str⟩
 have hO1 := hO.keep hk
 refine ⟨hO1.keep hk2, fun hf => ?_⟩
 have hne : y1.val.texts ≠ [] := fun e => by rw [e] at hg; unfold popG popN at hg; cases fr <;> simp at hg
 obtain ⟨h1, h2, h3⟩ := hO.listPut hof hne
 have he5 : e5 = 0 := keep_zero h1 (fun hfull => ⟨h1, .inr (.inr (.inl ⟨rfl, by
  rcases hfull with h9 | h9
  ·exact absurd h9 (by show ¬ (3 : Int) = 1; decide)
  simpa [listV] using h9, popL_right (hO.list hof), rfl, rfl, rfl⟩)), h2, h3⟩) hk2
 rcases hd with ⟨-, rfl⟩ | ⟨h9, -⟩
 ·exact absurd hf isF_str
 exact absurd he5 h9
end
theorem NumP.uniq {s : List UInt8} {n m : Int} {b c : Bool} (h : NumP s n b) (h2 : NumP s m c) : n = m ∧ b = c := by
 rcases h with ⟨rfl, h0, h1, rfl⟩ | ⟨rfl, rfl, h⟩
 ·rcases h2 with ⟨rfl, k0, k1, e⟩ | ⟨rfl, rfl, h2⟩
  ·have := parse_itoa n h0 h1
   rw [e, parse_itoa m k0 k1] at this
   cases this; exact ⟨rfl, rfl⟩
  exact absurd rfl (h2 n h0 h1)
 rcases h2 with ⟨rfl, k0, k1, e⟩ | ⟨rfl, rfl, h2⟩
 ·exact absurd e (h m k0 k1)
 exact ⟨rfl, rfl⟩
theorem itoa_small (n : Nat) (h : n ≤ 9) : Lib.itoa (n : Int) = [UInt8.ofNat (48 + n)] := by
 unfold Lib.itoa
 rw [if_neg (by omega), Lib.decDigits, dif_pos (by omega), Int.toNat_natCast]
open Go.Sort
def LPopR (M : List (List UInt8 × Ver)) (clk : Int) (key : List UInt8) (front : Bool) (ws : Tx) (M' : List (List UInt8 × Ver)) (r : Rp) : Prop :=
 ((∃ t ∈ ws, NumP t 0 false) ∧ M' = M ∧ IsF r) ∨ ∃ ns, IntsR ws ns 0 ∧ ((ns.headD 1 < 0 ∧ M' = M ∧ IsF r) ∨ (0 ≤ ns.headD 1 ∧ ∃ y ec, OfI M clk key 3 y ec ∧ ((ec ≠ 0 ∧ M' = M ∧ IsF r) ∨ (ec = 0 ∧ ((y.val.kind ≠ 3 ∧ M' = M ∧ r = rNone) ∨ (y.val.kind = 3 ∧ ∃ e3, ((popG y.val.texts front (ns.headD 1) = [] ∧ M' = M ∧ e3 = 0) ∨ (popG y.val.texts front (ns.headD 1) ≠ [] ∧ KeepI M clk key (listV (popL y.val.texts front (ns.headD 1))) y.expire e3 M')) ∧
  DoneR e3 (if ns ≠ [] ∨ popG y.val.texts front (ns.headD 1) = [] then rStrs (popG y.val.texts front (ns.headD 1)) else rStr ((popG y.val.texts front (ns.headD 1)).headD [])) r))))))
def spanF (a b : Int) (n : Nat) : Nat × Nat :=
 let s := if a < 0 then max (a + n) 0 else a
 let t := min (if b < 0 then b + n else b) ((n : Int) - 1)
 if s > t then (0, 0) else (s.toNat, (t + 1).toNat)
def rangeF (l : Tx) (a b : Int) : Tx := (l.take (spanF a b l.length).2).drop (spanF a b l.length).1
def LRangeR (M : List (List UInt8 × Ver)) (clk : Int) (key : List UInt8) (ws : Tx) (M' : List (List UInt8 × Ver)) (r : Rp) : Prop :=
 M' = M ∧ (((∃ t ∈ ws, NumP t 0 false) ∧ IsF r) ∨ ∃ a b, IntsR ws [a, b] 0 ∧ ∃ y ec, OfI M clk key 3 y ec ∧ ((ec ≠ 0 ∧ IsF r) ∨ (ec = 0 ∧ r = rStrs (rangeF y.val.texts a b))))
theorem range_all (l : Tx) : rangeF l 0 (-1) = l := by
 unfold rangeF spanF
 simp only [show ¬ (0 : Int) < 0 by decide, if_false, show (-1 : Int) < 0 by decide, if_true]
 by_cases h : l = []
 ·subst h; simp
 have := List.length_pos_iff.2 h
 rw [if_neg (by omega)]
 simp only [Int.toNat_zero, List.drop_zero]
 exact List.take_of_length_le (by omega)
abbrev kL : List UInt8 := [108]
structure HasL (M : List (List UInt8 × Ver)) (t : Tx) : Prop where
 ok : listRight t = true
 at_ : (t = [] ∧ DeadM M 0 kL) ∨ (t ≠ [] ∧ lookA M kL = some ⟨0, false, 0, listV t⟩)
 no : ∀ k, k ≠ kL → lookA M k = none
 one : M = [] ∨ ∃ v, M = [(kL, v)]
theorem upd_kL {M : List (List UInt8 × Ver)} (h : M = [] ∨ ∃ v, M = [(kL, v)]) (v : Ver) : updA M kL v = [] ∨ ∃ u, updA M kL v = [(kL, u)] := by
 rcases h with rfl | ⟨u, rfl⟩
 ·exact .inr ⟨v, rfl⟩
 exact .inr ⟨v, by unfold updA; rw [if_pos rfl]⟩
section
variable {M M' : List (List UInt8 × Ver)} {t out xs : Tx} {y : Ver} {ec : Int} {r : Rp} {x : List UInt8} {fr : Bool}
theorem HasL.nil : HasL [] [] := ⟨rfl, .inl ⟨rfl, fun y h => by cases h⟩, fun k _ => rfl, .inl rfl⟩
theorem HasL.of_ (hs : HasL M t) (ho : OfI M 0 kL 3 y ec) : ec = 0 ∧ y.val.texts = t ∧ y.expire = 0 ∧ (t ≠ [] → y.val.kind = 3) := by
 rcases hs.at_ with ⟨h1, h2⟩ | ⟨h1, h2⟩
 ·rcases ho with ⟨h3, rfl, -⟩ | ⟨-, -, z, h3, h4, -⟩ | ⟨-, h3, h4, -⟩
  ·exact ⟨h3, by rw [h1]; rfl, rfl, fun h9 => absurd h1 h9⟩
  ·rw [h2 z h3] at h4; cases h4
  rw [h2 y h3] at h4; cases h4
 rcases ho with ⟨-, -, h3⟩ | ⟨-, -, z, h3, -, h5⟩ | ⟨h0, h3, -, h5⟩
 ·have := h3 _ h2; cases this
 ·rw [h2] at h3; cases h3; exact absurd rfl h5
 rw [h2] at h3; cases h3; exact ⟨h0, rfl, rfl, fun _ => rfl⟩
theorem HasL.keep (hs : HasL M t) (hO : listRight out = true) (hk : KeepI M 0 kL (listV out) 0 ec M') : ec = 0 ∧ HasL M' out := by
 have hfull : out ≠ [] → FullV (listV out) := fun h9 => .inr (by have := List.length_pos_iff.2 h9; show 0 < 0 + out.length + 0; omega)
 have hnot : ¬ FullV (listV out) → out = [] := fun h9 => Classical.byContradiction fun h8 => h9 (hfull h8)
 have hne : FullV (listV out) → out ≠ [] := by
  rintro (h9 | h9) rfl
  ·exact absurd h9 (by decide)
  exact absurd h9 (by decide)
 have no : ∀ (v : Ver) k, k ≠ kL → lookA (updA M kL v) k = none := fun v k hn => by rw [look_upd, if_neg (Ne.symm hn)]; exact hs.no k hn
 rcases hk with ⟨h1, -, h3, rfl⟩ | ⟨h1, h2, -⟩ | ⟨h1, h2, h3, rfl⟩ | ⟨h1, -, ⟨-, h4, rfl⟩ | ⟨h4, -⟩⟩
 ·exact ⟨h3, hO, .inr ⟨hne h1, by rw [look_upd, if_pos rfl]⟩, no _, upd_kL hs.one _⟩
 ·exact absurd ⟨by decide, .inr (.inr (.inl ⟨rfl, List.length_pos_iff.2 (hne h1), hO, rfl, rfl, rfl⟩)), Int.le_refl _, by decide⟩ h2
 ·obtain rfl := hnot h1
  exact ⟨h3, rfl, .inl ⟨rfl, h2⟩, hs.no, hs.one⟩
 ·obtain rfl := hnot h1
  refine ⟨h4, rfl, .inl ⟨rfl, fun y hy => ?_⟩, no _, upd_kL hs.one _⟩
  rw [look_upd, if_pos rfl] at hy; cases hy; rfl
 exact absurd h4 (by decide)
theorem doneL {r0 : Rp} (he : ec = 0) (hd : DoneR ec r0 r) : r = r0 := hd.elim (fun h9 => h9.2) fun h9 => absurd he h9.1
theorem HasL.push (hs : HasL M t) (hl : t.length + xs.length ≤ 512) (hx : ∀ x ∈ xs, x.length ≤ 4096) (hr : LPushR M 0 kL fr false xs M' r) : HasL M' (if fr then xs.reverse ++ t else t ++ xs) ∧ r = rInt ((t.length : Int) + xs.length) := by
 obtain ⟨y, e0, ho, hr⟩ := hr
 obtain ⟨rfl, hy, he, -⟩ := hs.of_ ho
 rcases hr with ⟨h1, -⟩ | ⟨-, ⟨h1, -⟩ | ⟨-, out, e2, hp, hr⟩⟩
 ·exact absurd rfl h1
 ·cases h1
 rw [hy] at hp
 rcases hp with ⟨-, -, ⟨x, h3, h4⟩ | h3⟩ | ⟨rfl, -, -, rfl⟩
 ·have := hx x h3; omega
 ·omega
 rcases hr with ⟨h1, -⟩ | ⟨-, e3, hk, hd⟩
 ·exact absurd rfl h1
 rw [he] at hk
 obtain ⟨o1, o2⟩ := listR_iff.1 hs.ok
 obtain ⟨h5, h6⟩ := hs.keep (listR_iff.2 ⟨by split <;> simp only [List.length_append, List.length_reverse] <;> omega, fun x h9 => by
  split at h9 <;> simp only [List.mem_append, List.mem_reverse] at h9
  ·exact h9.elim (hx x) (o2 x)
  exact h9.elim (o2 x) (hx x)⟩) hk
 exact ⟨h6, by rw [doneL h5 hd]; congr 1; split <;> simp only [List.length_append, List.length_reverse] <;> omega⟩
theorem HasL.turnL (hs : HasL M (x :: t)) (hr : LMoveR M 0 kL kL true false M' r) : HasL M' (t ++ [x]) ∧ r = rStr x := by
 obtain ⟨y1, e1, ho, hr⟩ := hr
 obtain ⟨rfl, hy, he, -⟩ := hs.of_ ho
 rcases hr with ⟨h1, -⟩ | ⟨-, y2, e2, ho2, hr⟩
 ·exact absurd rfl h1
 obtain ⟨rfl, -, he2, -⟩ := hs.of_ ho2
 rcases hr with ⟨h1, -⟩ | ⟨-, hr⟩
 ·exact absurd rfl h1
 have hg : popG (x :: t) true 1 = [x] := by unfold popG popN; simp
 have hl : popL (x :: t) true 1 = t := by unfold popL popN; simp
 rw [hy, hg, hl] at hr
 obtain ⟨o1, o2⟩ := listR_iff.1 hs.ok
 rcases hr with ⟨h1, -⟩ | ⟨g, h1, out, e3, hp, hr⟩
 ·cases h1
 cases h1
 rw [if_pos rfl] at hp
 rcases hp with ⟨-, -, ⟨s, h3, h4⟩ | h3⟩ | ⟨rfl, -, -, rfl⟩
 ·rw [List.mem_singleton.1 h3] at h4; have := o2 x List.mem_cons_self; omega
 ·simp only [List.length_cons, List.length_nil] at h3 o1; omega
 rcases hr with ⟨h1, -⟩ | ⟨-, M1, e4, hk, hr⟩
 ·exact absurd rfl h1
 rw [he2] at hk
 obtain ⟨rfl, h6⟩ := hs.keep (out := t ++ [x]) (listR_iff.2 ⟨by simp only [List.length_append, List.length_cons, List.length_nil] at o1 ⊢; omega, fun z hz => o2 z (by simp only [List.mem_append, List.mem_singleton] at hz; exact hz.elim (List.mem_cons_of_mem _) fun e => by rw [e]; exact List.mem_cons_self)⟩) hk
 rcases hr with ⟨h1, -⟩ | ⟨-, ⟨-, rfl, rfl⟩ | ⟨h1, -⟩⟩
 ·exact absurd rfl h1
 ·exact ⟨h6, rfl⟩
 exact absurd rfl h1
theorem HasL.range (hs : HasL M t) (hr : LRangeR M 0 kL [[48], [45, 49]] M' r) : M' = M ∧ r = rStrs t := by
 have n0 : NumP [48] 0 true := .inl ⟨rfl, by decide, by decide, (itoa_small 0 (by decide)).symm⟩
 have n1 : NumP [45, 49] (-1) true := .inl ⟨rfl, by decide, by decide, by
  have h := itoa_small 1 (by decide)
  unfold Lib.itoa at h ⊢
  rw [if_neg (by decide)] at h
  rw [if_pos (by decide)]
  exact congrArg (List.cons 45) h.symm⟩
 obtain ⟨hM, ⟨⟨z, h, h2⟩, -⟩ | ⟨a, b, hns, y, e0, ho, hr⟩⟩ := hr
 ·simp only [List.mem_cons, List.not_mem_nil, or_false] at h
  rcases h with rfl | rfl
  ·exact absurd (n0.uniq h2).2 (by decide)
  exact absurd (n1.uniq h2).2 (by decide)
 obtain ⟨rfl, rfl⟩ : a = 0 ∧ b = -1 := by
  rcases hns with ⟨-, -, h1⟩ | ⟨h1, -⟩
  ·exact ⟨((h1 0 _ _ rfl rfl).uniq n0).1, ((h1 1 _ _ rfl rfl).uniq n1).1⟩
  exact absurd h1 (by decide)
 obtain ⟨rfl, hy, -, -⟩ := hs.of_ ho
 rcases hr with ⟨h1, -⟩ | ⟨-, h1⟩
 ·exact absurd rfl h1
 exact ⟨hM, by rw [h1, hy, range_all]⟩
end
def turned (l : Tx) (i : Nat) : Tx := l.drop i ++ l.take i
theorem i1mk9 : (Tryz.prog.info? 9).map (fun i => (i.zero, i.size, i.bytes)) = some (some (vS []), 1, 16) := by kernel_rfl
theorem i1el22 : Elem Tryz.prog 22 9 (vS []) 1 16 := elem_of Tryz.underlying22 i1mk9 (by rfl) (by decide)
theorem cloneOwn1 (B : Base) (H : List Res) (w : World) (a : Addr) (n c : Nat) (xs : List Value) (hok : SliceOk (some a) n c) (hl : xs.length = n * 1) (h1 : ∀ u ∈ xs, u.oneCell' = true) (hn : n ≤ 1000000) (hr : RdV B [] (some a) xs) (hv : Inv B H w) :
  Calls Tryz.prog 88 #[.slice (some a) n c] w fun e w' => ∃ v, e = .returned v ∧ Inv B (Res.row 9 1 v n xs :: H) w' := by
 refine cW Tryz.func88 rfl Tryz.ntmps88 ?_
 simp only [al]
 refine sK fun _ k1 => rL (uA rfl ?_)
 refine uW k1 (sK fun _ k2 => ?_)
 refine sK fun _ k3 => rL (uM rfl ?_)
 refine uG (.bool false) rfl (ex_slnil Tryz.underlying22 rfl rfl rfl rfl) (uW k3 ?_)
 refine cF rfl (kS ?_)
 refine tK k2 (sK fun _ k4 => ?_)
 refine rL (sl_row0 (size := 1) tV (wn rfl) rfl hv (e := 9) (fun w => by kernel_rfl) (fun b5 w6 hv => ?_))
 refine uM rfl ?_
 refine sl_append (news := xs) tV (wn rfl) rfl rfl rfl i1el22 hv hok hl ((hr.more (Base.Le.refl _) (fun _ h => by cases h)).src hv) (h1) (by unfold maxLen; omega) (by omega) (fun rv7 w10 hv => ?_)
 obtain ⟨ra8, rc9, rfl⟩ := row_slice hv.head
 refine uA rfl (uW k4 ?_)
 refine rR (bR rfl rfl ?_)
 rw [Nat.zero_add, List.nil_append] at hv
 exact ⟨_, by rw [Nat.zero_add]; rfl, hv⟩
theorem cloneOwn (B : Base) (H : List Res) (w : World) (ad : Option Addr) (n c : Nat) (xs : List Value) (hok : SliceOk ad n c) (hl : xs.length = n * 1) (h1 : ∀ u ∈ xs, u.oneCell' = true) (hn : n ≤ 1000000) (hr : RdV B [] ad xs) (hv : Inv B H w) :
  Calls Tryz.prog 88 #[.slice ad n c] w fun e w' => ∃ v, e = .returned v ∧ Inv B (Res.row 9 1 v n xs :: H) w' := by
 cases ad with
 | none =>
  have hc0 : c = 0 := hok.nil rfl
  have hn0 : n = 0 := by have := hok.le; omega
  subst hc0 hn0
  have hx : xs = [] := List.eq_nil_of_length_eq_zero (by simpa using hl)
  subst hx
  refine (cloneTexts0 B H w hv).mono ?_
  rintro e w' ⟨rfl, hv⟩
  exact ⟨_, rfl, hv.rowNil _ _⟩
 | some a => exact cloneOwn1 B H w a n c xs hok hl h1 hn hr hv
theorem numPlace (B : Base) (H : List Res) (w : World) (i : Int) (hi : -9223372036854775808 ≤ i ∧ i ≤ 9223372036854775807) (n : Nat) (hn : n ≤ 1000000) (hv : Inv B H w) :
  Calls Tryz.prog 90 #[vI i, vI n] w fun e w' => ∃ (at9 : Int) (ok : Bool), e = .returned (.tuple #[vI at9, .bool ok]) ∧ ((ok = true ∧ 0 ≤ at9 ∧ at9 < (n : Int)) ∨ ok = false) ∧ Inv B H w' := by
 refine cW Tryz.func90 rfl Tryz.ntmps90 ?_
 simp only [al]
 refine sK fun _ k1 => rL (uA rfl ?_)
 refine uA rfl (uW k1 ?_)
 refine sK fun _ k2 => rL (uM rfl ?_)
 refine uG (vI n) rfl (ex_max2 (m := (n : Int)) (n := 0) rfl rfl rfl (if_neg (by omega))) (uA rfl ?_)
 refine uW k2 (sK fun _ k3 => ?_)
 refine sK fun _ k4 => rL (uM rfl ?_)
 by_cases hb5 : i < 0
 ·refine uG (.bool true) rfl (ex_lss rfl rfl rfl (qT hb5)) (uW k4 ?_)
  refine cT rfl (rL ?_)
  refine uM rfl (uM rfl ?_)
  refine uG (vI (i + (n : Int))) rfl (ex_add rfl rfl rfl (i64_in (by omega))) (uA rfl ?_)
  refine uW k3 (sK fun _ k6 => ?_)
  refine sK fun _ k7 => rL (uM rfl ?_)
  by_cases hb8 : (i + (n : Int)) < 0
  ·refine uG (.bool true) rfl (ex_lss rfl rfl rfl (qT hb8)) (uM rfl ?_)
   iterate 3 refine uP rfl ?_
   refine uK rfl (uW k7 ?_)
   refine cT rfl (sK fun _ k9 => ?_)
   refine rL (uA rfl ?_)
   refine uA rfl (uW k9 ?_)
   refine rR (tR ?_)
   refine bodyPost_ret (results_tmp2 rfl _ _ _) rfl (⟨0, false, rfl, .inr rfl, hv⟩)
  refine uG (.bool false) rfl (ex_lss rfl rfl rfl (qF hb8)) (uM rfl ?_)
  refine uM rfl ?_
  refine uM rfl ?_
  by_cases hb10 : (i + (n : Int)) ≥ (n : Int)
  ·refine uG (.bool true) rfl (ex_geq rfl rfl rfl (qT hb10)) (uK rfl ?_)
   refine uW k7 (cT rfl ?_)
   refine sK fun _ k11 => rL (uA rfl ?_)
   refine uA rfl (uW k11 ?_)
   refine rR (tR ?_)
   refine bodyPost_ret (results_tmp2 rfl _ _ _) rfl (⟨0, false, rfl, .inr rfl, hv⟩)
  refine uG (.bool false) rfl (ex_geq rfl rfl rfl (qF hb10)) (uK rfl ?_)
  refine uW k7 (cF rfl ?_)
  refine kS (tK k6 ?_)
  refine sK fun _ k12 => rL (uM rfl ?_)
  refine uA rfl (uA rfl ?_)
  refine uW k12 (rR ?_)
  refine bodyPost_ret (results_tmp2 rfl _ _ _) rfl (⟨_, true, rfl, .inl ⟨rfl, by omega, by omega⟩, hv⟩)
 refine uG (.bool false) rfl (ex_lss rfl rfl rfl (qF hb5)) (uW k4 ?_)
 refine cF rfl (kS ?_)
 refine tK k3 (sK fun _ k13 => ?_)
 refine sK fun _ k14 => rL (uM rfl ?_)
 refine uG (.bool false) rfl (ex_lss rfl rfl rfl (qF hb5)) (uM rfl ?_)
 refine uM rfl ?_
 refine uM rfl ?_
 by_cases hb15 : i ≥ (n : Int)
 ·refine uG (.bool true) rfl (ex_geq rfl rfl rfl (qT hb15)) (uK rfl ?_)
  refine uW k14 (cT rfl ?_)
  refine sK fun _ k16 => rL (uA rfl ?_)
  refine uA rfl (uW k16 ?_)
  refine rR (tR ?_)
  refine bodyPost_ret (results_tmp2 rfl _ _ _) rfl (⟨0, false, rfl, .inr rfl, hv⟩)
 refine uG (.bool false) rfl (ex_geq rfl rfl rfl (qF hb15)) (uK rfl ?_)
 refine uW k14 (cF rfl ?_)
 refine kS (tK k13 ?_)
 refine sK fun _ k17 => rL (uM rfl ?_)
 refine uA rfl (uA rfl ?_)
 refine uW k17 (rR ?_)
 refine bodyPost_ret (results_tmp2 rfl _ _ _) rfl (⟨_, true, rfl, .inl ⟨rfl, by omega, by omega⟩, hv⟩)
theorem numSpan (B : Base) (H : List Res) (w : World) (a b : Int) (ha : -9223372036854775808 ≤ a ∧ a ≤ 9223372036854775807) (hb0 : -9223372036854775808 ≤ b ∧ b ≤ 9223372036854775807) (n : Nat) (hn : n ≤ 1000000) (hv : Inv B H w) :
  Calls Tryz.prog 102 #[vI a, vI b, vI n] w fun e w' => ∃ lo hi : Nat, e = .returned (.tuple #[vI lo, vI hi]) ∧ spanF a b n = (lo, hi) ∧ lo ≤ hi ∧ hi ≤ n ∧ Inv B H w' := by
 refine cW Tryz.func102 rfl Tryz.ntmps102 ?_
 simp only [al]
 refine sK fun _ k1 => rL (uA rfl ?_)
 refine uA rfl (uW k1 ?_)
 refine sK fun _ k2 => rL (uM rfl ?_)
 refine uG (vI n) rfl (ex_max2 (m := (n : Int)) (n := 0) rfl rfl rfl (if_neg (by omega))) (uA rfl ?_)
 refine uW k2 (sK fun _ k3 => ?_)
 refine sK fun _ k4 => rL (uM rfl ?_)
 by_cases hb5 : a < 0
 ·refine uG (.bool true) rfl (ex_lss rfl rfl rfl (qT hb5)) (uW k4 ?_)
  refine cT rfl (rL ?_)
  refine uM rfl (uM rfl ?_)
  refine uG (vI (a + (n : Int))) rfl (ex_add rfl rfl rfl (i64_in (by omega))) ?_
  refine uG (vI (if 0 > (a + (n : Int)) then 0 else (a + (n : Int)))) rfl (ex_max2 (m := (a + (n : Int))) (n := 0) rfl rfl rfl rfl) (uA rfl ?_)
  refine uW k3 (sK fun _ k6 => ?_)
  refine sK fun _ k7 => rL (uM rfl ?_)
  by_cases hb8 : b < 0
  ·refine uG (.bool true) rfl (ex_lss rfl rfl rfl (qT hb8)) (uW k7 ?_)
   refine cT rfl (rL ?_)
   refine uM rfl (uM rfl ?_)
   refine uG (vI (b + (n : Int))) rfl (ex_add rfl rfl rfl (i64_in (by omega))) (uA rfl ?_)
   refine uW k6 (sK fun _ k9 => ?_)
   refine rL (uM rfl ?_)
   refine uM rfl ?_
   refine uG (vI ((n : Int) - 1)) rfl (ex_sub rfl rfl rfl (i64_in (by omega))) ?_
   refine uG (vI (if ((n : Int) - 1) < (b + (n : Int)) then ((n : Int) - 1) else (b + (n : Int)))) rfl (ex_min2 (m := (b + (n : Int))) (n := ((n : Int) - 1)) rfl rfl rfl rfl) (uA rfl ?_)
   refine uW k9 (sK fun _ k10 => ?_)
   refine sK fun _ k11 => ?_
   obtain ⟨s0, hs0⟩ : ∃ s : Int, s = (if 0 > (a + (n : Int)) then 0 else (a + (n : Int))) := ⟨_, rfl⟩
   obtain ⟨t9, ht9⟩ : ∃ s : Int, s = (if ((n : Int) - 1) < (b + (n : Int)) then ((n : Int) - 1) else (b + (n : Int))) := ⟨_, rfl⟩
   rw [← hs0]
   rw [← ht9]
   have hss : (if a < 0 then max (a + (n : Int)) 0 else a) = s0 := by rw [hs0]; (repeat' split) <;> omega
   have htt : min (if b < 0 then b + (n : Int) else b) ((n : Int) - 1) = t9 := by rw [ht9]; (repeat' split) <;> omega
   have hs9 : 0 ≤ s0 := by rw [← hss]; split <;> omega
   have ht8 : t9 ≤ (n : Int) - 1 := by rw [← htt]; omega
   refine rL (uM rfl ?_)
   refine uM rfl ?_
   by_cases hb12 : s0 > t9
   ·refine uG (.bool true) rfl (ex_gtr rfl rfl rfl (qT hb12)) (uW k11 ?_)
    refine cT rfl (sK fun _ k13 => ?_)
    refine rL (uA rfl ?_)
    refine uA rfl (uW k13 ?_)
    refine rR (tR ?_)
    refine bodyPost_ret (results_tmp2 rfl _ _ _) rfl (⟨0, 0, rfl, by unfold spanF; simp only [hss, htt]; exact if_pos (by omega), Nat.le_refl _, Nat.zero_le _, hv⟩)
   refine uG (.bool false) rfl (ex_gtr rfl rfl rfl (qF hb12)) (uW k11 ?_)
   refine cF rfl (kS ?_)
   refine tK k10 (sK fun _ k14 => ?_)
   refine rL (uM rfl ?_)
   refine uM rfl ?_
   refine uG (vI (t9 + 1)) rfl (ex_add rfl rfl rfl (i64_in (by omega))) (uA rfl ?_)
   refine uA rfl (uW k14 ?_)
   refine rR (bodyPost_ret (results_tmp2 rfl _ _ _) rfl ?_)
   exact ⟨(s0).toNat, (t9 + 1).toNat, by show Ending.returned (Value.tuple #[vI s0, vI (t9 + 1)]) = _; rw [Int.toNat_of_nonneg (by omega), Int.toNat_of_nonneg (by omega)], by unfold spanF; simp only [hss, htt]; exact if_neg (by omega), by omega, by omega, hv⟩
  refine uG (.bool false) rfl (ex_lss rfl rfl rfl (qF hb8)) (uW k7 ?_)
  refine cF rfl (kS ?_)
  refine tK k6 (sK fun _ k15 => ?_)
  refine rL (uM rfl ?_)
  refine uM rfl ?_
  refine uG (vI ((n : Int) - 1)) rfl (ex_sub rfl rfl rfl (i64_in (by omega))) ?_
  refine uG (vI (if ((n : Int) - 1) < b then ((n : Int) - 1) else b)) rfl (ex_min2 (m := b) (n := ((n : Int) - 1)) rfl rfl rfl rfl) (uA rfl ?_)
  refine uW k15 (sK fun _ k16 => ?_)
  refine sK fun _ k17 => ?_
  obtain ⟨s0, hs0⟩ : ∃ s : Int, s = (if 0 > (a + (n : Int)) then 0 else (a + (n : Int))) := ⟨_, rfl⟩
  obtain ⟨t9, ht9⟩ : ∃ s : Int, s = (if ((n : Int) - 1) < b then ((n : Int) - 1) else b) := ⟨_, rfl⟩
  rw [← hs0]
  rw [← ht9]
  have hss : (if a < 0 then max (a + (n : Int)) 0 else a) = s0 := by rw [hs0]; (repeat' split) <;> omega
  have htt : min (if b < 0 then b + (n : Int) else b) ((n : Int) - 1) = t9 := by rw [ht9]; (repeat' split) <;> omega
  have hs9 : 0 ≤ s0 := by rw [← hss]; split <;> omega
  have ht8 : t9 ≤ (n : Int) - 1 := by rw [← htt]; omega
  refine rL (uM rfl ?_)
  refine uM rfl ?_
  by_cases hb18 : s0 > t9
  ·refine uG (.bool true) rfl (ex_gtr rfl rfl rfl (qT hb18)) (uW k17 ?_)
   refine cT rfl (sK fun _ k19 => ?_)
   refine rL (uA rfl ?_)
   refine uA rfl (uW k19 ?_)
   refine rR (tR ?_)
   refine bodyPost_ret (results_tmp2 rfl _ _ _) rfl (⟨0, 0, rfl, by unfold spanF; simp only [hss, htt]; exact if_pos (by omega), Nat.le_refl _, Nat.zero_le _, hv⟩)
  refine uG (.bool false) rfl (ex_gtr rfl rfl rfl (qF hb18)) (uW k17 ?_)
  refine cF rfl (kS ?_)
  refine tK k16 (sK fun _ k20 => ?_)
  refine rL (uM rfl ?_)
  refine uM rfl ?_
  refine uG (vI (t9 + 1)) rfl (ex_add rfl rfl rfl (i64_in (by omega))) (uA rfl ?_)
  refine uA rfl (uW k20 ?_)
  refine rR (bodyPost_ret (results_tmp2 rfl _ _ _) rfl ?_)
  exact ⟨(s0).toNat, (t9 + 1).toNat, by show Ending.returned (Value.tuple #[vI s0, vI (t9 + 1)]) = _; rw [Int.toNat_of_nonneg (by omega), Int.toNat_of_nonneg (by omega)], by unfold spanF; simp only [hss, htt]; exact if_neg (by omega), by omega, by omega, hv⟩
 refine uG (.bool false) rfl (ex_lss rfl rfl rfl (qF hb5)) (uW k4 ?_)
 refine cF rfl (kS ?_)
 refine tK k3 (sK fun _ k21 => ?_)
 refine sK fun _ k22 => rL (uM rfl ?_)
 by_cases hb23 : b < 0
 ·refine uG (.bool true) rfl (ex_lss rfl rfl rfl (qT hb23)) (uW k22 ?_)
  refine cT rfl (rL ?_)
  refine uM rfl (uM rfl ?_)
  refine uG (vI (b + (n : Int))) rfl (ex_add rfl rfl rfl (i64_in (by omega))) (uA rfl ?_)
  refine uW k21 (sK fun _ k24 => ?_)
  refine rL (uM rfl ?_)
  refine uM rfl ?_
  refine uG (vI ((n : Int) - 1)) rfl (ex_sub rfl rfl rfl (i64_in (by omega))) ?_
  refine uG (vI (if ((n : Int) - 1) < (b + (n : Int)) then ((n : Int) - 1) else (b + (n : Int)))) rfl (ex_min2 (m := (b + (n : Int))) (n := ((n : Int) - 1)) rfl rfl rfl rfl) (uA rfl ?_)
  refine uW k24 (sK fun _ k25 => ?_)
  refine sK fun _ k26 => ?_
  obtain ⟨s0, hs0⟩ : ∃ s : Int, s = a := ⟨_, rfl⟩
  obtain ⟨t9, ht9⟩ : ∃ s : Int, s = (if ((n : Int) - 1) < (b + (n : Int)) then ((n : Int) - 1) else (b + (n : Int))) := ⟨_, rfl⟩
  skip
  rw [← ht9]
  have hss : (if a < 0 then max (a + (n : Int)) 0 else a) = s0 := by rw [hs0]; (repeat' split) <;> omega
  have htt : min (if b < 0 then b + (n : Int) else b) ((n : Int) - 1) = t9 := by rw [ht9]; (repeat' split) <;> omega
  have hs9 : 0 ≤ s0 := by rw [← hss]; split <;> omega
  have ht8 : t9 ≤ (n : Int) - 1 := by rw [← htt]; omega
  refine rL (uM rfl ?_)
  refine uM rfl ?_
  by_cases hb27 : a > t9
  ·refine uG (.bool true) rfl (ex_gtr rfl rfl rfl (qT hb27)) (uW k26 ?_)
   refine cT rfl (sK fun _ k28 => ?_)
   refine rL (uA rfl ?_)
   refine uA rfl (uW k28 ?_)
   refine rR (tR ?_)
   refine bodyPost_ret (results_tmp2 rfl _ _ _) rfl (⟨0, 0, rfl, by unfold spanF; simp only [hss, htt]; exact if_pos (by omega), Nat.le_refl _, Nat.zero_le _, hv⟩)
  refine uG (.bool false) rfl (ex_gtr rfl rfl rfl (qF hb27)) (uW k26 ?_)
  refine cF rfl (kS ?_)
  refine tK k25 (sK fun _ k29 => ?_)
  refine rL (uM rfl ?_)
  refine uM rfl ?_
  refine uG (vI (t9 + 1)) rfl (ex_add rfl rfl rfl (i64_in (by omega))) (uA rfl ?_)
  refine uA rfl (uW k29 ?_)
  refine rR (bodyPost_ret (results_tmp2 rfl _ _ _) rfl ?_)
  exact ⟨(a).toNat, (t9 + 1).toNat, by show Ending.returned (Value.tuple #[vI a, vI (t9 + 1)]) = _; rw [Int.toNat_of_nonneg (by omega), Int.toNat_of_nonneg (by omega)], by unfold spanF; simp only [hss, htt]; rw [if_neg (by omega), hs0], by omega, by omega, hv⟩
 refine uG (.bool false) rfl (ex_lss rfl rfl rfl (qF hb23)) (uW k22 ?_)
 refine cF rfl (kS ?_)
 refine tK k21 (sK fun _ k30 => ?_)
 refine rL (uM rfl ?_)
 refine uM rfl ?_
 refine uG (vI ((n : Int) - 1)) rfl (ex_sub rfl rfl rfl (i64_in (by omega))) ?_
 refine uG (vI (if ((n : Int) - 1) < b then ((n : Int) - 1) else b)) rfl (ex_min2 (m := b) (n := ((n : Int) - 1)) rfl rfl rfl rfl) (uA rfl ?_)
 refine uW k30 (sK fun _ k31 => ?_)
 refine sK fun _ k32 => ?_
 obtain ⟨s0, hs0⟩ : ∃ s : Int, s = a := ⟨_, rfl⟩
 obtain ⟨t9, ht9⟩ : ∃ s : Int, s = (if ((n : Int) - 1) < b then ((n : Int) - 1) else b) := ⟨_, rfl⟩
 skip
 rw [← ht9]
 have hss : (if a < 0 then max (a + (n : Int)) 0 else a) = s0 := by rw [hs0]; (repeat' split) <;> omega
 have htt : min (if b < 0 then b + (n : Int) else b) ((n : Int) - 1) = t9 := by rw [ht9]; (repeat' split) <;> omega
 have hs9 : 0 ≤ s0 := by rw [← hss]; split <;> omega
 have ht8 : t9 ≤ (n : Int) - 1 := by rw [← htt]; omega
 refine rL (uM rfl ?_)
 refine uM rfl ?_
 by_cases hb33 : a > t9
 ·refine uG (.bool true) rfl (ex_gtr rfl rfl rfl (qT hb33)) (uW k32 ?_)
  refine cT rfl (sK fun _ k34 => ?_)
  refine rL (uA rfl ?_)
  refine uA rfl (uW k34 ?_)
  refine rR (tR ?_)
  refine bodyPost_ret (results_tmp2 rfl _ _ _) rfl (⟨0, 0, rfl, by unfold spanF; simp only [hss, htt]; exact if_pos (by omega), Nat.le_refl _, Nat.zero_le _, hv⟩)
 refine uG (.bool false) rfl (ex_gtr rfl rfl rfl (qF hb33)) (uW k32 ?_)
 refine cF rfl (kS ?_)
 refine tK k31 (sK fun _ k35 => ?_)
 refine rL (uM rfl ?_)
 refine uM rfl ?_
 refine uG (vI (t9 + 1)) rfl (ex_add rfl rfl rfl (i64_in (by omega))) (uA rfl ?_)
 refine uA rfl (uW k35 ?_)
 refine rR (bodyPost_ret (results_tmp2 rfl _ _ _) rfl ?_)
 exact ⟨(a).toNat, (t9 + 1).toNat, by show Ending.returned (Value.tuple #[vI a, vI (t9 + 1)]) = _; rw [Int.toNat_of_nonneg (by omega), Int.toNat_of_nonneg (by omega)], by unfold spanF; simp only [hss, htt]; rw [if_neg (by omega), hs0], by omega, by omega, hv⟩
theorem i1callable90 : Callable Tryz.prog 90 := cb Tryz.func90 (by kernel_rfl)
theorem listIndex (B : Base) (H : List Res) (w : World) (la : Option Addr) (lc : Nat) (l : Tx) (hokl : SliceOk la l.length lc) (hrl : RdV B [] la (textCells l)) (hml : l.length ≤ 1000000) (i : Int) (hi : -9223372036854775808 ≤ i ∧ i ≤ 9223372036854775807) (hv : Inv B H w) :
  Calls Tryz.prog 67 #[.slice la l.length lc, vI i] w fun e w' => ∃ s ok, e = .returned (.tuple #[strV s, .bool ok]) ∧ Inv B H w' := by
 refine cW Tryz.func67 rfl Tryz.ntmps67 ?_
 simp only [al]
 refine sK fun _ k1 => rL (uA rfl ?_)
 refine uA rfl (uW k1 ?_)
 refine sK fun _ k2 => rL (uM rfl ?_)
 refine uM rfl ?_
 refine uG (vI (l.length : Int)) rfl (ex_len0 Tryz.underlying22 rfl rfl) ?_
 refine xC i1callable90 rfl ((numPlace B _ _ i (by omega) l.length hml hv).mono ?_) rfl
 rintro e w3 ⟨at9, ok, rfl, hpl, hv⟩
 refine ⟨_, rfl, ?_⟩
 rcases hpl with ⟨rfl, hp0, hp1⟩ | rfl
 ·obtain ⟨j, rfl⟩ : ∃ j : Nat, at9 = (j : Int) := ⟨at9.toNat, by omega⟩
  refine uM rfl (uE rfl ?_)
  refine uE rfl (uA rfl ?_)
  refine uA rfl (uW k2 ?_)
  refine sK fun _ k4 => sK fun _ k5 => rL (uM rfl ?_)
  refine uG (.bool false) rfl (ex_not rfl rfl rfl) (uW k5 ?_)
  refine cF rfl (kS ?_)
  refine tK k4 (sK fun _ k6 => ?_)
  obtain ⟨x, hx⟩ : ∃ x, l[j]? = some x := ⟨_, List.getElem?_eq_getElem (show j < l.length by omega)⟩
  obtain ⟨bb, bo, had, hrdx⟩ := text_reads hrl hx
  subst had
  refine rL (uM rfl ?_)
  refine uM rfl ?_
  refine uG (.pointer (some ⟨bb, bo + j, none⟩)) rfl (ex_index rfl rfl rfl (run_idx1 (k := j) Tryz.underlying22 s9es22 (by omega))) ?_
  refine uL _ rfl (run_load1 s9na9 (hrdx _ _ _ (Base.Le.refl _) no_res hv 0 _ rfl)) (uA rfl ?_)
  refine uA rfl (uW k6 ?_)
  refine rR (bodyPost_ret (results_tmp2 rfl _ _ _) rfl ?_)
  exact ⟨_, _, rfl, hv⟩
 refine uM rfl (uE rfl ?_)
 refine uE rfl (uA rfl ?_)
 refine uA rfl (uW k2 ?_)
 refine sK fun _ k7 => sK fun _ k8 => rL (uM rfl ?_)
 refine uG (.bool true) rfl (ex_not rfl rfl rfl) (uW k8 ?_)
 refine cT rfl (sK fun _ k9 => ?_)
 refine rL (uA rfl ?_)
 refine uA rfl (uW k9 ?_)
 refine rR (tR ?_)
 refine bodyPost_ret (results_tmp2 rfl _ _ _) rfl (⟨_, _, rfl, hv⟩)
theorem slicesIndex (B : Base) (H : List Res) (w : World) (la : Option Addr) (lc : Nat) (l : Tx) (hokl : SliceOk la l.length lc) (hrl : RdV B [] la (textCells l)) (hml : l.length ≤ 1000000) (f : List UInt8) (hv : Inv B H w) :
  Calls Tryz.prog 91 #[.slice la l.length lc, vS f] w fun e w' => ∃ r : Int, e = .returned (vI r) ∧ -1 ≤ r ∧ r < (l.length : Int) ∧ Inv B H w' := by
 refine cW Tryz.func91 rfl Tryz.ntmps91 ?_
 simp only [al]
 refine sK fun _ k1 => rL (uA rfl ?_)
 refine uW k1 (sK fun _ k2 => ?_)
 refine sK fun _ k3 => rL (uM rfl ?_)
 refine uG (vI (l.length : Int)) rfl (ex_len0 Tryz.underlying22 rfl rfl) (uM rfl ?_)
 refine uW k3 (bB ?_)
 gi_loopw [8] (fun x8 wr => ∃ (i : Nat), x8 = vI i ∧ i ≤ l.length ∧ Inv B H wr) (fun x8 _ => l.length - (intOf x8).toNat)
 case atStart => exact ⟨0, rfl, Nat.zero_le _, hv⟩
 case round =>
  obtain ⟨i, rfl, hi, hv⟩ := hrel
  refine sK fun _ k5 => rL ?_
  by_cases hb6 : (i : Int) < (l.length : Int)
  ·refine uG (.bool true) rfl (ex_lss rfl rfl rfl (qT hb6)) (uW k5 ?_)
   refine sK fun _ k7 => cT rfl (kS ?_)
   refine tK k7 (sK fun _ k8 => ?_)
   refine bB (sK fun _ k9 => ?_)
   refine rL (uM rfl ?_)
   refine uA rfl (uW k9 ?_)
   refine sK fun _ k10 => ?_
   obtain ⟨x, hx⟩ : ∃ x, l[i]? = some x := ⟨_, List.getElem?_eq_getElem (show i < l.length by omega)⟩
   obtain ⟨bb, bo, had, hrdx⟩ := text_reads hrl hx
   subst had
   refine rL (uM rfl ?_)
   refine uM rfl (uM rfl ?_)
   refine uG (.pointer (some ⟨bb, bo + i, none⟩)) rfl (ex_index rfl rfl rfl (run_idx1 (k := i) Tryz.underlying22 s9es22 (by omega))) ?_
   refine uL _ rfl (run_load1 s9na9 (hrdx _ _ _ (Base.Le.refl _) no_res hv 0 _ rfl)) ?_
   by_cases hb11 : f = x
   ·refine uG (.bool true) rfl (ex_seql rfl rfl rfl (qT hb11)) (uW k10 ?_)
    refine cT rfl (sK fun _ k12 => ?_)
    refine rL (uM rfl ?_)
    refine uA rfl (uW k12 ?_)
    refine rR (bZ ?_)
    refine tR (tR ?_)
    refine bZ (tR ?_)
    refine bR rfl rfl (⟨_, rfl, by omega, by omega, hv⟩)
   refine uG (.bool false) rfl (ex_seql rfl rfl rfl (qF hb11)) (uW k10 ?_)
   refine cF rfl (kS ?_)
   refine bN (tK k8 ?_)
   refine rL (uG (vI ((i + 1 : Nat) : Int)) rfl (ex_add rfl rfl rfl (by rw [i64_in (by omega)]; omega)) ?_)
   refine uM rfl (uZ ?_)
   refine then_normal ?_
   go_roundw
   case rel => exact ⟨i + 1, rfl, by omega, hv⟩
   case measure => show l.length - (((i + 1 : Nat) : Int)).toNat < l.length - ((i : Int)).toNat; omega
  refine uG (.bool false) rfl (ex_lss rfl rfl rfl (qF hb6)) (uW k5 ?_)
  refine sK fun _ k13 => cF rfl (xE ?_)
  refine tX (tX ?_)
  refine bH (tK k2 ?_)
  refine sK fun _ k14 => rL (uA rfl ?_)
  refine uW k14 (rR ?_)
  refine bR rfl rfl (⟨_, rfl, by omega, by omega, hv⟩)
theorem i1callable102 : Callable Tryz.prog 102 := cb Tryz.func102 (by kernel_rfl)
theorem listRange (B : Base) (H : List Res) (w : World) (la : Option Addr) (lc : Nat) (l : Tx) (hokl : SliceOk la l.length lc) (hrl : RdV B [] la (textCells l)) (hml : l.length ≤ 1000000) (a b : Int) (ha : -9223372036854775808 ≤ a ∧ a ≤ 9223372036854775807) (hb0 : -9223372036854775808 ≤ b ∧ b ≤ 9223372036854775807) (hv : Inv B H w) :
  Calls Tryz.prog 83 #[.slice la l.length lc, vI a, vI b] w fun e w' => ∃ C oa oc out, B.Le C ∧ e = .returned (.slice oa out.length oc) ∧ SliceOk oa out.length oc ∧ RdV C [] oa (textCells out) ∧ out = rangeF l a b ∧ Inv C H w' := by
 refine cW Tryz.func83 rfl Tryz.ntmps83 ?_
 simp only [al]
 refine sK fun _ k1 => rL (uA rfl ?_)
 refine uW k1 (sK fun _ k2 => ?_)
 refine rL (uM rfl ?_)
 refine uM rfl (uM rfl ?_)
 refine uG (vI (l.length : Int)) rfl (ex_len0 Tryz.underlying22 rfl rfl) ?_
 refine xC i1callable102 rfl ((numSpan B _ _ a b ha hb0 l.length hml hv).mono ?_) rfl
 rintro e w3 ⟨lo, hi, rfl, hsp, hlo, hhi, hv⟩
 refine ⟨_, rfl, uM rfl ?_⟩
 refine uE rfl (uE rfl ?_)
 refine uA rfl (uA rfl ?_)
 refine uW k2 (sK fun _ k4 => ?_)
 obtain ⟨a5, c5, ha5, ok5, hr5⟩ := sliced_midV 1 hokl hrl (textCells_len _) hlo hhi (by decide)
 rw [Nat.mul_one, Nat.mul_one, tx_drop, tx_take] at hr5
 have hrf : (l.drop lo).take (hi - lo) = rangeF l a b := by unfold rangeF; rw [hsp]; exact List.drop_take.symm
 rw [hrf] at hr5
 have hml5 : (rangeF l a b).length = hi - lo := by rw [← hrf, List.length_take, List.length_drop]; omega
 rw [← hml5] at ok5 ha5
 refine rL (uM rfl ?_)
 refine uM rfl (uM rfl ?_)
 refine uG (.slice a5 ((rangeF l a b).length) c5) rfl (ex_slice (lo' := some (vI lo)) (hi' := some (vI hi)) rfl rfl (congrArg some rfl) (congrArg some rfl) rfl ((run_lhAny Tryz.underlying22 s9es22 hlo (by have := hokl.le; omega)).trans (by rw [ha5]))) ?_
 refine xC s1callable88 rfl ((cloneOwn B _ _ a5 (rangeF l a b).length c5 (textCells (rangeF l a b)) ok5 (textCells_len _) (textCells_one _) (by omega) hr5 hv).mono ?_) rfl
 rintro e w5 ⟨v9, rfl, hv⟩
 refine ⟨_, rfl, ?_⟩
 obtain ⟨va, vc, rfl⟩ := row_slice hv.head
 refine uA rfl (uW k4 ?_)
 refine rR (bR rfl rfl ?_)
 obtain ⟨D, hD, hv, hro, hoko, -⟩ := hv.rowBy
 exact ⟨D, va, vc, _, hD, rfl, hoko, hro, rfl, hv⟩
theorem i1callable83 : Callable Tryz.prog 83 := cb Tryz.func83 (by kernel_rfl)
theorem listTrim (B : Base) (H : List Res) (w : World) (la : Option Addr) (lc : Nat) (l : Tx) (hokl : SliceOk la l.length lc) (hrl : RdV B [] la (textCells l)) (hml : l.length ≤ 1000000) (a b : Int) (ha : -9223372036854775808 ≤ a ∧ a ≤ 9223372036854775807) (hb0 : -9223372036854775808 ≤ b ∧ b ≤ 9223372036854775807) (hv : Inv B H w) :
  Calls Tryz.prog 84 #[.slice la l.length lc, vI a, vI b] w fun e w' => ∃ C oa oc out, B.Le C ∧ e = .returned (.slice oa out.length oc) ∧ SliceOk oa out.length oc ∧ RdV C [] oa (textCells out) ∧ out = rangeF l a b ∧ Inv C H w' := by
 refine cW Tryz.func84 rfl Tryz.ntmps84 ?_
 simp only [al]
 refine sK fun _ k1 => rL (uA rfl ?_)
 refine uW k1 (sK fun _ k2 => ?_)
 refine rL (uM rfl ?_)
 refine uM rfl (uM rfl ?_)
 refine xC i1callable83 rfl ((listRange B _ _ la lc l hokl hrl hml a b ha hb0 hv).mono ?_) rfl
 rintro e w3 ⟨D, oa, oc, out, hD, rfl, hoko, hro, hout, hv⟩
 refine ⟨_, rfl, uA rfl ?_⟩
 refine uW k2 (rR ?_)
 refine bR rfl rfl (⟨D, oa, oc, out, hD, rfl, hoko, hro, hout, hv⟩)
def RevTo (l cur : Tx) (i : Nat) : Prop := cur.length = l.length ∧ ∀ k, k < l.length → cur[k]? = if k < i ∨ l.length - 1 - i < k then l[l.length - 1 - k]? else l[k]?
theorem RevTo.zero (l : Tx) : RevTo l l 0 := ⟨rfl, fun k hk => by rw [if_neg (by omega)]⟩
theorem RevTo.all {l cur : Tx} {i : Nat} (h : RevTo l cur i) (hi : l.length ≤ 2 * i + 1) : cur = l.reverse := by
 apply List.ext_getElem?
 intro k
 rcases Nat.lt_or_ge k l.length with hk | hk
 ·rw [h.2 k hk, List.getElem?_reverse hk]
  split
  ·rfl
  congr 1; omega
 rw [List.getElem?_eq_none (by rw [h.1]; exact hk), List.getElem?_eq_none (by rw [List.length_reverse]; exact hk)]
theorem RevTo.next {l cur : Tx} {i : Nat} {x y : List UInt8} (h : RevTo l cur i) (hi : 2 * i + 1 < l.length) (hx : cur[i]? = some x) (hy : cur[l.length - 1 - i]? = some y) : RevTo l ((cur.set i y).set (l.length - 1 - i) x) (i + 1) := by
 have hx2 := h.2 i (by omega)
 have hy2 := h.2 (l.length - 1 - i) (by omega)
 rw [if_neg (by omega)] at hx2 hy2
 refine ⟨by rw [List.length_set, List.length_set, h.1], fun k hk => ?_⟩
 rw [List.getElem?_set, List.getElem?_set, List.length_set, h.1]
 by_cases e1 : l.length - 1 - i = k
 ·rw [if_pos e1, if_pos (by omega), if_pos (by omega), ← hx, hx2]
  congr 1; omega
 rw [if_neg e1]
 by_cases e2 : i = k
 ·rw [if_pos e2, if_pos (by omega), if_pos (by omega), ← hy, hy2]
  congr 1; omega
 rw [if_neg e2, h.2 k hk]
 by_cases e3 : k < i ∨ l.length - 1 - i < k
 ·rw [if_pos e3, if_pos (by omega)]
 rw [if_neg e3, if_neg (by omega)]
theorem tx_set (l : Tx) (i : Nat) (x : List UInt8) : (textCells l).set i (strV x) = textCells (l.set i x) := by simp [textCells, List.map_set]
theorem tx_get {l : Tx} {i : Nat} {x : List UInt8} (h : l[i]? = some x) : (textCells l)[i]? = some (strV x) := by simp [textCells, h]
theorem revTexts (B : Base) (H : List Res) (w : World) (va : Option Addr) (vc : Nat) (l : Tx) (hml : l.length ≤ 1000000) (hv : Inv B (Res.row 9 1 (.slice va l.length vc) l.length (textCells l) :: H) w) :
  Calls Tryz.prog 94 #[.slice va l.length vc] w fun e w' => e = .returned (.tuple #[]) ∧ Inv B (Res.row 9 1 (.slice va l.length vc) l.length (textCells l.reverse) :: H) w' := by
 refine cW Tryz.func94 rfl Tryz.ntmps94 ?_
 simp only [al]
 refine sK fun _ k1 => rL (uM rfl ?_)
 refine uG (vI (l.length : Int)) rfl (ex_len0 Tryz.underlying22 rfl rfl) ?_
 refine uG (vI ((l.length : Int) - 1 - ((0 : Nat) : Int))) rfl (ex_sub rfl rfl rfl (by rw [i64_in (by omega)]; omega)) (uA rfl ?_)
 refine uA rfl (uW k1 ?_)
 refine bB ?_
 gi_loopw [2, 3] (fun x2 x3 wr => ∃ (i : Nat) (cur : Tx), x2 = vI i ∧ x3 = vI ((l.length : Int) - 1 - i) ∧ 2 * i ≤ l.length + 1 ∧ RevTo l cur i ∧ Inv B (Res.row 9 1 (.slice va l.length vc) l.length (textCells cur) :: H) wr) (fun x2 x3 _ => l.length + 1 - (intOf x2).toNat)
 case atStart => exact ⟨0, l, rfl, by rw [Int.natCast_zero, Int.sub_zero], Nat.zero_le _, RevTo.zero l, hv⟩
 case round =>
  obtain ⟨i, cur, rfl, rfl, hi, hrv, hv⟩ := hrel
  refine sK fun _ k3 => sK fun _ k4 => rL (uM rfl ?_)
  refine uM rfl ?_
  by_cases hb5 : (i : Int) < ((l.length : Int) - 1 - i)
  ·refine uG (.bool true) rfl (ex_lss rfl rfl rfl (qT hb5)) (uW k4 ?_)
   refine cT rfl (kS ?_)
   refine tK k3 (sK fun _ k6 => ?_)
   refine bB ?_
   have hcl := hrv.1
   obtain ⟨x, hx⟩ : ∃ x, cur[i]? = some x := ⟨_, List.getElem?_eq_getElem (by omega)⟩
   obtain ⟨y, hy⟩ : ∃ x, cur[l.length - 1 - i]? = some x := ⟨_, List.getElem?_eq_getElem (by omega)⟩
   obtain ⟨rb, had9⟩ := row_some hv.head (by omega)
   subst had9
   have hJ : ((l.length : Int) - 1 - i) = ((l.length - 1 - i : Nat) : Int) := by omega
   rw [hJ]
   refine rW mixed [13, 15] [0,1,2,3,4,5,6,7,8,9,10,11,12,13,14,15] 28 rfl (by kernel_rfl) hv ?_
   simp only [qm, opAt]
   refine dM (.slice (some ⟨rb, 0, none⟩) l.length vc) rfl (dM (vI i) rfl ?_)
   refine dM (.slice (some ⟨rb, 0, none⟩) l.length vc) rfl ?_
   simp only [zP, po]
   refine dM (vI ((l.length - 1 - i : Nat) : Int)) rfl (dM (.slice (some ⟨rb, 0, none⟩) l.length vc) rfl ?_)
   refine dM (vI ((l.length - 1 - i : Nat) : Int)) rfl ?_
   simp only [zP, po]
   refine dG (.pointer (some ⟨rb, 0 + (l.length - 1 - i : Nat), none⟩)) rfl (ex_index rfl rfl rfl (run_idx1 (k := (l.length - 1 - i : Nat)) Tryz.underlying22 s9es22 (by omega))) (dL _ rfl (fun hv => ex_load rfl rfl (run_load1 s9na9 (row_load (hv.get 0 rfl) (tx_get hy)))) ?_)
   refine dM (.slice (some ⟨rb, 0, none⟩) l.length vc) rfl ?_
   simp only [zP, po]
   refine dM (vI i) rfl (dG (.pointer (some ⟨rb, 0 + i, none⟩)) rfl (ex_index rfl rfl rfl (run_idx1 (k := i) Tryz.underlying22 s9es22 (by omega))) ?_)
   refine dL _ rfl (fun hv => ex_load rfl rfl (run_load1 s9na9 (row_load (hv.get 0 rfl) (tx_get hx)))) ?_
   simp only [zP, po]
   refine dG (.pointer (some ⟨rb, 0 + i, none⟩)) rfl (ex_index rfl rfl rfl (run_idx1 (k := i) Tryz.underlying22 s9es22 (by omega))) (dS rfl fun w7 hv => ?_)
   refine mem_storeRow (v := strV y) rfl rfl rfl rfl hv s12sz9 (by rw [textCells_len]; omega) rfl rfl (fun w8 hv => ?_)
   refine dW hv (dG (.pointer (some ⟨rb, 0 + (l.length - 1 - i : Nat), none⟩)) rfl (ex_index rfl rfl rfl (run_idx1 (k := (l.length - 1 - i : Nat)) Tryz.underlying22 s9es22 (by omega))) ?_)
   simp only [zP, po]
   refine dS rfl fun w9 hv => mem_storeRow (v := strV x) rfl rfl rfl rfl hv s12sz9 (by rw [List.length_set, textCells_len]; omega) rfl rfl (fun w10 hv => ?_)
   refine dW hv (dE fun w11 hv => ?_)
   simp only [zP, po]
   refine bN (tK k6 ?_)
   refine rL (uM rfl ?_)
   refine uG (vI ((i + 1 : Nat) : Int)) rfl (ex_add rfl rfl rfl (by rw [i64_in (by omega)]; omega)) (uM rfl ?_)
   refine uG (vI ((l.length : Int) - 1 - ((i + 1 : Nat) : Int))) rfl (ex_sub rfl rfl rfl (by rw [i64_in (by omega)]; omega)) (uA rfl ?_)
   refine uA rfl (uZ ?_)
   refine then_normal ?_
   go_roundw
   case rel => exact ⟨i + 1, _, rfl, rfl, by omega, hrv.next (by omega) hx hy, by rw [← tx_set, ← tx_set]; simpa only [Nat.zero_add] using hv⟩
   case measure => show l.length + 1 - (((i + 1 : Nat) : Int)).toNat < l.length + 1 - ((i : Int)).toNat; omega
  refine uG (.bool false) rfl (ex_lss rfl rfl rfl (qF hb5)) (uW k4 ?_)
  refine cF rfl (xE ?_)
  refine tX (tX ?_)
  refine bH ?_
  go_end0
  obtain rfl : cur = l.reverse := hrv.all (by omega)
  exact ⟨rfl, hv⟩
theorem i2callable94 : Callable Tryz.prog 94 := cb Tryz.func94 (by kernel_rfl)
theorem listPop (B : Base) (H : List Res) (w : World) (la : Option Addr) (lc : Nat) (l : Tx) (hokl : SliceOk la l.length lc) (hrl : RdV B [] la (textCells l)) (hml : l.length ≤ 1000000) (front : Bool) (n : Int) (hv : Inv B H w) :
  Calls Tryz.prog 74 #[.slice la l.length lc, .bool front, vI n] w fun e w' => ∃ C ka kc ga gc left gone, B.Le C ∧ e = .returned (.tuple #[.slice ka left.length kc, .slice ga gone.length gc]) ∧ SliceOk ka left.length kc ∧ RdV C [] ka (textCells left) ∧ SliceOk ga gone.length gc ∧ RdV C [] ga (textCells gone) ∧ left = popL l front n ∧ gone = popG l front n ∧ Inv C H w' := by
 refine cW Tryz.func74 rfl Tryz.ntmps74 ?_
 simp only [al]
 refine sK fun _ k1 => rL (uA rfl ?_)
 refine uA rfl (uW k1 ?_)
 refine sK fun _ k2 => rL (uM rfl ?_)
 refine uG (vI ((n.toNat : Nat) : Int)) rfl (ex_max2 (m := n) (n := 0) rfl rfl rfl (by split <;> omega)) (uM rfl ?_)
 refine uG (vI (l.length : Int)) rfl (ex_len0 Tryz.underlying22 rfl rfl) ?_
 refine uG (vI ((popN l n : Nat) : Int)) rfl (ex_min2 (m := ((n.toNat : Nat) : Int)) (n := (l.length : Int)) rfl rfl rfl (by unfold popN; split <;> omega)) (uA rfl ?_)
 refine uW k2 (sK fun _ k3 => ?_)
 refine sK fun _ k4 => rL (uM rfl ?_)
 refine uW k4 (wpIn_cond_split (t := front) rfl (fun hc5 => ?_) (fun hc5 => ?_))
 ·refine sK fun _ k6 => ?_
  have hpl : popN l n ≤ l.length := Nat.min_le_right _ _
  obtain ⟨a3, ha3, ok3, hr3⟩ := sliced_hiV 1 hokl hrl (textCells_len _) hpl
  obtain ⟨a4, c4, ha4, ok4, hr4⟩ := sliced_fromV 1 hokl hrl (textCells_len _) hpl (by decide)
  rw [Nat.mul_one, tx_take] at hr3
  rw [Nat.mul_one, tx_drop] at hr4
  have htl : (l.take (popN l n)).length = popN l n := by rw [List.length_take]; omega
  have hdl : (l.drop (popN l n)).length = l.length - popN l n := List.length_drop
  rw [← htl] at ok3
  rw [← hdl] at ok4
  refine rW mixed [3, 7] [0,1,2,4,5,6,3,7,8,9] 39 rfl (by kernel_rfl) hv ?_
  simp only [qm, opAt]
  refine dM (.slice la l.length lc) rfl (dM (vI ((popN l n : Nat) : Int)) rfl ?_)
  refine dG (.slice a4 ((l.drop (popN l n)).length) c4) rfl (ex_slice (lo' := some (vI ((popN l n : Nat) : Int))) rfl rfl (congrArg some rfl) rfl rfl ((run_fromAny Tryz.underlying22 s9es22 hpl).trans (by rw [ha4, hdl]))) ?_
  simp only [zP, po]
  refine dM (.slice la l.length lc) rfl (dM (vI ((popN l n : Nat) : Int)) rfl ?_)
  refine dG (.slice a3 ((l.take (popN l n)).length) lc) rfl (ex_slice (hi' := some (vI ((popN l n : Nat) : Int))) rfl rfl rfl (congrArg some rfl) rfl ((run_hiAny (h := popN l n) Tryz.underlying22 s9es22 (by have := hokl.le; omega)).trans (by rw [ha3, htl]))) ?_
  simp only [zP, po]
  refine dS rfl fun w7 hv => mC s1callable88 rfl ((cloneOwn B _ _ a4 (l.drop (popN l n)).length c4 (textCells (l.drop (popN l n))) ok4 (textCells_len _) (textCells_one _) (by simp only [List.length_drop]; omega) hr4 hv).mono ?_) rfl
  rintro e w8 ⟨vl9, rfl, hv⟩
  obtain ⟨vla, vlc, rfl⟩ := row_slice hv.head
  refine ⟨_, rfl, dW hv ?_⟩
  refine dS rfl fun w9 hv => mC s1callable88 rfl ((cloneOwn B _ _ a3 (l.take (popN l n)).length lc (textCells (l.take (popN l n))) ok3 (textCells_len _) (textCells_one _) (by simp only [List.length_take]; omega) hr3 hv).mono ?_) rfl
  rintro e w10 ⟨vg9, rfl, hv⟩
  obtain ⟨vga, vgc, rfl⟩ := row_slice hv.head
  refine ⟨_, rfl, dW hv ?_⟩
  refine dA (.slice vla ((l.drop (popN l n)).length) vlc) rfl ?_
  simp only [zP, po]
  refine dA (.slice vga ((l.take (popN l n)).length) vgc) rfl (dE fun w11 hv => ?_)
  simp only [zP, po]
  refine tK k6 (rR ?_)
  refine tR (bodyPost_ret (results_tmp2 rfl _ _ _) rfl ?_)
  obtain ⟨D, hD, hv, hrg, okg, -⟩ := (((hv.front 1 rfl).front 1 rfl)).rowBy
  obtain ⟨E, hE, hv, hrf, okf, -⟩ := hv.rowBy
  exact ⟨E, vla, vlc, vga, vgc, l.drop (popN l n), l.take (popN l n), hD.trans hE, rfl, okf, hrf, okg, hrg.more hE (fun _ h => h), by unfold popL; rw [if_pos (by simp_all)], by unfold popG; rw [if_pos (by simp_all)], hv⟩
 refine kS (tK k3 ?_)
 refine sK fun _ k12 => ?_
 have hpl : popN l n ≤ l.length := Nat.min_le_right _ _
 refine rL (uM rfl ?_)
 refine uG (vI (l.length : Int)) rfl (ex_len0 Tryz.underlying22 rfl rfl) (uM rfl ?_)
 refine uG (vI ((l.length - popN l n : Nat) : Int)) rfl (ex_sub rfl rfl rfl (by rw [i64_in (by omega)]; omega)) (uA rfl ?_)
 refine uW k12 (sK fun _ k13 => ?_)
 have hql : l.length - popN l n ≤ l.length := Nat.sub_le _ _
 obtain ⟨a5, ha5, ok5, hr5⟩ := sliced_hiV 1 hokl hrl (textCells_len _) hql
 obtain ⟨a6, c6, ha6, ok6, hr6⟩ := sliced_fromV 1 hokl hrl (textCells_len _) hql (by decide)
 rw [Nat.mul_one, tx_take] at hr5
 rw [Nat.mul_one, tx_drop] at hr6
 have htl : (l.take (l.length - popN l n)).length = l.length - popN l n := by rw [List.length_take]; omega
 have hdl : (l.drop (l.length - popN l n)).length = l.length - (l.length - popN l n) := List.length_drop
 rw [← htl] at ok5
 rw [← hdl] at ok6
 refine rL (uM rfl ?_)
 refine uM rfl ?_
 refine uG (.slice a6 ((l.drop (l.length - popN l n)).length) c6) rfl (ex_slice (lo' := some (vI ((l.length - popN l n : Nat) : Int))) rfl rfl (congrArg some rfl) rfl rfl ((run_fromAny Tryz.underlying22 s9es22 hql).trans (by rw [ha6, hdl]))) ?_
 refine xC s1callable88 rfl ((cloneOwn B _ _ a6 (l.drop (l.length - popN l n)).length c6 (textCells (l.drop (l.length - popN l n))) ok6 (textCells_len _) (textCells_one _) (by simp only [List.length_drop]; omega) hr6 hv).mono ?_) rfl
 rintro e w14 ⟨vg9, rfl, hv⟩
 refine ⟨_, rfl, ?_⟩
 obtain ⟨vga, vgc, rfl⟩ := row_slice hv.head
 refine uA rfl (uW k13 ?_)
 refine sK fun _ k15 => rL (uM rfl ?_)
 refine xC i2callable94 rfl ((revTexts B _ _ vga vgc (l.drop (l.length - popN l n)) (by simp only [List.length_drop]; omega) hv).mono ?_) rfl
 rintro e w16 ⟨rfl, hv⟩
 refine ⟨_, rfl, uW k15 ?_⟩
 refine sK fun _ k17 => rL (uM rfl ?_)
 refine uM rfl ?_
 refine uG (.slice a5 ((l.take (l.length - popN l n)).length) lc) rfl (ex_slice (hi' := some (vI ((l.length - popN l n : Nat) : Int))) rfl rfl rfl (congrArg some rfl) rfl ((run_hiAny (h := l.length - popN l n) Tryz.underlying22 s9es22 (by have := hokl.le; omega)).trans (by rw [ha5, htl]))) ?_
 refine xC s1callable88 rfl ((cloneOwn B _ _ a5 (l.take (l.length - popN l n)).length lc (textCells (l.take (l.length - popN l n))) ok5 (textCells_len _) (textCells_one _) (by simp only [List.length_take]; omega) hr5 hv).mono ?_) rfl
 rintro e w18 ⟨vl9, rfl, hv⟩
 refine ⟨_, rfl, ?_⟩
 obtain ⟨vla, vlc, rfl⟩ := row_slice hv.head
 refine uM rfl (uA rfl ?_)
 refine uA rfl (uW k17 ?_)
 refine rR (bodyPost_ret (results_tmp2 rfl _ _ _) rfl ?_)
 obtain ⟨D, hD, hv, hrg, okg, -⟩ := ((hv.front 1 rfl)).rowBy
 obtain ⟨E, hE, hv, hrf, okf, -⟩ := hv.rowBy
 exact ⟨E, vla, vlc, vga, vgc, l.take (l.length - popN l n), (l.drop (l.length - popN l n)).reverse, hD.trans hE, by show Ending.returned (Value.tuple #[.slice vla ((l.take (l.length - popN l n)).length) vlc, .slice vga ((l.drop (l.length - popN l n)).length) vgc]) = _; rw [List.length_reverse], okf, hrf, by rw [List.length_reverse]; exact okg, hrg.more hE (fun _ h => h), by unfold popL; rw [if_neg (by simp_all)], by unfold popG; rw [if_neg (by simp_all)], hv⟩
end Go.Proofs.YtmhdpjifhfoabaaGreatDoor
