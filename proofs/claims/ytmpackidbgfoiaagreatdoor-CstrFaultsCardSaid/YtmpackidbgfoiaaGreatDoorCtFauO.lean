/- cstr: write. -/
import Derived.Test.YtmpackidbgfoiaaGreatDoorCtFauC
import Derived.Test.YtmpackidbgfoiaaGreatDoorCtFauN
import Derived.Test.YtmpackidbgfoiaaGreatDoorCtFauB
import Derived.Test.YtmpackidbgfoiaaGreatDoorRows
import Derived.Test.YtmpackidbgfoiaaGreatDoorCtFauG
import Derived.Test.YtmpackidbgfoiaaGreatDoorCtFauF
set_option maxRecDepth 100000
set_option maxHeartbeats 16000000
set_option synthInstance.maxSize 4096
set_option synthInstance.maxHeartbeats 400000
namespace Go.Proofs.YtmpackidbgfoiaaGreatDoor
open Go.RowKit Go.Pm
def DoS (M : List (List UInt8 × Ver)) (clk : Int) (name : List UInt8) (args : List (List UInt8)) (M' : List (List UInt8 × Ver)) (r : Rp) : Prop :=
 (name = ([83, 69, 84] : List UInt8) → ∃ k x, args[0]? = some k ∧ args[1]? = some x ∧ SetR M clk k x (args.drop 2) M' r) ∧ (name = ([73, 78, 67, 82] : List UInt8) → ∃ k, args[0]? = some k ∧ IncR M clk k M' r) ∧ (name = ([65, 80, 80, 69, 78, 68] : List UInt8) → ∃ k x, args[0]? = some k ∧ args[1]? = some x ∧ AppR M clk k x M' r)
theorem doS_read {M M' : List (List UInt8 × Ver)} {clk : Int} {name : List UInt8} {args : List (List UInt8)} {r : Rp} (h : name ∈ gReads) : DoS M clk name args M' r :=
 ⟨fun h9 => absurd (h9 ▸ h) (by decide), fun h9 => absurd (h9 ▸ h) (by decide), fun h9 => absurd (h9 ▸ h) (by decide)⟩
theorem gRows_def : ∀ x ∈ gRows, x.1 ∉ gReads → (∀ y ∈ [([83, 69, 84] : List UInt8), ([83, 69, 84, 78, 88] : List UInt8), ([83, 69, 84, 69, 88] : List UInt8), ([71, 69, 84, 83, 69, 84] : List UInt8), ([71, 69, 84, 68, 69, 76] : List UInt8), ([71, 69, 84, 69, 88] : List UInt8), ([77, 83, 69, 84] : List UInt8), ([77, 83, 69, 84, 78, 88] : List UInt8), ([65, 80, 80, 69, 78, 68] : List UInt8), ([83, 69, 84, 82, 65, 78, 71, 69] : List UInt8), ([73, 78, 67, 82] : List UInt8), ([68, 69, 67, 82] : List UInt8), ([73, 78, 67, 82, 66, 89] : List UInt8), ([68, 69, 67, 82, 66, 89] : List UInt8), ([83, 69, 84, 66, 73, 84] : List UInt8)], ¬ x.1 = y) → 3 ≤ x.2.1 := by decide
theorem ga_def {name : List UInt8} {n : Nat} (h : GArgs name n) (h1 : name ∉ gReads) (h2 : ∀ y ∈ [([83, 69, 84] : List UInt8), ([83, 69, 84, 78, 88] : List UInt8), ([83, 69, 84, 69, 88] : List UInt8), ([71, 69, 84, 83, 69, 84] : List UInt8), ([71, 69, 84, 68, 69, 76] : List UInt8), ([71, 69, 84, 69, 88] : List UInt8), ([77, 83, 69, 84] : List UInt8), ([77, 83, 69, 84, 78, 88] : List UInt8), ([65, 80, 80, 69, 78, 68] : List UInt8), ([83, 69, 84, 82, 65, 78, 71, 69] : List UInt8), ([73, 78, 67, 82] : List UInt8), ([68, 69, 67, 82] : List UInt8), ([73, 78, 67, 82, 66, 89] : List UInt8), ([68, 69, 67, 82, 66, 89] : List UInt8), ([83, 69, 84, 66, 73, 84] : List UInt8)], ¬ name = y) : 3 ≤ n := by
 obtain ⟨x, hx, hn, h3, -⟩ := h
 have := gRows_def x hx (by rw [hn]; exact h1) (by rw [hn]; exact h2)
 omega
theorem cs8al38 : AL Tryz.prog 38 [vI 0, vS [], vI 0, vN] := fun w => by kernel_rfl
theorem cs8callable53 : Callable Tryz.prog 53 := cb Tryz.func53 (by kernel_rfl)
theorem cs8callable55 : Callable Tryz.prog 55 := cb Tryz.func55 (by kernel_rfl)
theorem cs8mk9 : (Tryz.prog.info? 9).map (fun i => (i.zero, i.size, i.bytes)) = some (some (vS []), 1, 16) := by kernel_rfl
theorem cs8el23 : Elem Tryz.prog 23 9 (vS []) 1 16 := elem_of Tryz.underlying23 cs8mk9 (by rfl) (by decide)
theorem cs8al81 : AL Tryz.prog 81 [vI 0, .bool false, vI 0, vI 0, vS [], vN, vN, vN] := fun w => by kernel_rfl
theorem cs8callable60 : Callable Tryz.prog 60 := cb Tryz.func60 (by kernel_rfl)
theorem cs8callable62 : Callable Tryz.prog 62 := cb Tryz.func62 (by kernel_rfl)
theorem cs8callable63 : Callable Tryz.prog 63 := cb Tryz.func63 (by kernel_rfl)
theorem cs8callable64 : Callable Tryz.prog 64 := cb Tryz.func64 (by kernel_rfl)
theorem cs8callable65 : Callable Tryz.prog 65 := cb Tryz.func65 (by kernel_rfl)
theorem cs8callable66 : Callable Tryz.prog 66 := cb Tryz.func66 (by kernel_rfl)
theorem cs8callable67 : Callable Tryz.prog 67 := cb Tryz.func67 (by kernel_rfl)
theorem cstrWrite (B : Base) (H : List Res) (w : World) (v t m s p wb : Nat) (va : Option Addr) (vc : Nat) (sv : Value) (clk : Int) (es : List (List UInt8 × Value)) (M : List (List UInt8 × Ver)) (hM : VM B es M) (hO : OkM M) (aa : Option Addr) (ac : Nat) (args : List (List UInt8)) (hra : RdV B [] aa (textCells args)) (hoka : SliceOk aa args.length ac) (hma : args.length ≤ 1000) (name : List UInt8) (hgr : GArgs name args.length) (hN : NumB B) (h0c : 0 ≤ clk) (h1c : clk ≤ 1099511627776) (hx6 : ∀ x ∈ args, x.length ≤ 1000000) (hnr : name ∉ gReads) (hv : Inv B (Res.cell v [.iface 52 (vP t)] 79 :: txR t m s p wb va vc sv clk es :: H) w) :
  Calls Tryz.prog 24 #[.agg #[vP v, .slice aa args.length ac], vS name] w fun e w' => ∃ C es' M' r cs, B.Le C ∧ e = .returned (.agg cs.toArray) ∧ RpAt C r cs ∧ VM C es' M' ∧ CmdR M M' r ∧ DoS M clk name args M' r ∧ Inv C (Res.cell v [.iface 52 (vP t)] 79 :: txR t m s p wb va vc sv clk es' :: H) w' := by
 have hal : 1 ≤ args.length := ga_one hgr
 obtain ⟨key, hkey⟩ : ∃ k, args[0]? = some k := ⟨_, List.getElem?_eq_getElem (show 0 < args.length by omega)⟩
 have hxl : ∀ x ∈ args, x.length ≤ 9223372036854775807 := fun x hx => by have := hx6 x hx; omega
 have hd1 : (args.drop 1).length = args.length - 1 := List.length_drop
 obtain ⟨a3, c3, ha3, ok3, hr3⟩ := sliced_fromV 1 hoka hra (textCells_len args) (show 1 ≤ args.length by omega) (by decide)
 rw [Nat.mul_one, tx_drop] at hr3;rw [← hd1] at ok3;refine cW Tryz.func24 rfl Tryz.ntmps24 ?_;simp only [al];refine sK fun _ k1 => rL (sl_box (L := [vP v, .slice aa args.length ac]) tV (wn rfl) rfl rfl hv (fun w => by kernel_rfl) (fun b2 w3 hv => ?_));simp only [zP, po];refine sl_alloc tV (wn rfl) rfl hv cs8al38 (fun b4 w5 hv => ?_);refine uW k1 (sK fun _ k6 => ?_);refine rL (uF (.pointer (some ⟨b2, 1, none⟩)) rfl (cs5fa72_1 _ _ _) ?_);refine uL _ rfl (run_load1 s1na23 (hv.load 1 1 rfl rfl)) (uA rfl ?_);refine uW k6 (sK fun _ k7 => ?_);refine sK fun _ k8 => rL (uM rfl ?_);refine uW k8 (bB ?_);refine sK fun _ k9 => rL ?_
 by_cases hb10 : name = ([83, 69, 84] : List UInt8)
 ·refine uG (.bool true) rfl (ex_seql rfl rfl rfl (qT hb10)) (uA rfl ?_)
  refine uW k9 (cT rfl ?_);refine sK fun _ k11 => ?_
  obtain ⟨hg1, hg2, hg3⟩ := ga (a := 2) (b := (-1)) (c := 1) hgr (by rw [hb10]; decide)
  obtain ⟨x1, hx1⟩ : ∃ k, args[1]? = some k := ⟨_, List.getElem?_eq_getElem (show 1 < args.length by omega)⟩
  have hd2 : (args.drop 2).length = args.length - 2 := List.length_drop
  obtain ⟨a4, c4, ha4, ok4, hr4⟩ := sliced_fromV 1 hoka hra (textCells_len args) (show 2 ≤ args.length by omega) (by decide)
  rw [Nat.mul_one, tx_drop] at hr4;rw [← hd2] at ok4
  obtain ⟨ab, ao, had, hrdkey⟩ := text_reads hra hkey
  subst had
  have halkey : 0 < args.length := (List.getElem?_eq_some_iff.1 hkey).1
  obtain ⟨ab9, ao9, had9, hrdx1⟩ := text_reads hra hx1
  cases had9
  have halx1 : 1 < args.length := (List.getElem?_eq_some_iff.1 hx1).1
  refine rW mixed [9, 10] [0,1,2,3,4,5,6,7,8,9,10] 194 rfl (by kernel_rfl) hv ?_;simp only [qm, opAt];refine dL (.agg #[vP v, .slice (some ⟨ab, ao, none⟩) args.length ac]) rfl (fun hv => ex_load rfl rfl (lM 1 cs2wd72 hv rfl rfl rfl rfl)) (dM (.slice (some ⟨ab, ao, none⟩) args.length ac) rfl ?_);refine dG (.pointer (some ⟨ab, ao + 0, none⟩)) rfl (ex_index rfl rfl rfl (run_idx1 (k := 0) Tryz.underlying23 s9es23 (by omega))) ?_;simp only [zP, po];refine dL _ rfl (fun hv => ex_load rfl rfl (run_load1 s9na9 (hrdkey _ _ _ (Base.Le.refl _) no_res hv 0 _ rfl))) (dM (.slice (some ⟨ab, ao, none⟩) args.length ac) rfl ?_);refine dG (.pointer (some ⟨ab, ao + 1, none⟩)) rfl (ex_index rfl rfl rfl (run_idx1 (k := 1) Tryz.underlying23 s9es23 (by omega))) ?_;simp only [zP, po];refine dL _ rfl (fun hv => ex_load rfl rfl (run_load1 s9na9 (hrdx1 _ _ _ (Base.Le.refl _) no_res hv 0 _ rfl))) (dM (.slice (some ⟨ab, ao, none⟩) args.length ac) rfl ?_);refine dG (.slice a4 ((args.drop 2).length) c4) rfl (ex_slice (lo' := some (vI ((2 : Nat) : Int))) rfl rfl (congrArg some rfl) rfl rfl ((run_fromAny Tryz.underlying23 s9es23 (by omega)).trans (by rw [ha4, hd2]))) ?_;simp only [zP, po];refine dS rfl fun w12 hv => ?_;replace hv := hv.front 3 rfl;simp only [eS, eZ] at hv;replace hv := hv.front 3 rfl;simp only [eS, eZ] at hv;refine mC cs8callable53 rfl ((cstrSet B _ _ v t m s p wb va vc sv clk es M hM hO h0c h1c (some ⟨ab, ao, none⟩) args.length ac key x1 a4 c4 (args.drop 2) hr4 (by omega) (fun x hx => hxl x (List.mem_of_mem_drop hx)) hN hv).mono ?_) rfl
  rintro e w13 ⟨D, es', M', r, cs, hD, rfl, hrpl, hM', ⟨hcmd, hrel⟩, hv⟩
  obtain ⟨rk, rs, rn, rv, rfl⟩ := rp_parts2 hrpl
  refine ⟨_, rfl, dW hv ?_⟩;refine dS rfl fun w14 hv => mS 2 rfl hv rssz38 rfl (by exact ⟨rfl, rfl, rfl, hrpl.lv.2, trivial⟩) (fun w15 hv => ?_);simp only [zS, zO, sp] at hv;refine dW hv (dE fun w16 hv => ?_);simp only [zP, po];refine tK k11 (rR ?_);refine bZ (tR ?_);refine bC 2 rswd38 hv rfl rfl rfl rfl (⟨D, es', M', r, _, hD, rfl, hrpl, hM', hcmd, ⟨fun _ => ⟨key, x1, hkey, hx1, hrel⟩, fun h9 => by rw [hb10] at h9; exact absurd h9 (by decide), fun h9 => by rw [hb10] at h9; exact absurd h9 (by decide)⟩, (hv.kp [1, 1] 2 2)⟩)
 refine uG (.bool false) rfl (ex_seql rfl rfl rfl (qF hb10)) (uA rfl ?_);refine uW k9 (cF rfl ?_);refine sK fun _ k17 => rL ?_
 by_cases hb18 : name = ([83, 69, 84, 78, 88] : List UInt8)
 ·refine uG (.bool true) rfl (ex_seql rfl rfl rfl (qT hb18)) (uA rfl ?_)
  refine uW k17 (cT rfl ?_);refine sK fun _ k19 => ?_
  obtain ⟨hg1, hg2, hg3⟩ := ga (a := 2) (b := 2) (c := 1) hgr (by rw [hb18]; decide)
  obtain ⟨x1, hx1⟩ : ∃ k, args[1]? = some k := ⟨_, List.getElem?_eq_getElem (show 1 < args.length by omega)⟩
  obtain ⟨ab, ao, had, hrdkey⟩ := text_reads hra hkey
  subst had
  have halkey : 0 < args.length := (List.getElem?_eq_some_iff.1 hkey).1
  obtain ⟨ab9, ao9, had9, hrdx1⟩ := text_reads hra hx1
  cases had9
  have halx1 : 1 < args.length := (List.getElem?_eq_some_iff.1 hx1).1
  refine rW mixed [8] [0,1,2,3,4,5,6,7,8,9,10,11,12,13] 194 rfl (by kernel_rfl) hv ?_;simp only [qm, opAt];refine dL (.agg #[vP v, .slice (some ⟨ab, ao, none⟩) args.length ac]) rfl (fun hv => ex_load rfl rfl (lM 1 cs2wd72 hv rfl rfl rfl rfl)) (dM (.slice (some ⟨ab, ao, none⟩) args.length ac) rfl ?_);refine dG (.pointer (some ⟨ab, ao + 0, none⟩)) rfl (ex_index rfl rfl rfl (run_idx1 (k := 0) Tryz.underlying23 s9es23 (by omega))) ?_;simp only [zP, po];refine dL _ rfl (fun hv => ex_load rfl rfl (run_load1 s9na9 (hrdkey _ _ _ (Base.Le.refl _) no_res hv 0 _ rfl))) (dM (.slice (some ⟨ab, ao, none⟩) args.length ac) rfl ?_);refine dG (.pointer (some ⟨ab, ao + 1, none⟩)) rfl (ex_index rfl rfl rfl (run_idx1 (k := 1) Tryz.underlying23 s9es23 (by omega))) ?_;simp only [zP, po];refine dL _ rfl (fun hv => ex_load rfl rfl (run_load1 s9na9 (hrdx1 _ _ _ (Base.Le.refl _) no_res hv 0 _ rfl))) (dG (.agg #[vI 0, vI (-1), vI 0]) rfl (ex_buildN (vs := #[(0, vI 0), (1, vI (-1))]) rfl (by simp only [List.map_toArray, List.map_cons, List.map_nil]; rfl) (by kernel_rfl)) ?_);refine dS rfl fun w20 hv => ?_;replace hv := hv.front 3 rfl;simp only [eS, eZ] at hv;replace hv := hv.front 3 rfl;simp only [eS, eZ] at hv;refine mC cs2callable54 rfl ((cstrLay B _ _ v t m s p wb va vc sv clk es M (hM.more (Base.Le.refl _)) hO h0c h1c (some ⟨ab, ao, none⟩) args.length ac key x1 0 (-1) 0 (by omega) hv).mono ?_) rfl;rintro e w28 ⟨G21, es22, Mk23, dn24, le25, hG21, rfl, hMk27, hl26, hv⟩;refine ⟨_, rfl, dW hv ?_⟩;simp only [zP, po]
  refine dM (.tuple #[.bool dn24, vI le25]) rfl (dG (.bool dn24) rfl (ex_extract rfl rfl rfl) ?_);refine dG (vI le25) rfl (ex_extract rfl rfl rfl) ?_;simp only [zP, po];refine dA (.bool dn24) rfl (dA (vI le25) rfl ?_);refine dE fun w29 hv => ?_;simp only [zP, po];refine tK k19 (sK fun _ k30 => ?_);refine rL (uM rfl ?_);refine uM rfl ?_;refine xC cs8callable55 rfl ((cstrTruth G21 _ _ dn24 hv).mono ?_) rfl;rintro e w32 ⟨tn31, rfl, hv⟩;refine ⟨_, rfl, ?_⟩;simp only [zP, po];refine xC cs2callable45 rfl ((viewDone G21 _ _ le25 2 tn31 ([] : List UInt8) (vN) rfl rfl hv).mono ?_) rfl;rintro e w33 ⟨xr, hxr, rfl, hv⟩;refine ⟨_, rfl, ?_⟩
  rcases hxr with ⟨hec0, rfl⟩ | ⟨hec0, s34, rfl⟩
  ·simp only [zP, po]
   refine xS 2 rfl hv rssz38 rfl (by exact ⟨rfl, rfl, rfl, rfl, trivial⟩) (fun w35 hv => ?_);simp only [zS, zO, sp] at hv;refine uW k30 (rR ?_);refine bZ (tR ?_);refine bC 2 rswd38 hv rfl rfl rfl rfl (⟨G21, es22, Mk23, (.mk 2 ([] : List UInt8) tn31 []), _, hG21, rfl, rpAt_leaf, hMk27.more (Base.Le.refl _), ⟨hl26.1, fun h9 => absurd h9 isF_int⟩, ⟨fun h9 => by rw [hb18] at h9; exact absurd h9 (by decide), fun h9 => by rw [hb18] at h9; exact absurd h9 (by decide), fun h9 => by rw [hb18] at h9; exact absurd h9 (by decide)⟩, (hv.kp [1, 1] 2 2)⟩)
  simp only [zP, po];refine xS 2 rfl hv rssz38 rfl (by exact ⟨rfl, rfl, rfl, rfl, trivial⟩) (fun w36 hv => ?_);simp only [zS, zO, sp] at hv;refine uW k30 (rR ?_);refine bZ (tR ?_);refine bC 2 rswd38 hv rfl rfl rfl rfl (⟨G21, es22, Mk23, (.mk 1 s34 0 []), _, hG21, rfl, rpAt_leaf, hMk27.more (Base.Le.refl _), ⟨hl26.1, fun _ => hl26.2.1 (by omega)⟩, ⟨fun h9 => by rw [hb18] at h9; exact absurd h9 (by decide), fun h9 => by rw [hb18] at h9; exact absurd h9 (by decide), fun h9 => by rw [hb18] at h9; exact absurd h9 (by decide)⟩, (hv.kp [1, 1] 2 2)⟩)
 refine uG (.bool false) rfl (ex_seql rfl rfl rfl (qF hb18)) (uA rfl ?_);refine uW k17 (cF rfl ?_);refine sK fun _ k37 => rL ?_
 by_cases hb38 : name = ([83, 69, 84, 69, 88] : List UInt8)
 ·refine uG (.bool true) rfl (ex_seql rfl rfl rfl (qT hb38)) (uA rfl ?_)
  refine uW k37 (cT rfl ?_);refine sK fun _ k39 => ?_
  obtain ⟨hg1, hg2, hg3⟩ := ga (a := 3) (b := 3) (c := 1) hgr (by rw [hb38]; decide)
  obtain ⟨x1, hx1⟩ : ∃ k, args[1]? = some k := ⟨_, List.getElem?_eq_getElem (show 1 < args.length by omega)⟩
  obtain ⟨x2, hx2⟩ : ∃ k, args[2]? = some k := ⟨_, List.getElem?_eq_getElem (show 2 < args.length by omega)⟩
  obtain ⟨ab, ao, had, hrdkey⟩ := text_reads hra hkey
  subst had
  have halkey : 0 < args.length := (List.getElem?_eq_some_iff.1 hkey).1
  obtain ⟨ab9, ao9, had9, hrdx1⟩ := text_reads hra hx1
  cases had9
  have halx1 : 1 < args.length := (List.getElem?_eq_some_iff.1 hx1).1
  refine rL (uM rfl ?_);refine uG (.pointer (some ⟨ab, ao + 1, none⟩)) rfl (ex_index rfl rfl rfl (run_idx1 (k := 1) Tryz.underlying23 s9es23 (by omega))) ?_;refine uL _ rfl (run_load1 s9na9 (hrdx1 _ _ _ (Base.Le.refl _) no_res hv 0 _ rfl)) ?_;refine sl_rowOne (v := vS x1) tV (wn rfl) rfl rfl hv cs8el23 rfl (fun b40 w41 hv => ?_);simp only [zP, po]
  obtain ⟨K42, hK42, hv, hrkK42, hokK42, -⟩ := (hv.cellRow (n := 1) (c := 1) (size := 1) rfl (by decide) (by decide)).rowBy
  refine xC cs1callable56 rfl ((viewInts K42 _ _ _ 1 [x1] hrkK42 (Nat.le_of_ble_eq_true rfl) (hN.more hK42) hv).mono ?_) rfl;rintro e w43 ⟨E, ia, ic, ns, ei, hE, rfl, hri, hir, hv⟩;refine ⟨_, rfl, ?_⟩
  rcases ints_one hir with ⟨rfl, n0, rfl, hn0⟩ | ⟨rfl, rfl, hn0⟩
  ·have hfit : -9223372036854775808 ≤ n0 ∧ n0 ≤ 9223372036854775807 := hn0.elim (fun h => ⟨h.2.1, h.2.2.1⟩) (fun h => absurd h.1 (by decide))
   refine uG (.tuple #[.slice ia 1 ic, vI 0]) rfl (ex_move rfl rfl) ?_;refine uG (.slice ia 1 ic) rfl (ex_extract rfl rfl rfl) (uE rfl ?_);refine uA rfl (uA rfl ?_);refine uW k39 (sK fun _ k44 => ?_);refine sK fun _ k45 => rL (uM rfl ?_);refine uG (.bool false) rfl (ex_neq rfl rfl rfl (by decide)) (uW k45 ?_);refine cF rfl (kS ?_);refine tK k44 (sK fun _ k46 => ?_)
   have hv9 := hv
   obtain ⟨ib, io, had, hrd0⟩ := int_reads hri (show [n0][0]? = some n0 from rfl)
   subst had
   have hv := hv9
   clear hv9
   have hv9 := hv
   obtain ⟨ab9, ao9, had9, hrdkey⟩ := text_reads hra hkey
   cases had9
   obtain ⟨ab9, ao9, had9, hrdx2⟩ := text_reads hra hx2
   cases had9
   have hv := hv9
   clear hv9;refine rW mixed [11] [0,1,2,3,4,5,6,7,8,9,10,11,12,13,14,15] 194 rfl (by kernel_rfl) hv ?_;simp only [qm, opAt];refine dL (.agg #[vP v, .slice (some ⟨ab, ao, none⟩) args.length ac]) rfl (fun hv => ex_load rfl rfl (lM 1 cs2wd72 hv rfl rfl rfl rfl)) (dM (.slice (some ⟨ab, ao, none⟩) args.length ac) rfl ?_);refine dG (.pointer (some ⟨ab, ao + 0, none⟩)) rfl (ex_index rfl rfl rfl (run_idx1 (k := 0) Tryz.underlying23 s9es23 (by omega))) ?_;simp only [zP, po];refine dL _ rfl (fun hv => ex_load rfl rfl (run_load1 s9na9 (hrdkey _ _ _ (hK42.trans hE) no_res hv 0 _ rfl))) (dM (.slice (some ⟨ab, ao, none⟩) args.length ac) rfl ?_);refine dG (.pointer (some ⟨ab, ao + 2, none⟩)) rfl (ex_index rfl rfl rfl (run_idx1 (k := 2) Tryz.underlying23 s9es23 (by omega))) ?_;simp only [zP, po];refine dL _ rfl (fun hv => ex_load rfl rfl (run_load1 s9na9 (hrdx2 _ _ _ (hK42.trans hE) no_res hv 0 _ rfl))) (dM (.slice (some ⟨ib, io, none⟩) 1 ic) rfl ?_);refine dG (.pointer (some ⟨ib, io + 0, none⟩)) rfl (ex_index rfl rfl rfl (run_idx1 (k := 0) Tryz.underlying126 s11es126 (by omega))) ?_;simp only [zP, po];refine dL _ rfl (fun hv => ex_load rfl rfl (run_load1 s2na3 (hrd0 _ _ _ (Base.Le.refl _) no_res hv 0 _ rfl))) (dG (.agg #[vI (-1), vI 2, vI n0]) rfl (ex_buildN (vs := #[(0, vI (-1)), (1, vI 2), (2, vI n0)]) rfl (by simp only [List.map_toArray, List.map_cons, List.map_nil]; rfl) (by kernel_rfl)) ?_);refine dS rfl fun w47 hv => ?_;replace hv := hv.front 3 rfl;simp only [eS, eZ] at hv;replace hv := hv.front 3 rfl
   simp only [eS, eZ] at hv;refine mC cs2callable54 rfl ((cstrLay E _ _ v t m s p wb va vc sv clk es M (hM.more (hK42.trans hE)) hO h0c h1c (some ⟨ab, ao, none⟩) args.length ac key x2 (-1) 2 n0 hfit hv).mono ?_) rfl;rintro e w55 ⟨G48, es49, Mk50, dn51, le52, hG48, rfl, hMk54, hl53, hv⟩;refine ⟨_, rfl, dW hv ?_⟩;simp only [zP, po];refine dM (.tuple #[.bool dn51, vI le52]) rfl (dG (.bool dn51) rfl (ex_extract rfl rfl rfl) ?_);refine dG (vI le52) rfl (ex_extract rfl rfl rfl) ?_;simp only [zP, po];refine dA (vI le52) rfl (dE fun w56 hv => ?_);simp only [zP, po];refine tK k46 (sK fun _ k57 => ?_);refine rL (uM rfl ?_);refine xC cs2callable57 rfl ((respText G48 _ _ ([79, 75] : List UInt8) hv).mono ?_) rfl;rintro e w58 ⟨rfl, hv⟩;refine ⟨_, rfl, ?_⟩;simp only [zP, po];refine xC cs2callable45 rfl ((viewDone G48 _ _ le52 0 0 ([79, 75] : List UInt8) (vN) rfl rfl hv).mono ?_) rfl;rintro e w59 ⟨xr, hxr, rfl, hv⟩;refine ⟨_, rfl, ?_⟩
   rcases hxr with ⟨hec0, rfl⟩ | ⟨hec0, s60, rfl⟩
   ·simp only [zP, po]
    refine xS 2 rfl hv rssz38 rfl (by exact ⟨rfl, rfl, rfl, rfl, trivial⟩) (fun w61 hv => ?_);simp only [zS, zO, sp] at hv;refine uW k57 (rR ?_);refine bZ (tR ?_);refine bC 2 rswd38 hv rfl rfl rfl rfl (⟨G48, es49, Mk50, (.mk 0 ([79, 75] : List UInt8) 0 []), _, ((hK42.trans hE).trans hG48), rfl, rpAt_leaf, hMk54.more (Base.Le.refl _), ⟨hl53.1, fun h9 => absurd h9 isF_text⟩, ⟨fun h9 => by rw [hb38] at h9; exact absurd h9 (by decide), fun h9 => by rw [hb38] at h9; exact absurd h9 (by decide), fun h9 => by rw [hb38] at h9; exact absurd h9 (by decide)⟩, (hv.kp [1, 1] 2 2)⟩)
   simp only [zP, po];refine xS 2 rfl hv rssz38 rfl (by exact ⟨rfl, rfl, rfl, rfl, trivial⟩) (fun w62 hv => ?_);simp only [zS, zO, sp] at hv;refine uW k57 (rR ?_);refine bZ (tR ?_);refine bC 2 rswd38 hv rfl rfl rfl rfl (⟨G48, es49, Mk50, (.mk 1 s60 0 []), _, ((hK42.trans hE).trans hG48), rfl, rpAt_leaf, hMk54.more (Base.Le.refl _), ⟨hl53.1, fun _ => hl53.2.1 (by omega)⟩, ⟨fun h9 => by rw [hb38] at h9; exact absurd h9 (by decide), fun h9 => by rw [hb38] at h9; exact absurd h9 (by decide), fun h9 => by rw [hb38] at h9; exact absurd h9 (by decide)⟩, (hv.kp [1, 1] 2 2)⟩)
  refine uM rfl (uE rfl ?_);refine uE rfl (uA rfl ?_);refine uA rfl (uW k39 ?_);refine sK fun _ k63 => sK fun _ k64 => rL (uM rfl ?_);refine uG (.bool true) rfl (ex_neq rfl rfl rfl (by decide)) (uW k64 ?_);refine cT rfl (sK fun _ k65 => ?_);refine rL (uM rfl ?_);refine xC rscallable22 rfl ((viewWrong E _ _ 41 hv).mono ?_) rfl;rintro e w67 ⟨s66, rfl, hv⟩;refine ⟨_, rfl, ?_⟩;simp only [zP, po];refine xS 0 rfl hv rssz38 rfl (by exact ⟨rfl, rfl, rfl, rfl, trivial⟩) (fun w68 hv => ?_);simp only [zO, sp] at hv;refine uW k65 (rR ?_);refine tR (bZ ?_);refine tR (bC 0 rswd38 hv rfl rfl rfl rfl ?_);exact ⟨E, es, M, (.mk 1 s66 0 []), _, (hK42.trans hE), rfl, rpAt_leaf, hM.more (hK42.trans hE), ⟨hO, fun _ => rfl⟩, ⟨fun h9 => by rw [hb38] at h9; exact absurd h9 (by decide), fun h9 => by rw [hb38] at h9; exact absurd h9 (by decide), fun h9 => by rw [hb38] at h9; exact absurd h9 (by decide)⟩, (hv.kp [3, 3] 2 2)⟩
 refine uG (.bool false) rfl (ex_seql rfl rfl rfl (qF hb38)) (uA rfl ?_);refine uW k37 (cF rfl ?_);refine sK fun _ k69 => rL ?_
 by_cases hb70 : name = ([71, 69, 84, 83, 69, 84] : List UInt8)
 ·refine uG (.bool true) rfl (ex_seql rfl rfl rfl (qT hb70)) (uA rfl ?_)
  refine uW k69 (cT rfl ?_);refine sK fun _ k71 => ?_
  obtain ⟨hg1, hg2, hg3⟩ := ga (a := 2) (b := 2) (c := 1) hgr (by rw [hb70]; decide)
  obtain ⟨x1, hx1⟩ : ∃ k, args[1]? = some k := ⟨_, List.getElem?_eq_getElem (show 1 < args.length by omega)⟩
  obtain ⟨ab, ao, had, hrdkey⟩ := text_reads hra hkey
  subst had
  have halkey : 0 < args.length := (List.getElem?_eq_some_iff.1 hkey).1
  refine rT mixed (fun az wz => ∃ (C : Base) (y : Ver) (yp yt yz : Value) (ec : Int) (b77 : Nat), (B.Le C) ∧ (ValAt C y.val yp yt yz) ∧ (OfI M clk key 1 y ec) ∧ az = { tmps := List.toArray (.agg #[vP v, .slice (some ⟨ab, ao, none⟩) args.length ac] :: vS name :: vP b2 :: undef :: vP b4 :: .slice (some ⟨ab, ao, none⟩) args.length ac :: undef :: undef :: undef :: undef :: vP b77 :: vI ec :: undef :: undef :: .pointer (some ⟨b2, 1, none⟩) :: .slice (some ⟨ab, ao, none⟩) args.length ac :: vS name :: .bool false :: .bool false :: undef :: undef :: undef :: undef :: undef :: undef :: undef :: undef :: undef :: undef :: .bool false :: .bool false :: undef :: undef :: undef :: undef :: undef :: undef :: undef :: undef :: undef :: undef :: undef :: undef :: undef :: undef :: undef :: undef :: .bool false :: .bool false :: undef :: undef :: undef :: undef :: undef :: undef :: undef :: undef :: undef :: undef :: undef :: undef :: undef :: undef :: undef :: undef :: undef :: undef :: undef :: undef :: undef :: undef :: undef :: undef :: undef :: undef :: undef :: undef :: undef :: undef :: .bool true :: .bool true :: .tuple #[.agg #[vI y.stamp, .bool y.gone, vI y.expire, vI y.val.kind, vS y.val.text, yp, yt, yz], vI ec] :: vP b2 :: vP v :: .slice (some ⟨ab, ao, none⟩) args.length ac :: .pointer (some ⟨ab, ao + 0, none⟩) :: vS key :: .tuple #[.agg #[vI y.stamp, .bool y.gone, vI y.expire, vI y.val.kind, vS y.val.text, yp, yt, yz], vI ec] :: .agg #[vI y.stamp, .bool y.gone, vI y.expire, vI y.val.kind, vS y.val.text, yp, yt, yz] :: vI ec :: undef :: undef :: undef :: undef :: undef :: undef :: undef :: undef :: undef :: undef :: undef :: undef :: undef :: undef :: undef :: undef :: undef :: undef :: undef :: undef :: undef :: undef :: undef :: undef :: undef :: undef :: undef :: undef :: undef :: undef :: undef :: undef :: undef :: undef :: undef :: undef :: undef :: undef :: undef :: undef :: undef :: undef :: undef :: undef :: undef :: undef :: undef :: undef :: undef :: undef :: undef :: undef :: undef :: undef :: undef :: undef :: undef :: undef :: undef :: undef :: undef :: undef :: undef :: undef :: undef :: undef :: undef :: undef :: undef :: undef :: undef :: undef :: undef :: undef :: undef :: undef :: undef :: undef :: undef :: undef :: undef :: undef :: undef :: undef :: undef :: undef :: undef :: undef :: undef :: undef :: undef :: undef :: undef :: undef :: undef :: undef :: undef :: undef :: undef :: undef :: undef :: undef :: undef :: undef :: []), defers := [] } ∧ Inv C (Res.cell b77 [vI y.stamp, .bool y.gone, vI y.expire, vI y.val.kind, vS y.val.text, yp, yt, yz] 81 :: Res.cell v [.iface 52 (vP t)] 79 :: txR t m s p wb va vc sv clk es :: Res.cell b4 [vI 0, vS [], vI 0, vN] 38 :: Res.cell b2 [vP v, .slice (some ⟨ab, ao, none⟩) args.length ac] 72 :: H) wz) [5, 9, 10] [0,1,2,3,4] [6,7,8,9,10,11] [5,6,7,8,10,11] 5 9 194 rfl (by kernel_rfl) hv ?_ ?_
  ·intro R2 l1 l2 hR2 hl1 hl2
   simp only [qm, opAt];refine tG (vP b2) rfl (ex_field rfl rfl (cs0fa72_0 _ _ _)) (tF (vP v) rfl (fun hv => ex_load rfl rfl (run_load1 cs0na28 (hv.load 1 0 rfl rfl))) fun f72 hf72 => ?_);simp only [zP, po];refine tG (.slice (some ⟨ab, ao, none⟩) args.length ac) rfl (ex_move rfl rfl) (tG (.pointer (some ⟨ab, ao + 0, none⟩)) rfl (ex_index rfl rfl rfl (run_idx1 (k := 0) Tryz.underlying23 s9es23 (by omega))) ?_);simp only [zP, po];refine tF (vS key) rfl (fun hv => ex_load rfl rfl (run_load1 s9na9 (hrdkey _ _ _ (Base.Le.refl _) no_res hv 0 _ rfl))) fun f73 hf73 => ?_;simp only [zP, po];refine tB ?_ ?_
   ·rw [hl1]; clear hl1 hl2
    simp only [qm, opAt];refine dS rfl fun w74 hv => ?_;replace hv := hv.front 3 rfl;simp only [eS, eZ] at hv;replace hv := hv.front 3 rfl;simp only [eS, eZ] at hv;refine mC cs2callable44 rfl ((viewText B _ _ v t m s p wb va vc sv clk es M key (hM.more (Base.Le.refl _)) hv).mono ?_) rfl;rintro e w75 ⟨C, y, yp, yt, yz, ec, hC, rfl, hyv, hof, hv⟩;refine ⟨_, rfl, dV hv (fK rfl (fK rfl fN)) ?_⟩;refine dM (.tuple #[.agg #[vI y.stamp, .bool y.gone, vI y.expire, vI y.val.kind, vS y.val.text, yp, yt, yz], vI ec]) rfl (dG (.agg #[vI y.stamp, .bool y.gone, vI y.expire, vI y.val.kind, vS y.val.text, yp, yt, yz]) rfl (ex_extract rfl rfl rfl) ?_);simp only [zP, po];refine dG (vI ec) rfl (ex_extract rfl rfl rfl) (dS rfl fun w76 hv => ?_);refine mem_alloc rfl rfl hv cs8al81 (fun b77 w78 hv => ?_);refine dV hv (fC (fun ww hv => hf73 ww (ex_load rfl rfl (run_load1 s9na9 (hrdkey _ _ _ hC no_res hv 0 _ rfl)))) (fC (fun ww hv => hf72 ww (ex_load rfl rfl (run_load1 cs0na28 (hv.load 4 0 rfl rfl)))) fN)) (dS rfl fun w79 hv => ?_);refine mS 0 rfl hv x0sz81 rfl (by exact ⟨rfl, rfl, rfl, rfl, rfl, hyv.p.one, hyv.t.one, hyv.z.one, trivial⟩) (fun w80 hv => ?_);simp only [zO, sp] at hv;refine dV hv (fK rfl (fK rfl fN)) ?_;simp only [zP, po];refine dA (vI ec) rfl (dE fun wz hv => ?_);simp only [zP, po];exact hR2 _ _ ⟨C, y, yp, yt, yz, ec, b77, hC, hyv, hof, rfl, (((((hv.front 4 rfl).front 4 rfl).front 4 rfl).front 4 rfl).front 4 rfl)⟩
   rw [hl2]; clear hl1 hl2;simp only [qm, opAt];refine dS rfl fun w81 hv => mem_alloc rfl rfl hv cs8al81 (fun b82 w83 hv => ?_);refine dV hv (fC (fun ww hv => hf73 ww (ex_load rfl rfl (run_load1 s9na9 (hrdkey _ _ _ (Base.Le.refl _) no_res hv 0 _ rfl)))) (fC (fun ww hv => hf72 ww (ex_load rfl rfl (run_load1 cs0na28 (hv.load 2 0 rfl rfl)))) fN)) (dS rfl fun w84 hv => ?_);replace hv := hv.front 4 rfl;simp only [eS, eZ] at hv;replace hv := hv.front 4 rfl;simp only [eS, eZ] at hv;refine mC cs2callable44 rfl ((viewText B _ _ v t m s p wb va vc sv clk es M key (hM.more (Base.Le.refl _)) hv).mono ?_) rfl;rintro e w85 ⟨C, y, yp, yt, yz, ec, hC, rfl, hyv, hof, hv⟩;refine ⟨_, rfl, dV hv (fK rfl (fK rfl fN)) ?_⟩;refine dM (.tuple #[.agg #[vI y.stamp, .bool y.gone, vI y.expire, vI y.val.kind, vS y.val.text, yp, yt, yz], vI ec]) rfl ?_;simp only [zP, po];refine dG (.agg #[vI y.stamp, .bool y.gone, vI y.expire, vI y.val.kind, vS y.val.text, yp, yt, yz]) rfl (ex_extract rfl rfl rfl) (dG (vI ec) rfl (ex_extract rfl rfl rfl) ?_);refine dS rfl fun w86 hv => mS 2 rfl hv x0sz81 rfl (by exact ⟨rfl, rfl, rfl, rfl, rfl, hyv.p.one, hyv.t.one, hyv.z.one, trivial⟩) (fun w87 hv => ?_);simp only [zS, zO, sp] at hv;refine dV hv (fK rfl (fK rfl fN)) ?_;simp only [zP, po];refine dA (vI ec) rfl (dE fun wz hv => ?_);simp only [zP, po];exact hR2 _ _ ⟨C, y, yp, yt, yz, ec, b82, hC, hyv, hof, rfl, (((((hv.front 4 rfl).front 4 rfl).front 3 rfl).front 3 rfl).front 4 rfl)⟩
  rintro _ w88 ⟨C, y, yp, yt, yz, ec, b77, hC, hyv, hof, rfl, hv⟩
  obtain ⟨pa, pc, sa, sc, za, zc, rfl, rfl, rfl, hokp, hrp, hoks, hrs, hokz, hrz⟩ := valAt_open hyv
  refine tK k71 (sK fun _ k89 => ?_);refine sK fun _ k90 => rL (uM rfl ?_)
  by_cases hb91 : ec ≠ 0
  ·refine uG (.bool true) rfl (ex_neq rfl rfl rfl (qT hb91)) (uW k90 ?_)
   refine cT rfl (sK fun _ k92 => ?_);refine rL (uM rfl ?_);refine xC rscallable22 rfl ((viewWrong C _ _ ec hv).mono ?_) rfl;rintro e w94 ⟨s93, rfl, hv⟩;refine ⟨_, rfl, ?_⟩;simp only [zP, po];refine xS 3 rfl hv rssz38 rfl (by exact ⟨rfl, rfl, rfl, rfl, trivial⟩) (fun w95 hv => ?_);simp only [zS, zO, sp] at hv;refine uW k92 (rR ?_);refine tR (bZ ?_);refine tR (bC 3 rswd38 hv rfl rfl rfl rfl ?_);exact ⟨C, es, M, (.mk 1 s93 0 []), _, hC, rfl, rpAt_leaf, hM.more hC, ⟨hO, fun _ => rfl⟩, ⟨fun h9 => by rw [hb70] at h9; exact absurd h9 (by decide), fun h9 => by rw [hb70] at h9; exact absurd h9 (by decide), fun h9 => by rw [hb70] at h9; exact absurd h9 (by decide)⟩, (hv.kp [2, 2] 2 3)⟩
  refine uG (.bool false) rfl (ex_neq rfl rfl rfl (qF hb91)) (uW k90 ?_);refine cF rfl (kS ?_);refine tK k89 (sK fun _ k96 => ?_)
  have hv9 := hv
  obtain ⟨ab9, ao9, had9, hrdx1⟩ := text_reads hra hx1
  cases had9
  have hv := hv9
  clear hv9;refine rW mixed [8, 9, 11, 12, 13] [0,1,2,3,4,5,6,7,10,8,9,11,12,13] 194 rfl (by kernel_rfl) hv ?_;simp only [qm, opAt];refine dG (vP b2) rfl (ex_field rfl rfl (cs0fa72_0 _ _ _)) (dF _ rfl (fun hv => ex_load rfl rfl (run_load1 cs0na28 (hv.load 4 0 rfl rfl))) fun f97 hf97 => ?_);refine dM (.slice (some ⟨ab, ao, none⟩) args.length ac) rfl ?_;simp only [zP, po];refine dG (.pointer (some ⟨ab, ao + 0, none⟩)) rfl (ex_index rfl rfl rfl (run_idx1 (k := 0) Tryz.underlying23 s9es23 (by omega))) (dF _ rfl (fun hv => ex_load rfl rfl (run_load1 s9na9 (hrdkey _ _ _ hC no_res hv 0 _ rfl))) fun f98 hf98 => ?_);refine dM (.slice (some ⟨ab, ao, none⟩) args.length ac) rfl ?_;simp only [zP, po];refine dG (.pointer (some ⟨ab, ao + 1, none⟩)) rfl (ex_index rfl rfl rfl (run_idx1 (k := 1) Tryz.underlying23 s9es23 (by omega))) (dL _ rfl (fun hv => ex_load rfl rfl (run_load1 s9na9 (hrdx1 _ _ _ hC no_res hv 0 _ rfl))) ?_);refine dF (.agg #[vI y.stamp, .bool y.gone, vI y.expire, vI y.val.kind, vS y.val.text, .slice pa y.val.pairs.length pc, .slice sa y.val.texts.length sc, .slice za y.val.zset.length zc]) rfl (fun hv => ex_load rfl rfl (lM 0 x0wd81 hv rfl rfl rfl rfl)) fun f99 hf99 => ?_;simp only [zP, po];refine dS rfl fun w100 hv => mC cs2callable58 rfl ((cstrText C _ _ x1 hv).mono ?_) rfl;rintro e w101 ⟨rfl, hv⟩;refine ⟨_, rfl, dV hv (fC (fun ww hv => hf99 ww ?_) (fC (fun ww hv => hf98 ww (ex_load rfl rfl (run_load1 s9na9 (hrdkey _ _ _ hC no_res hv 0 _ rfl)))) (fC (fun ww hv => hf97 ww (ex_load rfl rfl (run_load1 cs0na28 (hv.load 4 0 rfl rfl)))) fN))) ?_⟩
  ·exact ex_load rfl rfl (lM 0 x0wd81 hv rfl rfl rfl rfl)
  refine dS rfl fun w102 hv => ?_;replace hv := hv.front 2 rfl;simp only [eS, eZ] at hv;replace hv := hv.front 2 rfl;simp only [eS, eZ] at hv;refine mC cs2callable18 rfl ((viewKeep C _ _ v t m s p wb va vc sv clk es M key (textV x1) _ _ _ 0 (hM.more hC) (textV_at _) hv).mono ?_) rfl;rintro e w109 ⟨G104, es108, Mk107, e103, hG104, rfl, hMk106, hkp105, hv⟩;refine ⟨_, rfl, dV hv (fC (fun ww hv => hf99 ww ?_) (fK rfl (fK rfl fN))) ?_⟩
  ·exact ex_load rfl rfl (lM 2 x0wd81 hv rfl rfl rfl rfl)
  refine dS rfl fun w110 hv => mC cs2callable46 rfl ((cstrReply G104 _ _ y.stamp y.gone y.expire y.val.kind y.val.text pa y.val.pairs.length pc sa y.val.texts.length sc za y.val.zset.length zc hv).mono ?_) rfl;rintro e w114 ⟨rk111, rs112, rfl, hrk113, hv⟩;refine ⟨_, rfl, dV hv (fK rfl (fK rfl (fK rfl fN))) ?_⟩;simp only [zP, po];refine dS rfl fun w115 hv => mC cs2callable45 rfl ((viewDone G104 _ _ e103 rk111 0 rs112 (vN) rfl rfl hv).mono ?_) rfl;rintro e w116 ⟨xr, hxr, rfl, hv⟩
  rcases hxr with ⟨hec0, rfl⟩ | ⟨hec0, s117, rfl⟩
  ·refine ⟨_, rfl, dV hv (fK rfl (fK rfl (fK rfl fN))) ?_⟩
   refine dS rfl fun w118 hv => mS 3 rfl hv rssz38 rfl (by exact ⟨rfl, rfl, rfl, rfl, trivial⟩) (fun w119 hv => ?_);simp only [zS, zO, sp] at hv;refine dV hv (fK rfl (fK rfl (fK rfl fN))) (dE fun w120 hv => ?_);simp only [zP, po];refine tK k96 (rR ?_);refine bZ (tR ?_);refine bC 3 rswd38 hv rfl rfl rfl rfl (⟨G104, es108, Mk107, (.mk rk111 rs112 0 []), _, (hC.trans hG104), rfl, rpAt_leaf, hMk106.more (Base.Le.refl _), DoneR.keep (r0 := (.mk rk111 rs112 0 [])) hO hkp105 (.inl ⟨by omega, rfl⟩) (isF_k hrk113), ⟨fun h9 => by rw [hb70] at h9; exact absurd h9 (by decide), fun h9 => by rw [hb70] at h9; exact absurd h9 (by decide), fun h9 => by rw [hb70] at h9; exact absurd h9 (by decide)⟩, (hv.kp [1, 1] 2 3)⟩)
  refine ⟨_, rfl, dV hv (fK rfl (fK rfl (fK rfl fN))) ?_⟩;refine dS rfl fun w121 hv => mS 3 rfl hv rssz38 rfl (by exact ⟨rfl, rfl, rfl, rfl, trivial⟩) (fun w122 hv => ?_);simp only [zS, zO, sp] at hv;refine dV hv (fK rfl (fK rfl (fK rfl fN))) (dE fun w123 hv => ?_);simp only [zP, po];refine tK k96 (rR ?_);refine bZ (tR ?_);refine bC 3 rswd38 hv rfl rfl rfl rfl (⟨G104, es108, Mk107, (.mk 1 s117 0 []), _, (hC.trans hG104), rfl, rpAt_leaf, hMk106.more (Base.Le.refl _), DoneR.keep (r0 := (.mk rk111 rs112 0 [])) hO hkp105 (.inr ⟨by omega, rfl⟩) (isF_k hrk113), ⟨fun h9 => by rw [hb70] at h9; exact absurd h9 (by decide), fun h9 => by rw [hb70] at h9; exact absurd h9 (by decide), fun h9 => by rw [hb70] at h9; exact absurd h9 (by decide)⟩, (hv.kp [1, 1] 2 3)⟩)
 refine uG (.bool false) rfl (ex_seql rfl rfl rfl (qF hb70)) (uA rfl ?_);refine uW k69 (cF rfl ?_);refine sK fun _ k124 => rL ?_
 by_cases hb125 : name = ([71, 69, 84, 68, 69, 76] : List UInt8)
 ·refine uG (.bool true) rfl (ex_seql rfl rfl rfl (qT hb125)) (uA rfl ?_)
  refine uW k124 (cT rfl ?_);refine sK fun _ k126 => ?_
  obtain ⟨hg1, hg2, hg3⟩ := ga (a := 1) (b := 1) (c := 1) hgr (by rw [hb125]; decide)
  obtain ⟨ab, ao, had, hrdkey⟩ := text_reads hra hkey
  subst had
  have halkey : 0 < args.length := (List.getElem?_eq_some_iff.1 hkey).1
  refine rT mixed (fun az wz => ∃ (C : Base) (y : Ver) (yp yt yz : Value) (ec : Int) (b132 : Nat), (B.Le C) ∧ (ValAt C y.val yp yt yz) ∧ (OfI M clk key 1 y ec) ∧ az = { tmps := List.toArray (.agg #[vP v, .slice (some ⟨ab, ao, none⟩) args.length ac] :: vS name :: vP b2 :: undef :: vP b4 :: .slice (some ⟨ab, ao, none⟩) args.length ac :: undef :: undef :: undef :: undef :: undef :: undef :: vP b132 :: vI ec :: .pointer (some ⟨b2, 1, none⟩) :: .slice (some ⟨ab, ao, none⟩) args.length ac :: vS name :: .bool false :: .bool false :: undef :: undef :: undef :: undef :: undef :: undef :: undef :: undef :: undef :: undef :: .bool false :: .bool false :: undef :: undef :: undef :: undef :: undef :: undef :: undef :: undef :: undef :: undef :: undef :: undef :: undef :: undef :: undef :: undef :: .bool false :: .bool false :: undef :: undef :: undef :: undef :: undef :: undef :: undef :: undef :: undef :: undef :: undef :: undef :: undef :: undef :: undef :: undef :: undef :: undef :: undef :: undef :: undef :: undef :: undef :: undef :: undef :: undef :: undef :: undef :: undef :: undef :: .bool false :: .bool false :: undef :: undef :: undef :: undef :: undef :: undef :: undef :: undef :: undef :: undef :: undef :: undef :: undef :: undef :: undef :: undef :: undef :: undef :: undef :: undef :: undef :: undef :: undef :: undef :: undef :: undef :: .bool true :: .bool true :: .tuple #[.agg #[vI y.stamp, .bool y.gone, vI y.expire, vI y.val.kind, vS y.val.text, yp, yt, yz], vI ec] :: vP b2 :: vP v :: .slice (some ⟨ab, ao, none⟩) args.length ac :: .pointer (some ⟨ab, ao + 0, none⟩) :: vS key :: .tuple #[.agg #[vI y.stamp, .bool y.gone, vI y.expire, vI y.val.kind, vS y.val.text, yp, yt, yz], vI ec] :: .agg #[vI y.stamp, .bool y.gone, vI y.expire, vI y.val.kind, vS y.val.text, yp, yt, yz] :: vI ec :: undef :: undef :: undef :: undef :: undef :: undef :: undef :: undef :: undef :: undef :: undef :: undef :: undef :: undef :: undef :: undef :: undef :: undef :: undef :: undef :: undef :: undef :: undef :: undef :: undef :: undef :: undef :: undef :: undef :: undef :: undef :: undef :: undef :: undef :: undef :: undef :: undef :: undef :: undef :: undef :: undef :: undef :: undef :: undef :: undef :: undef :: undef :: undef :: undef :: undef :: undef :: undef :: undef :: undef :: undef :: undef :: undef :: undef :: undef :: undef :: undef :: undef :: undef :: undef :: undef :: undef :: undef :: undef :: undef :: undef :: undef :: undef :: undef :: undef :: undef :: undef :: []), defers := [] } ∧ Inv C (Res.cell b132 [vI y.stamp, .bool y.gone, vI y.expire, vI y.val.kind, vS y.val.text, yp, yt, yz] 81 :: Res.cell v [.iface 52 (vP t)] 79 :: txR t m s p wb va vc sv clk es :: Res.cell b4 [vI 0, vS [], vI 0, vN] 38 :: Res.cell b2 [vP v, .slice (some ⟨ab, ao, none⟩) args.length ac] 72 :: H) wz) [5, 9, 10] [0,1,2,3,4] [6,7,8,9,10,11] [5,6,7,8,10,11] 5 9 194 rfl (by kernel_rfl) hv ?_ ?_
  ·intro R2 l1 l2 hR2 hl1 hl2
   simp only [qm, opAt];refine tG (vP b2) rfl (ex_field rfl rfl (cs0fa72_0 _ _ _)) (tF (vP v) rfl (fun hv => ex_load rfl rfl (run_load1 cs0na28 (hv.load 1 0 rfl rfl))) fun f127 hf127 => ?_);simp only [zP, po];refine tG (.slice (some ⟨ab, ao, none⟩) args.length ac) rfl (ex_move rfl rfl) (tG (.pointer (some ⟨ab, ao + 0, none⟩)) rfl (ex_index rfl rfl rfl (run_idx1 (k := 0) Tryz.underlying23 s9es23 (by omega))) ?_);simp only [zP, po];refine tF (vS key) rfl (fun hv => ex_load rfl rfl (run_load1 s9na9 (hrdkey _ _ _ (Base.Le.refl _) no_res hv 0 _ rfl))) fun f128 hf128 => ?_;simp only [zP, po];refine tB ?_ ?_
   ·rw [hl1]; clear hl1 hl2
    simp only [qm, opAt];refine dS rfl fun w129 hv => ?_;replace hv := hv.front 3 rfl;simp only [eS, eZ] at hv;replace hv := hv.front 3 rfl;simp only [eS, eZ] at hv;refine mC cs2callable44 rfl ((viewText B _ _ v t m s p wb va vc sv clk es M key (hM.more (Base.Le.refl _)) hv).mono ?_) rfl;rintro e w130 ⟨C, y, yp, yt, yz, ec, hC, rfl, hyv, hof, hv⟩;refine ⟨_, rfl, dV hv (fK rfl (fK rfl fN)) ?_⟩;refine dM (.tuple #[.agg #[vI y.stamp, .bool y.gone, vI y.expire, vI y.val.kind, vS y.val.text, yp, yt, yz], vI ec]) rfl (dG (.agg #[vI y.stamp, .bool y.gone, vI y.expire, vI y.val.kind, vS y.val.text, yp, yt, yz]) rfl (ex_extract rfl rfl rfl) ?_);simp only [zP, po];refine dG (vI ec) rfl (ex_extract rfl rfl rfl) (dS rfl fun w131 hv => ?_);refine mem_alloc rfl rfl hv cs8al81 (fun b132 w133 hv => ?_);refine dV hv (fC (fun ww hv => hf128 ww (ex_load rfl rfl (run_load1 s9na9 (hrdkey _ _ _ hC no_res hv 0 _ rfl)))) (fC (fun ww hv => hf127 ww (ex_load rfl rfl (run_load1 cs0na28 (hv.load 4 0 rfl rfl)))) fN)) (dS rfl fun w134 hv => ?_);refine mS 0 rfl hv x0sz81 rfl (by exact ⟨rfl, rfl, rfl, rfl, rfl, hyv.p.one, hyv.t.one, hyv.z.one, trivial⟩) (fun w135 hv => ?_);simp only [zO, sp] at hv;refine dV hv (fK rfl (fK rfl fN)) ?_;simp only [zP, po];refine dA (vI ec) rfl (dE fun wz hv => ?_);simp only [zP, po];exact hR2 _ _ ⟨C, y, yp, yt, yz, ec, b132, hC, hyv, hof, rfl, (((((hv.front 4 rfl).front 4 rfl).front 4 rfl).front 4 rfl).front 4 rfl)⟩
   rw [hl2]; clear hl1 hl2;simp only [qm, opAt];refine dS rfl fun w136 hv => mem_alloc rfl rfl hv cs8al81 (fun b137 w138 hv => ?_);refine dV hv (fC (fun ww hv => hf128 ww (ex_load rfl rfl (run_load1 s9na9 (hrdkey _ _ _ (Base.Le.refl _) no_res hv 0 _ rfl)))) (fC (fun ww hv => hf127 ww (ex_load rfl rfl (run_load1 cs0na28 (hv.load 2 0 rfl rfl)))) fN)) (dS rfl fun w139 hv => ?_);replace hv := hv.front 4 rfl;simp only [eS, eZ] at hv;replace hv := hv.front 4 rfl;simp only [eS, eZ] at hv;refine mC cs2callable44 rfl ((viewText B _ _ v t m s p wb va vc sv clk es M key (hM.more (Base.Le.refl _)) hv).mono ?_) rfl;rintro e w140 ⟨C, y, yp, yt, yz, ec, hC, rfl, hyv, hof, hv⟩;refine ⟨_, rfl, dV hv (fK rfl (fK rfl fN)) ?_⟩;refine dM (.tuple #[.agg #[vI y.stamp, .bool y.gone, vI y.expire, vI y.val.kind, vS y.val.text, yp, yt, yz], vI ec]) rfl ?_;simp only [zP, po];refine dG (.agg #[vI y.stamp, .bool y.gone, vI y.expire, vI y.val.kind, vS y.val.text, yp, yt, yz]) rfl (ex_extract rfl rfl rfl) (dG (vI ec) rfl (ex_extract rfl rfl rfl) ?_);refine dS rfl fun w141 hv => mS 2 rfl hv x0sz81 rfl (by exact ⟨rfl, rfl, rfl, rfl, rfl, hyv.p.one, hyv.t.one, hyv.z.one, trivial⟩) (fun w142 hv => ?_);simp only [zS, zO, sp] at hv;refine dV hv (fK rfl (fK rfl fN)) ?_;simp only [zP, po];refine dA (vI ec) rfl (dE fun wz hv => ?_);simp only [zP, po];exact hR2 _ _ ⟨C, y, yp, yt, yz, ec, b137, hC, hyv, hof, rfl, (((((hv.front 4 rfl).front 4 rfl).front 3 rfl).front 3 rfl).front 4 rfl)⟩
  rintro _ w143 ⟨C, y, yp, yt, yz, ec, b132, hC, hyv, hof, rfl, hv⟩
  obtain ⟨pa, pc, sa, sc, za, zc, rfl, rfl, rfl, hokp, hrp, hoks, hrs, hokz, hrz⟩ := valAt_open hyv
  refine tK k126 (sK fun _ k144 => ?_);refine sK fun _ k145 => rL (uM rfl ?_)
  by_cases hb146 : ec ≠ 0
  ·refine uG (.bool true) rfl (ex_neq rfl rfl rfl (qT hb146)) (uW k145 ?_)
   refine cT rfl (sK fun _ k147 => ?_);refine rL (uM rfl ?_);refine xC rscallable22 rfl ((viewWrong C _ _ ec hv).mono ?_) rfl;rintro e w149 ⟨s148, rfl, hv⟩;refine ⟨_, rfl, ?_⟩;simp only [zP, po];refine xS 3 rfl hv rssz38 rfl (by exact ⟨rfl, rfl, rfl, rfl, trivial⟩) (fun w150 hv => ?_);simp only [zS, zO, sp] at hv;refine uW k147 (rR ?_);refine tR (bZ ?_);refine tR (bC 3 rswd38 hv rfl rfl rfl rfl ?_);exact ⟨C, es, M, (.mk 1 s148 0 []), _, hC, rfl, rpAt_leaf, hM.more hC, ⟨hO, fun _ => rfl⟩, ⟨fun h9 => by rw [hb125] at h9; exact absurd h9 (by decide), fun h9 => by rw [hb125] at h9; exact absurd h9 (by decide), fun h9 => by rw [hb125] at h9; exact absurd h9 (by decide)⟩, (hv.kp [2, 2] 2 3)⟩
  refine uG (.bool false) rfl (ex_neq rfl rfl rfl (qF hb146)) (uW k145 ?_);refine cF rfl (kS ?_);refine tK k144 (sK fun _ k151 => ?_);refine rW mixed [4, 6, 7, 8] [0,1,2,3,5,4,6,7,8] 194 rfl (by kernel_rfl) hv ?_;simp only [qm, opAt];refine dL (.agg #[vP v, .slice (some ⟨ab, ao, none⟩) args.length ac]) rfl (fun hv => ex_load rfl rfl (lM 4 cs2wd72 hv rfl rfl rfl rfl)) (dM (.slice (some ⟨ab, ao, none⟩) args.length ac) rfl ?_);refine dG (.pointer (some ⟨ab, ao + 0, none⟩)) rfl (ex_index rfl rfl rfl (run_idx1 (k := 0) Tryz.underlying23 s9es23 (by omega))) ?_;simp only [zP, po];refine dL _ rfl (fun hv => ex_load rfl rfl (run_load1 s9na9 (hrdkey _ _ _ hC no_res hv 0 _ rfl))) (dF (.agg #[vI y.stamp, .bool y.gone, vI y.expire, vI y.val.kind, vS y.val.text, .slice pa y.val.pairs.length pc, .slice sa y.val.texts.length sc, .slice za y.val.zset.length zc]) rfl (fun hv => ex_load rfl rfl (lM 0 x0wd81 hv rfl rfl rfl rfl)) fun f152 hf152 => ?_);refine dS rfl fun w153 hv => ?_;replace hv := hv.front 2 rfl;simp only [eS, eZ] at hv;replace hv := hv.front 2 rfl;simp only [eS, eZ] at hv;refine mC cs4callable59 rfl ((cstrDrop C _ _ v t m s p wb va vc sv clk es M (hM.more hC) hO (some ⟨ab, ao, none⟩) args.length ac key hv).mono ?_) rfl;rintro e w159 ⟨G154, es158, Mk156, hG154, rfl, hMk155, hOk157, hv⟩;refine ⟨_, rfl, dV hv (fC (fun ww hv => hf152 ww ?_) fN) ?_⟩
  ·exact ex_load rfl rfl (lM 2 x0wd81 hv rfl rfl rfl rfl)
  simp only [zP, po];refine dS rfl fun w160 hv => mC cs2callable46 rfl ((cstrReply G154 _ _ y.stamp y.gone y.expire y.val.kind y.val.text pa y.val.pairs.length pc sa y.val.texts.length sc za y.val.zset.length zc hv).mono ?_) rfl;rintro e w164 ⟨rk161, rs162, rfl, hrk163, hv⟩;refine ⟨_, rfl, dV hv (fK rfl fN) ?_⟩;refine dS rfl fun w165 hv => mC cs2callable45 rfl ((viewDone G154 _ _ 0 rk161 0 rs162 (vN) rfl rfl hv).mono ?_) rfl;rintro e w166 ⟨xr, hxr, rfl, hv⟩
  obtain rfl : xr = .agg #[vI rk161, vS rs162, vI 0, vN] := hxr.elim (fun h => h.2) (fun h => absurd rfl h.1)
  refine ⟨_, rfl, dV hv (fK rfl fN) ?_⟩;refine dS rfl fun w167 hv => mS 3 rfl hv rssz38 rfl (by exact ⟨rfl, rfl, rfl, rfl, trivial⟩) (fun w168 hv => ?_);simp only [zS, zO, sp] at hv;refine dV hv (fK rfl fN) (dE fun w169 hv => ?_);simp only [zP, po];refine tK k151 (rR ?_);refine bZ (tR ?_);refine bC 3 rswd38 hv rfl rfl rfl rfl (⟨G154, es158, Mk156, (.mk rk161 rs162 0 []), _, (hC.trans hG154), rfl, rpAt_leaf, hMk155.more (Base.Le.refl _), ⟨hOk157, fun h9 => absurd h9 (isF_k hrk163)⟩, ⟨fun h9 => by rw [hb125] at h9; exact absurd h9 (by decide), fun h9 => by rw [hb125] at h9; exact absurd h9 (by decide), fun h9 => by rw [hb125] at h9; exact absurd h9 (by decide)⟩, (hv.kp [1, 1] 2 3)⟩)
 refine uG (.bool false) rfl (ex_seql rfl rfl rfl (qF hb125)) (uA rfl ?_);refine uW k124 (cF rfl ?_);refine sK fun _ k170 => rL ?_
 by_cases hb171 : name = ([71, 69, 84, 69, 88] : List UInt8)
 ·refine uG (.bool true) rfl (ex_seql rfl rfl rfl (qT hb171)) (uA rfl ?_)
  refine uW k170 (cT rfl ?_);refine sK fun _ k172 => ?_
  obtain ⟨hg1, hg2, hg3⟩ := ga (a := 1) (b := (-1)) (c := 1) hgr (by rw [hb171]; decide)
  obtain ⟨ab, ao, had, hrdkey⟩ := text_reads hra hkey
  subst had
  have halkey : 0 < args.length := (List.getElem?_eq_some_iff.1 hkey).1
  refine rW mixed [6, 7] [0,1,2,3,4,5,6,7] 194 rfl (by kernel_rfl) hv ?_;simp only [qm, opAt];refine dL (.agg #[vP v, .slice (some ⟨ab, ao, none⟩) args.length ac]) rfl (fun hv => ex_load rfl rfl (lM 1 cs2wd72 hv rfl rfl rfl rfl)) (dM (.slice (some ⟨ab, ao, none⟩) args.length ac) rfl ?_);refine dG (.pointer (some ⟨ab, ao + 0, none⟩)) rfl (ex_index rfl rfl rfl (run_idx1 (k := 0) Tryz.underlying23 s9es23 (by omega))) ?_;simp only [zP, po];refine dL _ rfl (fun hv => ex_load rfl rfl (run_load1 s9na9 (hrdkey _ _ _ (Base.Le.refl _) no_res hv 0 _ rfl))) (dM (.slice (some ⟨ab, ao, none⟩) args.length ac) rfl ?_);refine dG (.slice a3 ((args.drop 1).length) c3) rfl (ex_slice (lo' := some (vI ((1 : Nat) : Int))) rfl rfl (congrArg some rfl) rfl rfl ((run_fromAny Tryz.underlying23 s9es23 (by omega)).trans (by rw [ha3, hd1]))) ?_;simp only [zP, po];refine dS rfl fun w173 hv => ?_;replace hv := hv.front 3 rfl;simp only [eS, eZ] at hv;replace hv := hv.front 3 rfl;simp only [eS, eZ] at hv;refine mC cs8callable60 rfl ((cstrGetex B _ _ v t m s p wb va vc sv clk es M hM hO h0c h1c (some ⟨ab, ao, none⟩) args.length ac key a3 c3 (args.drop 1) hr3 (by omega) (fun x hx => hxl x (List.mem_of_mem_drop hx)) hN hv).mono ?_) rfl;rintro e w174 ⟨D, es', M', r, cs, hD, rfl, hrpl, hM', hcmd, hv⟩
  obtain ⟨rk, rs, rn, rv, rfl⟩ := rp_parts2 hrpl
  refine ⟨_, rfl, dW hv ?_⟩;refine dS rfl fun w175 hv => mS 2 rfl hv rssz38 rfl (by exact ⟨rfl, rfl, rfl, hrpl.lv.2, trivial⟩) (fun w176 hv => ?_);simp only [zS, zO, sp] at hv;refine dW hv (dE fun w177 hv => ?_);simp only [zP, po];refine tK k172 (rR ?_);refine bZ (tR ?_);refine bC 2 rswd38 hv rfl rfl rfl rfl (⟨D, es', M', r, _, hD, rfl, hrpl, hM', hcmd, ⟨fun h9 => by rw [hb171] at h9; exact absurd h9 (by decide), fun h9 => by rw [hb171] at h9; exact absurd h9 (by decide), fun h9 => by rw [hb171] at h9; exact absurd h9 (by decide)⟩, (hv.kp [1, 1] 2 2)⟩)
 refine uG (.bool false) rfl (ex_seql rfl rfl rfl (qF hb171)) (uA rfl ?_);refine uW k170 (cF rfl ?_);refine sK fun _ k178 => rL ?_
 by_cases hb179 : name = ([77, 83, 69, 84] : List UInt8)
 ·refine uG (.bool true) rfl (ex_seql rfl rfl rfl (qT hb179)) (uA rfl ?_)
  refine uW k178 (cT rfl ?_);refine sK fun _ k180 => ?_
  obtain ⟨hg1, hg2, hg3⟩ := ga (a := 2) (b := (-1)) (c := 2) hgr (by rw [hb179]; decide)
  refine rL (uL (.agg #[vP v, .slice aa args.length ac]) rfl (lM 1 cs2wd72 hv rfl rfl rfl rfl) ?_);refine uM rfl ?_;replace hv := hv.front 3 rfl;simp only [eS, eZ] at hv;replace hv := hv.front 3 rfl;simp only [eS, eZ] at hv;refine xC cs3callable61 rfl ((cstrMset B _ _ v t m s p wb va vc sv clk es M hM hO aa args.length ac aa ac args hra (by omega) (by have := tmod2 hg3 hg1; omega) hv).mono ?_) rfl;rintro e w181 ⟨D, es', M', me, hD, rfl, hM', hO', hme, hv⟩;refine ⟨_, rfl, ?_⟩;simp only [zP, po];refine xC cs2callable57 rfl ((respText D _ _ ([79, 75] : List UInt8) hv).mono ?_) rfl;rintro e w182 ⟨rfl, hv⟩;refine ⟨_, rfl, ?_⟩;simp only [zP, po];refine xC cs2callable45 rfl ((viewDone D _ _ me 0 0 ([79, 75] : List UInt8) (vN) rfl rfl hv).mono ?_) rfl;rintro e w183 ⟨xr, hxr, rfl, hv⟩;refine ⟨_, rfl, ?_⟩
  rcases hxr with ⟨hec0, rfl⟩ | ⟨hec0, s184, rfl⟩
  ·simp only [zP, po]
   refine xS 2 rfl hv rssz38 rfl (by exact ⟨rfl, rfl, rfl, rfl, trivial⟩) (fun w185 hv => ?_);simp only [zS, zO, sp] at hv;refine uW k180 (rR ?_);refine bZ (tR ?_);refine bC 2 rswd38 hv rfl rfl rfl rfl (⟨D, es', M', (.mk 0 ([79, 75] : List UInt8) 0 []), _, hD, rfl, rpAt_leaf, hM'.more (Base.Le.refl _), ⟨hO', fun h9 => absurd h9 isF_text⟩, ⟨fun h9 => by rw [hb179] at h9; exact absurd h9 (by decide), fun h9 => by rw [hb179] at h9; exact absurd h9 (by decide), fun h9 => by rw [hb179] at h9; exact absurd h9 (by decide)⟩, (hv.kp [1, 1] 2 2)⟩)
  simp only [zP, po];refine xS 2 rfl hv rssz38 rfl (by exact ⟨rfl, rfl, rfl, rfl, trivial⟩) (fun w186 hv => ?_);simp only [zS, zO, sp] at hv;refine uW k180 (rR ?_);refine bZ (tR ?_);refine bC 2 rswd38 hv rfl rfl rfl rfl (⟨D, es', M', (.mk 1 s184 0 []), _, hD, rfl, rpAt_leaf, hM'.more (Base.Le.refl _), ⟨hO', fun _ => hme (by omega)⟩, ⟨fun h9 => by rw [hb179] at h9; exact absurd h9 (by decide), fun h9 => by rw [hb179] at h9; exact absurd h9 (by decide), fun h9 => by rw [hb179] at h9; exact absurd h9 (by decide)⟩, (hv.kp [1, 1] 2 2)⟩)
 refine uG (.bool false) rfl (ex_seql rfl rfl rfl (qF hb179)) (uA rfl ?_);refine uW k178 (cF rfl ?_);refine sK fun _ k187 => rL ?_
 by_cases hb188 : name = ([77, 83, 69, 84, 78, 88] : List UInt8)
 ·refine uG (.bool true) rfl (ex_seql rfl rfl rfl (qT hb188)) (uA rfl ?_)
  refine uW k187 (cT rfl ?_);refine sK fun _ k189 => ?_
  obtain ⟨hg1, hg2, hg3⟩ := ga (a := 2) (b := (-1)) (c := 2) hgr (by rw [hb188]; decide)
  refine rL (uL (.agg #[vP v, .slice aa args.length ac]) rfl (lM 1 cs2wd72 hv rfl rfl rfl rfl) ?_);refine uM rfl ?_;replace hv := hv.front 3 rfl;simp only [eS, eZ] at hv;replace hv := hv.front 3 rfl;simp only [eS, eZ] at hv;refine xC cs8callable62 rfl ((cstrMsetnx B _ _ v t m s p wb va vc sv clk es M hM hO aa args.length ac aa ac args hra (by omega) (by have := tmod2 hg3 hg1; omega) hv).mono ?_) rfl;rintro e w190 ⟨D, es', M', r, cs, hD, rfl, hrpl, hM', hcmd, hv⟩;refine ⟨_, rfl, ?_⟩
  obtain ⟨rk, rs, rn, rv, rfl⟩ := rp_parts2 hrpl
  simp only [zP, po];refine xS 2 rfl hv rssz38 rfl (by exact ⟨rfl, rfl, rfl, hrpl.lv.2, trivial⟩) (fun w191 hv => ?_);simp only [zS, zO, sp] at hv;refine uW k189 (rR ?_);refine bZ (tR ?_);refine bC 2 rswd38 hv rfl rfl rfl rfl (⟨D, es', M', r, _, hD, rfl, hrpl, hM', hcmd, ⟨fun h9 => by rw [hb188] at h9; exact absurd h9 (by decide), fun h9 => by rw [hb188] at h9; exact absurd h9 (by decide), fun h9 => by rw [hb188] at h9; exact absurd h9 (by decide)⟩, (hv.kp [1, 1] 2 2)⟩)
 refine uG (.bool false) rfl (ex_seql rfl rfl rfl (qF hb188)) (uA rfl ?_);refine uW k187 (cF rfl ?_);refine sK fun _ k192 => rL ?_
 by_cases hb193 : name = ([65, 80, 80, 69, 78, 68] : List UInt8)
 ·refine uG (.bool true) rfl (ex_seql rfl rfl rfl (qT hb193)) (uA rfl ?_)
  refine uW k192 (cT rfl ?_);refine sK fun _ k194 => ?_
  obtain ⟨hg1, hg2, hg3⟩ := ga (a := 2) (b := 2) (c := 1) hgr (by rw [hb193]; decide)
  obtain ⟨x1, hx1⟩ : ∃ k, args[1]? = some k := ⟨_, List.getElem?_eq_getElem (show 1 < args.length by omega)⟩
  obtain ⟨ab, ao, had, hrdkey⟩ := text_reads hra hkey
  subst had
  have halkey : 0 < args.length := (List.getElem?_eq_some_iff.1 hkey).1
  obtain ⟨ab9, ao9, had9, hrdx1⟩ := text_reads hra hx1
  cases had9
  have halx1 : 1 < args.length := (List.getElem?_eq_some_iff.1 hx1).1
  refine rW mixed [7, 8] [0,1,2,3,4,5,6,7,8] 194 rfl (by kernel_rfl) hv ?_;simp only [qm, opAt];refine dL (.agg #[vP v, .slice (some ⟨ab, ao, none⟩) args.length ac]) rfl (fun hv => ex_load rfl rfl (lM 1 cs2wd72 hv rfl rfl rfl rfl)) (dM (.slice (some ⟨ab, ao, none⟩) args.length ac) rfl ?_);refine dG (.pointer (some ⟨ab, ao + 0, none⟩)) rfl (ex_index rfl rfl rfl (run_idx1 (k := 0) Tryz.underlying23 s9es23 (by omega))) ?_;simp only [zP, po];refine dL _ rfl (fun hv => ex_load rfl rfl (run_load1 s9na9 (hrdkey _ _ _ (Base.Le.refl _) no_res hv 0 _ rfl))) (dM (.slice (some ⟨ab, ao, none⟩) args.length ac) rfl ?_);refine dG (.pointer (some ⟨ab, ao + 1, none⟩)) rfl (ex_index rfl rfl rfl (run_idx1 (k := 1) Tryz.underlying23 s9es23 (by omega))) ?_;simp only [zP, po];refine dL _ rfl (fun hv => ex_load rfl rfl (run_load1 s9na9 (hrdx1 _ _ _ (Base.Le.refl _) no_res hv 0 _ rfl))) (dS rfl fun w195 hv => ?_);replace hv := hv.front 3 rfl;simp only [eS, eZ] at hv;replace hv := hv.front 3 rfl;simp only [eS, eZ] at hv;refine mC cs8callable63 rfl ((cstrExtend B _ _ v t m s p wb va vc sv clk es M hM hO (some ⟨ab, ao, none⟩) args.length ac key x1 (hx6 x1 (List.mem_of_getElem? hx1)) hv).mono ?_) rfl;rintro e w196 ⟨D, es', M', r, cs, hD, rfl, hrpl, hM', ⟨hcmd, hrel⟩, hv⟩
  obtain ⟨rk, rs, rn, rv, rfl⟩ := rp_parts2 hrpl
  refine ⟨_, rfl, dW hv ?_⟩;refine dS rfl fun w197 hv => mS 2 rfl hv rssz38 rfl (by exact ⟨rfl, rfl, rfl, hrpl.lv.2, trivial⟩) (fun w198 hv => ?_);simp only [zS, zO, sp] at hv;refine dW hv (dE fun w199 hv => ?_);simp only [zP, po];refine tK k194 (rR ?_);refine bZ (tR ?_);refine bC 2 rswd38 hv rfl rfl rfl rfl (⟨D, es', M', r, _, hD, rfl, hrpl, hM', hcmd, ⟨fun h9 => by rw [hb193] at h9; exact absurd h9 (by decide), fun h9 => by rw [hb193] at h9; exact absurd h9 (by decide), fun _ => ⟨key, x1, hkey, hx1, hrel⟩⟩, (hv.kp [1, 1] 2 2)⟩)
 refine uG (.bool false) rfl (ex_seql rfl rfl rfl (qF hb193)) (uA rfl ?_);refine uW k192 (cF rfl ?_);refine sK fun _ k200 => rL ?_
 by_cases hb201 : name = ([83, 69, 84, 82, 65, 78, 71, 69] : List UInt8)
 ·refine uG (.bool true) rfl (ex_seql rfl rfl rfl (qT hb201)) (uA rfl ?_)
  refine uW k200 (cT rfl ?_);refine sK fun _ k202 => ?_
  obtain ⟨hg1, hg2, hg3⟩ := ga (a := 3) (b := 3) (c := 1) hgr (by rw [hb201]; decide)
  obtain ⟨x1, hx1⟩ : ∃ k, args[1]? = some k := ⟨_, List.getElem?_eq_getElem (show 1 < args.length by omega)⟩
  obtain ⟨x2, hx2⟩ : ∃ k, args[2]? = some k := ⟨_, List.getElem?_eq_getElem (show 2 < args.length by omega)⟩
  refine rL (uL (.agg #[vP v, .slice aa args.length ac]) rfl (lM 1 cs2wd72 hv rfl rfl rfl rfl) ?_);replace hv := hv.front 3 rfl;simp only [eS, eZ] at hv;replace hv := hv.front 3 rfl;simp only [eS, eZ] at hv;refine xC cs8callable64 rfl ((cstrSetrange B _ _ v t m s p wb va vc sv clk es M hM hO aa ac args hra hoka (by omega) key hkey hN x1 hx1 x2 hx2 hxl hv).mono ?_) rfl;rintro e w203 ⟨D, es', M', r, cs, hD, rfl, hrpl, hM', hcmd, hv⟩;refine ⟨_, rfl, ?_⟩
  obtain ⟨rk, rs, rn, rv, rfl⟩ := rp_parts2 hrpl
  simp only [zP, po];refine xS 2 rfl hv rssz38 rfl (by exact ⟨rfl, rfl, rfl, hrpl.lv.2, trivial⟩) (fun w204 hv => ?_);simp only [zS, zO, sp] at hv;refine uW k202 (rR ?_);refine bZ (tR ?_);refine bC 2 rswd38 hv rfl rfl rfl rfl (⟨D, es', M', r, _, hD, rfl, hrpl, hM', hcmd, ⟨fun h9 => by rw [hb201] at h9; exact absurd h9 (by decide), fun h9 => by rw [hb201] at h9; exact absurd h9 (by decide), fun h9 => by rw [hb201] at h9; exact absurd h9 (by decide)⟩, (hv.kp [1, 1] 2 2)⟩)
 refine uG (.bool false) rfl (ex_seql rfl rfl rfl (qF hb201)) (uA rfl ?_);refine uW k200 (cF rfl ?_);refine sK fun _ k205 => sK fun _ k206 => rL ?_
 by_cases hb207 : name = ([73, 78, 67, 82] : List UInt8)
 ·refine uG (.bool true) rfl (ex_seql rfl rfl rfl (qT hb207)) (uA rfl ?_)
  refine uW k206 (cT rfl ?_);refine kS (tK k205 ?_);refine cT rfl (sK fun _ k208 => ?_)
  obtain ⟨hg1, hg2, hg3⟩ := ga (a := 1) (b := 1) (c := 1) hgr (by rw [hb207]; decide)
  obtain ⟨ab, ao, had, hrdkey⟩ := text_reads hra hkey
  subst had
  have halkey : 0 < args.length := (List.getElem?_eq_some_iff.1 hkey).1
  have hdn : args.drop 1 = [] := List.eq_nil_of_length_eq_zero (by omega)
  refine rW mixed [9, 10] [0,1,2,3,4,5,6,7,8,9,10] 194 rfl (by kernel_rfl) hv ?_;simp only [qm, opAt];refine dL (.agg #[vP v, .slice (some ⟨ab, ao, none⟩) args.length ac]) rfl (fun hv => ex_load rfl rfl (lM 1 cs2wd72 hv rfl rfl rfl rfl)) (dM (.slice (some ⟨ab, ao, none⟩) args.length ac) rfl ?_);refine dG (.pointer (some ⟨ab, ao + 0, none⟩)) rfl (ex_index rfl rfl rfl (run_idx1 (k := 0) Tryz.underlying23 s9es23 (by omega))) ?_;simp only [zP, po];refine dL _ rfl (fun hv => ex_load rfl rfl (run_load1 s9na9 (hrdkey _ _ _ (Base.Le.refl _) no_res hv 0 _ rfl))) (dM (vS name) rfl ?_);refine dG (.int .u8 73) rfl (ex_sidx0 (i := 0) (c := 73) Tryz.underlying9 rfl rfl rfl (by rw [hb207]; rfl)) ?_;simp only [zP, po];refine dG (.bool false) rfl (ex_eql rfl rfl rfl (by decide)) (dM (.slice (some ⟨ab, ao, none⟩) args.length ac) rfl ?_);refine dG (.slice a3 ((args.drop 1).length) c3) rfl (ex_slice (lo' := some (vI ((1 : Nat) : Int))) rfl rfl (congrArg some rfl) rfl rfl ((run_fromAny Tryz.underlying23 s9es23 (by omega)).trans (by rw [ha3, hd1]))) ?_;simp only [zP, po];refine dS rfl fun w209 hv => ?_;replace hv := hv.front 3 rfl;simp only [eS, eZ] at hv;replace hv := hv.front 3 rfl;simp only [eS, eZ] at hv;refine mC cs8callable65 rfl ((cstrCount B _ _ v t m s p wb va vc sv clk es M hM hO (some ⟨ab, ao, none⟩) args.length ac key false a3 c3 (args.drop 1) hr3 (by omega) hN hv).mono ?_) rfl;rintro e w210 ⟨D, es', M', r, cs, hD, rfl, hrpl, hM', ⟨hcmd, hrel⟩, hv⟩
  obtain ⟨rk, rs, rn, rv, rfl⟩ := rp_parts2 hrpl
  refine ⟨_, rfl, dW hv ?_⟩;refine dS rfl fun w211 hv => mS 2 rfl hv rssz38 rfl (by exact ⟨rfl, rfl, rfl, hrpl.lv.2, trivial⟩) (fun w212 hv => ?_);simp only [zS, zO, sp] at hv;refine dW hv (dE fun w213 hv => ?_);simp only [zP, po];refine tK k208 (rR ?_);refine bZ (tR ?_);refine bC 2 rswd38 hv rfl rfl rfl rfl (⟨D, es', M', r, _, hD, rfl, hrpl, hM', hcmd, ⟨fun h9 => by rw [hb207] at h9; exact absurd h9 (by decide), fun _ => ⟨key, hkey, hrel rfl hdn⟩, fun h9 => by rw [hb207] at h9; exact absurd h9 (by decide)⟩, (hv.kp [1, 1] 2 2)⟩)
 refine uG (.bool false) rfl (ex_seql rfl rfl rfl (qF hb207)) (uA rfl ?_);refine uW k206 (cF rfl ?_);refine sK fun _ k214 => rL ?_
 by_cases hb215 : name = ([68, 69, 67, 82] : List UInt8)
 ·refine uG (.bool true) rfl (ex_seql rfl rfl rfl (qT hb215)) (uA rfl ?_)
  refine uW k214 (cT rfl ?_);refine kS (tK k205 ?_);refine cT rfl (sK fun _ k216 => ?_)
  obtain ⟨hg1, hg2, hg3⟩ := ga (a := 1) (b := 1) (c := 1) hgr (by rw [hb215]; decide)
  obtain ⟨ab, ao, had, hrdkey⟩ := text_reads hra hkey
  subst had
  have halkey : 0 < args.length := (List.getElem?_eq_some_iff.1 hkey).1
  refine rW mixed [9, 10] [0,1,2,3,4,5,6,7,8,9,10] 194 rfl (by kernel_rfl) hv ?_;simp only [qm, opAt];refine dL (.agg #[vP v, .slice (some ⟨ab, ao, none⟩) args.length ac]) rfl (fun hv => ex_load rfl rfl (lM 1 cs2wd72 hv rfl rfl rfl rfl)) (dM (.slice (some ⟨ab, ao, none⟩) args.length ac) rfl ?_);refine dG (.pointer (some ⟨ab, ao + 0, none⟩)) rfl (ex_index rfl rfl rfl (run_idx1 (k := 0) Tryz.underlying23 s9es23 (by omega))) ?_;simp only [zP, po];refine dL _ rfl (fun hv => ex_load rfl rfl (run_load1 s9na9 (hrdkey _ _ _ (Base.Le.refl _) no_res hv 0 _ rfl))) (dM (vS name) rfl ?_);refine dG (.int .u8 68) rfl (ex_sidx0 (i := 0) (c := 68) Tryz.underlying9 rfl rfl rfl (by rw [hb215]; rfl)) ?_;simp only [zP, po];refine dG (.bool true) rfl (ex_eql rfl rfl rfl (by decide)) (dM (.slice (some ⟨ab, ao, none⟩) args.length ac) rfl ?_);refine dG (.slice a3 ((args.drop 1).length) c3) rfl (ex_slice (lo' := some (vI ((1 : Nat) : Int))) rfl rfl (congrArg some rfl) rfl rfl ((run_fromAny Tryz.underlying23 s9es23 (by omega)).trans (by rw [ha3, hd1]))) ?_;simp only [zP, po];refine dS rfl fun w217 hv => ?_;replace hv := hv.front 3 rfl;simp only [eS, eZ] at hv;replace hv := hv.front 3 rfl;simp only [eS, eZ] at hv;refine mC cs8callable65 rfl ((cstrCount B _ _ v t m s p wb va vc sv clk es M hM hO (some ⟨ab, ao, none⟩) args.length ac key true a3 c3 (args.drop 1) hr3 (by omega) hN hv).mono ?_) rfl;rintro e w218 ⟨D, es', M', r, cs, hD, rfl, hrpl, hM', ⟨hcmd, hrel⟩, hv⟩
  obtain ⟨rk, rs, rn, rv, rfl⟩ := rp_parts2 hrpl
  refine ⟨_, rfl, dW hv ?_⟩;refine dS rfl fun w219 hv => mS 2 rfl hv rssz38 rfl (by exact ⟨rfl, rfl, rfl, hrpl.lv.2, trivial⟩) (fun w220 hv => ?_);simp only [zS, zO, sp] at hv;refine dW hv (dE fun w221 hv => ?_);simp only [zP, po];refine tK k216 (rR ?_);refine bZ (tR ?_);refine bC 2 rswd38 hv rfl rfl rfl rfl (⟨D, es', M', r, _, hD, rfl, hrpl, hM', hcmd, ⟨fun h9 => by rw [hb215] at h9; exact absurd h9 (by decide), fun h9 => by rw [hb215] at h9; exact absurd h9 (by decide), fun h9 => by rw [hb215] at h9; exact absurd h9 (by decide)⟩, (hv.kp [1, 1] 2 2)⟩)
 refine uG (.bool false) rfl (ex_seql rfl rfl rfl (qF hb215)) (uA rfl ?_);refine uW k214 (cF rfl ?_);refine sK fun _ k222 => rL ?_
 by_cases hb223 : name = ([73, 78, 67, 82, 66, 89] : List UInt8)
 ·refine uG (.bool true) rfl (ex_seql rfl rfl rfl (qT hb223)) (uA rfl ?_)
  refine uW k222 (cT rfl ?_);refine kS (tK k205 ?_);refine cT rfl (sK fun _ k224 => ?_)
  obtain ⟨hg1, hg2, hg3⟩ := ga (a := 2) (b := 2) (c := 1) hgr (by rw [hb223]; decide)
  obtain ⟨ab, ao, had, hrdkey⟩ := text_reads hra hkey
  subst had
  have halkey : 0 < args.length := (List.getElem?_eq_some_iff.1 hkey).1
  refine rW mixed [9, 10] [0,1,2,3,4,5,6,7,8,9,10] 194 rfl (by kernel_rfl) hv ?_;simp only [qm, opAt];refine dL (.agg #[vP v, .slice (some ⟨ab, ao, none⟩) args.length ac]) rfl (fun hv => ex_load rfl rfl (lM 1 cs2wd72 hv rfl rfl rfl rfl)) (dM (.slice (some ⟨ab, ao, none⟩) args.length ac) rfl ?_);refine dG (.pointer (some ⟨ab, ao + 0, none⟩)) rfl (ex_index rfl rfl rfl (run_idx1 (k := 0) Tryz.underlying23 s9es23 (by omega))) ?_;simp only [zP, po];refine dL _ rfl (fun hv => ex_load rfl rfl (run_load1 s9na9 (hrdkey _ _ _ (Base.Le.refl _) no_res hv 0 _ rfl))) (dM (vS name) rfl ?_);refine dG (.int .u8 73) rfl (ex_sidx0 (i := 0) (c := 73) Tryz.underlying9 rfl rfl rfl (by rw [hb223]; rfl)) ?_;simp only [zP, po];refine dG (.bool false) rfl (ex_eql rfl rfl rfl (by decide)) (dM (.slice (some ⟨ab, ao, none⟩) args.length ac) rfl ?_);refine dG (.slice a3 ((args.drop 1).length) c3) rfl (ex_slice (lo' := some (vI ((1 : Nat) : Int))) rfl rfl (congrArg some rfl) rfl rfl ((run_fromAny Tryz.underlying23 s9es23 (by omega)).trans (by rw [ha3, hd1]))) ?_;simp only [zP, po];refine dS rfl fun w225 hv => ?_;replace hv := hv.front 3 rfl;simp only [eS, eZ] at hv;replace hv := hv.front 3 rfl;simp only [eS, eZ] at hv;refine mC cs8callable65 rfl ((cstrCount B _ _ v t m s p wb va vc sv clk es M hM hO (some ⟨ab, ao, none⟩) args.length ac key false a3 c3 (args.drop 1) hr3 (by omega) hN hv).mono ?_) rfl;rintro e w226 ⟨D, es', M', r, cs, hD, rfl, hrpl, hM', ⟨hcmd, hrel⟩, hv⟩
  obtain ⟨rk, rs, rn, rv, rfl⟩ := rp_parts2 hrpl
  refine ⟨_, rfl, dW hv ?_⟩;refine dS rfl fun w227 hv => mS 2 rfl hv rssz38 rfl (by exact ⟨rfl, rfl, rfl, hrpl.lv.2, trivial⟩) (fun w228 hv => ?_);simp only [zS, zO, sp] at hv;refine dW hv (dE fun w229 hv => ?_);simp only [zP, po];refine tK k224 (rR ?_);refine bZ (tR ?_);refine bC 2 rswd38 hv rfl rfl rfl rfl (⟨D, es', M', r, _, hD, rfl, hrpl, hM', hcmd, ⟨fun h9 => by rw [hb223] at h9; exact absurd h9 (by decide), fun h9 => by rw [hb223] at h9; exact absurd h9 (by decide), fun h9 => by rw [hb223] at h9; exact absurd h9 (by decide)⟩, (hv.kp [1, 1] 2 2)⟩)
 refine uG (.bool false) rfl (ex_seql rfl rfl rfl (qF hb223)) (uA rfl ?_);refine uW k222 (cF rfl ?_);refine rL ?_
 by_cases hb230 : name = ([68, 69, 67, 82, 66, 89] : List UInt8)
 ·refine uG (.bool true) rfl (ex_seql rfl rfl rfl (qT hb230)) (uA rfl ?_)
  refine uW k205 (cT rfl ?_);refine sK fun _ k231 => ?_
  obtain ⟨hg1, hg2, hg3⟩ := ga (a := 2) (b := 2) (c := 1) hgr (by rw [hb230]; decide)
  obtain ⟨ab, ao, had, hrdkey⟩ := text_reads hra hkey
  subst had
  have halkey : 0 < args.length := (List.getElem?_eq_some_iff.1 hkey).1
  refine rW mixed [9, 10] [0,1,2,3,4,5,6,7,8,9,10] 194 rfl (by kernel_rfl) hv ?_;simp only [qm, opAt];refine dL (.agg #[vP v, .slice (some ⟨ab, ao, none⟩) args.length ac]) rfl (fun hv => ex_load rfl rfl (lM 1 cs2wd72 hv rfl rfl rfl rfl)) (dM (.slice (some ⟨ab, ao, none⟩) args.length ac) rfl ?_);refine dG (.pointer (some ⟨ab, ao + 0, none⟩)) rfl (ex_index rfl rfl rfl (run_idx1 (k := 0) Tryz.underlying23 s9es23 (by omega))) ?_;simp only [zP, po];refine dL _ rfl (fun hv => ex_load rfl rfl (run_load1 s9na9 (hrdkey _ _ _ (Base.Le.refl _) no_res hv 0 _ rfl))) (dM (vS name) rfl ?_);refine dG (.int .u8 68) rfl (ex_sidx0 (i := 0) (c := 68) Tryz.underlying9 rfl rfl rfl (by rw [hb230]; rfl)) ?_;simp only [zP, po];refine dG (.bool true) rfl (ex_eql rfl rfl rfl (by decide)) (dM (.slice (some ⟨ab, ao, none⟩) args.length ac) rfl ?_);refine dG (.slice a3 ((args.drop 1).length) c3) rfl (ex_slice (lo' := some (vI ((1 : Nat) : Int))) rfl rfl (congrArg some rfl) rfl rfl ((run_fromAny Tryz.underlying23 s9es23 (by omega)).trans (by rw [ha3, hd1]))) ?_;simp only [zP, po];refine dS rfl fun w232 hv => ?_;replace hv := hv.front 3 rfl;simp only [eS, eZ] at hv;replace hv := hv.front 3 rfl;simp only [eS, eZ] at hv;refine mC cs8callable65 rfl ((cstrCount B _ _ v t m s p wb va vc sv clk es M hM hO (some ⟨ab, ao, none⟩) args.length ac key true a3 c3 (args.drop 1) hr3 (by omega) hN hv).mono ?_) rfl;rintro e w233 ⟨D, es', M', r, cs, hD, rfl, hrpl, hM', ⟨hcmd, hrel⟩, hv⟩
  obtain ⟨rk, rs, rn, rv, rfl⟩ := rp_parts2 hrpl
  refine ⟨_, rfl, dW hv ?_⟩;refine dS rfl fun w234 hv => mS 2 rfl hv rssz38 rfl (by exact ⟨rfl, rfl, rfl, hrpl.lv.2, trivial⟩) (fun w235 hv => ?_);simp only [zS, zO, sp] at hv;refine dW hv (dE fun w236 hv => ?_);simp only [zP, po];refine tK k231 (rR ?_);refine bZ (tR ?_);refine bC 2 rswd38 hv rfl rfl rfl rfl (⟨D, es', M', r, _, hD, rfl, hrpl, hM', hcmd, ⟨fun h9 => by rw [hb230] at h9; exact absurd h9 (by decide), fun h9 => by rw [hb230] at h9; exact absurd h9 (by decide), fun h9 => by rw [hb230] at h9; exact absurd h9 (by decide)⟩, (hv.kp [1, 1] 2 2)⟩)
 refine uG (.bool false) rfl (ex_seql rfl rfl rfl (qF hb230)) (uA rfl ?_);refine uW k205 (cF rfl ?_);refine sK fun _ k237 => rL ?_
 by_cases hb238 : name = ([83, 69, 84, 66, 73, 84] : List UInt8)
 ·refine uG (.bool true) rfl (ex_seql rfl rfl rfl (qT hb238)) (uA rfl ?_)
  refine uW k237 (cT rfl ?_);refine sK fun _ k239 => ?_
  obtain ⟨hg1, hg2, hg3⟩ := ga (a := 3) (b := 3) (c := 1) hgr (by rw [hb238]; decide)
  refine rL (uL (.agg #[vP v, .slice aa args.length ac]) rfl (lM 1 cs2wd72 hv rfl rfl rfl rfl) ?_);replace hv := hv.front 3 rfl;simp only [eS, eZ] at hv;replace hv := hv.front 3 rfl;simp only [eS, eZ] at hv;refine xC cs8callable66 rfl ((cstrSetbit B _ _ v t m s p wb va vc sv clk es M hM hO aa ac args hra hoka (by omega) key hkey hN (by omega) hv).mono ?_) rfl;rintro e w240 ⟨D, es', M', r, cs, hD, rfl, hrpl, hM', hcmd, hv⟩;refine ⟨_, rfl, ?_⟩
  obtain ⟨rk, rs, rn, rv, rfl⟩ := rp_parts2 hrpl
  simp only [zP, po];refine xS 2 rfl hv rssz38 rfl (by exact ⟨rfl, rfl, rfl, hrpl.lv.2, trivial⟩) (fun w241 hv => ?_);simp only [zS, zO, sp] at hv;refine uW k239 (rR ?_);refine bZ (tR ?_);refine bC 2 rswd38 hv rfl rfl rfl rfl (⟨D, es', M', r, _, hD, rfl, hrpl, hM', hcmd, ⟨fun h9 => by rw [hb238] at h9; exact absurd h9 (by decide), fun h9 => by rw [hb238] at h9; exact absurd h9 (by decide), fun h9 => by rw [hb238] at h9; exact absurd h9 (by decide)⟩, (hv.kp [1, 1] 2 2)⟩)
 refine uG (.bool false) rfl (ex_seql rfl rfl rfl (qF hb238)) (uA rfl ?_);refine uW k237 (cF rfl ?_);refine kS (bN ?_);refine tK k7 (sK fun _ k242 => ?_)
 have hal3 : 3 ≤ args.length := ga_def hgr hnr fun y hy => by
  simp only [List.mem_cons, List.not_mem_nil, or_false] at hy
  rcases hy with rfl | rfl | rfl | rfl | rfl | rfl | rfl | rfl | rfl | rfl | rfl | rfl | rfl | rfl | rfl
  ·exact hb10
  ·exact hb18
  ·exact hb38
  ·exact hb70
  ·exact hb125
  ·exact hb171
  ·exact hb179
  ·exact hb188
  ·exact hb193
  ·exact hb201
  ·exact hb207
  ·exact hb215
  ·exact hb223
  ·exact hb230
  exact hb238
 obtain ⟨x1, hx1⟩ : ∃ k, args[1]? = some k := ⟨_, List.getElem?_eq_getElem (show 1 < args.length by omega)⟩
 have hd2 : (args.drop 2).length = args.length - 2 := List.length_drop
 obtain ⟨a4, c4, ha4, ok4, hr4⟩ := sliced_fromV 1 hoka hra (textCells_len args) (show 2 ≤ args.length by omega) (by decide)
 rw [Nat.mul_one, tx_drop] at hr4;rw [← hd2] at ok4
 obtain ⟨ab, ao, had, hrdkey⟩ := text_reads hra hkey
 subst had
 have halkey : 0 < args.length := (List.getElem?_eq_some_iff.1 hkey).1
 obtain ⟨ab9, ao9, had9, hrdx1⟩ := text_reads hra hx1
 cases had9
 have halx1 : 1 < args.length := (List.getElem?_eq_some_iff.1 hx1).1
 refine rW mixed [9, 10] [0,1,2,3,4,5,6,7,8,9,10] 194 rfl (by kernel_rfl) hv ?_;simp only [qm, opAt];refine dL (.agg #[vP v, .slice (some ⟨ab, ao, none⟩) args.length ac]) rfl (fun hv => ex_load rfl rfl (lM 1 cs2wd72 hv rfl rfl rfl rfl)) (dM (.slice (some ⟨ab, ao, none⟩) args.length ac) rfl ?_);refine dG (.pointer (some ⟨ab, ao + 0, none⟩)) rfl (ex_index rfl rfl rfl (run_idx1 (k := 0) Tryz.underlying23 s9es23 (by omega))) ?_;simp only [zP, po];refine dL _ rfl (fun hv => ex_load rfl rfl (run_load1 s9na9 (hrdkey _ _ _ (Base.Le.refl _) no_res hv 0 _ rfl))) (dM (.slice (some ⟨ab, ao, none⟩) args.length ac) rfl ?_);refine dG (.pointer (some ⟨ab, ao + 1, none⟩)) rfl (ex_index rfl rfl rfl (run_idx1 (k := 1) Tryz.underlying23 s9es23 (by omega))) ?_;simp only [zP, po];refine dL _ rfl (fun hv => ex_load rfl rfl (run_load1 s9na9 (hrdx1 _ _ _ (Base.Le.refl _) no_res hv 0 _ rfl))) (dM (.slice (some ⟨ab, ao, none⟩) args.length ac) rfl ?_);refine dG (.slice a4 ((args.drop 2).length) c4) rfl (ex_slice (lo' := some (vI ((2 : Nat) : Int))) rfl rfl (congrArg some rfl) rfl rfl ((run_fromAny Tryz.underlying23 s9es23 (by omega)).trans (by rw [ha4, hd2]))) ?_;simp only [zP, po];refine dS rfl fun w243 hv => ?_;replace hv := hv.front 3 rfl;simp only [eS, eZ] at hv;replace hv := hv.front 3 rfl;simp only [eS, eZ] at hv;refine mC cs8callable67 rfl ((cstrBitop B _ _ v t m s p wb va vc sv clk es M hM hO (some ⟨ab, ao, none⟩) args.length ac key x1 (hxl key (List.mem_of_getElem? hkey)) a4 c4 (args.drop 2) hr4 (by omega) hv).mono ?_) rfl
 rintro e w244 ⟨D, es', M', r, cs, hD, rfl, hrpl, hM', hcmd, hv⟩
 obtain ⟨rk, rs, rn, rv, rfl⟩ := rp_parts2 hrpl
 refine ⟨_, rfl, dW hv ?_⟩;refine dS rfl fun w245 hv => mS 2 rfl hv rssz38 rfl (by exact ⟨rfl, rfl, rfl, hrpl.lv.2, trivial⟩) (fun w246 hv => ?_);simp only [zS, zO, sp] at hv;refine dW hv (dE fun w247 hv => ?_);simp only [zP, po];refine tK k242 (rR ?_);refine bC 2 rswd38 hv rfl rfl rfl rfl (⟨D, es', M', r, _, hD, rfl, hrpl, hM', hcmd, ⟨fun h9 => absurd h9 hb10, fun h9 => absurd h9 hb207, fun h9 => absurd h9 hb193⟩, (hv.kp [1, 1] 2 2)⟩)
abbrev GX := DoS
theorem cs9al38 : AL Tryz.prog 38 [vI 0, vS [], vI 0, vN] := fun w => by kernel_rfl
theorem cs9al4 : AL Tryz.prog 4 [.bool false] := fun w => by kernel_rfl
theorem cs9al69 : AL Tryz.prog 69 [vS [], vI 0, vI 0, vI 0] := fun w => by kernel_rfl
theorem cs9fa69_1 : FA Tryz.prog 69 1 1 := fun w b o => by kernel_rfl
theorem cs9sz4 : (Tryz.prog.info? 4).map (·.size) = some 1 := by kernel_rfl
theorem cs9callable21 : Callable Tryz.prog 21 := cb Tryz.func21 (by kernel_rfl)
theorem cs9rec21 (n : Nat) (x0 x1 : Value) (w : World) : CallsDIn Fence.wide n Tryz.prog 21 #[x0, x1] .returning w fun e u' w' => e = .returned (.tuple #[]) ∧ u' = .returning ∧ w' = w := by
 refine callsDIn_of_wpSIn Tryz.func21 rfl trivial fun c₀ cs hu => ?_
 apply wpSIn_seq
 apply wpSIn_region
 simp [wpOpsSIn, go_sem, recoverD, hu, Tryz.ntmps21, Exit.thenS]
 refine wpSIn_cond (t := false) (by simp [Act.eval, Array.replicate]) ?_;simp only [Bool.false_eq_true, if_false];refine wpSIn_of_wpIn rfl (wpIn_skip ?_)
 cases c₀
 simp_all [bodyPostS, results, Tryz.results21]
theorem cs9fa69_2 : FA Tryz.prog 69 2 2 := fun w b o => by kernel_rfl
theorem cs9fa69_3 : FA Tryz.prog 69 3 3 := fun w b o => by kernel_rfl
theorem cs9al72 : AL Tryz.prog 72 [.pointer none, vN] := fun w => by kernel_rfl
theorem cs9sz72 : (Tryz.prog.info? 72).map (·.size) = some 2 := by kernel_rfl
theorem cs9callable23 : Callable Tryz.prog 23 := cb Tryz.func23 (by kernel_rfl)
theorem cs9callable24 : Callable Tryz.prog 24 := cb Tryz.func24 (by kernel_rfl)
theorem gDo (B : Base) (H : List Res) (w : World) (v t m s p wb : Nat) (va : Option Addr) (vc : Nat) (sv : Value) (clk : Int) (es : List (List UInt8 × Value)) (M : List (List UInt8 × Ver)) (hM : VM B es M) (hO : OkM M) (aa : Option Addr) (ac : Nat) (args : List (List UInt8)) (hra : RdV B [] aa (textCells args)) (hoka : SliceOk aa args.length ac) (hma : args.length ≤ 1000) (name : List UInt8) (_ : ∀ x ∈ args, x.length ≤ 9223372036854775807) (_ : (∀ x ∈ args, x.length ≤ 1000000) ∨ M = []) (hN : NumB B) (h0c : 0 ≤ clk) (h1c : clk ≤ 1099511627776) (hx6 : ∀ x ∈ args, x.length ≤ 1000000) (hv : Inv B (Res.cell v [.iface 52 (vP t)] 79 :: txR t m s p wb va vc sv clk es :: H) w) :
  Calls Tryz.prog 9 #[vP v, vS name, .slice aa args.length ac] w fun e w' => ∃ C es' M' r cs ok, B.Le C ∧ e = .returned (.tuple #[.agg cs.toArray, .bool ok]) ∧ RpAt C r cs ∧ VM C es' M' ∧ CmdR M M' r ∧ (ok = true ↔ name ∈ gNames) ∧ (ok = false → M' = M ∧ r = rText []) ∧ (GArgs name args.length → GX M clk name args M' r) ∧ Inv C (Res.cell v [.iface 52 (vP t)] 79 :: txR t m s p wb va vc sv clk es' :: H) w' := by
 refine (callsIn_wide (n := 5)).1 (callsIn_of_wp_defers Tryz.func9 rfl trivial ?_);simp only [Tryz.ntmps9, List.size_toArray, List.length_cons, List.length_nil, Nat.reduceAdd, Nat.reduceSub, Array.replicate_succ, Array.replicate_zero, List.push_toArray, List.append_toArray, List.nil_append, List.cons_append];refine sK fun _ k1 => rL (sl_alloc tV (wn rfl) rfl hv cs9al38 (fun b2 w3 hv => ?_));refine sl_alloc tV (wn rfl) rfl hv cs9al4 (fun b4 w5 hv => ?_);refine uW k1 (sK fun _ k6 => ?_);refine rL (uG (.func (.func 21) #[] #[vP b2, vP b4]) rfl (ex_makeFunc (c' := #[vP b2, vP b4]) rfl (by simp only [List.map_toArray, List.map_nil]) (by simp only [List.map_toArray, List.map_cons, List.map_nil]; rfl)) ?_);refine wpi_defer tV rfl (wn rfl) rfl rfl (uW k6 ?_);refine sK fun _ k7 => sK fun _ k8 => rL (xC cs7callable20 rfl ((gRowsC B _ _ hv).mono ?_) rfl);rintro e w9 ⟨C, ra, rc, hC, rfl, hrr, hv⟩;refine ⟨_, rfl, uG (vI (gRows.length : Int)) rfl (ex_len0 Tryz.underlying66 rfl rfl) ?_⟩;refine uM rfl (uW k8 ?_);refine bB ?_
 gi_loopw [17] (fun x17 wr => ∃ (i : Nat), x17 = vI i ∧ i ≤ gRows.length ∧ (∀ (j : Nat) y, j < i → gRows[j]? = some y → y.1 ≠ name) ∧ Inv C (Res.cell b4 [.bool false] 4 :: Res.cell b2 [vI 0, vS [], vI 0, vN] 38 :: Res.cell v [.iface 52 (vP t)] 79 :: txR t m s p wb va vc sv clk es :: H) wr) (fun x17 _ => gRows.length - (intOf x17).toNat)
 case atStart => exact ⟨0, rfl, Nat.zero_le _, fun j y h => by omega, hv⟩
 case round =>
  obtain ⟨i, rfl, hi, hno, hv⟩ := hrel
  have hrl := gRows_len
  refine sK fun _ k11 => rL ?_
  by_cases hb12 : (i : Int) < (gRows.length : Int)
  ·refine uG (.bool true) rfl (ex_lss rfl rfl rfl (qT hb12)) (uW k11 ?_)
   refine sK fun _ k13 => cT rfl (kS ?_);refine tK k13 (sK fun _ k14 => ?_);refine bB (sK fun _ k15 => ?_)
   have hrl := gRows_len
   obtain ⟨x, hx⟩ : ∃ x, gRows[i]? = some x := ⟨_, List.getElem?_eq_getElem (show i < gRows.length by omega)⟩
   have hxm := List.mem_of_getElem? hx
   obtain ⟨rb, ro, had, hrdx⟩ := gRow_reads hrr hx
   subst had
   refine rL (uG (.pointer (some ⟨rb, ro + i * 4, none⟩)) rfl (ex_index rfl rfl rfl (run_idx (k := i) Tryz.underlying66 cs7es66 (by omega))) ?_);refine uL (.agg #[vS x.1, vI x.2.1, vI x.2.2.1, vI x.2.2.2]) rfl (run_loadR (cs := [vS x.1, vI x.2.1, vI x.2.2.1, vI x.2.2.2]) cs7wd69 (Reads.mid (pre := []) (mid := [vS x.1, vI x.2.1, vI x.2.2.1, vI x.2.2.2]) (post := []) hrdx _ _ _ (Base.Le.refl _) no_res hv)) ?_;refine sl_alloc tV (wn rfl) rfl hv cs9al69 (fun b16 w17 hv => ?_);simp only [zP, po];refine xS 0 rfl hv cs7sz69 rfl (by exact ⟨rfl, rfl, rfl, rfl, trivial⟩) (fun w18 hv => ?_);simp only [zO, sp] at hv;refine uW k15 (sK fun _ k19 => ?_);refine sK fun _ k20 => rL (uF (vP b16) rfl (cs7fa69_0 _ _ _) ?_);refine uL _ rfl (run_load1 s9na9 (hv.load 0 0 rfl rfl)) (uM rfl ?_)
   by_cases hb21 : x.1 ≠ name
   ·refine uG (.bool true) rfl (ex_sneq rfl rfl rfl (qT hb21)) (uW k20 ?_)
    refine cT rfl (xE ?_);refine tX (bH ?_);refine tK k14 (rL ?_);refine uG (vI ((i + 1 : Nat) : Int)) rfl (ex_add rfl rfl rfl (by rw [i64_in (by omega)]; omega)) (uM rfl ?_);refine uZ (then_normal ?_)
    go_roundw
    case rel => exact ⟨i + 1, rfl, by omega, fun j y hj hy => (by
       rcases Nat.lt_or_ge j i with h | h
       ·exact hno j y h hy
       obtain rfl : j = i := by omega
       rw [hx] at hy; cases hy; exact hb21), (hv.kp [4, 4, 4, 4] 4 1)⟩
    case measure => show gRows.length - (((i + 1 : Nat) : Int)).toNat < gRows.length - ((i : Int)).toNat; omega
   refine uG (.bool false) rfl (ex_sneq rfl rfl rfl (qF hb21)) (uW k20 ?_);refine cF rfl (kS ?_);refine tK k19 (sK fun _ k22 => ?_);refine rL (uM rfl ?_);refine uG (vI (args.length : Int)) rfl (ex_len0 Tryz.underlying23 rfl rfl) (uA rfl ?_);refine uW k22 (sK fun _ k23 => ?_);refine sK fun _ k24 => ?_
   have hxb := gRows_bnd x hxm
   refine rL (uM rfl ?_);refine uF (.pointer (some ⟨b16, 1, none⟩)) rfl (cs9fa69_1 _ _ _) ?_;refine uL _ rfl (run_load1 s2na3 (hv.load 0 1 rfl rfl)) ?_
   by_cases hb25 : (args.length : Int) < x.2.1
   ·refine uG (.bool true) rfl (ex_lss rfl rfl rfl (qT hb25)) (uM rfl ?_)
    iterate 9 refine uP rfl ?_
    refine uK rfl (uM rfl ?_)
    iterate 8 refine uP rfl ?_
    refine uK rfl (uW k24 ?_);refine cT rfl (sK fun _ k26 => ?_);refine rL (xC rscallable22 rfl ((viewWrong C _ _ 43 hv).mono ?_) rfl);rintro e w28 ⟨s27, rfl, hv⟩;refine ⟨_, rfl, ?_⟩;refine xS 2 rfl hv rssz38 rfl (by exact ⟨rfl, rfl, rfl, rfl, trivial⟩) (fun w29 hv => ?_);simp only [zS, zO, sp] at hv;refine xV 1 (.bool true) rfl hv cs9sz4 rfl rfl (fun w30 hv => ?_);simp only [zS, zO, sp] at hv;refine uW k26 (rR ?_);refine tR (bZ ?_);refine tR (tR ?_);refine bZ (tR ?_);refine leave_rec cs9callable21 (cs9rec21 _ _ _ _) (res_cells2 rfl rfl (lM 2 rswd38 hv rfl rfl rfl rfl) rfl (run_load1 s2na4 (hv.load 1 0 rfl rfl))) ?_
    have hmem : name ∈ gNames := by rw [← (show x.1 = name from Classical.byContradiction fun h9 => hb21 h9)]; exact List.mem_map_of_mem hxm
    exact ⟨C, es, M, rFault s27, rpCells 1 s27 0 (vN), true, hC, rfl, rpAt_leaf, hM.more hC, ⟨hO, fun _ => rfl⟩, ⟨fun _ => hmem, fun _ => rfl⟩, fun h9 => (by cases h9), fun ⟨y9, hy9, hyn9, hg1, hg2, hg3⟩ => (by obtain rfl := gRows_inj y9 hy9 x hxm (by rw [hyn9]; exact (Classical.byContradiction fun h9 => hb21 h9 : x.1 = name).symm); omega), (hv.kp [4, 4] 2 3)⟩
   refine uG (.bool false) rfl (ex_lss rfl rfl rfl (qF hb25)) (uM rfl ?_);refine uF (.pointer (some ⟨b16, 2, none⟩)) rfl (cs9fa69_2 _ _ _) ?_;refine uL _ rfl (run_load1 s2na3 (hv.load 0 2 rfl rfl)) ?_
   by_cases hb31 : x.2.2.1 ≥ 0
   ·refine uG (.bool true) rfl (ex_geq rfl rfl rfl (qT hb31)) ?_
    refine uM rfl ?_;refine uM rfl ?_;refine uF (.pointer (some ⟨b16, 2, none⟩)) rfl (cs9fa69_2 _ _ _) ?_;refine uL _ rfl (run_load1 s2na3 (hv.load 0 2 rfl rfl)) ?_
    by_cases hb32 : (args.length : Int) > x.2.2.1
    ·refine uG (.bool true) rfl (ex_gtr rfl rfl rfl (qT hb32)) ?_
     refine uK rfl (uK rfl ?_);refine uM rfl ?_
     iterate 8 refine uP rfl ?_
     refine uK rfl (uW k24 ?_);refine cT rfl (sK fun _ k33 => ?_);refine rL (xC rscallable22 rfl ((viewWrong C _ _ 43 hv).mono ?_) rfl);rintro e w35 ⟨s34, rfl, hv⟩;refine ⟨_, rfl, ?_⟩;refine xS 2 rfl hv rssz38 rfl (by exact ⟨rfl, rfl, rfl, rfl, trivial⟩) (fun w36 hv => ?_);simp only [zS, zO, sp] at hv;refine xV 1 (.bool true) rfl hv cs9sz4 rfl rfl (fun w37 hv => ?_);simp only [zS, zO, sp] at hv;refine uW k33 (rR ?_);refine tR (bZ ?_);refine tR (tR ?_);refine bZ (tR ?_);refine leave_rec cs9callable21 (cs9rec21 _ _ _ _) (res_cells2 rfl rfl (lM 2 rswd38 hv rfl rfl rfl rfl) rfl (run_load1 s2na4 (hv.load 1 0 rfl rfl))) ?_
     have hmem : name ∈ gNames := by rw [← (show x.1 = name from Classical.byContradiction fun h9 => hb21 h9)]; exact List.mem_map_of_mem hxm
     exact ⟨C, es, M, rFault s34, rpCells 1 s34 0 (vN), true, hC, rfl, rpAt_leaf, hM.more hC, ⟨hO, fun _ => rfl⟩, ⟨fun _ => hmem, fun _ => rfl⟩, fun h9 => (by cases h9), fun ⟨y9, hy9, hyn9, hg1, hg2, hg3⟩ => (by obtain rfl := gRows_inj y9 hy9 x hxm (by rw [hyn9]; exact (Classical.byContradiction fun h9 => hb21 h9 : x.1 = name).symm); omega), (hv.kp [4, 4] 2 3)⟩
    refine uG (.bool false) rfl (ex_gtr rfl rfl rfl (qF hb32)) ?_;refine uK rfl (uK rfl ?_);refine uM rfl ?_;refine uM rfl ?_;refine uF (.pointer (some ⟨b16, 1, none⟩)) rfl (cs9fa69_1 _ _ _) ?_;refine uL _ rfl (run_load1 s2na3 (hv.load 0 1 rfl rfl)) ?_;refine uG (vI ((args.length : Int) - x.2.1)) rfl (ex_sub rfl rfl rfl (by rw [i64_in (by omega)])) ?_;refine uF (.pointer (some ⟨b16, 3, none⟩)) rfl (cs9fa69_3 _ _ _) ?_;refine uL _ rfl (run_load1 s2na3 (hv.load 0 3 rfl rfl)) ?_;refine uG (vI (((args.length : Int) - x.2.1).tmod x.2.2.2)) rfl (ex_rem (m := ((args.length : Int) - x.2.1)) (n := x.2.2.2) rfl rfl rfl hxb.2.2 rfl) ?_
    by_cases hb38 : (((args.length : Int) - x.2.1).tmod x.2.2.2) ≠ 0
    ·refine uG (.bool true) rfl (ex_neq rfl rfl rfl (qT hb38)) (uK rfl ?_)
     refine uW k24 (cT rfl ?_);refine sK fun _ k39 => rL (xC rscallable22 rfl ((viewWrong C _ _ 43 hv).mono ?_) rfl);rintro e w41 ⟨s40, rfl, hv⟩;refine ⟨_, rfl, ?_⟩;refine xS 2 rfl hv rssz38 rfl (by exact ⟨rfl, rfl, rfl, rfl, trivial⟩) (fun w42 hv => ?_);simp only [zS, zO, sp] at hv;refine xV 1 (.bool true) rfl hv cs9sz4 rfl rfl (fun w43 hv => ?_);simp only [zS, zO, sp] at hv;refine uW k39 (rR ?_);refine tR (bZ ?_);refine tR (tR ?_);refine bZ (tR ?_);refine leave_rec cs9callable21 (cs9rec21 _ _ _ _) (res_cells2 rfl rfl (lM 2 rswd38 hv rfl rfl rfl rfl) rfl (run_load1 s2na4 (hv.load 1 0 rfl rfl))) ?_
     have hmem : name ∈ gNames := by rw [← (show x.1 = name from Classical.byContradiction fun h9 => hb21 h9)]; exact List.mem_map_of_mem hxm
     exact ⟨C, es, M, rFault s40, rpCells 1 s40 0 (vN), true, hC, rfl, rpAt_leaf, hM.more hC, ⟨hO, fun _ => rfl⟩, ⟨fun _ => hmem, fun _ => rfl⟩, fun h9 => (by cases h9), fun ⟨y9, hy9, hyn9, hg1, hg2, hg3⟩ => (by obtain rfl := gRows_inj y9 hy9 x hxm (by rw [hyn9]; exact (Classical.byContradiction fun h9 => hb21 h9 : x.1 = name).symm); omega), (hv.kp [4, 4] 2 3)⟩
    refine uG (.bool false) rfl (ex_neq rfl rfl rfl (qF hb38)) (uK rfl ?_);refine uW k24 (cF rfl ?_);refine kS (tK k23 ?_);refine sK fun _ k44 => ?_
    have hxn : x.1 = name := Classical.byContradiction fun h9 => hb21 h9
    refine rL (uM rfl ?_);refine uM rfl ?_;refine uG (.agg #[vP v, .slice aa args.length ac]) rfl (ex_buildN (vs := #[(0, vP v), (1, .slice aa args.length ac)]) rfl (by simp only [List.map_toArray, List.map_cons, List.map_nil]; rfl) (by kernel_rfl)) ?_;refine sl_alloc tV (wn rfl) rfl hv cs9al72 (fun b45 w46 hv => ?_);refine xS 0 rfl hv cs9sz72 rfl (by exact ⟨rfl, rfl, trivial⟩) (fun w47 hv => ?_);simp only [zO, sp] at hv;refine uW k44 (sK fun _ k48 => ?_);refine sK fun _ k49 => rL (uL (.agg #[vP v, .slice aa args.length ac]) rfl (lM 0 cs2wd72 hv rfl rfl rfl rfl) ?_);refine uM rfl ?_;replace hv := hv.front 5 rfl;simp only [eS, eZ] at hv;replace hv := hv.front 5 rfl;simp only [eS, eZ] at hv
    have hgr : GArgs name args.length := ⟨x, hxm, hxn, by omega, fun h9 => by omega, Classical.not_not.1 hb38⟩
    refine xC cs9callable23 rfl ((cstrRead C _ _ v t m s p wb va vc sv clk es M (hM.more hC) hO aa ac args (hra.more hC (fun _ h => h)) hoka hma name hgr (hN.more hC) hv).mono ?_) rfl;rintro e w50 ⟨D, es', M', r, cs, rok, hD, rfl, hrp, hM', hyes, hno9, hv⟩;refine ⟨_, rfl, ?_⟩
    obtain ⟨rk, rs, rn, rv, rfl⟩ := rp_parts hrp
    cases rok
    ·obtain ⟨he9, hm9, hnr⟩ := hno9 rfl
     rw [he9] at hv;rw [he9, hm9] at hM';refine uM rfl (uE rfl ?_);refine uE rfl ?_;refine sl_alloc tV (wn rfl) rfl hv cs9al38 (fun b51 w52 hv => ?_);refine xS 0 rfl hv rssz38 rfl (by exact ⟨rfl, rfl, rfl, hrp.lv.2, trivial⟩) (fun w53 hv => ?_);simp only [zO, sp] at hv;refine uA rfl (uW k49 ?_);refine sK fun _ k54 => rL (uM rfl ?_);refine uW k54 (cF rfl ?_);refine kS (tK k48 ?_);refine sK fun _ k55 => rL (uL (.agg #[vP v, .slice aa args.length ac]) rfl (lM 3 cs2wd72 hv rfl rfl rfl rfl) ?_);refine uM rfl ?_;replace hv := hv.front 2 rfl;simp only [eS, eZ] at hv;replace hv := hv.front 2 rfl;simp only [eS, eZ] at hv;refine xC cs9callable24 rfl ((cstrWrite D _ _ v t m s p wb va vc sv clk es M hM' hO aa ac args (hra.more (hC.trans hD) (fun _ h => h)) hoka hma name hgr (hN.more (hC.trans hD)) h0c h1c hx6 hnr hv).mono ?_) rfl;rintro e w56 ⟨E, es2, M2, r2, cs2, hE, rfl, hrp2, hM2, hcmd, hgx, hv⟩;refine ⟨_, rfl, ?_⟩
     obtain ⟨sk, ss, sn, sv9, rfl⟩ := rp_parts hrp2
     simp only [zP, po];refine xS 6 rfl hv rssz38 rfl (by exact ⟨rfl, rfl, rfl, hrp2.lv.2, trivial⟩) (fun w57 hv => ?_);simp only [zS, zO, sp] at hv;refine xV 5 (.bool true) rfl hv cs9sz4 rfl rfl (fun w58 hv => ?_);simp only [zS, zO, sp] at hv;refine uW k55 (rR ?_);refine bZ (tR ?_);refine tR (bZ ?_);refine tR (leave_rec cs9callable21 (cs9rec21 _ _ _ _) (res_cells2 rfl rfl (lM 6 rswd38 hv rfl rfl rfl rfl) rfl (run_load1 s2na4 (hv.load 5 0 rfl rfl))) ?_)
     have hmem : name ∈ gNames := by rw [← (show x.1 = name from Classical.byContradiction fun h9 => hb21 h9)]; exact List.mem_map_of_mem hxm
     exact ⟨E, es2, M2, r2, _, true, ((hC.trans hD).trans hE), rfl, hrp2, hM2, hcmd, ⟨fun _ => hmem, fun _ => rfl⟩, fun h9 => (by cases h9), fun _ => hgx, (hv.kp [1, 1] 2 5)⟩
    obtain ⟨hcmd, hmemr⟩ := hyes rfl
    have hgx : GX M clk name args M' r := doS_read hmemr
    refine uM rfl (uE rfl ?_);refine uE rfl ?_;refine sl_alloc tV (wn rfl) rfl hv cs9al38 (fun b59 w60 hv => ?_);refine xS 0 rfl hv rssz38 rfl (by exact ⟨rfl, rfl, rfl, hrp.lv.2, trivial⟩) (fun w61 hv => ?_);simp only [zO, sp] at hv;refine uA rfl (uW k49 ?_);refine sK fun _ k62 => rL (uM rfl ?_);refine uW k62 (cT rfl ?_);refine sK fun _ k63 => rL (uL (.agg #[vI rk, vS rs, vI rn, rv]) rfl (lM 0 rswd38 hv rfl rfl rfl rfl) ?_);refine xS 6 rfl hv rssz38 rfl (by exact ⟨rfl, rfl, rfl, hrp.lv.2, trivial⟩) (fun w64 hv => ?_);simp only [zS, zO, sp] at hv;refine xV 5 (.bool true) rfl hv cs9sz4 rfl rfl (fun w65 hv => ?_);simp only [zS, zO, sp] at hv;refine uW k63 (rR ?_);refine tR (bZ ?_);refine tR (tR ?_);refine bZ (tR ?_);refine leave_rec cs9callable21 (cs9rec21 _ _ _ _) (res_cells2 rfl rfl (lM 6 rswd38 hv rfl rfl rfl rfl) rfl (run_load1 s2na4 (hv.load 5 0 rfl rfl))) ?_
    have hmem : name ∈ gNames := by rw [← (show x.1 = name from Classical.byContradiction fun h9 => hb21 h9)]; exact List.mem_map_of_mem hxm
    exact ⟨D, es', M', r, _, true, (hC.trans hD), rfl, hrp, hM', hcmd, ⟨fun _ => hmem, fun _ => rfl⟩, fun h9 => (by cases h9), fun _ => hgx, (hv.kp [2, 2] 2 5)⟩
   refine uG (.bool false) rfl (ex_geq rfl rfl rfl (qF hb31)) ?_;refine uM rfl ?_
   iterate 4 refine uP rfl ?_
   refine uK rfl (uK rfl ?_);refine uM rfl ?_;refine uM rfl ?_;refine uF (.pointer (some ⟨b16, 1, none⟩)) rfl (cs9fa69_1 _ _ _) ?_;refine uL _ rfl (run_load1 s2na3 (hv.load 0 1 rfl rfl)) ?_;refine uG (vI ((args.length : Int) - x.2.1)) rfl (ex_sub rfl rfl rfl (by rw [i64_in (by omega)])) ?_;refine uF (.pointer (some ⟨b16, 3, none⟩)) rfl (cs9fa69_3 _ _ _) ?_;refine uL _ rfl (run_load1 s2na3 (hv.load 0 3 rfl rfl)) ?_;refine uG (vI (((args.length : Int) - x.2.1).tmod x.2.2.2)) rfl (ex_rem (m := ((args.length : Int) - x.2.1)) (n := x.2.2.2) rfl rfl rfl hxb.2.2 rfl) ?_
   by_cases hb66 : (((args.length : Int) - x.2.1).tmod x.2.2.2) ≠ 0
   ·refine uG (.bool true) rfl (ex_neq rfl rfl rfl (qT hb66)) (uK rfl ?_)
    refine uW k24 (cT rfl ?_);refine sK fun _ k67 => rL (xC rscallable22 rfl ((viewWrong C _ _ 43 hv).mono ?_) rfl);rintro e w69 ⟨s68, rfl, hv⟩;refine ⟨_, rfl, ?_⟩;refine xS 2 rfl hv rssz38 rfl (by exact ⟨rfl, rfl, rfl, rfl, trivial⟩) (fun w70 hv => ?_);simp only [zS, zO, sp] at hv;refine xV 1 (.bool true) rfl hv cs9sz4 rfl rfl (fun w71 hv => ?_);simp only [zS, zO, sp] at hv;refine uW k67 (rR ?_);refine tR (bZ ?_);refine tR (tR ?_);refine bZ (tR ?_);refine leave_rec cs9callable21 (cs9rec21 _ _ _ _) (res_cells2 rfl rfl (lM 2 rswd38 hv rfl rfl rfl rfl) rfl (run_load1 s2na4 (hv.load 1 0 rfl rfl))) ?_
    have hmem : name ∈ gNames := by rw [← (show x.1 = name from Classical.byContradiction fun h9 => hb21 h9)]; exact List.mem_map_of_mem hxm
    exact ⟨C, es, M, rFault s68, rpCells 1 s68 0 (vN), true, hC, rfl, rpAt_leaf, hM.more hC, ⟨hO, fun _ => rfl⟩, ⟨fun _ => hmem, fun _ => rfl⟩, fun h9 => (by cases h9), fun ⟨y9, hy9, hyn9, hg1, hg2, hg3⟩ => (by obtain rfl := gRows_inj y9 hy9 x hxm (by rw [hyn9]; exact (Classical.byContradiction fun h9 => hb21 h9 : x.1 = name).symm); omega), (hv.kp [4, 4] 2 3)⟩
   refine uG (.bool false) rfl (ex_neq rfl rfl rfl (qF hb66)) (uK rfl ?_);refine uW k24 (cF rfl ?_);refine kS (tK k23 ?_);refine sK fun _ k72 => ?_
   have hxn : x.1 = name := Classical.byContradiction fun h9 => hb21 h9
   refine rL (uM rfl ?_);refine uM rfl ?_;refine uG (.agg #[vP v, .slice aa args.length ac]) rfl (ex_buildN (vs := #[(0, vP v), (1, .slice aa args.length ac)]) rfl (by simp only [List.map_toArray, List.map_cons, List.map_nil]; rfl) (by kernel_rfl)) ?_;refine sl_alloc tV (wn rfl) rfl hv cs9al72 (fun b73 w74 hv => ?_);refine xS 0 rfl hv cs9sz72 rfl (by exact ⟨rfl, rfl, trivial⟩) (fun w75 hv => ?_);simp only [zO, sp] at hv;refine uW k72 (sK fun _ k76 => ?_);refine sK fun _ k77 => rL (uL (.agg #[vP v, .slice aa args.length ac]) rfl (lM 0 cs2wd72 hv rfl rfl rfl rfl) ?_);refine uM rfl ?_;replace hv := hv.front 5 rfl;simp only [eS, eZ] at hv;replace hv := hv.front 5 rfl;simp only [eS, eZ] at hv
   have hgr : GArgs name args.length := ⟨x, hxm, hxn, by omega, fun h9 => by omega, Classical.not_not.1 hb66⟩
   refine xC cs9callable23 rfl ((cstrRead C _ _ v t m s p wb va vc sv clk es M (hM.more hC) hO aa ac args (hra.more hC (fun _ h => h)) hoka hma name hgr (hN.more hC) hv).mono ?_) rfl;rintro e w78 ⟨D, es', M', r, cs, rok, hD, rfl, hrp, hM', hyes, hno9, hv⟩;refine ⟨_, rfl, ?_⟩
   obtain ⟨rk, rs, rn, rv, rfl⟩ := rp_parts hrp
   cases rok
   ·obtain ⟨he9, hm9, hnr⟩ := hno9 rfl
    rw [he9] at hv;rw [he9, hm9] at hM';refine uM rfl (uE rfl ?_);refine uE rfl ?_;refine sl_alloc tV (wn rfl) rfl hv cs9al38 (fun b79 w80 hv => ?_);refine xS 0 rfl hv rssz38 rfl (by exact ⟨rfl, rfl, rfl, hrp.lv.2, trivial⟩) (fun w81 hv => ?_);simp only [zO, sp] at hv;refine uA rfl (uW k77 ?_);refine sK fun _ k82 => rL (uM rfl ?_);refine uW k82 (cF rfl ?_);refine kS (tK k76 ?_);refine sK fun _ k83 => rL (uL (.agg #[vP v, .slice aa args.length ac]) rfl (lM 3 cs2wd72 hv rfl rfl rfl rfl) ?_);refine uM rfl ?_;replace hv := hv.front 2 rfl;simp only [eS, eZ] at hv;replace hv := hv.front 2 rfl;simp only [eS, eZ] at hv;refine xC cs9callable24 rfl ((cstrWrite D _ _ v t m s p wb va vc sv clk es M hM' hO aa ac args (hra.more (hC.trans hD) (fun _ h => h)) hoka hma name hgr (hN.more (hC.trans hD)) h0c h1c hx6 hnr hv).mono ?_) rfl;rintro e w84 ⟨E, es2, M2, r2, cs2, hE, rfl, hrp2, hM2, hcmd, hgx, hv⟩;refine ⟨_, rfl, ?_⟩
    obtain ⟨sk, ss, sn, sv9, rfl⟩ := rp_parts hrp2
    simp only [zP, po];refine xS 6 rfl hv rssz38 rfl (by exact ⟨rfl, rfl, rfl, hrp2.lv.2, trivial⟩) (fun w85 hv => ?_);simp only [zS, zO, sp] at hv;refine xV 5 (.bool true) rfl hv cs9sz4 rfl rfl (fun w86 hv => ?_);simp only [zS, zO, sp] at hv;refine uW k83 (rR ?_);refine bZ (tR ?_);refine tR (bZ ?_);refine tR (leave_rec cs9callable21 (cs9rec21 _ _ _ _) (res_cells2 rfl rfl (lM 6 rswd38 hv rfl rfl rfl rfl) rfl (run_load1 s2na4 (hv.load 5 0 rfl rfl))) ?_)
    have hmem : name ∈ gNames := by rw [← (show x.1 = name from Classical.byContradiction fun h9 => hb21 h9)]; exact List.mem_map_of_mem hxm
    exact ⟨E, es2, M2, r2, _, true, ((hC.trans hD).trans hE), rfl, hrp2, hM2, hcmd, ⟨fun _ => hmem, fun _ => rfl⟩, fun h9 => (by cases h9), fun _ => hgx, (hv.kp [1, 1] 2 5)⟩
   obtain ⟨hcmd, hmemr⟩ := hyes rfl
   have hgx : GX M clk name args M' r := doS_read hmemr
   refine uM rfl (uE rfl ?_);refine uE rfl ?_;refine sl_alloc tV (wn rfl) rfl hv cs9al38 (fun b87 w88 hv => ?_);refine xS 0 rfl hv rssz38 rfl (by exact ⟨rfl, rfl, rfl, hrp.lv.2, trivial⟩) (fun w89 hv => ?_);simp only [zO, sp] at hv;refine uA rfl (uW k77 ?_);refine sK fun _ k90 => rL (uM rfl ?_);refine uW k90 (cT rfl ?_);refine sK fun _ k91 => rL (uL (.agg #[vI rk, vS rs, vI rn, rv]) rfl (lM 0 rswd38 hv rfl rfl rfl rfl) ?_);refine xS 6 rfl hv rssz38 rfl (by exact ⟨rfl, rfl, rfl, hrp.lv.2, trivial⟩) (fun w92 hv => ?_);simp only [zS, zO, sp] at hv;refine xV 5 (.bool true) rfl hv cs9sz4 rfl rfl (fun w93 hv => ?_);simp only [zS, zO, sp] at hv;refine uW k91 (rR ?_);refine tR (bZ ?_);refine tR (tR ?_);refine bZ (tR ?_);refine leave_rec cs9callable21 (cs9rec21 _ _ _ _) (res_cells2 rfl rfl (lM 6 rswd38 hv rfl rfl rfl rfl) rfl (run_load1 s2na4 (hv.load 5 0 rfl rfl))) ?_
   have hmem : name ∈ gNames := by rw [← (show x.1 = name from Classical.byContradiction fun h9 => hb21 h9)]; exact List.mem_map_of_mem hxm
   exact ⟨D, es', M', r, _, true, (hC.trans hD), rfl, hrp, hM', hcmd, ⟨fun _ => hmem, fun _ => rfl⟩, fun h9 => (by cases h9), fun _ => hgx, (hv.kp [2, 2] 2 5)⟩
  refine uG (.bool false) rfl (ex_lss rfl rfl rfl (qF hb12)) (uW k11 ?_);refine sK fun _ k94 => cF rfl (xE ?_);refine tX (tX ?_);refine bH (tK k7 ?_);refine sK fun _ k95 => rL (uG (.agg #[vI 0, vS [], vI 0, vN]) rfl (ex_buildN (vs := #[]) rfl (by simp only [List.map_toArray, List.map_nil]) (by kernel_rfl)) ?_);refine xS 1 rfl hv rssz38 rfl (by exact ⟨rfl, rfl, rfl, rfl, trivial⟩) (fun w96 hv => ?_);simp only [zS, zO, sp] at hv;refine xV 0 (.bool false) rfl hv cs9sz4 rfl rfl (fun w97 hv => ?_);simp only [zO, sp] at hv;refine uW k95 (rR ?_);refine leave_rec cs9callable21 (cs9rec21 _ _ _ _) (res_cells2 rfl rfl (lM 1 rswd38 hv rfl rfl rfl rfl) rfl (run_load1 s2na4 (hv.load 0 0 rfl rfl))) ?_
  have hmem : name ∉ gNames := fun h9 => by
   obtain ⟨y, hy, hyn⟩ := List.mem_map.1 h9
   obtain ⟨j, hj⟩ := List.mem_iff_getElem?.1 hy
   exact hno j y (by have := (List.getElem?_eq_some_iff.1 hj).1; omega) hj hyn
  exact ⟨C, es, M, rText [], rpCells 0 [] 0 (vN), false, hC, rfl, rpAt_leaf, hM.more hC, ⟨hO, fun _ => rfl⟩, ⟨fun h9 => (by cases h9), fun h9 => absurd h9 hmem⟩, fun _ => ⟨rfl, rfl⟩, fun ⟨y9, hy9, hyn9, _⟩ => absurd (hyn9 ▸ List.mem_map_of_mem hy9) hmem, (hv.kp [3, 3] 2 2)⟩
end Go.Proofs.YtmpackidbgfoiaaGreatDoor
namespace Go.Pm
open Go.RowKit
inductive Tr (α : Type) where
 | lin (is : List α)
 | fork (x : α) (t1 : Tr α) (y : α) (t2 : Tr α)
section
variable {P : Program} {ops : Array Oper} {mem perm pre is : List Nat} {R : Act → World → Prop} {Q : Exit → Act → World → Prop} {a0 a aS : Act} {listed : Array Bool} {w w' : World} {val : Nat → Value} {Fl : List (Nat × (World → Prop))} {J : World → Prop} {i : Nat} {o : Oper} {K : Act → World → Prop}
end
section
variable {P : Program} {ops : Array Oper} {mem : List Nat} {Q : Exit → Act → World → Prop} {a0 : Act}
end
section
variable {n : Nat} {P : Program} {ops : Array Oper} {Q : Exit → Act → World → Prop} {a0 : Act} {w0 : World} {B : Base} {H : List Res}
end
section
variable {P : Program} {ops : Array Oper} {mem : List Nat} {R : Act → World → Prop} {D : List (Nat × (World → Prop)) → (World → Prop) → Act → Prop} {i : Nat} {o : Oper} {is : List (Nat × Oper)} {Fl : List (Nat × (World → Prop))} {J : World → Prop} {a : Act} {v : Value} {x y : Nat × Oper} {t1 t2 : Tr (Nat × Oper)} {G : (World → Prop) → Act → Prop} {B : Base} {H : List Res} {w' : World}
end
end Go.Pm
namespace Go.Proofs.YtmpackidbgfoiaaGreatDoor
open Go.RowKit Go.Pm
theorem rp_leaf {B : Base} {k n : Int} {s : List UInt8} {cs : List Value} (h : RpAt B (.mk k s n []) cs) : ∃ v, cs = rpCells k s n v := by
 simp only [RpAt] at h
 obtain ⟨v, xs, h1, -⟩ := h
 exact ⟨v, h1⟩
theorem csAcallable6 : Callable Tryz.prog 6 := cb Tryz.func6 (by kernel_rfl)
theorem csAcallable9 : Callable Tryz.prog 9 := cb Tryz.func9 (by kernel_rfl)
theorem csAal38 : AL Tryz.prog 38 [vI 0, vS [], vI 0, vN] := fun w => by kernel_rfl
theorem csAmk9 : (Tryz.prog.info? 9).map (fun i => (i.zero, i.size, i.bytes)) = some (some (vS []), 1, 16) := by kernel_rfl
theorem csAel23 : Elem Tryz.prog 23 9 (vS []) 1 16 := elem_of Tryz.underlying23 csAmk9 (by rfl) (by decide)
theorem csAfa38_1 : FA Tryz.prog 38 1 1 := fun w b o => by kernel_rfl
theorem csAfa38_2 : FA Tryz.prog 38 2 2 := fun w b o => by kernel_rfl
theorem csAfa38_0 : FA Tryz.prog 38 0 0 := fun w b o => by kernel_rfl
theorem gAwake (B : Base) (H : List Res) (w : World) (hN : NumB B) (hv : Inv B H w) :
  Calls Tryz.prog 4 #[] w fun e w' => e = .returned (.bool true) ∧ Inv B H w' := by
 refine cW Tryz.func4 rfl Tryz.ntmps4 ?_;simp only [al];refine sK fun _ k1 => rL (uA rfl ?_);refine uW k1 (sK fun _ k2 => ?_);refine rL (xC csAcallable6 rfl ((lawOpened B _ _ 0 (by omega) (by omega) hv).mono ?_) rfl);rintro e w3 ⟨v, t, m, s, p, wb, va, vc, sv, rfl, hv⟩;refine ⟨_, rfl, uA rfl ?_⟩;refine uW k2 (sK fun _ k4 => ?_);refine sK fun _ k5 => rL (uM rfl ?_);refine uG (.bool false) rfl (ex_pisnil Tryz.underlying28 rfl rfl rfl rfl) (uW k5 ?_);refine cF rfl (kS ?_);refine tK k4 (sK fun _ k6 => ?_);refine rL (uM rfl ?_);refine sl_rowN (pv := #[(0, vS [97]), (1, vS [52, 49])]) (L := [vS [97], vS [52, 49]]) (e := 9) tV (wn rfl) rfl (by simp only [List.map_toArray, List.map_cons, List.map_nil]; rfl) hv (fun w => by kernel_rfl) (fun b7 w8 hv => ?_)
 obtain ⟨D9, hD9, hv, hrD9, hoD9, -⟩ := (hv.cellRow (n := 2) (c := 2) (size := 1) rfl (by decide) (by decide)).rowBy
 replace hv := hv.front 1 rfl;simp only [eS, eZ] at hv;replace hv := hv.front 1 rfl;simp only [eS, eZ] at hv;refine xC csAcallable9 rfl ((gDo D9 _ _ v t m s p wb va vc sv 0 [] [] ((vmNil B).more hD9) OkM.nil _ _ [([97] : List UInt8), ([52, 49] : List UInt8)] hrD9 hoD9 (by decide) ([83, 69, 84] : List UInt8) (all1 (by decide) (all1 (by decide) all0)) (.inl (all1 (by decide) (all1 (by decide) all0))) (hN.more hD9) (by omega) (by omega) (all1 (by decide) (all1 (by decide) all0)) hv).mono ?_) rfl;rintro e w10 ⟨C1, es1, M1, r1, cs1, ok1, hC1, rfl, hrp1, hM1, ⟨hO1, -⟩, hok1, -, hrel1, hv⟩;refine ⟨_, rfl, ?_⟩
 obtain rfl : ok1 = true := hok1.2 (by decide)
 obtain ⟨hg1, hg2, hg3⟩ := hrel1 (by unfold GArgs; decide)
 obtain ⟨k9, x9, e9, e8, hd9⟩ := hg1 rfl
 cases e9; cases e8
 obtain ⟨hS1, rfl⟩ := aw_set hd9
 obtain ⟨v1, rfl⟩ := rp_leaf hrp1
 refine uM rfl (uE rfl ?_);refine uE rfl ?_;refine sl_alloc tV (wn rfl) rfl hv csAal38 (fun b11 w12 hv => ?_);refine xS 0 rfl hv rssz38 rfl (by exact ⟨rfl, rfl, rfl, hrp1.lv.2, trivial⟩) (fun w13 hv => ?_);simp only [zO, sp] at hv;refine uA rfl (uW k6 ?_);refine sK fun _ k14 => rL (uM rfl ?_);refine sl_rowOne (v := vS [97]) tV (wn rfl) rfl rfl hv csAel23 rfl (fun b15 w16 hv => ?_)
 obtain ⟨D17, hD17, hv, hrD17, hoD17, -⟩ := (hv.cellRow (n := 1) (c := 1) (size := 1) rfl (by decide) (by decide)).rowBy
 replace hv := hv.front 2 rfl;simp only [eS, eZ] at hv;replace hv := hv.front 2 rfl;simp only [eS, eZ] at hv;refine xC csAcallable9 rfl ((gDo D17 _ _ v t m s p wb va vc sv 0 es1 M1 (hM1.more hD17) hO1 _ _ [([97] : List UInt8)] hrD17 hoD17 (by decide) ([73, 78, 67, 82] : List UInt8) (all1 (by decide) all0) (.inl (all1 (by decide) all0)) (hN.more ((hD9.trans hC1).trans hD17)) (by omega) (by omega) (all1 (by decide) all0) hv).mono ?_) rfl;rintro e w18 ⟨C2, es2, M2, r2, cs2, ok2, hC2, rfl, hrp2, hM2, ⟨hO2, -⟩, hok2, -, hrel2, hv⟩;refine ⟨_, rfl, ?_⟩
 obtain rfl : ok2 = true := hok2.2 (by decide)
 obtain ⟨hg1, hg2, hg3⟩ := hrel2 (by unfold GArgs; decide)
 obtain ⟨k9, e9, hd9⟩ := hg2 rfl
 cases e9
 obtain ⟨hS2, rfl⟩ := aw_inc hS1 hd9
 obtain ⟨v2, rfl⟩ := rp_leaf hrp2
 refine uM rfl (uE rfl ?_);refine uE rfl ?_;refine sl_alloc tV (wn rfl) rfl hv csAal38 (fun b19 w20 hv => ?_);refine xS 0 rfl hv rssz38 rfl (by exact ⟨rfl, rfl, rfl, hrp2.lv.2, trivial⟩) (fun w21 hv => ?_);simp only [zO, sp] at hv;refine uA rfl (uW k14 ?_);refine sK fun _ k22 => rL (uM rfl ?_);refine sl_rowN (pv := #[(0, vS [97]), (1, vS [120]), (2, vS [78, 88])]) (L := [vS [97], vS [120], vS [78, 88]]) (e := 9) tV (wn rfl) rfl (by simp only [List.map_toArray, List.map_cons, List.map_nil]; rfl) hv (fun w => by kernel_rfl) (fun b23 w24 hv => ?_)
 obtain ⟨D25, hD25, hv, hrD25, hoD25, -⟩ := (hv.cellRow (n := 3) (c := 3) (size := 1) rfl (by decide) (by decide)).rowBy
 replace hv := hv.front 2 rfl;simp only [eS, eZ] at hv;replace hv := hv.front 2 rfl;simp only [eS, eZ] at hv;refine xC csAcallable9 rfl ((gDo D25 _ _ v t m s p wb va vc sv 0 es2 M2 (hM2.more hD25) hO2 _ _ [([97] : List UInt8), ([120] : List UInt8), ([78, 88] : List UInt8)] hrD25 hoD25 (by decide) ([83, 69, 84] : List UInt8) (all1 (by decide) (all1 (by decide) (all1 (by decide) all0))) (.inl (all1 (by decide) (all1 (by decide) (all1 (by decide) all0)))) (hN.more ((((hD9.trans hC1).trans hD17).trans hC2).trans hD25)) (by omega) (by omega) (all1 (by decide) (all1 (by decide) (all1 (by decide) all0))) hv).mono ?_) rfl;rintro e w26 ⟨C3, es3, M3, r3, cs3, ok3, hC3, rfl, hrp3, hM3, ⟨hO3, -⟩, hok3, -, hrel3, hv⟩;refine ⟨_, rfl, ?_⟩
 obtain rfl : ok3 = true := hok3.2 (by decide)
 obtain ⟨hg1, hg2, hg3⟩ := hrel3 (by unfold GArgs; decide)
 obtain ⟨k9, x9, e9, e8, hd9⟩ := hg1 rfl
 cases e9; cases e8
 obtain ⟨hm3, rfl⟩ := aw_nx hS2 hd9
 have hS3 : HasT M3 kA [52, 50] := by rw [hm3]; exact hS2
 obtain ⟨v3, rfl⟩ := rp_leaf hrp3
 refine uM rfl (uE rfl ?_);refine uE rfl ?_;refine sl_alloc tV (wn rfl) rfl hv csAal38 (fun b27 w28 hv => ?_);refine xS 0 rfl hv rssz38 rfl (by exact ⟨rfl, rfl, rfl, hrp3.lv.2, trivial⟩) (fun w29 hv => ?_);simp only [zO, sp] at hv;refine uA rfl (uW k22 ?_);refine sK fun _ k30 => rL (uM rfl ?_);refine sl_rowN (pv := #[(0, vS [97]), (1, vS [121])]) (L := [vS [97], vS [121]]) (e := 9) tV (wn rfl) rfl (by simp only [List.map_toArray, List.map_cons, List.map_nil]; rfl) hv (fun w => by kernel_rfl) (fun b31 w32 hv => ?_)
 obtain ⟨D33, hD33, hv, hrD33, hoD33, -⟩ := (hv.cellRow (n := 2) (c := 2) (size := 1) rfl (by decide) (by decide)).rowBy
 replace hv := hv.front 2 rfl;simp only [eS, eZ] at hv;replace hv := hv.front 2 rfl;simp only [eS, eZ] at hv;refine xC csAcallable9 rfl ((gDo D33 _ _ v t m s p wb va vc sv 0 es3 M3 (hM3.more hD33) hO3 _ _ [([97] : List UInt8), ([121] : List UInt8)] hrD33 hoD33 (by decide) ([65, 80, 80, 69, 78, 68] : List UInt8) (all1 (by decide) (all1 (by decide) all0)) (.inl (all1 (by decide) (all1 (by decide) all0))) (hN.more ((((((hD9.trans hC1).trans hD17).trans hC2).trans hD25).trans hC3).trans hD33)) (by omega) (by omega) (all1 (by decide) (all1 (by decide) all0)) hv).mono ?_) rfl;rintro e w34 ⟨C4, es4, M4, r4, cs4, ok4, hC4, rfl, hrp4, hM4, ⟨hO4, -⟩, hok4, -, hrel4, hv⟩;refine ⟨_, rfl, ?_⟩
 obtain rfl : ok4 = true := hok4.2 (by decide)
 obtain ⟨hg1, hg2, hg3⟩ := hrel4 (by unfold GArgs; decide)
 obtain ⟨k9, x9, e9, e8, hd9⟩ := hg3 rfl
 cases e9; cases e8
 obtain rfl := aw_app hS3 hd9
 obtain ⟨v4, rfl⟩ := rp_leaf hrp4
 refine uM rfl (uE rfl ?_);refine uE rfl ?_;refine sl_alloc tV (wn rfl) rfl hv csAal38 (fun b35 w36 hv => ?_);refine xS 0 rfl hv rssz38 rfl (by exact ⟨rfl, rfl, rfl, hrp4.lv.2, trivial⟩) (fun w37 hv => ?_);simp only [zO, sp] at hv;refine uA rfl (uW k30 ?_);refine sK fun _ k38 => rL (uM rfl ?_);refine uM rfl ?_;refine uM rfl (uK rfl ?_);refine uM rfl ?_;refine uM rfl (uK rfl ?_);refine uM rfl ?_;refine uF (.pointer (some ⟨b11, 1, none⟩)) rfl (csAfa38_1 _ _ _) ?_;refine uL _ rfl (run_load1 s9na9 (hv.load 5 1 rfl rfl)) ?_;refine uG (.bool true) rfl (ex_seql rfl rfl rfl (qT (by decide))) (uK rfl ?_);refine uM rfl ?_;refine uF (.pointer (some ⟨b19, 2, none⟩)) rfl (csAfa38_2 _ _ _) ?_;refine uL _ rfl (run_load1 s2na3 (hv.load 4 2 rfl rfl)) ?_;refine uG (.bool true) rfl (ex_eql rfl rfl rfl (by decide)) (uK rfl ?_);refine uM rfl ?_;refine uF (vP b27) rfl (csAfa38_0 _ _ _) ?_;refine uL _ rfl (run_load1 s2na3 (hv.load 3 0 rfl rfl)) ?_;refine uG (.bool true) rfl (ex_eql rfl rfl rfl (by decide)) (uK rfl ?_);refine uM rfl ?_;refine uF (.pointer (some ⟨b35, 2, none⟩)) rfl (csAfa38_2 _ _ _) ?_;refine uL _ rfl (run_load1 s2na3 (hv.load 0 2 rfl rfl)) ?_;refine uG (.bool true) rfl (ex_eql rfl rfl rfl (by decide)) (uK rfl ?_);refine uA rfl (uW k38 ?_);refine rR (bR rfl rfl ?_);exact ⟨rfl, ((hv.kp [] 0 6)).weak (((((((hD9.trans hC1).trans hD17).trans hC2).trans hD25).trans hC3).trans hD33).trans hC4)⟩
end Go.Proofs.YtmpackidbgfoiaaGreatDoor
