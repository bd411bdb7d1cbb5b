/- ckey: rows, Names; do and Do of SCAN. -/
import Derived.Test.YtngpmolbphinnaaGreatDoorCkBakB
import Derived.Test.YtngpmolbphinnaaGreatDoorCkBakH
import Derived.Test.YtngpmolbphinnaaGreatDoorRows
import Derived.Test.YtngpmolbphinnaaGreatDoorCkBakF
import Derived.Sort.Walk0
import Derived.Test.YtngpmolbphinnaaGreatDoorCkBakC
set_option maxRecDepth 100000
set_option maxHeartbeats 16000000
set_option synthInstance.maxSize 4096
set_option synthInstance.maxHeartbeats 400000
namespace Go.Proofs.YtngpmolbphinnaaGreatDoor
open Go.RowKit Go.Pm
abbrev GRow := List UInt8 × Int × Int
def gRows : List GRow := [([67, 79, 80, 89], 2, (-1)), ([68, 66, 83, 73, 90, 69], 0, 0), ([68, 69, 76], 1, (-1)), ([69, 88, 73, 83, 84, 83], 1, (-1)), ([69, 88, 80, 73, 82, 69], 2, 3), ([69, 88, 80, 73, 82, 69, 65, 84], 2, 3), ([69, 88, 80, 73, 82, 69, 84, 73, 77, 69], 1, 1), ([70, 76, 85, 83, 72, 65, 76, 76], 0, 0), ([75, 69, 89, 83], 1, 1), ([80, 69, 82, 83, 73, 83, 84], 1, 1), ([82, 69, 78, 65, 77, 69], 2, 2), ([82, 69, 78, 65, 77, 69, 78, 88], 2, 2), ([83, 67, 65, 78], 1, (-1)), ([83, 79, 82, 84], 1, (-1)), ([84, 84, 76], 1, 1), ([84, 89, 80, 69], 1, 1)]
abbrev gRowF (x : GRow) : List Value := [strV x.1, vI x.2.1, vI x.2.2]
theorem gRow_reads {B : Base} {l : List GRow} {ad : Option Addr} {i : Nat} {x : GRow} (hr : RdV B [] ad (l.flatMap gRowF)) (hx : l[i]? = some x) : ∃ b off, ad = some ⟨b, off, none⟩ ∧ Reads B [] b (off + i * 3) (gRowF x) := rowk_reads (k := 3) (fun _ => rfl) (by decide) hr hx
theorem gRows_len : gRows.length = 16 := rfl
theorem gRows_inj : ∀ x ∈ gRows, ∀ y ∈ gRows, x.1 = y.1 → x = y := by decide
theorem gRowsC (B : Base) (H : List Res) (w : World) (hv : Inv B H w) :
  Calls Tryz.prog 30 #[] w fun e w' => ∃ C ra rc, B.Le C ∧ e = .returned (.slice ra gRows.length rc) ∧ RdV C [] ra (gRows.flatMap gRowF) ∧ Inv C H w' := by
 refine cW Tryz.func30 rfl Tryz.ntmps30 ?_
 simp only [al]
 refine sK fun _ k1 => rL (uA rfl ?_)
 refine uW k1 (sK fun _ k2 => ?_)
 refine rL (uG (.agg #[vS [67, 79, 80, 89], vI 2, vI (-1)]) rfl (ex_buildN (vs := #[(0, vS [67, 79, 80, 89]), (1, vI 2), (2, vI (-1))]) rfl (by simp only [List.map_toArray, List.map_cons, List.map_nil]; rfl) (by kernel_rfl)) ?_)
 refine uG (.agg #[vS [68, 66, 83, 73, 90, 69], vI 0, vI 0]) rfl (ex_buildN (vs := #[(0, vS [68, 66, 83, 73, 90, 69]), (1, vI 0), (2, vI 0)]) rfl (by simp only [List.map_toArray, List.map_cons, List.map_nil]; rfl) (by kernel_rfl)) ?_
 refine uG (.agg #[vS [68, 69, 76], vI 1, vI (-1)]) rfl (ex_buildN (vs := #[(0, vS [68, 69, 76]), (1, vI 1), (2, vI (-1))]) rfl (by simp only [List.map_toArray, List.map_cons, List.map_nil]; rfl) (by kernel_rfl)) ?_
 refine uG (.agg #[vS [69, 88, 73, 83, 84, 83], vI 1, vI (-1)]) rfl (ex_buildN (vs := #[(0, vS [69, 88, 73, 83, 84, 83]), (1, vI 1), (2, vI (-1))]) rfl (by simp only [List.map_toArray, List.map_cons, List.map_nil]; rfl) (by kernel_rfl)) ?_
 refine uG (.agg #[vS [69, 88, 80, 73, 82, 69], vI 2, vI 3]) rfl (ex_buildN (vs := #[(0, vS [69, 88, 80, 73, 82, 69]), (1, vI 2), (2, vI 3)]) rfl (by simp only [List.map_toArray, List.map_cons, List.map_nil]; rfl) (by kernel_rfl)) ?_
 refine uG (.agg #[vS [69, 88, 80, 73, 82, 69, 65, 84], vI 2, vI 3]) rfl (ex_buildN (vs := #[(0, vS [69, 88, 80, 73, 82, 69, 65, 84]), (1, vI 2), (2, vI 3)]) rfl (by simp only [List.map_toArray, List.map_cons, List.map_nil]; rfl) (by kernel_rfl)) ?_
 refine uG (.agg #[vS [69, 88, 80, 73, 82, 69, 84, 73, 77, 69], vI 1, vI 1]) rfl (ex_buildN (vs := #[(0, vS [69, 88, 80, 73, 82, 69, 84, 73, 77, 69]), (1, vI 1), (2, vI 1)]) rfl (by simp only [List.map_toArray, List.map_cons, List.map_nil]; rfl) (by kernel_rfl)) ?_
 refine uG (.agg #[vS [70, 76, 85, 83, 72, 65, 76, 76], vI 0, vI 0]) rfl (ex_buildN (vs := #[(0, vS [70, 76, 85, 83, 72, 65, 76, 76]), (1, vI 0), (2, vI 0)]) rfl (by simp only [List.map_toArray, List.map_cons, List.map_nil]; rfl) (by kernel_rfl)) ?_
 refine uG (.agg #[vS [75, 69, 89, 83], vI 1, vI 1]) rfl (ex_buildN (vs := #[(0, vS [75, 69, 89, 83]), (1, vI 1), (2, vI 1)]) rfl (by simp only [List.map_toArray, List.map_cons, List.map_nil]; rfl) (by kernel_rfl)) ?_
 refine uG (.agg #[vS [80, 69, 82, 83, 73, 83, 84], vI 1, vI 1]) rfl (ex_buildN (vs := #[(0, vS [80, 69, 82, 83, 73, 83, 84]), (1, vI 1), (2, vI 1)]) rfl (by simp only [List.map_toArray, List.map_cons, List.map_nil]; rfl) (by kernel_rfl)) ?_
 refine uG (.agg #[vS [82, 69, 78, 65, 77, 69], vI 2, vI 2]) rfl (ex_buildN (vs := #[(0, vS [82, 69, 78, 65, 77, 69]), (1, vI 2), (2, vI 2)]) rfl (by simp only [List.map_toArray, List.map_cons, List.map_nil]; rfl) (by kernel_rfl)) ?_
 refine uG (.agg #[vS [82, 69, 78, 65, 77, 69, 78, 88], vI 2, vI 2]) rfl (ex_buildN (vs := #[(0, vS [82, 69, 78, 65, 77, 69, 78, 88]), (1, vI 2), (2, vI 2)]) rfl (by simp only [List.map_toArray, List.map_cons, List.map_nil]; rfl) (by kernel_rfl)) ?_
 refine uG (.agg #[vS [83, 67, 65, 78], vI 1, vI (-1)]) rfl (ex_buildN (vs := #[(0, vS [83, 67, 65, 78]), (1, vI 1), (2, vI (-1))]) rfl (by simp only [List.map_toArray, List.map_cons, List.map_nil]; rfl) (by kernel_rfl)) ?_
 refine uG (.agg #[vS [83, 79, 82, 84], vI 1, vI (-1)]) rfl (ex_buildN (vs := #[(0, vS [83, 79, 82, 84]), (1, vI 1), (2, vI (-1))]) rfl (by simp only [List.map_toArray, List.map_cons, List.map_nil]; rfl) (by kernel_rfl)) ?_
 refine uG (.agg #[vS [84, 84, 76], vI 1, vI 1]) rfl (ex_buildN (vs := #[(0, vS [84, 84, 76]), (1, vI 1), (2, vI 1)]) rfl (by simp only [List.map_toArray, List.map_cons, List.map_nil]; rfl) (by kernel_rfl)) ?_
 refine uG (.agg #[vS [84, 89, 80, 69], vI 1, vI 1]) rfl (ex_buildN (vs := #[(0, vS [84, 89, 80, 69]), (1, vI 1), (2, vI 1)]) rfl (by simp only [List.map_toArray, List.map_cons, List.map_nil]; rfl) (by kernel_rfl)) ?_
 refine sl_rowN (pv := #[(0, .agg #[vS [67, 79, 80, 89], vI 2, vI (-1)]), (1, .agg #[vS [68, 66, 83, 73, 90, 69], vI 0, vI 0]), (2, .agg #[vS [68, 69, 76], vI 1, vI (-1)]), (3, .agg #[vS [69, 88, 73, 83, 84, 83], vI 1, vI (-1)]), (4, .agg #[vS [69, 88, 80, 73, 82, 69], vI 2, vI 3]), (5, .agg #[vS [69, 88, 80, 73, 82, 69, 65, 84], vI 2, vI 3]), (6, .agg #[vS [69, 88, 80, 73, 82, 69, 84, 73, 77, 69], vI 1, vI 1]), (7, .agg #[vS [70, 76, 85, 83, 72, 65, 76, 76], vI 0, vI 0]), (8, .agg #[vS [75, 69, 89, 83], vI 1, vI 1]), (9, .agg #[vS [80, 69, 82, 83, 73, 83, 84], vI 1, vI 1]), (10, .agg #[vS [82, 69, 78, 65, 77, 69], vI 2, vI 2]), (11, .agg #[vS [82, 69, 78, 65, 77, 69, 78, 88], vI 2, vI 2]), (12, .agg #[vS [83, 67, 65, 78], vI 1, vI (-1)]), (13, .agg #[vS [83, 79, 82, 84], vI 1, vI (-1)]), (14, .agg #[vS [84, 84, 76], vI 1, vI 1]), (15, .agg #[vS [84, 89, 80, 69], vI 1, vI 1])]) (L := [vS [67, 79, 80, 89], vI 2, vI (-1), vS [68, 66, 83, 73, 90, 69], vI 0, vI 0, vS [68, 69, 76], vI 1, vI (-1), vS [69, 88, 73, 83, 84, 83], vI 1, vI (-1), vS [69, 88, 80, 73, 82, 69], vI 2, vI 3, vS [69, 88, 80, 73, 82, 69, 65, 84], vI 2, vI 3, vS [69, 88, 80, 73, 82, 69, 84, 73, 77, 69], vI 1, vI 1, vS [70, 76, 85, 83, 72, 65, 76, 76], vI 0, vI 0, vS [75, 69, 89, 83], vI 1, vI 1, vS [80, 69, 82, 83, 73, 83, 84], vI 1, vI 1, vS [82, 69, 78, 65, 77, 69], vI 2, vI 2, vS [82, 69, 78, 65, 77, 69, 78, 88], vI 2, vI 2, vS [83, 67, 65, 78], vI 1, vI (-1), vS [83, 79, 82, 84], vI 1, vI (-1), vS [84, 84, 76], vI 1, vI 1, vS [84, 89, 80, 69], vI 1, vI 1]) (e := 78) tV (wn rfl) rfl (by simp only [List.map_toArray, List.map_cons, List.map_nil]; rfl) hv (fun w => by kernel_rfl) (fun b3 w4 hv => ?_)
 refine uA rfl (uW k2 ?_)
 refine rR (bR rfl rfl ?_)
 obtain ⟨C, hC, hv, hr, -, -⟩ := (hv.cellRow (n := 16) (c := 16) (size := 3) rfl (by decide) (by decide)).rowBy
 exact ⟨C, _, _, hC, rfl, hr, hv⟩
theorem k2callable30 : Callable Tryz.prog 30 := cb Tryz.func30 (by kernel_rfl)
theorem k2es75 (w : World) : (sizeOf (Tryz.prog.elem 75)).run Tryz.prog w = .ok 3 w := by kernel_rfl
theorem k2wd78 : Wide Tryz.prog 78 3 := wide_of (fun w => by kernel_rfl) (by kernel_rfl)
theorem k2al78 : AL Tryz.prog 78 [vS [], vI 0, vI 0] := fun w => by kernel_rfl
theorem k2sz78 : (Tryz.prog.info? 78).map (·.size) = some 3 := by kernel_rfl
theorem k2fa78_0 : FA Tryz.prog 78 0 0 := fun w b o => by kernel_rfl
theorem gRows_scan : ∀ x ∈ gRows, x.1 = ([83, 67, 65, 78] : List UInt8) → x.2.1 = 1 ∧ x.2.2 = -1 := by decide
theorem gRows_has : ∃ x ∈ gRows, x.1 = ([83, 67, 65, 78] : List UInt8) := by decide
theorem k2al34 : AL Tryz.prog 34 [vI 0, vS [], vI 0, vN] := fun w => by kernel_rfl
theorem k2fa80_1 : FA Tryz.prog 80 1 1 := fun w b o => by kernel_rfl
theorem k2wd80 : Wide Tryz.prog 80 2 := wide_of (fun w => by kernel_rfl) (by kernel_rfl)
theorem k2callable63 : Callable Tryz.prog 63 := cb Tryz.func63 (by kernel_rfl)
theorem ckDoScan (B : Base) (H : List Res) (w : World) (v t m s p wb : Nat) (va : Option Addr) (vc : Nat) (sv : Value) (clk : Int) (es : List (List UInt8 × Value)) (M : List (List UInt8 × Ver)) (hM : VM B es M) (aa : Option Addr) (ac : Nat) (args : List (List UInt8)) (hra : RdV B [] aa (textCells args)) (hoka : SliceOk aa args.length ac) (hma : args.length ≤ 1000) (hkl : ∀ k ∈ M.map (·.1), k.length ≤ 256) (hMl : M.length ≤ 1000000) (hxl : ∀ x ∈ args, x.length ≤ 9223372036854775807) (hsm : (∀ x ∈ args, x.length ≤ 1000000) ∨ M = []) (hN : NumB B) (hv : Inv B (Res.cell v [.iface 100 (vP t)] 56 :: txR t m s p wb va vc sv clk es :: H) w) :
  Calls Tryz.prog 31 #[.agg #[vP v, .slice aa args.length ac], vS [83, 67, 65, 78]] w fun e w' => ∃ C r cs, B.Le C ∧ e = .returned (.agg cs.toArray) ∧ RpAt C r cs ∧ ScanR (namesT M clk) args r ∧ Inv C (Res.cell v [.iface 100 (vP t)] 56 :: txR t m s p wb va vc sv clk es :: H) w' := by
 refine cW Tryz.func31 rfl Tryz.ntmps31 ?_
 simp only [al]
 refine sK fun _ k1 => rL (sl_box (L := [vP v, .slice aa args.length ac]) tV (wn rfl) rfl rfl hv (fun w => by kernel_rfl) (fun b2 w3 hv => ?_))
 simp only [zP, po]
 refine sl_alloc tV (wn rfl) rfl hv k2al34 (fun b4 w5 hv => ?_)
 refine uW k1 (sK fun _ k6 => ?_)
 refine rL (uF (.pointer (some ⟨b2, 1, none⟩)) rfl (k2fa80_1 _ _ _) ?_)
 refine uL _ rfl (run_load1 s1na26 (hv.load 1 1 rfl rfl)) (uA rfl ?_)
 refine uW k6 (sK fun _ k7 => ?_)
 refine sK fun _ k8 => rL (uM rfl ?_)
 refine uW k8 (bB ?_)
 refine sK fun _ k9 => rL (uG (.bool false) rfl (ex_seql rfl rfl rfl (qF (by decide))) ?_)
 refine uA rfl (uW k9 ?_)
 refine cF rfl (sK fun _ k10 => ?_)
 refine rL (uG (.bool false) rfl (ex_seql rfl rfl rfl (qF (by decide))) ?_)
 refine uA rfl (uW k10 ?_)
 refine cF rfl (sK fun _ k11 => ?_)
 refine rL (uG (.bool false) rfl (ex_seql rfl rfl rfl (qF (by decide))) ?_)
 refine uA rfl (uW k11 ?_)
 refine cF rfl (sK fun _ k12 => ?_)
 refine rL (uG (.bool false) rfl (ex_seql rfl rfl rfl (qF (by decide))) ?_)
 refine uA rfl (uW k12 ?_)
 refine cF rfl (sK fun _ k13 => ?_)
 refine sK fun _ k14 => rL (uG (.bool false) rfl (ex_seql rfl rfl rfl (qF (by decide))) ?_)
 refine uA rfl (uW k14 ?_)
 refine cF rfl (rL ?_)
 refine uG (.bool false) rfl (ex_seql rfl rfl rfl (qF (by decide))) (uA rfl ?_)
 refine uW k13 (cF rfl ?_)
 refine sK fun _ k15 => rL (uG (.bool false) rfl (ex_seql rfl rfl rfl (qF (by decide))) ?_)
 refine uA rfl (uW k15 ?_)
 refine cF rfl (sK fun _ k16 => ?_)
 refine rL (uG (.bool false) rfl (ex_seql rfl rfl rfl (qF (by decide))) ?_)
 refine uA rfl (uW k16 ?_)
 refine cF rfl (sK fun _ k17 => ?_)
 refine rL (uG (.bool false) rfl (ex_seql rfl rfl rfl (qF (by decide))) ?_)
 refine uA rfl (uW k17 ?_)
 refine cF rfl (sK fun _ k18 => ?_)
 refine rL (uG (.bool false) rfl (ex_seql rfl rfl rfl (qF (by decide))) ?_)
 refine uA rfl (uW k18 ?_)
 refine cF rfl (sK fun _ k19 => ?_)
 refine rL (uG (.bool true) rfl (ex_seql rfl rfl rfl (qT (by decide))) ?_)
 refine uA rfl (uW k19 ?_)
 refine cT rfl (sK fun _ k20 => ?_)
 refine rL (uL (.agg #[vP v, .slice aa args.length ac]) rfl (lM 1 k2wd80 hv rfl rfl rfl rfl) ?_)
 refine uM rfl ?_
 replace hv := hv.front 3 rfl
 simp only [eS, eZ] at hv
 replace hv := hv.front 3 rfl
 simp only [eS, eZ] at hv
 refine xC k2callable63 rfl ((ckScan B _ _ v t m s p wb va vc sv clk es M hM aa args.length ac aa ac args hoka hra (by omega) hkl hMl hxl hsm hN hv).mono ?_) rfl
 rintro e w21 ⟨C, r, cs, hC, rfl, hrp, hsr, hv⟩
 refine ⟨_, rfl, ?_⟩
 obtain ⟨rk, rs, rn, rv, rfl⟩ := rp_parts hrp
 simp only [zP, po]
 refine xS 2 rfl hv rssz34 rfl (by exact ⟨rfl, rfl, rfl, hrp.lv.2, trivial⟩) (fun w22 hv => ?_)
 simp only [zS, zO, sp] at hv
 refine uW k20 (rR ?_)
 refine bZ (tR ?_)
 refine bC 2 rswd34 hv rfl rfl rfl rfl (⟨C, r, _, hC, rfl, hrp, hsr, (hv.kp [1, 1] 2 2)⟩)
theorem k2al4 : AL Tryz.prog 4 [.bool false] := fun w => by kernel_rfl
theorem k2fa78_1 : FA Tryz.prog 78 1 1 := fun w b o => by kernel_rfl
theorem k2callable28 : Callable Tryz.prog 28 := cb Tryz.func28 (by kernel_rfl)
theorem k2rec28 (n : Nat) (x0 x1 : Value) (w : World) : CallsDIn Fence.wide n Tryz.prog 28 #[x0, x1] .returning w fun e u' w' => e = .returned (.tuple #[]) ∧ u' = .returning ∧ w' = w := by
 refine callsDIn_of_wpSIn Tryz.func28 rfl trivial fun c₀ cs hu => ?_
 apply wpSIn_seq
 apply wpSIn_region
 simp [wpOpsSIn, go_sem, recoverD, hu, Tryz.ntmps28, Exit.thenS]
 refine wpSIn_cond (t := false) (by simp [Act.eval, Array.replicate]) ?_
 simp only [Bool.false_eq_true, if_false]
 refine wpSIn_of_wpIn rfl (wpIn_skip ?_)
 cases c₀
 simp_all [bodyPostS, results, Tryz.results28]
theorem k2fa78_2 : FA Tryz.prog 78 2 2 := fun w b o => by kernel_rfl
theorem k2callable31 : Callable Tryz.prog 31 := cb Tryz.func31 (by kernel_rfl)
theorem ckDoS (B : Base) (H : List Res) (w : World) (v t m s p wb : Nat) (va : Option Addr) (vc : Nat) (sv : Value) (clk : Int) (es : List (List UInt8 × Value)) (M : List (List UInt8 × Ver)) (hM : VM B es M) (aa : Option Addr) (ac : Nat) (args : List (List UInt8)) (hra : RdV B [] aa (textCells args)) (hoka : SliceOk aa args.length ac) (hma : args.length ≤ 1000) (hal : 1 ≤ args.length) (hkl : ∀ k ∈ M.map (·.1), k.length ≤ 256) (hMl : M.length ≤ 1000000) (hxl : ∀ x ∈ args, x.length ≤ 9223372036854775807) (hsm : (∀ x ∈ args, x.length ≤ 1000000) ∨ M = []) (hN : NumB B) (hv : Inv B (Res.cell v [.iface 100 (vP t)] 56 :: txR t m s p wb va vc sv clk es :: H) w) :
  Calls Tryz.prog 10 #[vP v, vS [83, 67, 65, 78], .slice aa args.length ac] w fun e w' => ∃ C r cs, B.Le C ∧ e = .returned (.tuple #[.agg cs.toArray, .bool true]) ∧ RpAt C r cs ∧ ScanR (namesT M clk) args r ∧ Inv C (Res.cell v [.iface 100 (vP t)] 56 :: txR t m s p wb va vc sv clk es :: H) w' := by
 refine (callsIn_wide (n := 5)).1 (callsIn_of_wp_defers Tryz.func10 rfl trivial ?_)
 simp only [Tryz.ntmps10, List.size_toArray, List.length_cons, List.length_nil, Nat.reduceAdd, Nat.reduceSub, Array.replicate_succ, Array.replicate_zero, List.push_toArray, List.append_toArray, List.nil_append, List.cons_append]
 refine sK fun _ k1 => rL (sl_alloc tV (wn rfl) rfl hv k2al34 (fun b2 w3 hv => ?_))
 refine sl_alloc tV (wn rfl) rfl hv k2al4 (fun b4 w5 hv => ?_)
 refine uW k1 (sK fun _ k6 => ?_)
 refine rL (uG (.func (.func 28) #[] #[vP b2, vP b4]) rfl (ex_makeFunc (c' := #[vP b2, vP b4]) rfl (by simp only [List.map_toArray, List.map_nil]) (by simp only [List.map_toArray, List.map_cons, List.map_nil]; rfl)) ?_)
 refine wpi_defer tV rfl (wn rfl) rfl rfl (uW k6 ?_)
 refine sK fun _ k7 => sK fun _ k8 => rL (xC k2callable30 rfl ((gRowsC B _ _ hv).mono ?_) rfl)
 rintro e w9 ⟨C, ra, rc, hC, rfl, hrr, hv⟩
 refine ⟨_, rfl, uG (vI (gRows.length : Int)) rfl (ex_len0 Tryz.underlying75 rfl rfl) ?_⟩
 refine uM rfl (uW k8 ?_)
 refine bB ?_
 gi_loopw [14] (fun x14 wr => ∃ (i : Nat), x14 = vI i ∧ i ≤ gRows.length ∧ (∀ (j : Nat) y, j < i → gRows[j]? = some y → y.1 ≠ ([83, 67, 65, 78] : List UInt8)) ∧ Inv C (Res.cell b4 [.bool false] 4 :: Res.cell b2 [vI 0, vS [], vI 0, vN] 34 :: Res.cell v [.iface 100 (vP t)] 56 :: txR t m s p wb va vc sv clk es :: H) wr) (fun x14 _ => gRows.length - (intOf x14).toNat)
 case atStart => exact ⟨0, rfl, Nat.zero_le _, fun j y h => by omega, hv⟩
 case round =>
  obtain ⟨i, rfl, hi, hno, hv⟩ := hrel
  have hrl := gRows_len
  refine sK fun _ k11 => rL ?_
  by_cases hb12 : (i : Int) < (gRows.length : Int)
  ·refine uG (.bool true) rfl (ex_lss rfl rfl rfl (qT hb12)) (uW k11 ?_)
   refine sK fun _ k13 => cT rfl (kS ?_)
   refine tK k13 (sK fun _ k14 => ?_)
   refine bB (sK fun _ k15 => ?_)
   have hrl := gRows_len
   obtain ⟨x, hx⟩ : ∃ x, gRows[i]? = some x := ⟨_, List.getElem?_eq_getElem (show i < gRows.length by omega)⟩
   have hxm := List.mem_of_getElem? hx
   obtain ⟨rb, ro, had, hrdx⟩ := gRow_reads hrr hx
   subst had
   refine rL (uG (.pointer (some ⟨rb, ro + i * 3, none⟩)) rfl (ex_index rfl rfl rfl (run_idx (k := i) Tryz.underlying75 k2es75 (by omega))) ?_)
   refine uL (.agg #[vS x.1, vI x.2.1, vI x.2.2]) rfl (run_loadR (cs := [vS x.1, vI x.2.1, vI x.2.2]) k2wd78 (Reads.mid (pre := []) (mid := [vS x.1, vI x.2.1, vI x.2.2]) (post := []) hrdx _ _ _ (Base.Le.refl _) no_res hv)) ?_
   refine sl_alloc tV (wn rfl) rfl hv k2al78 (fun b16 w17 hv => ?_)
   simp only [zP, po]
   refine xS 0 rfl hv k2sz78 rfl (by exact ⟨rfl, rfl, rfl, trivial⟩) (fun w18 hv => ?_)
   simp only [zO, sp] at hv
   refine uW k15 (sK fun _ k19 => ?_)
   refine sK fun _ k20 => rL (uF (vP b16) rfl (k2fa78_0 _ _ _) ?_)
   refine uL _ rfl (run_load1 s9na9 (hv.load 0 0 rfl rfl)) (uM rfl ?_)
   by_cases hb21 : x.1 ≠ ([83, 67, 65, 78] : List UInt8)
   ·refine uG (.bool true) rfl (ex_sneq rfl rfl rfl (qT hb21)) (uW k20 ?_)
    refine cT rfl (xE ?_)
    refine tX (bH ?_)
    refine tK k14 (rL ?_)
    refine uG (vI ((i + 1 : Nat) : Int)) rfl (ex_add rfl rfl rfl (by rw [i64_in (by omega)]; omega)) (uM rfl ?_)
    refine uZ (then_normal ?_)
    go_roundw
    case rel => exact ⟨i + 1, rfl, by omega, fun j y hj hy => (by
       rcases Nat.lt_or_ge j i with h | h
       ·exact hno j y h hy
       obtain rfl : j = i := by omega
       rw [hx] at hy; cases hy; exact hb21), (hv.kp [4, 4, 4, 4] 4 1)⟩
    case measure => show gRows.length - (((i + 1 : Nat) : Int)).toNat < gRows.length - ((i : Int)).toNat; omega
   refine uG (.bool false) rfl (ex_sneq rfl rfl rfl (qF hb21)) (uW k20 ?_)
   refine cF rfl (kS ?_)
   refine tK k19 (sK fun _ k22 => ?_)
   refine sK fun _ k23 => ?_
   have hxn : x.1 = ([83, 67, 65, 78] : List UInt8) := Classical.byContradiction fun h9 => hb21 h9
   obtain ⟨hx1, hx2⟩ := gRows_scan x hxm hxn
   refine rL (uM rfl ?_)
   refine uG (vI (args.length : Int)) rfl (ex_len0 Tryz.underlying26 rfl rfl) (uA rfl ?_)
   refine uW k23 (sK fun _ k24 => ?_)
   refine rL (uM rfl ?_)
   refine uF (.pointer (some ⟨b16, 1, none⟩)) rfl (k2fa78_1 _ _ _) ?_
   refine uL _ rfl (run_load1 s2na3 (hv.load 0 1 rfl rfl)) ?_
   by_cases hb25 : (args.length : Int) < x.2.1
   ·refine uG (.bool true) rfl (ex_lss rfl rfl rfl (qT hb25)) (uM rfl ?_)
    iterate 9 refine uP rfl ?_
    refine uK rfl (uW k24 ?_)
    refine cT rfl (sK fun _ k26 => ?_)
    refine rL (xC rscallable29 rfl ((viewWrong C _ _ 43 hv).mono ?_) rfl)
    rintro e w28 ⟨s27, rfl, hv⟩
    refine ⟨_, rfl, ?_⟩
    refine xS 2 rfl hv rssz34 rfl (by exact ⟨rfl, rfl, rfl, rfl, trivial⟩) (fun w29 hv => ?_)
    simp only [zS, zO, sp] at hv
    refine xV 1 (.bool true) rfl hv v8sz4 rfl rfl (fun w30 hv => ?_)
    simp only [zS, zO, sp] at hv
    refine uW k26 (rR ?_)
    refine tR (bZ ?_)
    refine tR (tR ?_)
    refine bZ (tR ?_)
    refine leave_rec k2callable28 (k2rec28 _ _ _ _) (res_cells2 rfl rfl (lM 2 rswd34 hv rfl rfl rfl rfl) rfl (run_load1 s2na4 (hv.load 1 0 rfl rfl))) ?_
    exfalso; omega
   refine uG (.bool false) rfl (ex_lss rfl rfl rfl (qF hb25)) (uM rfl ?_)
   refine uF (.pointer (some ⟨b16, 2, none⟩)) rfl (k2fa78_2 _ _ _) ?_
   refine uL _ rfl (run_load1 s2na3 (hv.load 0 2 rfl rfl)) ?_
   by_cases hb31 : x.2.2 ≥ 0
   ·refine uG (.bool true) rfl (ex_geq rfl rfl rfl (qT hb31)) ?_
    refine uM rfl ?_
    refine uM rfl ?_
    refine uF (.pointer (some ⟨b16, 2, none⟩)) rfl (k2fa78_2 _ _ _) ?_
    refine uL _ rfl (run_load1 s2na3 (hv.load 0 2 rfl rfl)) ?_
    by_cases hb32 : (args.length : Int) > x.2.2
    ·refine uG (.bool true) rfl (ex_gtr rfl rfl rfl (qT hb32)) ?_
     refine uK rfl (uK rfl ?_)
     refine uW k24 (cT rfl ?_)
     refine sK fun _ k33 => rL (xC rscallable29 rfl ((viewWrong C _ _ 43 hv).mono ?_) rfl)
     rintro e w35 ⟨s34, rfl, hv⟩
     refine ⟨_, rfl, ?_⟩
     refine xS 2 rfl hv rssz34 rfl (by exact ⟨rfl, rfl, rfl, rfl, trivial⟩) (fun w36 hv => ?_)
     simp only [zS, zO, sp] at hv
     refine xV 1 (.bool true) rfl hv v8sz4 rfl rfl (fun w37 hv => ?_)
     simp only [zS, zO, sp] at hv
     refine uW k33 (rR ?_)
     refine tR (bZ ?_)
     refine tR (tR ?_)
     refine bZ (tR ?_)
     refine leave_rec k2callable28 (k2rec28 _ _ _ _) (res_cells2 rfl rfl (lM 2 rswd34 hv rfl rfl rfl rfl) rfl (run_load1 s2na4 (hv.load 1 0 rfl rfl))) ?_
     exfalso; omega
    refine uG (.bool false) rfl (ex_gtr rfl rfl rfl (qF hb32)) ?_
    refine uK rfl (uK rfl ?_)
    refine uW k24 (cF rfl ?_)
    refine kS (tK k22 ?_)
    refine sK fun _ k38 => rL (uM rfl ?_)
    refine uM rfl ?_
    refine uG (.agg #[vP v, .slice aa args.length ac]) rfl (ex_buildN (vs := #[(0, vP v), (1, .slice aa args.length ac)]) rfl (by simp only [List.map_toArray, List.map_cons, List.map_nil]; rfl) (by kernel_rfl)) (uM rfl ?_)
    replace hv := hv.front 4 rfl
    simp only [eS, eZ] at hv
    replace hv := hv.front 4 rfl
    simp only [eS, eZ] at hv
    refine xC k2callable31 rfl ((ckDoScan C _ _ v t m s p wb va vc sv clk es M (hM.more hC) aa ac args (hra.more hC (fun _ h => h)) hoka hma hkl hMl hxl hsm (hN.more hC) hv).mono ?_) rfl
    rintro e w39 ⟨D, r, cs, hD, rfl, hrp, hsr, hv⟩
    refine ⟨_, rfl, ?_⟩
    obtain ⟨rk, rs, rn, rv, rfl⟩ := rp_parts hrp
    refine xS 4 rfl hv rssz34 rfl (by exact ⟨rfl, rfl, rfl, hrp.lv.2, trivial⟩) (fun w40 hv => ?_)
    simp only [zS, zO, sp] at hv
    simp only [zP, po]
    refine xV 3 (.bool true) rfl hv v8sz4 rfl rfl (fun w41 hv => ?_)
    simp only [zS, zO, sp] at hv
    refine uW k38 (rR ?_)
    refine bZ (tR ?_)
    refine tR (bZ ?_)
    refine tR (leave_rec k2callable28 (k2rec28 _ _ _ _) (res_cells2 rfl rfl (lM 4 rswd34 hv rfl rfl rfl rfl) rfl (run_load1 s2na4 (hv.load 3 0 rfl rfl))) ?_)
    exact ⟨D, r, _, (hC.trans hD), rfl, hrp, hsr, (hv.kp [1, 1] 2 3)⟩
   refine uG (.bool false) rfl (ex_geq rfl rfl rfl (qF hb31)) ?_
   refine uM rfl ?_
   iterate 4 refine uP rfl ?_
   refine uK rfl (uK rfl ?_)
   refine uW k24 (cF rfl ?_)
   refine kS (tK k22 ?_)
   refine sK fun _ k42 => rL (uM rfl ?_)
   refine uM rfl ?_
   refine uG (.agg #[vP v, .slice aa args.length ac]) rfl (ex_buildN (vs := #[(0, vP v), (1, .slice aa args.length ac)]) rfl (by simp only [List.map_toArray, List.map_cons, List.map_nil]; rfl) (by kernel_rfl)) (uM rfl ?_)
   replace hv := hv.front 4 rfl
   simp only [eS, eZ] at hv
   replace hv := hv.front 4 rfl
   simp only [eS, eZ] at hv
   refine xC k2callable31 rfl ((ckDoScan C _ _ v t m s p wb va vc sv clk es M (hM.more hC) aa ac args (hra.more hC (fun _ h => h)) hoka hma hkl hMl hxl hsm (hN.more hC) hv).mono ?_) rfl
   rintro e w43 ⟨D, r, cs, hD, rfl, hrp, hsr, hv⟩
   refine ⟨_, rfl, ?_⟩
   obtain ⟨rk, rs, rn, rv, rfl⟩ := rp_parts hrp
   refine xS 4 rfl hv rssz34 rfl (by exact ⟨rfl, rfl, rfl, hrp.lv.2, trivial⟩) (fun w44 hv => ?_)
   simp only [zS, zO, sp] at hv
   simp only [zP, po]
   refine xV 3 (.bool true) rfl hv v8sz4 rfl rfl (fun w45 hv => ?_)
   simp only [zS, zO, sp] at hv
   refine uW k42 (rR ?_)
   refine bZ (tR ?_)
   refine tR (bZ ?_)
   refine tR (leave_rec k2callable28 (k2rec28 _ _ _ _) (res_cells2 rfl rfl (lM 4 rswd34 hv rfl rfl rfl rfl) rfl (run_load1 s2na4 (hv.load 3 0 rfl rfl))) ?_)
   exact ⟨D, r, _, (hC.trans hD), rfl, hrp, hsr, (hv.kp [1, 1] 2 3)⟩
  refine uG (.bool false) rfl (ex_lss rfl rfl rfl (qF hb12)) (uW k11 ?_)
  refine sK fun _ k46 => cF rfl (xE ?_)
  refine tX (tX ?_)
  refine bH (tK k7 ?_)
  refine sK fun _ k47 => rL (uG (.agg #[vI 0, vS [], vI 0, vN]) rfl (ex_buildN (vs := #[]) rfl (by simp only [List.map_toArray, List.map_nil]) (by kernel_rfl)) ?_)
  refine xS 1 rfl hv rssz34 rfl (by exact ⟨rfl, rfl, rfl, rfl, trivial⟩) (fun w48 hv => ?_)
  simp only [zS, zO, sp] at hv
  refine xV 0 (.bool false) rfl hv v8sz4 rfl rfl (fun w49 hv => ?_)
  simp only [zO, sp] at hv
  refine uW k47 (rR ?_)
  refine leave_rec k2callable28 (k2rec28 _ _ _ _) (res_cells2 rfl rfl (lM 1 rswd34 hv rfl rfl rfl rfl) rfl (run_load1 s2na4 (hv.load 0 0 rfl rfl))) ?_
  exfalso
  obtain ⟨y, hy, hyn⟩ := gRows_has
  obtain ⟨j, hj⟩ := List.mem_iff_getElem?.1 hy
  exact hno j y (by have := (List.getElem?_eq_some_iff.1 hj).1; omega) hj hyn
open Go.Sort
structure RelVK (M : List (List UInt8 × Ver)) (K : List KeyR) : Prop where
 so : SortedT (K.map (·.name))
 of_ : ∀ x ∈ K, lookA M x.name = some ⟨0, false, x.exp, x.val⟩
 back : ∀ k y, lookA M k = some y → y.gone = false → ∃ x ∈ K, x.name = k
theorem RelVK.nil : RelVK [] [] := ⟨List.Pairwise.nil, fun x h => (by cases h), fun k y h => (by cases h)⟩
theorem sortedT_nodup {l : List (List UInt8)} (h : SortedT l) : l.Nodup := List.Pairwise.imp (fun hab e => lt_ne hab e) h
theorem alive_live (x : KeyR) (clk : Int) : aliveB ⟨0, false, x.exp, x.val⟩ clk = liveK clk x := by
 unfold aliveB liveK
 simp only [Bool.not_false, Bool.true_and, gt_iff_lt]
section
variable {M : List (List UInt8 × Ver)} {K : List KeyR} {clk : Int} {name : List UInt8}
theorem RelVK.nodup (h : RelVK M K) : (K.map (·.name)).Nodup := sortedT_nodup h.so
theorem getK_mem {x : KeyR} (h : getK K clk name = some x) : x ∈ K ∧ x.name = name ∧ liveK clk x = true := by
 unfold getK at h
 have h2 := List.find?_some h
 simp only [Bool.and_eq_true, decide_eq_true_eq] at h2
 exact ⟨List.mem_of_find?_eq_some h, h2.1, h2.2⟩
theorem RelVK.got (h : RelVK M K) {x : KeyR} (hg : getK K clk name = some x) : lookA M name = some ⟨0, false, x.exp, x.val⟩ ∧ aliveB ⟨0, false, x.exp, x.val⟩ clk = true := by
 obtain ⟨h1, rfl, h3⟩ := getK_mem hg
 exact ⟨h.of_ x h1, by rw [alive_live]; exact h3⟩
theorem RelVK.alive (h : RelVK M K) {y : Ver} (hl : lookA M name = some y) (ha : aliveB y clk = true) : ∃ x, getK K clk name = some x ∧ y = ⟨0, false, x.exp, x.val⟩ := by
 have hg : y.gone = false := by unfold aliveB at ha; cases hy : y.gone <;> simp [hy] at ha ⊢
 obtain ⟨x, hx, rfl⟩ := h.back name y hl hg
 have h2 := h.of_ x hx
 rw [hl] at h2
 cases h2
 obtain ⟨i, hi⟩ := List.mem_iff_getElem?.1 hx
 exact ⟨x, getK_at h.nodup hi (by rw [← alive_live]; exact ha), rfl⟩
theorem RelVK.dead (h : RelVK M K) (hg : getK K clk name = none) : DeadM M clk name := by
 intro y hy
 cases ha : aliveB y clk with
 | false => rfl
 | true =>
  obtain ⟨x, h2, -⟩ := h.alive hy ha
  rw [hg] at h2; cases h2
theorem RelVK.free (h : RelVK M K) (hd : DeadM M clk name) : getK K clk name = none := by
 cases hg : getK K clk name with
 | none => rfl
 | some x =>
  obtain ⟨h1, h2⟩ := h.got hg
  rw [hd _ h1] at h2; cases h2
theorem others_sorted (h : SortedT (K.map (·.name))) : SortedT ((others K name).map (·.name)) := by
 unfold SortedT others at *
 exact h.sublist (List.Sublist.map _ (List.filter_sublist))
theorem others_iff {x : KeyR} : x ∈ others K name ↔ x ∈ K ∧ x.name ≠ name := by
 unfold others; rw [List.mem_filter]; simp
theorem RelVK.del (h : RelVK M K) : RelVK (updA M name gver) (others K name) := by
 refine ⟨others_sorted h.so, fun x hx => ?_, fun k y hl hg => ?_⟩
 ·obtain ⟨h1, h2⟩ := others_iff.1 hx
  rw [look_upd, if_neg (fun e => h2 e.symm)]
  exact h.of_ x h1
 rw [look_upd] at hl
 split at hl
 ·cases hl; cases hg
 rename_i hne
 obtain ⟨x, hx, rfl⟩ := h.back k y hl hg
 exact ⟨x, others_iff.2 ⟨hx, fun e => hne e.symm⟩, rfl⟩
theorem RelVK.put (h : RelVK M K) {v : Val} {exp : Int} {K' : List KeyR} (hi : InsK (others K name) ⟨name, v, exp⟩ K') : RelVK (updA M name ⟨0, false, exp, v⟩) K' := by
 obtain ⟨j, hj, rfl, h1, h2⟩ := hi
 have hso := others_sorted (name := name) h.so
 have hmem : ∀ x, x ∈ (others K name).take j ++ (⟨name, v, exp⟩ : KeyR) :: (others K name).drop j ↔ x = ⟨name, v, exp⟩ ∨ x ∈ others K name := by
  intro x
  rw [List.mem_append, List.mem_cons]
  constructor
  ·rintro (hx | rfl | hx)
   ·exact .inr (List.mem_of_mem_take hx)
   ·exact .inl rfl
   exact .inr (List.mem_of_mem_drop hx)
  rintro (rfl | hx)
  ·exact .inr (.inl rfl)
  rw [← List.take_append_drop j (others K name), List.mem_append] at hx
  rcases hx with hx | hx
  ·exact .inl hx
  exact .inr (.inr hx)
 refine ⟨?_, fun x hx => ?_, fun k y hl hg => ?_⟩
 ·unfold SortedT at *
  rw [List.map_append, List.map_cons, List.map_take, List.map_drop]
  rw [List.pairwise_append, List.pairwise_cons]
  have hgt : ∀ k ∈ ((others K name).map (·.name)).drop j, Op.bytesLess name k = true := by
   intro k hk
   rw [← List.map_drop] at hk
   obtain ⟨x, hx, rfl⟩ := List.mem_map.1 hk
   have hne := (others_iff.1 (List.mem_of_mem_drop hx)).2
   have hnl : Op.bytesLess x.name name = false := by
    cases hd : (others K name).drop j with
    | nil => rw [hd] at hx; cases hx
    | cons y l =>
     have hy : (others K name)[j]? = some y := by rw [← List.head?_drop, hd]; rfl
     rw [hd] at hx
     rcases List.mem_cons.1 hx with rfl | hx
     ·exact h2 _ hy
     have hs2 : ((y :: l).map (·.name)).Pairwise (fun a b => Op.bytesLess a b = true) := by rw [← hd, List.map_drop]; exact hso.sublist (List.drop_sublist _ _)
     rw [List.map_cons, List.pairwise_cons] at hs2
     exact ge_trans (h2 _ hy) (hs2.1 _ (List.mem_map.2 ⟨x, hx, rfl⟩))
   cases hlt : Op.bytesLess name x.name with
   | true => rfl
   | false => exact absurd (lt_total _ _ hnl hlt) hne
  refine ⟨hso.sublist (List.take_sublist _ _), ⟨hgt, hso.sublist (List.drop_sublist _ _)⟩, fun a ha b hb => ?_⟩
  rw [← List.map_take] at ha
  obtain ⟨x, hx, rfl⟩ := List.mem_map.1 ha
  have hxn := h1 x hx
  rcases List.mem_cons.1 hb with rfl | hb
  ·exact hxn
  exact lt_trans _ _ _ hxn (hgt b hb)
 ·rw [look_upd]
  rcases (hmem x).1 hx with rfl | hx
  ·rw [if_pos rfl]
  obtain ⟨h3, h4⟩ := others_iff.1 hx
  rw [if_neg (fun e => h4 e.symm)]
  exact h.of_ x h3
 rw [look_upd] at hl
 split at hl
 ·rename_i e
  exact ⟨⟨name, v, exp⟩, (hmem _).2 (.inl rfl), e⟩
 rename_i hne
 obtain ⟨x, hx, rfl⟩ := h.back k y hl hg
 exact ⟨x, (hmem _).2 (.inr (others_iff.2 ⟨hx, fun e => hne e.symm⟩)), rfl⟩
theorem RelVK.names (h : RelVK M K) (hnd : (M.map (·.1)).Nodup) : namesT M clk = namesR K clk := by
 have hle : ∀ a b : List UInt8, leB a b = !Op.bytesLess b a := by
  intro a b
  rw [bytesLess_eq, leB, ← decide_not]
  exact decide_eq_decide.2 List.not_lt.symm
 refine sorted_ext ?_ ?_ fun k => ?_
 ·unfold namesT
  have hp : ((M.map (·.1)).mergeSort leB).Pairwise (fun a b => leB a b = true) := List.pairwise_mergeSort (fun a b c h1 h2 => by simp only [leB, decide_eq_true_eq] at *; exact List.le_trans h1 h2) (fun a b => by simp only [leB, Bool.or_eq_true, decide_eq_true_eq]; exact List.le_total a b) _
  have hn : ((M.map (·.1)).mergeSort leB).Nodup := ((List.mergeSort_perm _ _).nodup_iff).2 hnd
  refine List.Pairwise.filter _ ((hp.and hn).imp fun {a b} hab => ?_)
  obtain ⟨h1, h2⟩ := hab
  rw [hle] at h1
  cases h3 : Op.bytesLess a b with
  | true => rfl
  | false => exact absurd (lt_total _ _ h3 (by simpa using h1)) h2
 ·unfold namesR
  exact h.so.sublist (List.Sublist.map _ List.filter_sublist)
 unfold namesT namesR
 rw [List.mem_filter, List.mem_map]
 have hmk : k ∈ (M.map (·.1)).mergeSort leB ↔ lookA M k ≠ none := by
  simp only [List.mem_mergeSort, ne_eq, look_none, Classical.not_not]
 rw [hmk]
 constructor
 ·rintro ⟨h1, h2⟩
  cases hl : lookA M k with
  | none => exact absurd hl h1
  | some y =>
   unfold deadNow at h2
   rw [hl] at h2
   simp only [Bool.not_not] at h2
   obtain ⟨x, hx, -⟩ := h.alive hl h2
   obtain ⟨h3, h4, h5⟩ := getK_mem hx
   exact ⟨x, List.mem_filter.2 ⟨h3, h5⟩, h4⟩
 rintro ⟨x, hx, rfl⟩
 obtain ⟨h1, h2⟩ := List.mem_filter.1 hx
 have h3 := h.of_ x h1
 refine ⟨by rw [h3]; simp, ?_⟩
 unfold deadNow
 rw [h3]
 simp only [Bool.not_not]
 rw [alive_live]; exact h2
end
theorem s30callable50 : Callable Tryz.prog 50 := cb Tryz.func50 (by kernel_rfl)
theorem refSetRight (B : Base) (H : List Res) (w : World) (ad : Option Addr) (c : Nat) (l : List (List UInt8)) (hr : RdV B [] ad (textCells l)) (hm : l.length ≤ 1000000) (hv : Inv B H w) :
  Calls Tryz.prog 34 #[.slice ad l.length c] w fun e w' => ∃ b, e = .returned (.bool b) ∧ (b = true ↔ SetOk l) ∧ Inv B H w' := by
 refine cW Tryz.func34 rfl Tryz.ntmps34 ?_
 simp only [al]
 refine sK fun _ k1 => rL (uA rfl ?_)
 refine uW k1 (sK fun _ k2 => ?_)
 refine sK fun _ k3 => rL (uA rfl ?_)
 refine uW k3 (bB ?_)
 gi_loopw [3] (fun x3 wr => ∃ (i : Nat), x3 = vI i ∧ i ≤ l.length ∧ (∀ k, k < i → SetAt l k) ∧ Inv B H wr) (fun x3 _ => l.length - (intOf x3).toNat)
 case atStart => exact ⟨0, rfl, Nat.zero_le _, fun k h => by omega, hv⟩
 case round =>
  obtain ⟨i, rfl, hi, hall, hv⟩ := hrel
  refine sK fun _ k5 => sK fun _ k6 => rL (uM rfl ?_)
  refine uM rfl ?_
  refine uG (vI (l.length : Int)) rfl (ex_len0 Tryz.underlying26 rfl rfl) ?_
  by_cases hb7 : (i : Int) < (l.length : Int)
  ·refine uG (.bool true) rfl (ex_lss rfl rfl rfl (qT hb7)) (uW k6 ?_)
   refine cT rfl (kS ?_)
   refine tK k5 (sK fun _ k8 => ?_)
   refine bB (sK fun _ k9 => ?_)
   obtain ⟨x, hx⟩ : ∃ x, l[i]? = some x := ⟨_, List.getElem?_eq_getElem (show i < l.length by omega)⟩
   obtain ⟨bb, bo, had, hrdx⟩ := text_reads hr hx
   subst had
   refine rW mixed [19] [0,1,2,3,4,5,6,7,8,9,10,11,12,13,14,15,16,17,18,19,20,21,22] 36 rfl (by kernel_rfl) hv ?_
   simp only [qm, opAt]
   refine dM (.slice (some ⟨bb, bo, none⟩) l.length c) rfl (dM (vI i) rfl ?_)
   refine dG (.pointer (some ⟨bb, bo + i, none⟩)) rfl (ex_index rfl rfl rfl (run_idx1 (k := i) Tryz.underlying26 s9es26 (by omega))) ?_
   simp only [zP, po]
   refine dL _ rfl (fun hv => ex_load rfl rfl (run_load1 s9na9 (hrdx _ _ _ (Base.Le.refl _) no_res hv 0 _ rfl))) (dG (vI (x.length : Int)) rfl (ex_lenStr Tryz.underlying9 rfl rfl) ?_)
   by_cases hb10 : (x.length : Int) > 4096
   ·refine dG (.bool true) rfl (ex_gtr rfl rfl rfl (qT hb10)) ?_
    simp only [zP, po]
    refine dM (.bool true) rfl (dP rfl ?_)
    refine dP rfl ?_
    simp only [zP, po]
    refine dP rfl (dP rfl ?_)
    refine dP rfl ?_
    simp only [zP, po]
    refine dP rfl (dP rfl ?_)
    refine dP rfl ?_
    simp only [zP, po]
    refine dP rfl (dP rfl ?_)
    refine dP rfl ?_
    simp only [zP, po]
    refine dP rfl (dP rfl ?_)
    refine dP rfl ?_
    simp only [zP, po]
    refine dP rfl (dK true (.bool true) rfl ?_)
    refine dE fun w11 hv => ?_
    simp only [zP, po]
    refine tK k9 (cT rfl ?_)
    refine sK fun _ k12 => rL (uA rfl ?_)
    refine uW k12 (rR ?_)
    refine bZ (tR ?_)
    refine tR (bZ ?_)
    refine tR (bR rfl rfl ?_)
    exact ⟨false, rfl, ⟨fun h => (by cases h), fun h => by have := (h.2 i x hx).1; omega⟩, hv⟩
   refine dG (.bool false) rfl (ex_gtr rfl rfl rfl (qF hb10)) ?_
   simp only [zP, po]
   refine dM (.bool false) rfl (dM (vI i) rfl ?_)
   by_cases hb13 : (i : Int) > 0
   ·obtain ⟨j, hj⟩ : ∃ j : Nat, i = j + 1 := ⟨i - 1, by omega⟩
    obtain ⟨y, hy⟩ : ∃ x, l[j]? = some x := ⟨_, List.getElem?_eq_getElem (show j < l.length by omega)⟩
    obtain ⟨b9, o9, had9, hrdy⟩ := text_reads hr hy
    cases had9
    have hyl := (hall j (by omega) y hy).1
    skip
    refine dG (.bool true) rfl (ex_gtr rfl rfl rfl (qT hb13)) ?_
    simp only [zP, po]
    refine dM (.bool true) rfl (dM (.slice (some ⟨bb, bo, none⟩) l.length c) rfl ?_)
    refine dM (vI i) rfl ?_
    simp only [zP, po]
    refine dG (vI j) rfl (ex_sub rfl rfl rfl (by rw [i64_in (by omega)]; omega)) (dG (.pointer (some ⟨bb, bo + j, none⟩)) rfl (ex_index rfl rfl rfl (run_idx1 (k := j) Tryz.underlying26 s9es26 (by omega))) ?_)
    refine dL _ rfl (fun hv => ex_load rfl rfl (run_load1 s9na9 (hrdy _ _ _ (Base.Le.refl _) no_res hv 0 _ rfl))) ?_
    simp only [zP, po]
    refine dM (.slice (some ⟨bb, bo, none⟩) l.length c) rfl (dM (vI i) rfl ?_)
    refine dG (.pointer (some ⟨bb, bo + i, none⟩)) rfl (ex_index rfl rfl rfl (run_idx1 (k := i) Tryz.underlying26 s9es26 (by omega))) ?_
    simp only [zP, po]
    refine dL _ rfl (fun hv => ex_load rfl rfl (run_load1 s9na9 (hrdx _ _ _ (Base.Le.refl _) no_res hv 0 _ rfl))) (dS rfl fun w14 hv => ?_)
    by_cases hb15 : Op.bytesLess y x = true
    ·refine mC s30callable50 rfl ((calls_bool (refLess B _ _ y x (by omega) hv) hb15).mono ?_) rfl
     rintro e w16 ⟨rfl, hv⟩
     refine ⟨_, rfl, dW hv ?_⟩
     refine dG (.bool false) rfl (ex_not rfl rfl rfl) ?_
     simp only [zP, po]
     refine dK true (.bool false) rfl (dK false (.bool false) rfl ?_)
     refine dE fun w17 hv => ?_
     simp only [zP, po]
     refine tK k9 (cF rfl ?_)
     refine kS (bN ?_)
     refine tK k8 (rL ?_)
     refine uM rfl ?_
     refine uG (vI ((i + 1 : Nat) : Int)) rfl (ex_add rfl rfl rfl (by rw [i64_in (by omega)]; omega)) (uA rfl ?_)
     refine uZ (then_normal ?_)
     go_roundw
     case rel => exact ⟨i + 1, rfl, by omega, fun k hk => (by
        rcases Nat.lt_or_ge k i with h | h
        ·exact hall k h
        obtain rfl : k = i := by omega
        intro x' hx'
        rw [hx] at hx'; cases hx'
        refine ⟨by omega, fun j' y' hj' hy' => ?_⟩
        rw [show j' = j by omega, hy] at hy'; cases hy'; exact hb15), hv⟩
     case measure => show l.length - (((i + 1 : Nat) : Int)).toNat < l.length - ((i : Int)).toNat; omega
    refine mC s30callable50 rfl ((calls_bool (refLess B _ _ y x (by omega) hv) (by simpa using hb15)).mono ?_) rfl
    rintro e w18 ⟨rfl, hv⟩
    refine ⟨_, rfl, dW hv ?_⟩
    refine dG (.bool true) rfl (ex_not rfl rfl rfl) ?_
    simp only [zP, po]
    refine dK true (.bool true) rfl (dK false (.bool true) rfl ?_)
    refine dE fun w19 hv => ?_
    simp only [zP, po]
    refine tK k9 (cT rfl ?_)
    refine sK fun _ k20 => rL (uA rfl ?_)
    refine uW k20 (rR ?_)
    refine bZ (tR ?_)
    refine tR (bZ ?_)
    refine tR (bR rfl rfl ?_)
    exact ⟨false, rfl, ⟨fun h => (by cases h), fun h => absurd ((h.2 i x hx).2 j y (by omega) hy) hb15⟩, hv⟩
   refine dG (.bool false) rfl (ex_gtr rfl rfl rfl (qF hb13)) ?_
   simp only [zP, po]
   refine dM (.bool false) rfl (dP rfl ?_)
   refine dP rfl ?_
   simp only [zP, po]
   refine dP rfl (dP rfl ?_)
   refine dP rfl ?_
   simp only [zP, po]
   refine dP rfl (dP rfl ?_)
   refine dP rfl ?_
   simp only [zP, po]
   refine dP rfl (dP rfl ?_)
   refine dP rfl ?_
   simp only [zP, po]
   refine dK false (.bool false) rfl (dK false (.bool false) rfl ?_)
   refine dE fun w21 hv => ?_
   simp only [zP, po]
   refine tK k9 (cF rfl ?_)
   refine kS (bN ?_)
   refine tK k8 (rL ?_)
   refine uM rfl ?_
   refine uG (vI ((i + 1 : Nat) : Int)) rfl (ex_add rfl rfl rfl (by rw [i64_in (by omega)]; omega)) (uA rfl ?_)
   refine uZ (then_normal ?_)
   go_roundw
   case rel => exact ⟨i + 1, rfl, by omega, fun k hk => (by
      rcases Nat.lt_or_ge k i with h | h
      ·exact hall k h
      obtain rfl : k = i := by omega
      intro x' hx'
      rw [hx] at hx'; cases hx'
      refine ⟨by omega, fun j' y' hj' hy' => ?_⟩
      omega), hv⟩
   case measure => show l.length - (((i + 1 : Nat) : Int)).toNat < l.length - ((i : Int)).toNat; omega
  refine uG (.bool false) rfl (ex_lss rfl rfl rfl (qF hb7)) (uW k6 ?_)
  refine cF rfl (xE ?_)
  refine tX (tX ?_)
  refine bH (tK k2 ?_)
  refine sK fun _ k22 => rL (uM rfl ?_)
  refine uG (vI (l.length : Int)) rfl (ex_len0 Tryz.underlying26 rfl rfl) ?_
  refine uG (.bool (decide ((l.length : Int) ≤ 512))) rfl (ex_leq rfl rfl rfl rfl) (uA rfl ?_)
  refine uW k22 (rR ?_)
  refine bR rfl rfl ?_
  obtain rfl : i = l.length := by omega
  exact ⟨_, rfl, ⟨fun h9 => ⟨by first | omega | (have h8 : (l.length : Int) ≤ 512 := (by simpa using h9); omega), fun k x hx => hall k (List.getElem?_eq_some_iff.1 hx).1 x hx⟩, fun h9 => by have h8 := h9.1; first | rfl | (rw [decide_eq_true_iff]; omega)⟩, hv⟩
theorem refHashRight (B : Base) (H : List Res) (w : World) (ad : Option Addr) (c : Nat) (l : List (List UInt8 × List UInt8)) (hr : RdV B [] ad (pairCells l)) (hm : l.length ≤ 1000000) (hv : Inv B H w) :
  Calls Tryz.prog 33 #[.slice ad l.length c] w fun e w' => ∃ b, e = .returned (.bool b) ∧ (b = true ↔ HashOk l) ∧ Inv B H w' := by
 refine cW Tryz.func33 rfl Tryz.ntmps33 ?_
 simp only [al]
 refine sK fun _ k1 => rL (uA rfl ?_)
 refine uW k1 (sK fun _ k2 => ?_)
 refine sK fun _ k3 => rL (uM rfl ?_)
 refine uG (vI (l.length : Int)) rfl (ex_len0 Tryz.underlying40 rfl rfl) ?_
 by_cases hb4 : (l.length : Int) > 512
 ·refine uG (.bool true) rfl (ex_gtr rfl rfl rfl (qT hb4)) (uW k3 ?_)
  refine cT rfl (sK fun _ k5 => ?_)
  refine rL (uA rfl ?_)
  refine uW k5 (rR ?_)
  refine tR (bR rfl rfl ?_)
  exact ⟨false, rfl, ⟨fun h => (by cases h), fun h => by have := h.1; omega⟩, hv⟩
 refine uG (.bool false) rfl (ex_gtr rfl rfl rfl (qF hb4)) (uW k3 ?_)
 refine cF rfl (kS ?_)
 refine tK k2 (sK fun _ k6 => ?_)
 refine sK fun _ k7 => rL (uA rfl ?_)
 refine uW k7 (bB ?_)
 gi_loopw [3] (fun x3 wr => ∃ (i : Nat), x3 = vI i ∧ i ≤ l.length ∧ (∀ k, k < i → HashAt l k) ∧ Inv B H wr) (fun x3 _ => l.length - (intOf x3).toNat)
 case atStart => exact ⟨0, rfl, Nat.zero_le _, fun k h => by omega, hv⟩
 case round =>
  obtain ⟨i, rfl, hi, hall, hv⟩ := hrel
  refine sK fun _ k9 => sK fun _ k10 => rL (uM rfl ?_)
  refine uM rfl ?_
  refine uG (vI (l.length : Int)) rfl (ex_len0 Tryz.underlying40 rfl rfl) ?_
  by_cases hb11 : (i : Int) < (l.length : Int)
  ·refine uG (.bool true) rfl (ex_lss rfl rfl rfl (qT hb11)) (uW k10 ?_)
   refine cT rfl (kS ?_)
   refine tK k9 (sK fun _ k12 => ?_)
   refine bB (sK fun _ k13 => ?_)
   obtain ⟨x, hx⟩ : ∃ x, l[i]? = some x := ⟨_, List.getElem?_eq_getElem (show i < l.length by omega)⟩
   obtain ⟨bb, bo, had, hrdx⟩ := pair_reads hr hx
   subst had
   refine rW mixed [31] [0,1,2,3,4,5,6,7,8,9,10,11,12,13,14,15,16,17,18,19,20,21,22,23,24,25,26,27,28,29,30,31,32,33,34] 48 rfl (by kernel_rfl) hv ?_
   simp only [qm, opAt]
   refine dM (.slice (some ⟨bb, bo, none⟩) l.length c) rfl (dM (vI i) rfl ?_)
   refine dG (.pointer (some ⟨bb, bo + i * 2, none⟩)) rfl (ex_index rfl rfl rfl (run_idx (k := i) Tryz.underlying40 s10es40 (by omega))) ?_
   simp only [zP, po]
   refine dG (.pointer (some ⟨bb, bo + i * 2, none⟩)) rfl (ex_field rfl rfl (s10fa86_0 _ _ _)) (dL _ rfl (fun hv => ex_load rfl rfl (run_load1 s9na9 (hrdx _ _ _ (Base.Le.refl _) no_res hv 0 _ rfl))) ?_)
   refine dG (vI (x.1.length : Int)) rfl (ex_lenStr Tryz.underlying9 rfl rfl) ?_
   simp only [zP, po]
   by_cases hb14 : (x.1.length : Int) > 4096
   ·refine dG (.bool true) rfl (ex_gtr rfl rfl rfl (qT hb14)) (dM (.bool true) rfl ?_)
    refine dP rfl ?_
    simp only [zP, po]
    refine dP rfl (dP rfl ?_)
    refine dP rfl ?_
    simp only [zP, po]
    refine dP rfl (dP rfl ?_)
    refine dP rfl ?_
    simp only [zP, po]
    refine dK true (.bool true) rfl (dM (.bool true) rfl ?_)
    refine dP rfl ?_
    simp only [zP, po]
    refine dP rfl (dP rfl ?_)
    refine dP rfl ?_
    simp only [zP, po]
    refine dP rfl (dP rfl ?_)
    refine dP rfl ?_
    simp only [zP, po]
    refine dP rfl (dP rfl ?_)
    refine dP rfl ?_
    simp only [zP, po]
    refine dP rfl (dP rfl ?_)
    refine dP rfl ?_
    simp only [zP, po]
    refine dP rfl (dP rfl ?_)
    refine dP rfl ?_
    simp only [zP, po]
    refine dP rfl (dK true (.bool true) rfl ?_)
    refine dE fun w15 hv => ?_
    simp only [zP, po]
    refine tK k13 (cT rfl ?_)
    refine sK fun _ k16 => rL (uA rfl ?_)
    refine uW k16 (rR ?_)
    refine bZ (tR ?_)
    refine tR (bZ ?_)
    refine tR (bR rfl rfl ?_)
    exact ⟨false, rfl, ⟨fun h => (by cases h), fun h => by have := (h.2 i x hx).1; omega⟩, hv⟩
   refine dG (.bool false) rfl (ex_gtr rfl rfl rfl (qF hb14)) (dM (.bool false) rfl ?_)
   refine dM (.slice (some ⟨bb, bo, none⟩) l.length c) rfl ?_
   simp only [zP, po]
   refine dM (vI i) rfl (dG (.pointer (some ⟨bb, bo + i * 2, none⟩)) rfl (ex_index rfl rfl rfl (run_idx (k := i) Tryz.underlying40 s10es40 (by omega))) ?_)
   refine dG (.pointer (some ⟨bb, bo + i * 2 + 1, none⟩)) rfl (ex_field rfl rfl (s10fa86_1 _ _ _)) ?_
   simp only [zP, po]
   refine dL _ rfl (fun hv => ex_load rfl rfl (run_load1 s9na9 (hrdx _ _ _ (Base.Le.refl _) no_res hv 1 _ rfl))) (dG (vI (x.2.length : Int)) rfl (ex_lenStr Tryz.underlying9 rfl rfl) ?_)
   by_cases hb17 : (x.2.length : Int) > 4096
   ·refine dG (.bool true) rfl (ex_gtr rfl rfl rfl (qT hb17)) ?_
    simp only [zP, po]
    refine dK false (.bool true) rfl (dM (.bool true) rfl ?_)
    refine dP rfl ?_
    simp only [zP, po]
    refine dP rfl (dP rfl ?_)
    refine dP rfl ?_
    simp only [zP, po]
    refine dP rfl (dP rfl ?_)
    refine dP rfl ?_
    simp only [zP, po]
    refine dP rfl (dP rfl ?_)
    refine dP rfl ?_
    simp only [zP, po]
    refine dP rfl (dP rfl ?_)
    refine dP rfl ?_
    simp only [zP, po]
    refine dP rfl (dP rfl ?_)
    refine dP rfl ?_
    simp only [zP, po]
    refine dP rfl (dK true (.bool true) rfl ?_)
    refine dE fun w18 hv => ?_
    simp only [zP, po]
    refine tK k13 (cT rfl ?_)
    refine sK fun _ k19 => rL (uA rfl ?_)
    refine uW k19 (rR ?_)
    refine bZ (tR ?_)
    refine tR (bZ ?_)
    refine tR (bR rfl rfl ?_)
    exact ⟨false, rfl, ⟨fun h => (by cases h), fun h => by have := (h.2 i x hx).1; omega⟩, hv⟩
   refine dG (.bool false) rfl (ex_gtr rfl rfl rfl (qF hb17)) ?_
   simp only [zP, po]
   refine dK false (.bool false) rfl (dM (.bool false) rfl ?_)
   refine dM (vI i) rfl ?_
   simp only [zP, po]
   by_cases hb20 : (i : Int) > 0
   ·obtain ⟨j, hj⟩ : ∃ j : Nat, i = j + 1 := ⟨i - 1, by omega⟩
    obtain ⟨y, hy⟩ : ∃ x, l[j]? = some x := ⟨_, List.getElem?_eq_getElem (show j < l.length by omega)⟩
    obtain ⟨b9, o9, had9, hrdy⟩ := pair_reads hr hy
    cases had9
    have hyl := (hall j (by omega) y hy).1
    skip
    refine dG (.bool true) rfl (ex_gtr rfl rfl rfl (qT hb20)) (dM (.bool true) rfl ?_)
    refine dM (.slice (some ⟨bb, bo, none⟩) l.length c) rfl ?_
    simp only [zP, po]
    refine dM (vI i) rfl (dG (vI j) rfl (ex_sub rfl rfl rfl (by rw [i64_in (by omega)]; omega)) ?_)
    refine dG (.pointer (some ⟨bb, bo + j * 2, none⟩)) rfl (ex_index rfl rfl rfl (run_idx (k := j) Tryz.underlying40 s10es40 (by omega))) ?_
    simp only [zP, po]
    refine dG (.pointer (some ⟨bb, bo + j * 2, none⟩)) rfl (ex_field rfl rfl (s10fa86_0 _ _ _)) (dL _ rfl (fun hv => ex_load rfl rfl (run_load1 s9na9 (hrdy _ _ _ (Base.Le.refl _) no_res hv 0 _ rfl))) ?_)
    refine dM (.slice (some ⟨bb, bo, none⟩) l.length c) rfl ?_
    simp only [zP, po]
    refine dM (vI i) rfl (dG (.pointer (some ⟨bb, bo + i * 2, none⟩)) rfl (ex_index rfl rfl rfl (run_idx (k := i) Tryz.underlying40 s10es40 (by omega))) ?_)
    refine dG (.pointer (some ⟨bb, bo + i * 2, none⟩)) rfl (ex_field rfl rfl (s10fa86_0 _ _ _)) ?_
    simp only [zP, po]
    refine dL _ rfl (fun hv => ex_load rfl rfl (run_load1 s9na9 (hrdx _ _ _ (Base.Le.refl _) no_res hv 0 _ rfl))) (dS rfl fun w21 hv => ?_)
    by_cases hb22 : Op.bytesLess y.1 x.1 = true
    ·refine mC s30callable50 rfl ((calls_bool (refLess B _ _ y.1 x.1 (by omega) hv) hb22).mono ?_) rfl
     rintro e w23 ⟨rfl, hv⟩
     refine ⟨_, rfl, dW hv ?_⟩
     refine dG (.bool false) rfl (ex_not rfl rfl rfl) ?_
     simp only [zP, po]
     refine dK true (.bool false) rfl (dK false (.bool false) rfl ?_)
     refine dE fun w24 hv => ?_
     simp only [zP, po]
     refine tK k13 (cF rfl ?_)
     refine kS (bN ?_)
     refine tK k12 (rL ?_)
     refine uM rfl ?_
     refine uG (vI ((i + 1 : Nat) : Int)) rfl (ex_add rfl rfl rfl (by rw [i64_in (by omega)]; omega)) (uA rfl ?_)
     refine uZ (then_normal ?_)
     go_roundw
     case rel => exact ⟨i + 1, rfl, by omega, fun k hk => (by
        rcases Nat.lt_or_ge k i with h | h
        ·exact hall k h
        obtain rfl : k = i := by omega
        intro x' hx'
        rw [hx] at hx'; cases hx'
        refine ⟨by omega, fun j' y' hj' hy' => ?_⟩
        rw [show j' = j by omega, hy] at hy'; cases hy'; exact hb22), hv⟩
     case measure => show l.length - (((i + 1 : Nat) : Int)).toNat < l.length - ((i : Int)).toNat; omega
    refine mC s30callable50 rfl ((calls_bool (refLess B _ _ y.1 x.1 (by omega) hv) (by simpa using hb22)).mono ?_) rfl
    rintro e w25 ⟨rfl, hv⟩
    refine ⟨_, rfl, dW hv ?_⟩
    refine dG (.bool true) rfl (ex_not rfl rfl rfl) ?_
    simp only [zP, po]
    refine dK true (.bool true) rfl (dK false (.bool true) rfl ?_)
    refine dE fun w26 hv => ?_
    simp only [zP, po]
    refine tK k13 (cT rfl ?_)
    refine sK fun _ k27 => rL (uA rfl ?_)
    refine uW k27 (rR ?_)
    refine bZ (tR ?_)
    refine tR (bZ ?_)
    refine tR (bR rfl rfl ?_)
    exact ⟨false, rfl, ⟨fun h => (by cases h), fun h => absurd ((h.2 i x hx).2 j y (by omega) hy) hb22⟩, hv⟩
   refine dG (.bool false) rfl (ex_gtr rfl rfl rfl (qF hb20)) (dM (.bool false) rfl ?_)
   refine dP rfl ?_
   simp only [zP, po]
   refine dP rfl (dP rfl ?_)
   refine dP rfl ?_
   simp only [zP, po]
   refine dP rfl (dP rfl ?_)
   refine dP rfl ?_
   simp only [zP, po]
   refine dP rfl (dP rfl ?_)
   refine dP rfl ?_
   simp only [zP, po]
   refine dP rfl (dP rfl ?_)
   refine dP rfl ?_
   simp only [zP, po]
   refine dK false (.bool false) rfl (dK false (.bool false) rfl ?_)
   refine dE fun w28 hv => ?_
   simp only [zP, po]
   refine tK k13 (cF rfl ?_)
   refine kS (bN ?_)
   refine tK k12 (rL ?_)
   refine uM rfl ?_
   refine uG (vI ((i + 1 : Nat) : Int)) rfl (ex_add rfl rfl rfl (by rw [i64_in (by omega)]; omega)) (uA rfl ?_)
   refine uZ (then_normal ?_)
   go_roundw
   case rel => exact ⟨i + 1, rfl, by omega, fun k hk => (by
      rcases Nat.lt_or_ge k i with h | h
      ·exact hall k h
      obtain rfl : k = i := by omega
      intro x' hx'
      rw [hx] at hx'; cases hx'
      refine ⟨by omega, fun j' y' hj' hy' => ?_⟩
      omega), hv⟩
   case measure => show l.length - (((i + 1 : Nat) : Int)).toNat < l.length - ((i : Int)).toNat; omega
  refine uG (.bool false) rfl (ex_lss rfl rfl rfl (qF hb11)) (uW k10 ?_)
  refine cF rfl (xE ?_)
  refine tX (tX ?_)
  refine bH (tK k6 ?_)
  refine sK fun _ k29 => rL (uA rfl ?_)
  refine uW k29 (rR ?_)
  refine bR rfl rfl ?_
  obtain rfl : i = l.length := by omega
  exact ⟨_, rfl, ⟨fun h9 => ⟨by first | omega | (have h8 : (l.length : Int) ≤ 512 := (by simpa using h9); omega), fun k x hx => hall k (List.getElem?_eq_some_iff.1 hx).1 x hx⟩, fun h9 => by have h8 := h9.1; first | rfl | (rw [decide_eq_true_iff]; omega)⟩, hv⟩
def beforeB (a b : Int × List UInt8) : Bool := decide (a.1 < b.1) || (decide (a.1 = b.1) && Op.bytesLess a.2 b.2)
theorem before_cmp (a b : Int × List UInt8) : beforeB a b = true ↔ cmpM a b < 0 := by
 unfold beforeB cmpM
 rcases Int.lt_trichotomy a.1 b.1 with h | h | h
 ·have hI : cmpI a.1 b.1 = -1 := by unfold cmpI; rw [if_pos h]
  rw [hI, qT h]; simp [orI]
 ·have hI : cmpI a.1 b.1 = 0 := by unfold cmpI; rw [if_neg (by omega), if_neg (by omega)]
  rw [hI, qT h, qF (show ¬ a.1 < b.1 by omega)]
  simp only [orI, ne_eq, not_true_eq_false, if_false, Bool.false_or, Bool.true_and]
  unfold cmpS
  cases h1 : Op.bytesLess a.2 b.2 with
  | true => simp
  | false => cases h2 : Op.bytesLess b.2 a.2 <;> simp
 have hI : cmpI a.1 b.1 = 1 := by unfold cmpI; rw [if_neg (by omega), if_pos h]
 rw [hI, qF (show ¬ a.1 < b.1 by omega), qF (show ¬ a.1 = b.1 by omega)]; simp [orI]
theorem nodup_place {l : List (Int × List UInt8)} : (l.map memName).Nodup ↔ ∀ (i j : Nat) x y, i < j → l[i]? = some x → l[j]? = some y → x.2 ≠ y.2 := by
 unfold List.Nodup
 rw [List.pairwise_iff_getElem]
 constructor
 ·intro h i j x y hij hx hy e
  obtain ⟨hi, rfl⟩ := List.getElem?_eq_some_iff.1 hx
  obtain ⟨hj, rfl⟩ := List.getElem?_eq_some_iff.1 hy
  exact h i j (by rw [List.length_map]; exact hi) (by rw [List.length_map]; exact hj) hij (by rw [List.getElem_map, List.getElem_map]; exact e)
 intro h i j hi hj hij e
 rw [List.length_map] at hi hj
 rw [List.getElem_map, List.getElem_map] at e
 exact h i j _ _ hij (List.getElem?_eq_getElem hi) (List.getElem?_eq_getElem hj) e
theorem refBefore (B : Base) (H : List Res) (w : World) (a b : Int × List UInt8) (hl : a.2.length ≤ 5000) (hv : Inv B H w) :
  Calls Tryz.prog 67 #[.agg #[vI a.1, vS a.2], .agg #[vI b.1, vS b.2]] w fun e w' => e = .returned (.bool (beforeB a b)) ∧ Inv B H w' := by
 refine cW Tryz.func67 rfl Tryz.ntmps67 ?_
 simp only [al]
 refine sK fun _ k1 => rL (sl_box (L := [vI a.1, vS a.2]) tV (wn rfl) rfl rfl hv (fun w => by kernel_rfl) (fun b2 w3 hv => ?_))
 refine sl_box (L := [vI b.1, vS b.2]) tV (wn rfl) rfl rfl hv (fun w => by kernel_rfl) (fun b4 w5 hv => ?_)
 refine uA rfl (uW k1 ?_)
 refine sK fun _ k6 => rL (uF (vP b2) rfl (s11fa88_0 _ _ _) ?_)
 refine uL _ rfl (run_load1 s2na3 (hv.load 1 0 rfl rfl)) ?_
 refine uF (vP b4) rfl (s11fa88_0 _ _ _) ?_
 refine uL _ rfl (run_load1 s2na3 (hv.load 0 0 rfl rfl)) ?_
 by_cases hb7 : a.1 < b.1
 ·refine uG (.bool true) rfl (ex_lss rfl rfl rfl (qT hb7)) (uM rfl ?_)
  iterate 12 refine uP rfl ?_
  refine uK rfl (uA rfl ?_)
  refine uW k6 (rR ?_)
  refine bR rfl rfl (⟨congrArg (fun b => Ending.returned (Value.bool b)) (by unfold beforeB; simp [*]), (hv.kp [] 0 2)⟩)
 refine uG (.bool false) rfl (ex_lss rfl rfl rfl (qF hb7)) (uM rfl ?_)
 refine uF (vP b2) rfl (s11fa88_0 _ _ _) ?_
 refine uL _ rfl (run_load1 s2na3 (hv.load 1 0 rfl rfl)) ?_
 refine uF (vP b4) rfl (s11fa88_0 _ _ _) ?_
 refine uL _ rfl (run_load1 s2na3 (hv.load 0 0 rfl rfl)) ?_
 by_cases hb8 : a.1 = b.1
 ·refine uG (.bool true) rfl (ex_eql rfl rfl rfl (qT hb8)) ?_
  refine uM rfl ?_
  refine uF (.pointer (some ⟨b2, 1, none⟩)) rfl (s9fa88_1 _ _ _) ?_
  refine uL _ rfl (run_load1 s9na9 (hv.load 1 1 rfl rfl)) ?_
  refine uF (.pointer (some ⟨b4, 1, none⟩)) rfl (s9fa88_1 _ _ _) ?_
  refine uL _ rfl (run_load1 s9na9 (hv.load 0 1 rfl rfl)) ?_
  refine xC s30callable50 rfl ((refLess B _ _ a.2 b.2 (by omega) hv).mono ?_) rfl
  rintro e w9 ⟨rfl, hv⟩
  refine ⟨_, rfl, ?_⟩
  refine uK rfl (uK rfl ?_)
  refine uA rfl (uW k6 ?_)
  refine rR (bR rfl rfl ?_)
  exact ⟨congrArg (fun b => Ending.returned (Value.bool b)) (by unfold beforeB; simp [*]), (hv.kp [] 0 2)⟩
 refine uG (.bool false) rfl (ex_eql rfl rfl rfl (qF hb8)) ?_
 refine uM rfl ?_
 iterate 5 refine uP rfl ?_
 refine uK rfl (uK rfl ?_)
 refine uA rfl (uW k6 ?_)
 refine rR (bR rfl rfl ?_)
 exact ⟨congrArg (fun b => Ending.returned (Value.bool b)) (by unfold beforeB; simp [*]), (hv.kp [] 0 2)⟩
def FirstZ (l : List (Int × List UInt8)) (s : List UInt8) (i : Nat) : Prop := (∃ x, l[i]? = some x ∧ x.2 = s) ∧ ∀ (j : Nat) y, j < i → l[j]? = some y → y.2 ≠ s
open Classical in
noncomputable def zAt (l : List (Int × List UInt8)) (s : List UInt8) : Int := if h : ∃ i, FirstZ l s i then ((Classical.choose h : Nat) : Int) else -1
theorem zAt_of {l : List (Int × List UInt8)} {s : List UInt8} {i : Nat} (h : FirstZ l s i) : zAt l s = (i : Int) := by
 have hex : ∃ i, FirstZ l s i := ⟨i, h⟩
 have h2 := Classical.choose_spec hex
 unfold zAt
 rw [dif_pos hex]
 obtain ⟨⟨x, hx, hxs⟩, h1⟩ := h
 obtain ⟨⟨y, hy, hys⟩, h3⟩ := h2
 rcases Nat.lt_trichotomy (Classical.choose hex) i with h4 | h4 | h4
 ·exact absurd hys (h1 _ y h4 hy)
 ·rw [h4]
 exact absurd hxs (h3 _ x h4 hx)
theorem zAt_no {l : List (Int × List UInt8)} {s : List UInt8} (h : ∀ x ∈ l, x.2 ≠ s) : zAt l s = -1 := by
 unfold zAt
 rw [dif_neg]
 rintro ⟨i, ⟨x, hx, hxs⟩, -⟩
 exact h x (List.mem_of_getElem? hx) hxs
theorem zAt_here {l : List (Int × List UInt8)} {i : Nat} {x : Int × List UInt8} (_ : l[i]? = some x) (h : zAt l x.2 = (i : Int)) : ∀ (j : Nat) y, j < i → l[j]? = some y → y.2 ≠ x.2 := by
 have hex : ∃ i, FirstZ l x.2 i := by
  refine Classical.byContradiction fun hno => ?_
  unfold zAt at h
  rw [dif_neg hno] at h
  omega
 have h2 := Classical.choose_spec hex
 unfold zAt at h
 rw [dif_pos hex] at h
 have h3 : Classical.choose hex = i := by omega
 rw [h3] at h2
 exact h2.2
theorem refZat (B : Base) (H : List Res) (w : World) (ad : Option Addr) (c : Nat) (l : List (Int × List UInt8)) (s : List UInt8) (hr : RdV B [] ad (memCells l)) (hm : l.length ≤ 1000000) (hv : Inv B H w) :
  Calls Tryz.prog 68 #[.slice ad l.length c, vS s] w fun e w' => e = .returned (vI (zAt l s)) ∧ Inv B H w' := by
 refine cW Tryz.func68 rfl Tryz.ntmps68 ?_
 simp only [al]
 refine sK fun _ k1 => rL (uA rfl ?_)
 refine uW k1 (sK fun _ k2 => ?_)
 refine sK fun _ k3 => rL (uA rfl ?_)
 refine uW k3 (bB ?_)
 gi_loopw [5] (fun x5 wr => ∃ (i : Nat), x5 = vI i ∧ i ≤ l.length ∧ (∀ (j : Nat) y, j < i → l[j]? = some y → y.2 ≠ s) ∧ Inv B H wr) (fun x5 _ => l.length - (intOf x5).toNat)
 case atStart => exact ⟨0, rfl, Nat.zero_le _, fun j y h => by omega, hv⟩
 case round =>
  obtain ⟨i, rfl, hi, hno, hv⟩ := hrel
  refine sK fun _ k5 => sK fun _ k6 => rL (uM rfl ?_)
  refine uM rfl ?_
  refine uG (vI (l.length : Int)) rfl (ex_len0 Tryz.underlying41 rfl rfl) ?_
  by_cases hb7 : (i : Int) < (l.length : Int)
  ·refine uG (.bool true) rfl (ex_lss rfl rfl rfl (qT hb7)) (uW k6 ?_)
   refine cT rfl (kS ?_)
   refine tK k5 (sK fun _ k8 => ?_)
   refine bB (sK fun _ k9 => ?_)
   obtain ⟨x, hx⟩ : ∃ x, l[i]? = some x := ⟨_, List.getElem?_eq_getElem (show i < l.length by omega)⟩
   obtain ⟨bb, bo, had, hrdx⟩ := mem_reads hr hx
   subst had
   refine rL (uM rfl ?_)
   refine uM rfl ?_
   refine uG (.pointer (some ⟨bb, bo + i * 2, none⟩)) rfl (ex_index rfl rfl rfl (run_idx (k := i) Tryz.underlying41 s9es41 (by omega))) ?_
   refine uF (.pointer (some ⟨bb, bo + i * 2 + 1, none⟩)) rfl (s9fa88_1 _ _ _) ?_
   refine uL _ rfl (run_load1 s9na9 (hrdx _ _ _ (Base.Le.refl _) no_res hv 1 _ rfl)) (uM rfl ?_)
   by_cases hb10 : x.2 = s
   ·refine uG (.bool true) rfl (ex_seql rfl rfl rfl (qT hb10)) (uW k9 ?_)
    refine cT rfl (sK fun _ k11 => ?_)
    refine rL (uM rfl ?_)
    refine uA rfl (uW k11 ?_)
    refine rR (bZ ?_)
    refine tR (tR ?_)
    refine bZ (tR ?_)
    refine bR rfl rfl (⟨by rw [zAt_of ⟨⟨x, hx, hb10⟩, hno⟩]; rfl, hv⟩)
   refine uG (.bool false) rfl (ex_seql rfl rfl rfl (qF hb10)) (uW k9 ?_)
   refine cF rfl (kS ?_)
   refine bN (tK k8 ?_)
   refine rL (uM rfl ?_)
   refine uG (vI ((i + 1 : Nat) : Int)) rfl (ex_add rfl rfl rfl (by rw [i64_in (by omega)]; omega)) (uA rfl ?_)
   refine uZ (then_normal ?_)
   go_roundw
   case rel => exact ⟨i + 1, rfl, by omega, fun j y hj hy => (by
      rcases Nat.lt_or_ge j i with h | h
      ·exact hno j y h hy
      rw [show j = i by omega, hx] at hy; cases hy; exact hb10), hv⟩
   case measure => show l.length - (((i + 1 : Nat) : Int)).toNat < l.length - ((i : Int)).toNat; omega
  refine uG (.bool false) rfl (ex_lss rfl rfl rfl (qF hb7)) (uW k6 ?_)
  refine cF rfl (xE ?_)
  refine tX (tX ?_)
  refine bH (tK k2 ?_)
  refine sK fun _ k12 => rL (uA rfl ?_)
  refine uW k12 (rR ?_)
  refine bR rfl rfl ?_
  obtain rfl : i = l.length := by omega
  exact ⟨by rw [zAt_no (fun x hx => by obtain ⟨j, hj⟩ := List.mem_iff_getElem?.1 hx; exact hno j x (List.getElem?_eq_some_iff.1 hj).1 hj)]; rfl, hv⟩
def ZAt (l : List (Int × List UInt8)) (i : Nat) : Prop := (∀ x, l[i]? = some x → x.2.length ≤ 4096) ∧ (∀ x, l[i]? = some x → ∀ (j : Nat) y, i = j + 1 → l[j]? = some y → cmpM y x < 0) ∧ ∀ x, l[i]? = some x → ∀ (j : Nat) y, j < i → l[j]? = some y → y.2 ≠ x.2
theorem zset_ok {l : List (Int × List UInt8)} (h : l.length ≤ 512) (ha : ∀ k, k < l.length → ZAt l k) : ZsetOk l := by
 refine ⟨h, List.any_eq_false.2 fun x hx => ?_, fun i x hx => (ha i (List.getElem?_eq_some_iff.1 hx).1).2.1 x hx, nodup_place.2 fun i j x y hij hx hy => (ha j (List.getElem?_eq_some_iff.1 hy).1).2.2 y hy i x hij hx⟩
 obtain ⟨j, hj⟩ := List.mem_iff_getElem?.1 hx
 have := (ha j (List.getElem?_eq_some_iff.1 hj).1).1 x hj
 simp; omega
theorem s30callable67 : Callable Tryz.prog 67 := cb Tryz.func67 (by kernel_rfl)
theorem s30callable68 : Callable Tryz.prog 68 := cb Tryz.func68 (by kernel_rfl)
theorem refZsetRight (B : Base) (H : List Res) (w : World) (ad : Option Addr) (c : Nat) (l : List (Int × List UInt8)) (hr : RdV B [] ad (memCells l)) (hm : l.length ≤ 1000000) (hv : Inv B H w) :
  Calls Tryz.prog 35 #[.slice ad l.length c] w fun e w' => ∃ b, e = .returned (.bool b) ∧ (b = true ↔ ZsetOk l) ∧ Inv B H w' := by
 refine cW Tryz.func35 rfl Tryz.ntmps35 ?_
 simp only [al]
 refine sK fun _ k1 => rL (uA rfl ?_)
 refine uW k1 (sK fun _ k2 => ?_)
 refine sK fun _ k3 => rL (uA rfl ?_)
 refine uW k3 (bB ?_)
 gi_loopw [3] (fun x3 wr => ∃ (i : Nat), x3 = vI i ∧ i ≤ l.length ∧ (∀ k, k < i → ZAt l k) ∧ Inv B H wr) (fun x3 _ => l.length - (intOf x3).toNat)
 case atStart => exact ⟨0, rfl, Nat.zero_le _, fun k h => by omega, hv⟩
 case round =>
  obtain ⟨i, rfl, hi, hall, hv⟩ := hrel
  refine sK fun _ k5 => sK fun _ k6 => rL (uM rfl ?_)
  refine uM rfl ?_
  refine uG (vI (l.length : Int)) rfl (ex_len0 Tryz.underlying41 rfl rfl) ?_
  by_cases hb7 : (i : Int) < (l.length : Int)
  ·refine uG (.bool true) rfl (ex_lss rfl rfl rfl (qT hb7)) (uW k6 ?_)
   refine cT rfl (kS ?_)
   refine tK k5 (sK fun _ k8 => ?_)
   refine bB (sK fun _ k9 => ?_)
   obtain ⟨x, hx⟩ : ∃ x, l[i]? = some x := ⟨_, List.getElem?_eq_getElem (show i < l.length by omega)⟩
   obtain ⟨bb, bo, had, hrdx⟩ := mem_reads hr hx
   subst had
   refine rW mixed [20, 31] [0,1,2,3,4,5,6,7,8,9,10,11,12,13,14,15,16,17,18,19,20,21,22,23,24,25,26,27,28,29,30,32,31,33,34] 48 rfl (by kernel_rfl) hv ?_
   simp only [qm, opAt]
   refine dM (.slice (some ⟨bb, bo, none⟩) l.length c) rfl (dM (vI i) rfl ?_)
   refine dG (.pointer (some ⟨bb, bo + i * 2, none⟩)) rfl (ex_index rfl rfl rfl (run_idx (k := i) Tryz.underlying41 s9es41 (by omega))) ?_
   simp only [zP, po]
   refine dG (.pointer (some ⟨bb, bo + i * 2 + 1, none⟩)) rfl (ex_field rfl rfl (s9fa88_1 _ _ _)) (dL _ rfl (fun hv => ex_load rfl rfl (run_load1 s9na9 (hrdx _ _ _ (Base.Le.refl _) no_res hv 1 _ rfl))) ?_)
   refine dG (vI (x.2.length : Int)) rfl (ex_lenStr Tryz.underlying9 rfl rfl) ?_
   simp only [zP, po]
   by_cases hb10 : (x.2.length : Int) > 4096
   ·refine dG (.bool true) rfl (ex_gtr rfl rfl rfl (qT hb10)) (dM (.bool true) rfl ?_)
    refine dP rfl ?_
    simp only [zP, po]
    refine dP rfl (dP rfl ?_)
    refine dP rfl ?_
    simp only [zP, po]
    refine dP rfl (dP rfl ?_)
    refine dP rfl ?_
    simp only [zP, po]
    refine dP rfl (dP rfl ?_)
    refine dP rfl ?_
    simp only [zP, po]
    refine dP rfl (dP rfl ?_)
    refine dP rfl ?_
    simp only [zP, po]
    refine dP rfl (dP rfl ?_)
    refine dK true (.bool true) rfl ?_
    simp only [zP, po]
    refine dM (.bool true) rfl (dP rfl ?_)
    refine dP rfl ?_
    simp only [zP, po]
    refine dP rfl (dP rfl ?_)
    refine dP rfl ?_
    simp only [zP, po]
    refine dP rfl (dP rfl ?_)
    refine dP rfl ?_
    simp only [zP, po]
    refine dP rfl (dK true (.bool true) rfl ?_)
    refine dE fun w11 hv => ?_
    simp only [zP, po]
    refine tK k9 (cT rfl ?_)
    refine sK fun _ k12 => rL (uA rfl ?_)
    refine uW k12 (rR ?_)
    refine bZ (tR ?_)
    refine tR (bZ ?_)
    refine tR (bR rfl rfl ?_)
    exact ⟨false, rfl, ⟨fun h => (by cases h), fun h => by have h8 := List.any_eq_false.1 h.2.1 x (List.mem_of_getElem? hx); simp at h8; omega⟩, hv⟩
   refine dG (.bool false) rfl (ex_gtr rfl rfl rfl (qF hb10)) (dM (.bool false) rfl ?_)
   refine dM (vI i) rfl ?_
   simp only [zP, po]
   by_cases hb13 : (i : Int) > 0
   ·obtain ⟨j, hj⟩ : ∃ j : Nat, i = j + 1 := ⟨i - 1, by omega⟩
    obtain ⟨y, hy⟩ : ∃ x, l[j]? = some x := ⟨_, List.getElem?_eq_getElem (show j < l.length by omega)⟩
    obtain ⟨b9, o9, had9, hrdy⟩ := mem_reads hr hy
    cases had9
    have hyl := (hall j (by omega)).1 y hy
    skip
    refine dG (.bool true) rfl (ex_gtr rfl rfl rfl (qT hb13)) (dM (.bool true) rfl ?_)
    refine dM (.slice (some ⟨bb, bo, none⟩) l.length c) rfl ?_
    simp only [zP, po]
    refine dM (vI i) rfl (dG (vI j) rfl (ex_sub rfl rfl rfl (by rw [i64_in (by omega)]; omega)) ?_)
    refine dG (.pointer (some ⟨bb, bo + j * 2, none⟩)) rfl (ex_index rfl rfl rfl (run_idx (k := j) Tryz.underlying41 s9es41 (by omega))) ?_
    simp only [zP, po]
    refine dL (.agg #[vI y.1, vS y.2]) rfl (fun hv => ex_load rfl rfl (run_loadR (cs := [vI y.1, vS y.2]) s9wd88 (Reads.mid (pre := []) (mid := [vI y.1, vS y.2]) (post := []) hrdy _ _ _ (Base.Le.refl _) no_res hv))) (dM (.slice (some ⟨bb, bo, none⟩) l.length c) rfl ?_)
    refine dM (vI i) rfl ?_
    simp only [zP, po]
    refine dG (.pointer (some ⟨bb, bo + i * 2, none⟩)) rfl (ex_index rfl rfl rfl (run_idx (k := i) Tryz.underlying41 s9es41 (by omega))) (dL (.agg #[vI x.1, vS x.2]) rfl (fun hv => ex_load rfl rfl (run_loadR (cs := [vI x.1, vS x.2]) s9wd88 (Reads.mid (pre := []) (mid := [vI x.1, vS x.2]) (post := []) hrdx _ _ _ (Base.Le.refl _) no_res hv))) ?_)
    refine dS rfl fun w14 hv => ?_
    by_cases hb15 : beforeB y x = true
    ·refine mC s30callable67 rfl ((calls_bool (refBefore B _ _ y x (by omega) hv) hb15).mono ?_) rfl
     rintro e w16 ⟨rfl, hv⟩
     refine ⟨_, rfl, dW hv ?_⟩
     simp only [zP, po]
     refine dG (.bool false) rfl (ex_not rfl rfl rfl) (dK true (.bool false) rfl ?_)
     refine dK false (.bool false) rfl ?_
     simp only [zP, po]
     refine dM (.bool false) rfl (dM (.slice (some ⟨bb, bo, none⟩) l.length c) rfl ?_)
     refine dM (.slice (some ⟨bb, bo, none⟩) l.length c) rfl ?_
     simp only [zP, po]
     refine dM (vI i) rfl (dG (.pointer (some ⟨bb, bo + i * 2, none⟩)) rfl (ex_index rfl rfl rfl (run_idx (k := i) Tryz.underlying41 s9es41 (by omega))) ?_)
     refine dG (.pointer (some ⟨bb, bo + i * 2 + 1, none⟩)) rfl (ex_field rfl rfl (s9fa88_1 _ _ _)) ?_
     simp only [zP, po]
     refine dL _ rfl (fun hv => ex_load rfl rfl (run_load1 s9na9 (hrdx _ _ _ (Base.Le.refl _) no_res hv 1 _ rfl))) (dM (vI i) rfl ?_)
     refine dS rfl fun w17 hv => mC s30callable68 rfl ((refZat B _ _ _ c l x.2 hr hm hv).mono ?_) rfl
     rintro e w18 ⟨rfl, hv⟩
     refine ⟨_, rfl, dW hv ?_⟩
     simp only [zP, po]
     refine dG (.bool (decide ((zAt l x.2) ≠ (i : Int)))) rfl (ex_neq rfl rfl rfl rfl) (dK false (.bool (decide ((zAt l x.2) ≠ (i : Int)))) rfl ?_)
     refine dE fun w19 hv => ?_
     simp only [zP, po]
     refine tK k9 (wpIn_cond_split (t := decide ((zAt l x.2) ≠ (i : Int))) rfl (fun hc20 => ?_) (fun hc20 => ?_))
     ·refine sK fun _ k21 => rL (uA rfl ?_)
      refine uW k21 (rR ?_)
      refine bZ (tR ?_)
      refine tR (bZ ?_)
      refine tR (bR rfl rfl ?_)
      exact ⟨false, rfl, ⟨fun h => (by cases h), fun h => by
       have h5 : zAt l x.2 ≠ (i : Int) := by simpa using hc20
       exact absurd (zAt_of ⟨⟨x, hx, rfl⟩, fun j y hj hy => nodup_place.1 h.2.2.2 j i y x hj hy hx⟩) h5⟩, hv⟩
     refine kS (bN ?_)
     refine tK k8 (rL ?_)
     refine uM rfl ?_
     refine uG (vI ((i + 1 : Nat) : Int)) rfl (ex_add rfl rfl rfl (by rw [i64_in (by omega)]; omega)) (uA rfl ?_)
     refine uZ (then_normal ?_)
     go_roundw
     case rel => exact ⟨i + 1, rfl, by omega, fun k hk => (by
        rcases Nat.lt_or_ge k i with h | h
        ·exact hall k h
        obtain rfl : k = i := by omega
        refine ⟨fun x' hx' => ?_, fun x' hx' j' y' hj' hy' => ?_, fun x' hx' j' y' hj' hy' => ?_⟩ <;> (rw [hx] at hx'; cases hx')
        ·omega
        ·rw [show j' = j by omega, hy] at hy'; cases hy'; exact (before_cmp _ _).1 hb15
        have h5 : zAt l x.2 = (k : Int) := by simpa using hc20
        exact zAt_here hx h5 j' y' hj' hy'), hv⟩
     case measure => show l.length - (((i + 1 : Nat) : Int)).toNat < l.length - ((i : Int)).toNat; omega
    refine mC s30callable67 rfl ((calls_bool (refBefore B _ _ y x (by omega) hv) (by simpa using hb15)).mono ?_) rfl
    rintro e w22 ⟨rfl, hv⟩
    refine ⟨_, rfl, dW hv ?_⟩
    simp only [zP, po]
    refine dG (.bool true) rfl (ex_not rfl rfl rfl) (dK true (.bool true) rfl ?_)
    refine dK false (.bool true) rfl ?_
    simp only [zP, po]
    refine dM (.bool true) rfl (dP rfl ?_)
    refine dP rfl ?_
    simp only [zP, po]
    refine dP rfl (dP rfl ?_)
    refine dP rfl ?_
    simp only [zP, po]
    refine dP rfl (dP rfl ?_)
    refine dP rfl ?_
    simp only [zP, po]
    refine dP rfl (dK true (.bool true) rfl ?_)
    refine dE fun w23 hv => ?_
    simp only [zP, po]
    refine tK k9 (cT rfl ?_)
    refine sK fun _ k24 => rL (uA rfl ?_)
    refine uW k24 (rR ?_)
    refine bZ (tR ?_)
    refine tR (bZ ?_)
    refine tR (bR rfl rfl ?_)
    exact ⟨false, rfl, ⟨fun h => (by cases h), fun h => absurd ((before_cmp _ _).2 (h.2.2.1 i x hx j y (by omega) hy)) hb15⟩, hv⟩
   refine dG (.bool false) rfl (ex_gtr rfl rfl rfl (qF hb13)) (dM (.bool false) rfl ?_)
   refine dP rfl ?_
   simp only [zP, po]
   refine dP rfl (dP rfl ?_)
   refine dP rfl ?_
   simp only [zP, po]
   refine dP rfl (dP rfl ?_)
   refine dP rfl ?_
   simp only [zP, po]
   refine dP rfl (dP rfl ?_)
   refine dP rfl ?_
   simp only [zP, po]
   refine dP rfl (dK false (.bool false) rfl ?_)
   refine dK false (.bool false) rfl ?_
   simp only [zP, po]
   refine dM (.bool false) rfl (dM (.slice (some ⟨bb, bo, none⟩) l.length c) rfl ?_)
   refine dM (.slice (some ⟨bb, bo, none⟩) l.length c) rfl ?_
   simp only [zP, po]
   refine dM (vI i) rfl (dG (.pointer (some ⟨bb, bo + i * 2, none⟩)) rfl (ex_index rfl rfl rfl (run_idx (k := i) Tryz.underlying41 s9es41 (by omega))) ?_)
   refine dG (.pointer (some ⟨bb, bo + i * 2 + 1, none⟩)) rfl (ex_field rfl rfl (s9fa88_1 _ _ _)) ?_
   simp only [zP, po]
   refine dL _ rfl (fun hv => ex_load rfl rfl (run_load1 s9na9 (hrdx _ _ _ (Base.Le.refl _) no_res hv 1 _ rfl))) (dM (vI i) rfl ?_)
   refine dS rfl fun w25 hv => mC s30callable68 rfl ((refZat B _ _ _ c l x.2 hr hm hv).mono ?_) rfl
   rintro e w26 ⟨rfl, hv⟩
   refine ⟨_, rfl, dW hv ?_⟩
   simp only [zP, po]
   refine dG (.bool (decide ((zAt l x.2) ≠ (i : Int)))) rfl (ex_neq rfl rfl rfl rfl) (dK false (.bool (decide ((zAt l x.2) ≠ (i : Int)))) rfl ?_)
   refine dE fun w27 hv => ?_
   simp only [zP, po]
   refine tK k9 (wpIn_cond_split (t := decide ((zAt l x.2) ≠ (i : Int))) rfl (fun hc28 => ?_) (fun hc28 => ?_))
   ·refine sK fun _ k29 => rL (uA rfl ?_)
    refine uW k29 (rR ?_)
    refine bZ (tR ?_)
    refine tR (bZ ?_)
    refine tR (bR rfl rfl ?_)
    exact ⟨false, rfl, ⟨fun h => (by cases h), fun h => by
     have h5 : zAt l x.2 ≠ (i : Int) := by simpa using hc28
     exact absurd (zAt_of ⟨⟨x, hx, rfl⟩, fun j y hj hy => nodup_place.1 h.2.2.2 j i y x hj hy hx⟩) h5⟩, hv⟩
   refine kS (bN ?_)
   refine tK k8 (rL ?_)
   refine uM rfl ?_
   refine uG (vI ((i + 1 : Nat) : Int)) rfl (ex_add rfl rfl rfl (by rw [i64_in (by omega)]; omega)) (uA rfl ?_)
   refine uZ (then_normal ?_)
   go_roundw
   case rel => exact ⟨i + 1, rfl, by omega, fun k hk => (by
      rcases Nat.lt_or_ge k i with h | h
      ·exact hall k h
      obtain rfl : k = i := by omega
      refine ⟨fun x' hx' => ?_, fun x' hx' j' y' hj' hy' => ?_, fun x' hx' j' y' hj' hy' => ?_⟩ <;> (rw [hx] at hx'; cases hx')
      ·omega
      ·omega
      have h5 : zAt l x.2 = (k : Int) := by simpa using hc28
      exact zAt_here hx h5 j' y' hj' hy'), hv⟩
   case measure => show l.length - (((i + 1 : Nat) : Int)).toNat < l.length - ((i : Int)).toNat; omega
  refine uG (.bool false) rfl (ex_lss rfl rfl rfl (qF hb7)) (uW k6 ?_)
  refine cF rfl (xE ?_)
  refine tX (tX ?_)
  refine bH (tK k2 ?_)
  refine sK fun _ k30 => rL (uM rfl ?_)
  refine uG (vI (l.length : Int)) rfl (ex_len0 Tryz.underlying41 rfl rfl) ?_
  refine uG (.bool (decide ((l.length : Int) ≤ 512))) rfl (ex_leq rfl rfl rfl rfl) (uA rfl ?_)
  refine uW k30 (rR ?_)
  refine bR rfl rfl ?_
  obtain rfl : i = l.length := by omega
  exact ⟨_, rfl, by rw [decide_eq_true_iff]; exact ⟨fun h9 => zset_ok (by omega) hall, fun h9 => by have := h9.1; omega⟩, hv⟩
end Go.Proofs.YtngpmolbphinnaaGreatDoor
