/- ckey: Do, of any name. -/
import Derived.Test.YtngpmolbphinnaaGreatDoorCkFauC
import Derived.Test.YtngpmolbphinnaaGreatDoorCkFauJ
import Derived.Test.YtngpmolbphinnaaGreatDoorCkFauM
import Derived.Test.YtngpmolbphinnaaGreatDoorCkFauB
import Derived.Test.YtngpmolbphinnaaGreatDoorRows
import Derived.Test.YtngpmolbphinnaaGreatDoorCkFauI
import Derived.Test.YtngpmolbphinnaaGreatDoorCkFauE
import Derived.Shelf.SlSortCmp.NoneTotal
import Derived.Shelf.SlicesG.Cmp
import Derived.Shelf.Small.Strs
import Derived.Ground.SlsfProg
import Derived.Ground.SlgcProg
import Derived.Ground.NamesProg
import Derived.Test.YtngpmolbphinnaaGreatDoorCkFauF
import Derived.Lib.Bytealg
import Derived.Test.YtngpmolbphinnaaGreatDoorCkFauK
import Derived.Sort.Walk0
import Derived.Sort.KeysCollected
import Derived.Lib.SlicesCompact
import Derived.Test.YtngpmolbphinnaaGreatDoorCkFauL
import Derived.Sort.OwnSortedInts
set_option maxRecDepth 100000
set_option maxHeartbeats 16000000
set_option synthInstance.maxSize 4096
set_option synthInstance.maxHeartbeats 400000
namespace Go.Proofs.YtngpmolbphinnaaGreatDoor
open Go.RowKit Go.Pm
abbrev GX := DoK
def GArgs (name : List UInt8) (n : Nat) : Prop := ∃ x ∈ gRows, x.1 = name ∧ x.2.1 ≤ (n : Int) ∧ (0 ≤ x.2.2 → (n : Int) ≤ x.2.2)
theorem gRows_one : ∀ x ∈ gRows, x.1 ≠ ([68, 66, 83, 73, 90, 69] : List UInt8) → x.1 ≠ ([70, 76, 85, 83, 72, 65, 76, 76] : List UInt8) → 1 ≤ x.2.1 := by decide
theorem gRows_two : ∀ x ∈ gRows, (x.1 = ([67, 79, 80, 89] : List UInt8) ∨ x.1 = ([69, 88, 80, 73, 82, 69] : List UInt8) ∨ x.1 = ([69, 88, 80, 73, 82, 69, 65, 84] : List UInt8) ∨ x.1 = ([82, 69, 78, 65, 77, 69] : List UInt8) ∨ x.1 = ([82, 69, 78, 65, 77, 69, 78, 88] : List UInt8)) → 2 ≤ x.2.1 := by decide
theorem gDoAll (B : Base) (H : List Res) (w : World) (v t m s p wb : Nat) (va : Option Addr) (vc : Nat) (sv : Value) (clk : Int) (es : List (List UInt8 × Value)) (M : List (List UInt8 × Ver)) (hM : VM B es M) (hO : OkM M) (aa : Option Addr) (ac : Nat) (args : List (List UInt8)) (hra : RdV B [] aa (textCells args)) (hoka : SliceOk aa args.length ac) (hma : args.length ≤ 1000) (name : List UInt8) (hgr : GArgs name args.length) (hxl : ∀ x ∈ args, x.length ≤ 9223372036854775807) (hsm : (∀ x ∈ args, x.length ≤ 1000000) ∨ M = []) (hN : NumB B) (hkl : ∀ k ∈ M.map (·.1), k.length ≤ 256) (hMl : M.length ≤ 1000000) (h0c : 0 ≤ clk) (h1c : clk ≤ 1099511627776) (hsrt : ∀ b, SortedOk b) (hv : Inv B (Res.cell v [.iface 100 (vP t)] 56 :: txR t m s p wb va vc sv clk es :: H) w) : Calls Tryz.prog 31 #[.agg #[vP v, .slice aa args.length ac], vS name] w fun e w' => ∃ C es' M' r cs, B.Le C ∧ e = .returned (.agg cs.toArray) ∧ RpAt C r cs ∧ VM C es' M' ∧ CmdR M M' r ∧ GX M clk name args M' r ∧ Inv C (Res.cell v [.iface 100 (vP t)] 56 :: txR t m s p wb va vc sv clk es' :: H) w' := by
 obtain ⟨x, hx, hxn, hx1, hx2⟩ := hgr
 exact ckDoAll B H w v t m s p wb va vc sv clk es M hM hO aa ac args hra hoka hma name (fun h1 h2 => by have := gRows_one x hx (by rw [hxn]; exact h1) (by rw [hxn]; exact h2); omega) (fun h => by have := gRows_two x hx (by rw [hxn]; exact h); omega) hxl hsm hN hkl hMl h0c h1c hsrt hv
theorem kQal34 : AL Tryz.prog 34 [vI 0, vS [], vI 0, vN] := fun w => by kernel_rfl
theorem kQal4 : AL Tryz.prog 4 [.bool false] := fun w => by kernel_rfl
theorem kQal78 : AL Tryz.prog 78 [vS [], vI 0, vI 0] := fun w => by kernel_rfl
theorem kQfa78_1 : FA Tryz.prog 78 1 1 := fun w b o => by kernel_rfl
theorem kQcallable28 : Callable Tryz.prog 28 := cb Tryz.func28 (by kernel_rfl)
theorem kQrec28 (n : Nat) (x0 x1 : Value) (w : World) : CallsDIn Fence.wide n Tryz.prog 28 #[x0, x1] .returning w fun e u' w' => e = .returned (.tuple #[]) ∧ u' = .returning ∧ w' = w := by
 refine callsDIn_of_wpSIn Tryz.func28 rfl trivial fun c₀ cs hu => ?_
 apply wpSIn_seq
 apply wpSIn_region
 simp [wpOpsSIn, go_sem, recoverD, hu, Tryz.ntmps28, Exit.thenS]
 refine wpSIn_cond (t := false) (by simp [Act.eval, Array.replicate]) ?_
 simp only [Bool.false_eq_true, if_false]
 refine wpSIn_of_wpIn rfl (wpIn_skip ?_)
 cases c₀
 simp_all [bodyPostS, results, Tryz.results28]
theorem kQfa78_2 : FA Tryz.prog 78 2 2 := fun w b o => by kernel_rfl
theorem kQcallable31 : Callable Tryz.prog 31 := cb Tryz.func31 (by kernel_rfl)
theorem gDo (B : Base) (H : List Res) (w : World) (v t m s p wb : Nat) (va : Option Addr) (vc : Nat) (sv : Value) (clk : Int) (es : List (List UInt8 × Value)) (M : List (List UInt8 × Ver)) (hM : VM B es M) (hO : OkM M) (aa : Option Addr) (ac : Nat) (args : List (List UInt8)) (hra : RdV B [] aa (textCells args)) (hoka : SliceOk aa args.length ac) (hma : args.length ≤ 1000) (name : List UInt8) (hxl : ∀ x ∈ args, x.length ≤ 9223372036854775807) (hsm : (∀ x ∈ args, x.length ≤ 1000000) ∨ M = []) (hN : NumB B) (hkl : ∀ k ∈ M.map (·.1), k.length ≤ 256) (hMl : M.length ≤ 1000000) (h0c : 0 ≤ clk) (h1c : clk ≤ 1099511627776) (hsrt : ∀ b, SortedOk b) (hv : Inv B (Res.cell v [.iface 100 (vP t)] 56 :: txR t m s p wb va vc sv clk es :: H) w) :
  Calls Tryz.prog 10 #[vP v, vS name, .slice aa args.length ac] w fun e w' => ∃ C es' M' r cs ok, B.Le C ∧ e = .returned (.tuple #[.agg cs.toArray, .bool ok]) ∧ RpAt C r cs ∧ VM C es' M' ∧ CmdR M M' r ∧ (ok = true ↔ name ∈ gNames) ∧ (ok = false → M' = M ∧ r = rText []) ∧ (GArgs name args.length → GX M clk name args M' r) ∧ Inv C (Res.cell v [.iface 100 (vP t)] 56 :: txR t m s p wb va vc sv clk es' :: H) w' := by
 refine (callsIn_wide (n := 5)).1 (callsIn_of_wp_defers Tryz.func10 rfl trivial ?_)
 simp only [Tryz.ntmps10, List.size_toArray, List.length_cons, List.length_nil, Nat.reduceAdd, Nat.reduceSub, Array.replicate_succ, Array.replicate_zero, List.push_toArray, List.append_toArray, List.nil_append, List.cons_append]
 refine sK fun _ k1 => rL (sl_alloc tV (wn rfl) rfl hv kQal34 (fun b2 w3 hv => ?_))
 refine sl_alloc tV (wn rfl) rfl hv kQal4 (fun b4 w5 hv => ?_)
 refine uW k1 (sK fun _ k6 => ?_)
 refine rL (uG (.func (.func 28) #[] #[vP b2, vP b4]) rfl (ex_makeFunc (c' := #[vP b2, vP b4]) rfl (by simp only [List.map_toArray, List.map_nil]) (by simp only [List.map_toArray, List.map_cons, List.map_nil]; rfl)) ?_)
 refine wpi_defer tV rfl (wn rfl) rfl rfl (uW k6 ?_)
 refine sK fun _ k7 => sK fun _ k8 => rL (xC k2callable30 rfl ((gRowsC B _ _ hv).mono ?_) rfl)
 rintro e w9 ⟨C, ra, rc, hC, rfl, hrr, hv⟩
 refine ⟨_, rfl, uG (vI (gRows.length : Int)) rfl (ex_len0 Tryz.underlying75 rfl rfl) ?_⟩
 refine uM rfl (uW k8 ?_)
 refine bB ?_
 gi_loopw [14] (fun x14 wr => ∃ (i : Nat), x14 = vI i ∧ i ≤ gRows.length ∧ (∀ (j : Nat) y, j < i → gRows[j]? = some y → y.1 ≠ name) ∧ Inv C (Res.cell b4 [.bool false] 4 :: Res.cell b2 [vI 0, vS [], vI 0, vN] 34 :: Res.cell v [.iface 100 (vP t)] 56 :: txR t m s p wb va vc sv clk es :: H) wr) (fun x14 _ => gRows.length - (intOf x14).toNat)
 case atStart => exact ⟨0, rfl, Nat.zero_le _, fun j y h => by omega, hv⟩
 case round =>
  obtain ⟨i, rfl, hi, hno, hv⟩ := hrel
  have hrl := gRows_len
  refine sK fun _ k11 => rL ?_
  by_cases hb12 : (i : Int) < (gRows.length : Int)
  ·refine uG (.bool true) rfl (ex_lss rfl rfl rfl (qT hb12)) (uW k11 ?_)
   refine sK fun _ k13 => cT rfl (kS ?_)
   refine tK k13 (sK fun _ k14 => ?_)
   refine bB (sK fun _ k15 => ?_)
   have hrl := gRows_len
   obtain ⟨x, hx⟩ : ∃ x, gRows[i]? = some x := ⟨_, List.getElem?_eq_getElem (show i < gRows.length by omega)⟩
   have hxm := List.mem_of_getElem? hx
   obtain ⟨rb, ro, had, hrdx⟩ := gRow_reads hrr hx
   subst had
   refine rL (uG (.pointer (some ⟨rb, ro + i * 3, none⟩)) rfl (ex_index rfl rfl rfl (run_idx (k := i) Tryz.underlying75 k2es75 (by omega))) ?_)
   refine uL (.agg #[vS x.1, vI x.2.1, vI x.2.2]) rfl (run_loadR (cs := [vS x.1, vI x.2.1, vI x.2.2]) k2wd78 (Reads.mid (pre := []) (mid := [vS x.1, vI x.2.1, vI x.2.2]) (post := []) hrdx _ _ _ (Base.Le.refl _) no_res hv)) ?_
   refine sl_alloc tV (wn rfl) rfl hv kQal78 (fun b16 w17 hv => ?_)
   simp only [zP, po]
   refine xS 0 rfl hv k2sz78 rfl (by exact ⟨rfl, rfl, rfl, trivial⟩) (fun w18 hv => ?_)
   simp only [zO, sp] at hv
   refine uW k15 (sK fun _ k19 => ?_)
   refine sK fun _ k20 => rL (uF (vP b16) rfl (k2fa78_0 _ _ _) ?_)
   refine uL _ rfl (run_load1 s9na9 (hv.load 0 0 rfl rfl)) (uM rfl ?_)
   by_cases hb21 : x.1 ≠ name
   ·refine uG (.bool true) rfl (ex_sneq rfl rfl rfl (qT hb21)) (uW k20 ?_)
    refine cT rfl (xE ?_)
    refine tX (bH ?_)
    refine tK k14 (rL ?_)
    refine uG (vI ((i + 1 : Nat) : Int)) rfl (ex_add rfl rfl rfl (by rw [i64_in (by omega)]; omega)) (uM rfl ?_)
    refine uZ (then_normal ?_)
    go_roundw
    case rel => exact ⟨i + 1, rfl, by omega, fun j y hj hy => (by
       rcases Nat.lt_or_ge j i with h | h
       ·exact hno j y h hy
       obtain rfl : j = i := by omega
       rw [hx] at hy; cases hy; exact hb21), (hv.kp [4, 4, 4, 4] 4 1)⟩
    case measure => show gRows.length - (((i + 1 : Nat) : Int)).toNat < gRows.length - ((i : Int)).toNat; omega
   refine uG (.bool false) rfl (ex_sneq rfl rfl rfl (qF hb21)) (uW k20 ?_)
   refine cF rfl (kS ?_)
   refine tK k19 (sK fun _ k22 => ?_)
   refine sK fun _ k23 => ?_
   have hxn : x.1 = name := Classical.byContradiction fun h9 => hb21 h9
   refine rL (uM rfl ?_)
   refine uG (vI (args.length : Int)) rfl (ex_len0 Tryz.underlying26 rfl rfl) (uA rfl ?_)
   refine uW k23 (sK fun _ k24 => ?_)
   refine rL (uM rfl ?_)
   refine uF (.pointer (some ⟨b16, 1, none⟩)) rfl (kQfa78_1 _ _ _) ?_
   refine uL _ rfl (run_load1 s2na3 (hv.load 0 1 rfl rfl)) ?_
   by_cases hb25 : (args.length : Int) < x.2.1
   ·refine uG (.bool true) rfl (ex_lss rfl rfl rfl (qT hb25)) (uM rfl ?_)
    iterate 9 refine uP rfl ?_
    refine uK rfl (uW k24 ?_)
    refine cT rfl (sK fun _ k26 => ?_)
    refine rL (xC rscallable29 rfl ((viewWrong C _ _ 43 hv).mono ?_) rfl)
    rintro e w28 ⟨s27, rfl, hv⟩
    refine ⟨_, rfl, ?_⟩
    refine xS 2 rfl hv rssz34 rfl (by exact ⟨rfl, rfl, rfl, rfl, trivial⟩) (fun w29 hv => ?_)
    simp only [zS, zO, sp] at hv
    refine xV 1 (.bool true) rfl hv v8sz4 rfl rfl (fun w30 hv => ?_)
    simp only [zS, zO, sp] at hv
    refine uW k26 (rR ?_)
    refine tR (bZ ?_)
    refine tR (tR ?_)
    refine bZ (tR ?_)
    refine leave_rec kQcallable28 (kQrec28 _ _ _ _) (res_cells2 rfl rfl (lM 2 rswd34 hv rfl rfl rfl rfl) rfl (run_load1 s2na4 (hv.load 1 0 rfl rfl))) ?_
    have hmem : name ∈ gNames := by rw [← (show x.1 = name from Classical.byContradiction fun h9 => hb21 h9)]; exact List.mem_map_of_mem hxm
    exact ⟨C, es, M, rFault s27, rpCells 1 s27 0 (vN), true, hC, rfl, rpAt_leaf, hM.more hC, ⟨hO, fun _ => rfl⟩, ⟨fun _ => hmem, fun _ => rfl⟩, fun h9 => (by cases h9), fun ⟨y9, hy9, hyn9, hg1, hg2⟩ => (by obtain rfl := gRows_inj y9 hy9 x hxm (by rw [hyn9]; exact (Classical.byContradiction fun h9 => hb21 h9 : x.1 = name).symm); omega), (hv.kp [4, 4] 2 3)⟩
   refine uG (.bool false) rfl (ex_lss rfl rfl rfl (qF hb25)) (uM rfl ?_)
   refine uF (.pointer (some ⟨b16, 2, none⟩)) rfl (kQfa78_2 _ _ _) ?_
   refine uL _ rfl (run_load1 s2na3 (hv.load 0 2 rfl rfl)) ?_
   by_cases hb31 : x.2.2 ≥ 0
   ·refine uG (.bool true) rfl (ex_geq rfl rfl rfl (qT hb31)) ?_
    refine uM rfl ?_
    refine uM rfl ?_
    refine uF (.pointer (some ⟨b16, 2, none⟩)) rfl (kQfa78_2 _ _ _) ?_
    refine uL _ rfl (run_load1 s2na3 (hv.load 0 2 rfl rfl)) ?_
    by_cases hb32 : (args.length : Int) > x.2.2
    ·refine uG (.bool true) rfl (ex_gtr rfl rfl rfl (qT hb32)) ?_
     refine uK rfl (uK rfl ?_)
     refine uW k24 (cT rfl ?_)
     refine sK fun _ k33 => rL (xC rscallable29 rfl ((viewWrong C _ _ 43 hv).mono ?_) rfl)
     rintro e w35 ⟨s34, rfl, hv⟩
     refine ⟨_, rfl, ?_⟩
     refine xS 2 rfl hv rssz34 rfl (by exact ⟨rfl, rfl, rfl, rfl, trivial⟩) (fun w36 hv => ?_)
     simp only [zS, zO, sp] at hv
     refine xV 1 (.bool true) rfl hv v8sz4 rfl rfl (fun w37 hv => ?_)
     simp only [zS, zO, sp] at hv
     refine uW k33 (rR ?_)
     refine tR (bZ ?_)
     refine tR (tR ?_)
     refine bZ (tR ?_)
     refine leave_rec kQcallable28 (kQrec28 _ _ _ _) (res_cells2 rfl rfl (lM 2 rswd34 hv rfl rfl rfl rfl) rfl (run_load1 s2na4 (hv.load 1 0 rfl rfl))) ?_
     have hmem : name ∈ gNames := by rw [← (show x.1 = name from Classical.byContradiction fun h9 => hb21 h9)]; exact List.mem_map_of_mem hxm
     exact ⟨C, es, M, rFault s34, rpCells 1 s34 0 (vN), true, hC, rfl, rpAt_leaf, hM.more hC, ⟨hO, fun _ => rfl⟩, ⟨fun _ => hmem, fun _ => rfl⟩, fun h9 => (by cases h9), fun ⟨y9, hy9, hyn9, hg1, hg2⟩ => (by obtain rfl := gRows_inj y9 hy9 x hxm (by rw [hyn9]; exact (Classical.byContradiction fun h9 => hb21 h9 : x.1 = name).symm); omega), (hv.kp [4, 4] 2 3)⟩
    refine uG (.bool false) rfl (ex_gtr rfl rfl rfl (qF hb32)) ?_
    refine uK rfl (uK rfl ?_)
    refine uW k24 (cF rfl ?_)
    refine kS (tK k22 ?_)
    refine sK fun _ k38 => rL (uM rfl ?_)
    refine uM rfl ?_
    refine uG (.agg #[vP v, .slice aa args.length ac]) rfl (ex_buildN (vs := #[(0, vP v), (1, .slice aa args.length ac)]) rfl (by simp only [List.map_toArray, List.map_cons, List.map_nil]; rfl) (by kernel_rfl)) (uM rfl ?_)
    replace hv := hv.front 4 rfl
    simp only [eS, eZ] at hv
    replace hv := hv.front 4 rfl
    simp only [eS, eZ] at hv
    refine xC kQcallable31 rfl ((gDoAll C _ _ v t m s p wb va vc sv clk es M (hM.more hC) hO aa ac args (hra.more hC (fun _ h => h)) hoka hma name ⟨x, hxm, hxn, by omega, fun h9 => by omega⟩ hxl hsm (hN.more hC) hkl hMl h0c h1c hsrt hv).mono ?_) rfl
    rintro e w39 ⟨D, es', M', r, cs, hD, rfl, hrp, hM', hcmd, hgx, hv⟩
    refine ⟨_, rfl, ?_⟩
    obtain ⟨rk, rs, rn, rv, rfl⟩ := rp_parts hrp
    refine xS 4 rfl hv rssz34 rfl (by exact ⟨rfl, rfl, rfl, hrp.lv.2, trivial⟩) (fun w40 hv => ?_)
    simp only [zS, zO, sp] at hv
    simp only [zP, po]
    refine xV 3 (.bool true) rfl hv v8sz4 rfl rfl (fun w41 hv => ?_)
    simp only [zS, zO, sp] at hv
    refine uW k38 (rR ?_)
    refine bZ (tR ?_)
    refine tR (bZ ?_)
    refine tR (leave_rec kQcallable28 (kQrec28 _ _ _ _) (res_cells2 rfl rfl (lM 4 rswd34 hv rfl rfl rfl rfl) rfl (run_load1 s2na4 (hv.load 3 0 rfl rfl))) ?_)
    have hmem : name ∈ gNames := by rw [← (show x.1 = name from Classical.byContradiction fun h9 => hb21 h9)]; exact List.mem_map_of_mem hxm
    exact ⟨D, es', M', r, _, true, (hC.trans hD), rfl, hrp, hM', hcmd, ⟨fun _ => hmem, fun _ => rfl⟩, fun h9 => (by cases h9), fun _ => hgx, (hv.kp [1, 1] 2 3)⟩
   refine uG (.bool false) rfl (ex_geq rfl rfl rfl (qF hb31)) ?_
   refine uM rfl ?_
   iterate 4 refine uP rfl ?_
   refine uK rfl (uK rfl ?_)
   refine uW k24 (cF rfl ?_)
   refine kS (tK k22 ?_)
   refine sK fun _ k42 => rL (uM rfl ?_)
   refine uM rfl ?_
   refine uG (.agg #[vP v, .slice aa args.length ac]) rfl (ex_buildN (vs := #[(0, vP v), (1, .slice aa args.length ac)]) rfl (by simp only [List.map_toArray, List.map_cons, List.map_nil]; rfl) (by kernel_rfl)) (uM rfl ?_)
   replace hv := hv.front 4 rfl
   simp only [eS, eZ] at hv
   replace hv := hv.front 4 rfl
   simp only [eS, eZ] at hv
   refine xC kQcallable31 rfl ((gDoAll C _ _ v t m s p wb va vc sv clk es M (hM.more hC) hO aa ac args (hra.more hC (fun _ h => h)) hoka hma name ⟨x, hxm, hxn, by omega, fun h9 => by omega⟩ hxl hsm (hN.more hC) hkl hMl h0c h1c hsrt hv).mono ?_) rfl
   rintro e w43 ⟨D, es', M', r, cs, hD, rfl, hrp, hM', hcmd, hgx, hv⟩
   refine ⟨_, rfl, ?_⟩
   obtain ⟨rk, rs, rn, rv, rfl⟩ := rp_parts hrp
   refine xS 4 rfl hv rssz34 rfl (by exact ⟨rfl, rfl, rfl, hrp.lv.2, trivial⟩) (fun w44 hv => ?_)
   simp only [zS, zO, sp] at hv
   simp only [zP, po]
   refine xV 3 (.bool true) rfl hv v8sz4 rfl rfl (fun w45 hv => ?_)
   simp only [zS, zO, sp] at hv
   refine uW k42 (rR ?_)
   refine bZ (tR ?_)
   refine tR (bZ ?_)
   refine tR (leave_rec kQcallable28 (kQrec28 _ _ _ _) (res_cells2 rfl rfl (lM 4 rswd34 hv rfl rfl rfl rfl) rfl (run_load1 s2na4 (hv.load 3 0 rfl rfl))) ?_)
   have hmem : name ∈ gNames := by rw [← (show x.1 = name from Classical.byContradiction fun h9 => hb21 h9)]; exact List.mem_map_of_mem hxm
   exact ⟨D, es', M', r, _, true, (hC.trans hD), rfl, hrp, hM', hcmd, ⟨fun _ => hmem, fun _ => rfl⟩, fun h9 => (by cases h9), fun _ => hgx, (hv.kp [1, 1] 2 3)⟩
  refine uG (.bool false) rfl (ex_lss rfl rfl rfl (qF hb12)) (uW k11 ?_)
  refine sK fun _ k46 => cF rfl (xE ?_)
  refine tX (tX ?_)
  refine bH (tK k7 ?_)
  refine sK fun _ k47 => rL (uG (.agg #[vI 0, vS [], vI 0, vN]) rfl (ex_buildN (vs := #[]) rfl (by simp only [List.map_toArray, List.map_nil]) (by kernel_rfl)) ?_)
  refine xS 1 rfl hv rssz34 rfl (by exact ⟨rfl, rfl, rfl, rfl, trivial⟩) (fun w48 hv => ?_)
  simp only [zS, zO, sp] at hv
  refine xV 0 (.bool false) rfl hv v8sz4 rfl rfl (fun w49 hv => ?_)
  simp only [zO, sp] at hv
  refine uW k47 (rR ?_)
  refine leave_rec kQcallable28 (kQrec28 _ _ _ _) (res_cells2 rfl rfl (lM 1 rswd34 hv rfl rfl rfl rfl) rfl (run_load1 s2na4 (hv.load 0 0 rfl rfl))) ?_
  have hmem : name ∉ gNames := fun h9 => by
   obtain ⟨y, hy, hyn⟩ := List.mem_map.1 h9
   obtain ⟨j, hj⟩ := List.mem_iff_getElem?.1 hy
   exact hno j y (by have := (List.getElem?_eq_some_iff.1 hj).1; omega) hj hyn
  exact ⟨C, es, M, rText [], rpCells 0 [] 0 (vN), false, hC, rfl, rpAt_leaf, hM.more hC, ⟨hO, fun _ => rfl⟩, ⟨fun h9 => (by cases h9), fun h9 => absurd h9 hmem⟩, fun _ => ⟨rfl, rfl⟩, fun ⟨y9, hy9, hyn9, _⟩ => absurd (hyn9 ▸ List.mem_map_of_mem hy9) hmem, (hv.kp [3, 3] 2 2)⟩
open Go.Sort
def vText (s : List UInt8) : Val := ⟨1, s, [], [], []⟩
theorem vText_full {s : List UInt8} : FullV (vText s) := .inl rfl
theorem vText_put {k s : List UInt8} (hk : k.length ≤ 256) (hs : s.length ≤ 4096) : PutOk k (vText s) 0 := ⟨hk, .inl ⟨rfl, hs, rfl, rfl, rfl⟩, by omega, by omega⟩
theorem vText_at {B : Base} {s : List UInt8} : ValAt B (vText s) (vN) (vN) (vN) :=
 ⟨⟨none, 0, rfl, ⟨Nat.le_refl _, Nat.zero_le _, fun _ => rfl⟩, rdV_nil⟩, ⟨none, 0, rfl, ⟨Nat.le_refl _, Nat.zero_le _, fun _ => rfl⟩, rdV_nil⟩, ⟨none, 0, rfl, ⟨Nat.le_refl _, Nat.zero_le _, fun _ => rfl⟩, rdV_nil⟩, Nat.zero_le _, Nat.zero_le _, Nat.zero_le _⟩
theorem ck_put {M M' : List (List UInt8 × Ver)} {K K' : List KeyR} {i : Nat} {clk ec : Int} {k s : List UInt8} (hR : RelVK M K) (hKO : KeysOk M i) (hk : k.length ≤ 256) (hs : s.length ≤ 4096) (hkp : KeepI M clk k (vText s) 0 ec M') (hi : InsK (others K k) ⟨k, vText s, 0⟩ K') : ec = 0 ∧ RelVK M' K' ∧ KeysOk M' (i + 1) := by
 obtain ⟨h1, hm⟩ := keep_ok hk (fun _ => vText_put hk hs) hkp
 exact ⟨h1, rel_step hR hm (.inr ⟨vText_full, hi⟩), hKO.step hk hm⟩
def ckA : List KeyR := [⟨[97], vText [49], 0⟩]
def ckB : List KeyR := [⟨[97], vText [49], 0⟩, ⟨[98], vText [50], 0⟩]
def ckC : List KeyR := [⟨[97], vText [49], 0⟩, ⟨[98], vText [50], 0⟩, ⟨[99], vText [51], 0⟩]
theorem ins_A : InsK (others [] [97]) ⟨[97], vText [49], 0⟩ ckA := ⟨0, Nat.le_refl _, rfl, fun x h => (by cases h), fun x h => (by cases h)⟩
theorem ins_B : InsK (others ckA [98]) ⟨[98], vText [50], 0⟩ ckB := by
 rw [show others ckA [98] = ckA from rfl]
 exact ⟨1, Nat.le_refl _, rfl, by decide, fun x h => (by cases h)⟩
theorem ins_C : InsK (others ckB [99]) ⟨[99], vText [51], 0⟩ ckC := by
 rw [show others ckB [99] = ckB from rfl]
 exact ⟨2, Nat.le_refl _, rfl, by decide, fun x h => (by cases h)⟩
theorem ck_names {M : List (List UInt8 × Ver)} (hR : RelVK M ckC) (hKO : KeysOk M 3) : namesT M 0 = [[97], [98], [99]] := (hR.names hKO.nd).trans (by decide)
theorem ck_scan1 {r : Rp} (h : ScanR [[97], [98], [99]] [[48], wCOUNT, [50]] r) : r = rList [rStr [50], rStrs [[97], [98]]] := by
 obtain ⟨b, hb, rfl⟩ := scan_count (names := [[97], [98], [99]]) (a := 0) (c := 2) (by decide) (by decide) (by decide) (by decide) (by rw [itoa_small 0 (by decide), itoa_small 2 (by decide)]; exact h)
 obtain rfl : b = 2 := hb
 rw [show (((if 2 < [[97], [98], ([99] : List UInt8)].length then 2 else 0 : Nat)) : Int) = ((2 : Nat) : Int) from rfl, itoa_small 2 (by decide)]
 rfl
theorem ck_scan2 {r : Rp} (h : ScanR [[97], [98], [99]] [[50], wCOUNT, [50]] r) : r = rList [rStr [48], rStrs [[99]]] := by
 obtain ⟨b, hb, rfl⟩ := scan_count (names := [[97], [98], [99]]) (a := 2) (c := 2) (by decide) (by decide) (by decide) (by decide) (by rw [itoa_small 2 (by decide)]; exact h)
 obtain rfl : b = 3 := hb
 rw [show (((if 3 < [[97], [98], ([99] : List UInt8)].length then 3 else 0 : Nat)) : Int) = ((0 : Nat) : Int) from rfl, itoa_small 0 (by decide)]
 rfl
theorem rp_two {B : Base} {s : List UInt8} {l : List (List UInt8)} {cs : List Value} (h : RpAt B (rList [rStr s, rStrs l]) cs) : ∃ b off c v0 la lc, cs = rpCells 5 [] 0 (.slice (some ⟨b, off, none⟩) 2 c) ∧ Reads B [] b (off + 0 * 4) (rpCells 3 s 0 v0) ∧ v0.cells = #[v0] ∧ v0.oneCell' = true ∧ Reads B [] b (off + 1 * 4) (rpCells 5 [] 0 (.slice la l.length lc)) ∧ RpAt B (rStrs l) (rpCells 5 [] 0 (.slice la l.length lc)) ∧ (∀ (i : Nat) x, l[i]? = some x → ∃ b2 off2 v2, la = some ⟨b2, off2, none⟩ ∧ v2.cells = #[v2] ∧ v2.oneCell' = true ∧ Reads B [] b2 (off2 + i * 4) (rpCells 3 x 0 v2)) := by
 simp only [rList, RpAt] at h
 obtain ⟨v, xs, rfl, ⟨ra, rc, rfl, hok, hr⟩, hs⟩ := h
 obtain ⟨b, off, v0, y0, rfl, h0, -, hr0⟩ := hs.reads (i := 0) hr rfl
 obtain ⟨b', off', v1, y1, e1, h1, hs1, hr1⟩ := hs.reads (i := 1) hr (show [rStr s, rStrs l][1]? = some (Rp.mk 5 [] 0 (l.map rStr)) from rfl)
 cases e1
 have hR : RpAt B (rStrs l) (rpCells 5 [] 0 v1) := rpAt_of h1 hs1
 obtain ⟨la, lc, rfl, -, hl⟩ := h1
 rw [List.length_map] at hr1 hR
 refine ⟨b, off, rc, v0, la, lc, rfl, hr0, h0.cells, h0.one, hr1, hR, fun i x hx => ?_⟩
 obtain ⟨b2, off2, v2, y2, e2, h2, -, hr2⟩ := hs1.reads (i := i) hl (show (l.map rStr)[i]? = some (Rp.mk 3 x 0 []) by rw [List.getElem?_map, hx]; rfl)
 exact ⟨b2, off2, v2, e2, h2.cells, h2.one, hr2⟩
end Go.Proofs.YtngpmolbphinnaaGreatDoor
namespace Go.Pm
open Go.RowKit
inductive Tr (α : Type) where
 | lin (is : List α)
 | fork (x : α) (t1 : Tr α) (y : α) (t2 : Tr α)
section
variable {P : Program} {ops : Array Oper} {mem perm pre is : List Nat} {R : Act → World → Prop} {Q : Exit → Act → World → Prop} {a0 a aS : Act} {listed : Array Bool} {w w' : World} {val : Nat → Value} {Fl : List (Nat × (World → Prop))} {J : World → Prop} {i : Nat} {o : Oper} {K : Act → World → Prop}
end
section
variable {P : Program} {ops : Array Oper} {mem : List Nat} {Q : Exit → Act → World → Prop} {a0 : Act}
end
section
variable {n : Nat} {P : Program} {ops : Array Oper} {Q : Exit → Act → World → Prop} {a0 : Act} {w0 : World} {B : Base} {H : List Res}
end
section
variable {P : Program} {ops : Array Oper} {mem : List Nat} {R : Act → World → Prop} {D : List (Nat × (World → Prop)) → (World → Prop) → Act → Prop} {i : Nat} {o : Oper} {is : List (Nat × Oper)} {Fl : List (Nat × (World → Prop))} {J : World → Prop} {a : Act} {v : Value} {x y : Nat × Oper} {t1 t2 : Tr (Nat × Oper)} {G : (World → Prop) → Act → Prop} {B : Base} {H : List Res} {w' : World}
end
end Go.Pm
namespace Go.Proofs.YtngpmolbphinnaaGreatDoor
open Go.RowKit Go.Pm
theorem k3al43 : AL Tryz.prog 43 [vI 0, vS [], vN, vN, vN] := fun w => by kernel_rfl
theorem lawText26 (B : Base) (H : List Res) (w : World) (s : List UInt8) (hv : Inv B H w) :
  Calls Tryz.prog 25 #[vS s] w fun e w' => e = .returned (.agg #[vI 1, vS s, vN, vN, vN]) ∧ Inv B H w' := by
 refine cW Tryz.func25 rfl Tryz.ntmps25 ?_
 simp only [al]
 refine sK fun _ k1 => rL (sl_alloc tV (wn rfl) rfl hv k3al43 (fun b2 w3 hv => ?_))
 refine uW k1 (sK fun _ k4 => ?_)
 refine rL (uM rfl ?_)
 refine uG (.agg #[vI 1, vS s, vN, vN, vN]) rfl (ex_buildN (vs := #[(0, vI 1), (1, vS s)]) rfl (by simp only [List.map_toArray, List.map_cons, List.map_nil]; rfl) (by kernel_rfl)) ?_
 refine xS 0 rfl hv s1sz43 rfl (by exact ⟨rfl, rfl, rfl, rfl, rfl, trivial⟩) (fun w5 hv => ?_)
 simp only [zO, sp] at hv
 refine uW k4 (rR ?_)
 refine bC 0 s1wd43 hv rfl rfl rfl rfl (⟨rfl, (hv.kp [] 0 1)⟩)
open Go.Sort
theorem kHmk9 : (Tryz.prog.info? 9).map (fun i => (i.zero, i.size, i.bytes)) = some (some (vS []), 1, 16) := by kernel_rfl
theorem kHel26 : Elem Tryz.prog 26 9 (vS []) 1 16 := elem_of Tryz.underlying26 kHmk9 (by rfl) (by decide)
theorem cloneOwn1 (B : Base) (H : List Res) (w : World) (a : Addr) (n c : Nat) (xs : List Value) (hok : SliceOk (some a) n c) (hl : xs.length = n * 1) (h1 : ∀ u ∈ xs, u.oneCell' = true) (hn : n ≤ 1000000) (hr : RdV B [] (some a) xs) (hv : Inv B H w) :
  Calls Tryz.prog 73 #[.slice (some a) n c] w fun e w' => ∃ v, e = .returned v ∧ Inv B (Res.row 9 1 v n xs :: H) w' := by
 refine cW Tryz.func73 rfl Tryz.ntmps73 ?_
 simp only [al]
 refine sK fun _ k1 => rL (uA rfl ?_)
 refine uW k1 (sK fun _ k2 => ?_)
 refine sK fun _ k3 => rL (uM rfl ?_)
 refine uG (.bool false) rfl (ex_slnil Tryz.underlying26 rfl rfl rfl rfl) (uW k3 ?_)
 refine cF rfl (kS ?_)
 refine tK k2 (sK fun _ k4 => ?_)
 refine rL (sl_row0 (size := 1) tV (wn rfl) rfl hv (e := 9) (fun w => by kernel_rfl) (fun b5 w6 hv => ?_))
 refine uM rfl ?_
 refine sl_append (news := xs) tV (wn rfl) rfl rfl rfl kHel26 hv hok hl ((hr.more (Base.Le.refl _) (fun _ h => by cases h)).src hv) (h1) (by unfold maxLen; omega) (by omega) (fun rv7 w10 hv => ?_)
 obtain ⟨ra8, rc9, rfl⟩ := row_slice hv.head
 refine uA rfl (uW k4 ?_)
 refine rR (bR rfl rfl ?_)
 rw [Nat.zero_add, List.nil_append] at hv
 exact ⟨_, by rw [Nat.zero_add]; rfl, hv⟩
theorem cloneOwn (B : Base) (H : List Res) (w : World) (ad : Option Addr) (n c : Nat) (xs : List Value) (hok : SliceOk ad n c) (hl : xs.length = n * 1) (h1 : ∀ u ∈ xs, u.oneCell' = true) (hn : n ≤ 1000000) (hr : RdV B [] ad xs) (hv : Inv B H w) :
  Calls Tryz.prog 73 #[.slice ad n c] w fun e w' => ∃ v, e = .returned v ∧ Inv B (Res.row 9 1 v n xs :: H) w' := by
 cases ad with
 | none =>
  have hc0 : c = 0 := hok.nil rfl
  have hn0 : n = 0 := by have := hok.le; omega
  subst hc0 hn0
  have hx : xs = [] := List.eq_nil_of_length_eq_zero (by simpa using hl)
  subst hx
  refine (cloneTexts0 B H w hv).mono ?_
  rintro e w' ⟨rfl, hv⟩
  exact ⟨_, rfl, hv.rowNil _ _⟩
 | some a => exact cloneOwn1 B H w a n c xs hok hl h1 hn hr hv
theorem ckSortedA (B : Base) (H : List Res) (w : World) (xa : Option Addr) (xc : Nat) (xs : List (List UInt8)) (hokx : SliceOk xa xs.length xc) (hrx : RdV B [] xa (textCells xs)) (hmx : xs.length ≤ 1000000) (hv : Inv B H w) :
  Calls Tryz.prog 92 #[.bool true, .slice xa xs.length xc] w fun e w' => ∃ oa oc, e = .returned (.tuple #[.slice oa xs.length oc, vI 0]) ∧ Inv B (Res.row 9 1 (.slice oa xs.length oc) xs.length (textCells (xs.mergeSort leB)) :: H) w' := by
 refine cW Tryz.func92 rfl Tryz.ntmps92 ?_
 simp only [al]
 refine sK fun _ k1 => rL (sl_box (L := [.slice xa xs.length xc]) tV (wn rfl) rfl rfl hv (fun w => by kernel_rfl) (fun b2 w3 hv => ?_))
 refine uA rfl (uA rfl ?_)
 refine uW k1 (sK fun _ k4 => ?_)
 refine sK fun _ k5 => rL (uM rfl ?_)
 refine uW k5 (cT rfl ?_)
 refine sK fun _ k6 => rL (uL _ rfl (run_load1 s1na26 (hv.load 0 0 rfl rfl)) ?_)
 refine xC s1callable73 rfl ((cloneOwn B _ _ xa xs.length xc (textCells xs) hokx (textCells_len _) (textCells_one _) hmx hrx hv).mono ?_) rfl
 rintro e w7 ⟨v9, rfl, hv⟩
 refine ⟨_, rfl, ?_⟩
 obtain ⟨va, vc, rfl⟩ := row_slice hv.head
 refine xV 1 (.slice va xs.length vc) rfl hv s1sz26 rfl rfl (fun w8 hv => ?_)
 simp only [zS, zO, sp] at hv
 refine uW k6 (sK fun _ k9 => ?_)
 refine rL (uL _ rfl (run_load1 s1na26 (hv.load 1 0 rfl rfl)) ?_)
 refine xC x6callable103 rfl ((sortTexts B _ _ _ xs hmx hv).mono ?_) rfl
 rintro e w10 ⟨rfl, hv⟩
 refine ⟨_, rfl, uW k9 ?_⟩
 refine sK fun _ k11 => rL (uL _ rfl (run_load1 s1na26 (hv.load 1 0 rfl rfl)) ?_)
 refine uA rfl (uA rfl ?_)
 refine uW k11 (rR ?_)
 refine tR (bodyPost_ret (results_tmp2 rfl _ _ _) rfl ?_)
 exact ⟨va, vc, rfl, (hv.kp [] 1 1)⟩
end Go.Proofs.YtngpmolbphinnaaGreatDoor
namespace Go.Proofs
open Go.Shelf
def Tryz.laysSF_ren : Go.Shelf.Ren := ⟨fun | 6 => 104 | 15 => 116 | 14 => 117 | 28 => 139 | 29 => 140 | 20 => 141 | 21 => 142 | 22 => 143 | 23 => 144 | 24 => 145 | 25 => 146 | 26 => 147 | 27 => 148 | 46 => 165 | 47 => 160 | 48 => 161 | 49 => 166 | 50 => 167 | 57 => 176 | n => n, fun | 22 => 145 | 24 => 3 | 25 => 195 | 3 => 3 | 39 => 209 | 0 => 0 | 53 => 231 | 55 => 110 | 4 => 4 | 46 => 225 | 45 => 224 | 50 => 148 | 5 => 5 | 9 => 9 | 66 => 246 | 70 => 250 | 76 => 258 | 77 => 259 | n => n, fun | n => n⟩
theorem Tryz.laysSF : Go.Proofs.SlLaysF.n6 Tryz.prog Tryz.laysSF_ren := {
 mixed := by kernel_rfl
 f6 := ⟨Tryz.f104.name, by decide, Tryz.func104.trans (congrArg some (by kernel_rfl))⟩
 f14 := ⟨Tryz.f117.name, by decide, Tryz.func117.trans (congrArg some (by kernel_rfl))⟩
 f15 := Tryz.func116.trans (congrArg some (by kernel_rfl))
 f20 := ⟨Tryz.f141.name, by decide, Tryz.func141.trans (congrArg some (by kernel_rfl))⟩
 f21 := ⟨Tryz.f142.name, by decide, Tryz.func142.trans (congrArg some (by kernel_rfl))⟩
 f22 := ⟨Tryz.f143.name, by decide, Tryz.func143.trans (congrArg some (by kernel_rfl))⟩
 f23 := ⟨Tryz.f144.name, by decide, Tryz.func144.trans (congrArg some (by kernel_rfl))⟩
 f24 := ⟨Tryz.f145.name, by decide, Tryz.func145.trans (congrArg some (by kernel_rfl))⟩
 f25 := ⟨Tryz.f146.name, by decide, Tryz.func146.trans (congrArg some (by kernel_rfl))⟩
 f26 := ⟨Tryz.f147.name, by decide, Tryz.func147.trans (congrArg some (by kernel_rfl))⟩
 f27 := ⟨Tryz.f148.name, by decide, Tryz.func148.trans (congrArg some (by kernel_rfl))⟩
 f28 := Tryz.func139.trans (congrArg some (by kernel_rfl))
 f29 := Tryz.func140.trans (congrArg some (by kernel_rfl))
 f46 := ⟨Tryz.f165.name, by decide, Tryz.func165.trans (congrArg some (by kernel_rfl))⟩
 f47 := Tryz.func160.trans (congrArg some (by kernel_rfl))
 f48 := Tryz.func161.trans (congrArg some (by kernel_rfl))
 f49 := ⟨Tryz.f166.name, by decide, Tryz.func166.trans (congrArg some (by kernel_rfl))⟩
 f50 := ⟨Tryz.f167.name, by decide, Tryz.func167.trans (congrArg some (by kernel_rfl))⟩
 f57 := ⟨Tryz.f176.name, by decide, Tryz.func176.trans (congrArg some (by kernel_rfl))⟩
 t0 := Tryz.underlying0
 a0 := Tryz.isAgg0
 z0 := Tryz.sizeOf0
 v0 := Tryz.zeroValue0
 t3 := Tryz.underlying3
 a3 := Tryz.isAgg3
 z3 := Tryz.sizeOf3
 v3 := Tryz.zeroValue3
 t4 := Tryz.underlying4
 a4 := Tryz.isAgg4
 z4 := Tryz.sizeOf4
 v4 := Tryz.zeroValue4
 t5 := Tryz.underlying5
 a5 := Tryz.isAgg5
 z5 := Tryz.sizeOf5
 v5 := Tryz.zeroValue5
 t9 := Tryz.underlying9
 a9 := Tryz.isAgg9
 z9 := Tryz.sizeOf9
 v9 := Tryz.zeroValue9
 t22 := Tryz.underlying145
 a22 := Tryz.isAgg145
 z22 := Tryz.sizeOf145
 v22 := Tryz.zeroValue145
 a24 := Tryz.isAgg3
 z24 := Tryz.sizeOf3
 t25 := Tryz.underlying195
 a25 := Tryz.isAgg195
 z25 := Tryz.sizeOf195
 v25 := Tryz.zeroValue195
 t39 := Tryz.underlying209
 a39 := Tryz.isAgg209
 z39 := Tryz.sizeOf209
 v39 := Tryz.zeroValue209
 t45 := Tryz.underlying224
 a45 := Tryz.isAgg224
 z45 := Tryz.sizeOf224
 v45 := Tryz.zeroValue224
 t46 := Tryz.underlying225
 a46 := Tryz.isAgg225
 z46 := Tryz.sizeOf225
 v46 := Tryz.zeroValue225
 t50 := Tryz.underlying148
 a50 := Tryz.isAgg148
 z50 := Tryz.sizeOf148
 v50 := Tryz.zeroValue148
 t53 := Tryz.underlying231
 a53 := Tryz.isAgg231
 z53 := Tryz.sizeOf231
 v53 := Tryz.zeroValue231
 t55 := Tryz.underlying110
 a55 := Tryz.isAgg110
 z55 := Tryz.sizeOf110
 v55 := Tryz.zeroValue110
 t66 := Tryz.underlying246
 a66 := Tryz.isAgg246
 z66 := Tryz.sizeOf246
 v66 := Tryz.zeroValue246
 t70 := Tryz.underlying250
 a70 := Tryz.isAgg250
 z70 := Tryz.sizeOf250
 v70 := Tryz.zeroValue250
 t76 := Tryz.underlying258
 a76 := Tryz.isAgg258
 z76 := Tryz.sizeOf258
 v76 := Tryz.zeroValue258
 t77 := Tryz.underlying259
 a77 := Tryz.isAgg259
 z77 := Tryz.sizeOf259
 v77 := Tryz.zeroValue259 }
def Tryz.laysCmp_ren : Go.Shelf.Ren := ⟨fun | 5 => 107 | 7 => 118 | n => n, fun | 22 => 3 | 3 => 3 | 4 => 4 | n => n, fun | n => n⟩
theorem Tryz.laysCmp : Go.Proofs.SlLaysC2.n5 Tryz.prog Tryz.laysCmp_ren := {
 mixed := by kernel_rfl
 f5 := ⟨Tryz.f107.name, by decide, Tryz.func107.trans (congrArg some (by kernel_rfl))⟩
 f7 := ⟨Tryz.f118.name, by decide, Tryz.func118.trans (congrArg some (by kernel_rfl))⟩
 t3 := Tryz.underlying3
 a3 := Tryz.isAgg3
 z3 := Tryz.sizeOf3
 v3 := Tryz.zeroValue3
 t4 := Tryz.underlying4
 a4 := Tryz.isAgg4
 z4 := Tryz.sizeOf4
 v4 := Tryz.zeroValue4
 t22 := Tryz.underlying3
 a22 := Tryz.isAgg3
 z22 := Tryz.sizeOf3
 v22 := Tryz.zeroValue3 }
def Tryz.laysCs_ren : Go.Shelf.Ren := ⟨fun | 106 => 108 | 213 => 119 | 265 => 149 | n => n, fun | 9 => 9 | 3 => 3 | n => n, fun | n => n⟩
theorem Tryz.laysCs : Go.Proofs.Lays.n106 Tryz.prog Tryz.laysCs_ren := {
 mixed := by kernel_rfl
 f106 := Tryz.func108.trans (congrArg some (by kernel_rfl))
 f213 := Tryz.func119.trans (congrArg some (by kernel_rfl))
 f265 := Tryz.func149.trans (congrArg some (by kernel_rfl))
 t3 := Tryz.underlying3
 a3 := Tryz.isAgg3
 z3 := Tryz.sizeOf3
 v3 := Tryz.zeroValue3
 t9 := Tryz.underlying9
 a9 := Tryz.isAgg9
 z9 := Tryz.sizeOf9
 v9 := Tryz.zeroValue9 }
end Go.Proofs
namespace Go.Pm
open Go.RowKit Go.Sort Go.Proofs
def GrowR (w w' : World) : Prop := ∃ (q : Nat) (os : Array Obj), w' = grow (w.drewN q) os
theorem GrowR.refl (w : World) : GrowR w w := ⟨0, #[], by simp [grow, World.drewN]⟩
theorem GrowR.trans {w w' w'' : World} (h : GrowR w w') (h2 : GrowR w' w'') : GrowR w w'' := by
 obtain ⟨q, os, rfl⟩ := h
 obtain ⟨q2, os2, rfl⟩ := h2
 exact ⟨q + q2, os ++ os2, by simp [grow, World.drewN, Array.append_assoc, Nat.add_assoc]⟩
theorem GrowR.alloc (w : World) (o : Obj) : GrowR w (w.alloc o) := ⟨0, #[o], by cases w; simp only [World.alloc, grow, World.drewN, Nat.add_zero]; congr 1⟩
theorem GrowR.ext {w w' : World} (h : GrowR w w') : Ext w w' := by
 obtain ⟨q, os, rfl⟩ := h
 exact ⟨rfl, rfl, rfl, by simp [grow, World.drewN], fun k hk => by simp [grow, World.drewN, Array.getElem?_append, hk]⟩
instance : EOk GrowR := ⟨GrowR.refl, fun w => ⟨1, #[], by rw [grow_empty]; rfl⟩⟩
def JG (B : Base) (H : List Res) (w0 : World) : World → Prop := fun w => Inv B H w ∧ GrowR w0 w
theorem JG.st {B : Base} {H : List Res} {w0 : World} : ∀ w w', JG B H w0 w → GrowR w w' → JG B H w0 w' := fun _ _ h he => ⟨h.1.ext he.ext, h.2.trans he⟩
section
variable {P : Program} {ops : Array Oper} {mem : List Nat} {R : Act → World → Prop} {i : Nat} {o : Oper} {is : List (Nat × Oper)} {Fl : List (Nat × (World → Prop))} {a : Act} {v : Value} {B : Base} {H : List Res} {w w' w0 : World}
theorem dVG (hv : Inv B H w') (hg : GrowR w0 w') (hf : FlOk ops i (JG B H w0) Fl) (h : DWE GrowR P ops mem R is Fl (JG B H w0) (a.put o.dst v)) : JNE GrowR P ops mem R i o is Fl a ([] ++ [v]) w' := ⟨v, rfl, JG B H w0, JG.st, ⟨hv, hg⟩, hf, h⟩
theorem rWG {Q : Exit → Act → World → Prop} {a0 : Act} {n : Nat} {l : List Oper} {id : Nat} (hm : P.follows .mixedOrders = true) (mem perm : List Nat) (k : Nat) (hsize : a0.tmps.size = k) (hck : okDW l.toArray mem perm k = true) (hv : Inv B H w0)
  (h : DWE GrowR P l.toArray mem (Q .normal) (qm l perm) [] (JG B H w0) a0) : (Code.region id l.toArray true).wpIn Fence.wide n P Q a0 w0 := rWE hm mem perm k hsize hck JG.st ⟨hv, GrowR.refl _⟩ h
theorem mem_row2E {J : List Value → World → Prop} {Q : Exit → Act → World → Prop} {vals : List Value} {t e : TypeId} {x y : Operand} {v1 v2 : Value} (hg : Region.wanted o (yielded ops a.tmps) = true) (ho : o.op = .buildSlice t 2 #[(0, x), (1, y)]) (hx : a.eval x = v1) (hy : a.eval y = v2) (hv : Inv B H w)
  (hr : ∀ w, (Instr.buildSlice t 2 #[(0, v1), (1, v2)]).run P w = .ok (.slice (some ⟨w.heap.size, 0, none⟩) 2 2) (w.alloc (.cells [v1, v2].toArray e)))
  (h : ∀ b w', Inv B (Res.cell b [v1, v2] e :: H) w' → GrowR w w' → J (vals ++ [.slice (some ⟨b, 0, none⟩) 2 2]) w') : StepMem P ops J Q o a w vals :=
 Ex.mem (by unfold Ex; simp [execOp, ho, hx, hy, hr]) hg (h _ _ (hv.alloc [v1, v2] e) (GrowR.alloc w _))
end
theorem cmpB_lt : ∀ a b : List UInt8, Lib.compareBytes a b < 0 ↔ Op.bytesLess a b = true
 | [], [] => by simp [Lib.compareBytes, Op.bytesLess]
 | [], _ :: _ => by simp [Lib.compareBytes, Op.bytesLess]
 | _ :: _, [] => by simp [Lib.compareBytes, Op.bytesLess]
 | a :: x, b :: y => by
  have ih := cmpB_lt x y
  simp only [Lib.compareBytes, Op.bytesLess, Bool.or_eq_true, Bool.and_eq_true, decide_eq_true_eq, beq_iff_eq]
  by_cases h1 : a < b
  ·simp [h1]
  by_cases h2 : b < a
  ·have h3 : ¬ a = b := fun e => by subst e; exact h1 h2
   simp [h1, h2, h3]
  have h3 : a = b := UInt8.le_antisymm (UInt8.not_lt.1 h2) (UInt8.not_lt.1 h1)
  subst h3
  simp [h1, ih]
def cmpNT (n m : Int) (s t : List UInt8) : Int := if Lib.compareInt n m ≠ 0 then Lib.compareInt n m else Lib.compareBytes s t
theorem cmpNT_lt {n m : Int} {s t : List UInt8} : cmpNT n m s t < 0 ↔ n < m ∨ (n = m ∧ Op.bytesLess s t = true) := by
 rw [← cmpB_lt]
 unfold cmpNT Lib.compareInt
 by_cases h1 : n < m
 ·simp [h1]
 by_cases h2 : n > m
 ·have h3 : ¬ n = m := by omega
  simp [h1, h2, h3]
 have h3 : n = m := by omega
 simp [h3]
theorem ltNT {α : Type} (f : α → Int) (g : α → List UInt8) (x y : α) : ltOf (fun x y => cmpNT (f x) (f y) (g x) (g y)) x y = true ↔ f x < f y ∨ (f x = f y ∧ Op.bytesLess (g x) (g y) = true) := by
 unfold ltOf
 rw [decide_eq_true_iff]
 exact cmpNT_lt
theorem swoNT {α : Type} (f : α → Int) (g : α → List UInt8) : SWO (ltOf fun x y => cmpNT (f x) (f y) (g x) (g y)) where
 irrefl x := by
  refine Bool.eq_false_iff.2 fun h => ?_
  rcases (ltNT f g x x).1 h with h | ⟨-, h⟩
  ·omega
  exact absurd h (by rw [lt_irrefl]; decide)
 trans x y z h1 h2 := by
  rcases (ltNT f g x y).1 h1 with h1 | ⟨h1, h3⟩ <;> rcases (ltNT f g y z).1 h2 with h2 | ⟨h2, h4⟩ <;> refine (ltNT f g x z).2 ?_
  ·exact .inl (by omega)
  ·exact .inl (by omega)
  ·exact .inl (by omega)
  exact .inr ⟨by omega, lt_trans _ _ _ h3 h4⟩
 ntrans x y z h1 h2 := by
  refine Bool.eq_false_iff.2 fun h => ?_
  have n1 : ¬ (f x < f y ∨ (f x = f y ∧ Op.bytesLess (g x) (g y) = true)) := fun h9 => by rw [(ltNT f g x y).2 h9] at h1; cases h1
  have n2 : ¬ (f y < f z ∨ (f y = f z ∧ Op.bytesLess (g y) (g z) = true)) := fun h9 => by rw [(ltNT f g y z).2 h9] at h2; cases h2
  rcases (ltNT f g x z).1 h with h | ⟨h, h3⟩
  ·omega
  have e1 : f x = f y := by omega
  have e2 : f y = f z := by omega
  have b1 : Op.bytesLess (g x) (g y) = false := Bool.eq_false_iff.2 fun h9 => n1 (.inr ⟨e1, h9⟩)
  have b2 : Op.bytesLess (g y) (g z) = false := Bool.eq_false_iff.2 fun h9 => n2 (.inr ⟨e2, h9⟩)
  by_cases e : g y = g x
  ·rw [e] at b2; rw [b2] at h3; cases h3
  have b3 : Op.bytesLess (g y) (g x) = true := by
   cases h4 : Op.bytesLess (g y) (g x) with
   | true => rfl
   | false => exact absurd (lt_total _ _ h4 b1) e
  rw [lt_trans _ _ _ b3 h3] at b2; cases b2
section
variable {α : Type} [Inhabited α] (f : α → Int)
theorem map_get {d : Array α} {j : Nat} (h : j < d.size) : (d.map f)[j]! = f d[j]! := by
 rw [getElem!_pos _ j (by simpa using h), getElem!_pos _ j h, Array.getElem_map]
theorem putRow_map (w : World) (b off : Nat) (d : Array α) : putRow (fun x => Value.int .i64 (f x)) w b off d = putRow (Value.int .i64) w b off (d.map f) := by
 unfold putRow
 congr 1
 funext c
 unfold putCells
 congr 1
 funext k x
 rw [Array.size_map]
 split
 ·rename_i h; rw [map_get f (by omega)]
 rfl
omit [Inhabited α] in
theorem map_toL (d : Array α) : d.map f = (d.toList.map f).toArray := Array.ext' (by rw [Array.toList_map])
theorem holds_map {w : World} {b off : Nat} {d : Array α} (h : Holds (Value.int .i64) w b off (d.map f)) : Holds (fun x => Value.int .i64 (f x)) w b off d := fun j hj => by
 have := h j (by simpa using hj)
 rw [map_get f hj] at this
 exact this
end
end Go.Pm
namespace Go.Proofs.YtngpmolbphinnaaGreatDoor
open Go.RowKit Go.Pm
section
variable {x : Val} {now till e : Int} {M M' : List (List UInt8 × Ver)} {r : Rp} {k : List UInt8}
end
end Go.Proofs.YtngpmolbphinnaaGreatDoor
namespace Go.Pm
open Go.RowKit Go.Sort
section
variable {s fresh out : List (List UInt8)} {i j : Nat} {x z : List UInt8}
end
end Go.Pm
namespace Go.Proofs.YtngpmolbphinnaaGreatDoor
open Go.RowKit Go.Pm Go.Sort
section
variable {xs out ws : List (List UInt8)} {M M' : List (List UInt8 × Ver)} {clk e : Int} {r : Rp} {k : List UInt8} {s : WishS}
end
open Go.Shelf
theorem cmpIntC (x y : Int) (w : World) : Calls Tryz.prog 107 #[vI x, vI y] w fun e w' => e = .returned (vI (Lib.compareInt x y)) ∧ w' = w := AnyG.cmp_Compare_int Tryz.laysCmp x y w
theorem cmpStrC (s t : List UInt8) (w : World) : Calls Tryz.prog 108 #[strV s, strV t] w fun e w' => e = .returned (vI (Lib.compareBytes s t)) ∧ w' = w := (Any.strings_Compare Tryz.laysCs ⟨s.toArray⟩ ⟨t.toArray⟩ w).mono fun e _ h => h
theorem cmpOrTwo (B : Base) (H : List Res) (w : World) (b : Nat) (x y : Int) (hv : Inv B (Res.cell b [vI x, vI y] 3 :: H) w) :
  Calls Tryz.prog 106 #[.slice (some ⟨b, 0, none⟩) 2 2] w fun e w' => e = .returned (vI (if x ≠ 0 then x else y)) ∧ w' = w := by
 refine cW Tryz.func106 rfl Tryz.ntmps106 ?_
 simp only [al]
 refine sK fun _ k1 => rL (uA rfl ?_)
 refine uW k1 (sK fun _ k2 => ?_)
 refine rL (uA rfl ?_)
 refine uW k2 (sK fun _ k3 => ?_)
 refine sK fun _ k4 => rL (uG (.slice (some ⟨b, 0, none⟩) 2 2) rfl (ex_move rfl rfl) ?_)
 refine uG (vI 2) rfl (ex_len0 Tryz.underlying145 rfl rfl) (uM rfl ?_)
 refine uW k4 (bB ?_)
 gi_loopw [8] (fun x8 wr => (x8 = vI 0 ∧ wr = w) ∨ (x8 = vI 1 ∧ x = 0 ∧ wr = w) ∨ (x8 = vI 2 ∧ x = 0 ∧ y = 0 ∧ wr = w)) (fun x8 _ => 2 - (intOf x8).toNat)
 case atStart => exact .inl ⟨rfl, rfl⟩
 case round =>
  rcases hrel with ⟨rfl, rfl⟩ | ⟨rfl, hx, rfl⟩ | ⟨rfl, hx, hy, rfl⟩
  ·refine sK fun _ k6 => rL (uG (.bool true) rfl (ex_lss rfl rfl rfl (by decide)) ?_)
   refine uW k6 (sK fun _ k7 => ?_)
   refine cT rfl (kS ?_)
   refine tK k7 (sK fun _ k8 => ?_)
   refine bB (sK fun _ k9 => ?_)
   refine rL (uG (vP b) rfl (ex_index rfl rfl rfl (run_idx1 (off := 0) (k := 0) Tryz.underlying145 s11es145 (by omega))) ?_)
   refine uL _ rfl (run_load1 s2na3 (hv.load 0 0 rfl rfl)) (uA rfl ?_)
   refine uW k9 (sK fun _ k10 => ?_)
   refine rL (uM rfl ?_)
   refine uM rfl ?_
   by_cases hb11 : x ≠ 0
   ·refine uG (.bool true) rfl (ex_neq rfl rfl rfl (qT hb11)) (uW k10 ?_)
    refine cT rfl (sK fun _ k12 => ?_)
    refine rL (uM rfl ?_)
    refine uA rfl (uW k12 ?_)
    refine rR (bZ ?_)
    refine tR (tR ?_)
    refine bZ (tR ?_)
    refine bR rfl rfl (⟨congrArg (fun n => Ending.returned (vI n)) (if_pos hb11).symm, rfl⟩)
   refine uG (.bool false) rfl (ex_neq rfl rfl rfl (qF hb11)) (uW k10 ?_)
   refine cF rfl (kS ?_)
   refine bN (tK k8 ?_)
   refine rL (uG (vI 1) rfl (ex_add rfl rfl rfl (i64_in (by omega))) ?_)
   refine uM rfl (uZ ?_)
   refine then_normal ?_
   go_roundw
   case rel => exact .inr (.inl ⟨rfl, Classical.not_not.1 hb11, rfl⟩)
   case measure => decide
  ·refine sK fun _ k13 => rL (uG (.bool true) rfl (ex_lss rfl rfl rfl (by decide)) ?_)
   refine uW k13 (sK fun _ k14 => ?_)
   refine cT rfl (kS ?_)
   refine tK k14 (sK fun _ k15 => ?_)
   refine bB (sK fun _ k16 => ?_)
   refine rL (uG (.pointer (some ⟨b, 1, none⟩)) rfl (ex_index rfl rfl rfl (run_idx1 (off := 0) (k := 1) Tryz.underlying145 s11es145 (by omega))) ?_)
   refine uL _ rfl (run_load1 s2na3 (hv.load 0 1 rfl rfl)) (uA rfl ?_)
   refine uW k16 (sK fun _ k17 => ?_)
   refine rL (uM rfl ?_)
   refine uM rfl ?_
   by_cases hb18 : y ≠ 0
   ·refine uG (.bool true) rfl (ex_neq rfl rfl rfl (qT hb18)) (uW k17 ?_)
    refine cT rfl (sK fun _ k19 => ?_)
    refine rL (uM rfl ?_)
    refine uA rfl (uW k19 ?_)
    refine rR (bZ ?_)
    refine tR (tR ?_)
    refine bZ (tR ?_)
    refine bR rfl rfl (⟨congrArg (fun n => Ending.returned (vI n)) (if_neg (fun h9 => h9 hx)).symm, rfl⟩)
   refine uG (.bool false) rfl (ex_neq rfl rfl rfl (qF hb18)) (uW k17 ?_)
   refine cF rfl (kS ?_)
   refine bN (tK k15 ?_)
   refine rL (uG (vI 2) rfl (ex_add rfl rfl rfl (i64_in (by omega))) ?_)
   refine uM rfl (uZ ?_)
   refine then_normal ?_
   go_roundw
   case rel => exact .inr (.inr ⟨rfl, hx, Classical.not_not.1 hb18, rfl⟩)
   case measure => decide
  refine sK fun _ k20 => rL (uG (.bool false) rfl (ex_lss rfl rfl rfl (by decide)) ?_)
  refine uW k20 (sK fun _ k21 => ?_)
  refine cF rfl (xE ?_)
  refine tX (tX ?_)
  refine bH (tK k3 ?_)
  refine sK fun _ k22 => rL (uM rfl ?_)
  refine uA rfl (uW k22 ?_)
  refine rR (bR rfl rfl ?_)
  exact ⟨congrArg (fun n => Ending.returned (vI n)) ((if_neg (fun h9 => h9 hx)).trans hy).symm, rfl⟩
theorem kWna145 (w : World) : (isAgg 145).run Tryz.prog w = .ok false w := by kernel_rfl
theorem kWcallable108 : Callable Tryz.prog 108 := cb Tryz.func108 (by kernel_rfl)
theorem ckLess (B : Base) (H : List Res) (w : World) (ib io kb ko oc tc nsb txb n a b : Nat) (x y : Int) (s t : List UInt8) (ha : a < n) (hb : b < n) (_ : n ≤ 1000000) (hrx : Reads B [] ib (io + a) [vI x]) (hry : Reads B [] ib (io + b) [vI y]) (hrs : Reads B [] kb (ko + a) [strV s]) (hrt : Reads B [] kb (ko + b) [strV t]) (hv : Inv B (Res.cell nsb [.slice (some ⟨ib, io, none⟩) n oc] 145 :: Res.cell txb [.slice (some ⟨kb, ko, none⟩) n tc] 26 :: H) w) :
  Calls Tryz.prog 105 #[vI a, vI b, vP nsb, vP txb] w fun e w' => e = .returned (vI (cmpNT x y s t)) ∧ GrowR w w' := by
 refine cW Tryz.func105 rfl Tryz.ntmps105 ?_
 simp only [al]
 refine sK fun _ k1 => rL (uA rfl ?_)
 refine uW k1 (sK fun _ k2 => ?_)
 refine rWG mixed [8, 17, 18, 19] [0,1,2,3,4,5,6,7,9,10,11,12,13,14,15,16,8,17,18,19,20] 27 rfl (by kernel_rfl) hv ?_
 simp only [qm, opAt]
 refine dL (.slice (some ⟨ib, io, none⟩) n oc) rfl (fun ⟨hv, _⟩ => ex_load rfl rfl (run_load1 kWna145 (hv.load 0 0 rfl rfl))) (dM (vI a) rfl ?_)
 refine dG (.pointer (some ⟨ib, io + a, none⟩)) rfl (ex_index rfl rfl rfl (run_idx1 (k := a) Tryz.underlying145 s11es145 (by omega))) ?_
 simp only [zP, po]
 refine dL (vI x) rfl (fun ⟨hv, _⟩ => ex_load rfl rfl (run_load1 s2na3 (hrx _ _ _ (Base.Le.refl _) no_res hv 0 _ rfl))) (dL (.slice (some ⟨ib, io, none⟩) n oc) rfl (fun ⟨hv, _⟩ => ex_load rfl rfl (run_load1 kWna145 (hv.load 0 0 rfl rfl))) ?_)
 refine dM (vI b) rfl ?_
 simp only [zP, po]
 refine dG (.pointer (some ⟨ib, io + b, none⟩)) rfl (ex_index rfl rfl rfl (run_idx1 (k := b) Tryz.underlying145 s11es145 (by omega))) (dL (vI y) rfl (fun ⟨hv, _⟩ => ex_load rfl rfl (run_load1 s2na3 (hry _ _ _ (Base.Le.refl _) no_res hv 0 _ rfl))) ?_)
 refine dF (.slice (some ⟨kb, ko, none⟩) n tc) rfl (fun ⟨hv, _⟩ => ex_load rfl rfl (run_load1 s1na26 (hv.load 1 0 rfl rfl))) fun f3 hf3 => ?_
 simp only [zP, po]
 refine dM (vI a) rfl (dG (.pointer (some ⟨kb, ko + a, none⟩)) rfl (ex_index rfl rfl rfl (run_idx1 (k := a) Tryz.underlying26 s9es26 (by omega))) ?_)
 refine dF (vS s) rfl (fun ⟨hv, _⟩ => ex_load rfl rfl (run_load1 s9na9 (hrs _ _ _ (Base.Le.refl _) no_res hv 0 _ rfl))) fun f4 hf4 => ?_
 simp only [zP, po]
 refine dF (.slice (some ⟨kb, ko, none⟩) n tc) rfl (fun ⟨hv, _⟩ => ex_load rfl rfl (run_load1 s1na26 (hv.load 1 0 rfl rfl))) fun f5 hf5 => dM (vI b) rfl (dG (.pointer (some ⟨kb, ko + b, none⟩)) rfl (ex_index rfl rfl rfl (run_idx1 (k := b) Tryz.underlying26 s9es26 (by omega))) ?_)
 simp only [zP, po]
 refine dF (vS t) rfl (fun ⟨hv, _⟩ => ex_load rfl rfl (run_load1 s9na9 (hrt _ _ _ (Base.Le.refl _) no_res hv 0 _ rfl))) fun f6 hf6 => dS rfl fun w7 ⟨hv, hgw⟩ => mC s11callable107 rfl ((cmpIntC x y _).mono ?_) rfl
 rintro e w8 ⟨rfl, rfl⟩
 refine ⟨_, rfl, dVG hv hgw (fC (fun ww ⟨hv, _⟩ => hf6 ww (ex_load rfl rfl (run_load1 s9na9 (hrt _ _ _ (Base.Le.refl _) no_res hv 0 _ rfl)))) (fC (fun ww ⟨hv, _⟩ => hf5 ww (ex_load rfl rfl (run_load1 s1na26 (hv.load 1 0 rfl rfl)))) (fC (fun ww ⟨hv, _⟩ => hf4 ww (ex_load rfl rfl (run_load1 s9na9 (hrs _ _ _ (Base.Le.refl _) no_res hv 0 _ rfl)))) (fC (fun ww ⟨hv, _⟩ => hf3 ww (ex_load rfl rfl (run_load1 s1na26 (hv.load 1 0 rfl rfl)))) fN)))) ?_⟩
 refine dS rfl fun w9 ⟨hv, hgw⟩ => mC kWcallable108 rfl ((cmpStrC s t _).mono ?_) rfl
 rintro e w10 ⟨rfl, rfl⟩
 refine ⟨_, rfl, dVG hv hgw (fK rfl (fK rfl (fK rfl (fK rfl fN)))) ?_⟩
 simp only [zP, po]
 refine dS rfl fun w11 ⟨hv, hgw⟩ => mem_row2E (v1 := vI (Lib.compareInt x y)) (v2 := vI (Lib.compareBytes s t)) (e := 3) rfl rfl rfl rfl hv (fun w => by kernel_rfl) (fun b12 w13 hv hg2 => ?_)
 replace hgw := hgw.trans hg2
 refine dVG hv hgw (fK rfl (fK rfl (fK rfl (fK rfl fN)))) (dS rfl fun w14 ⟨hv, hgw⟩ => ?_)
 refine mC s11callable106 rfl ((cmpOrTwo B _ _ _ (Lib.compareInt x y) (Lib.compareBytes s t) hv).mono ?_) rfl
 rintro e w15 ⟨rfl, rfl⟩
 refine ⟨_, rfl, dVG hv hgw (fK rfl (fK rfl (fK rfl (fK rfl fN)))) ?_⟩
 refine dA (vI (cmpNT x y s t)) rfl (dE fun w16 ⟨hv, hgw⟩ => ?_)
 simp only [zP, po]
 refine tK k2 (rR ?_)
 refine bR rfl rfl (⟨rfl, hgw⟩)
theorem intCells_map (l : List Int) : intCells l = l.map (Value.int .i64) := by
 induction l with
 | nil => rfl
 | cons x l ih => exact congrArg (vI x :: ·) ih
theorem sortIdx (B : Base) (H : List Res) (w : World) (v : Value) (ns : List Int) (ts : List (List UInt8)) (nsb txb oc tc : Nat) (oa ta : Option Addr) (hl : ns.length = ts.length) (hm : ts.length ≤ 1000000) (hrn : RdV B [] oa (intCells ns)) (hrt : RdV B [] ta (textCells ts))
  (hv : Pm.Inv B (Res.row 3 1 v ts.length (intCells ((List.range ts.length).map fun i : Nat => (i : Int))) :: Res.cell nsb [.slice oa ts.length oc] 145 :: Res.cell txb [.slice ta ts.length tc] 26 :: H) w) :
  Calls Tryz.prog 104 #[v, .func (.func 105) #[] #[vP nsb, vP txb]] w fun e w' => e = .returned (.tuple #[]) ∧ ∃ l : List Nat, l.length = ts.length ∧ (∀ i ∈ l, i < ts.length) ∧ Pm.Inv B (Res.row 3 1 v ts.length (intCells (l.map fun i : Nat => (i : Int))) :: Res.cell nsb [.slice oa ts.length oc] 145 :: Res.cell txb [.slice ta ts.length tc] 26 :: H) w' := by
 rw [intCells_map] at hv
 simp only [intCells_map]
 rcases (hv.head : w.ownsRow 0 3 1 v ts.length _).2 with ⟨rfl, hz⟩ | ⟨gb, cap, cur, rfl, h0, hgb, r1, r2, r3, r4⟩
 ·rw [hz] at hv ⊢
  refine (AnyF.slices_SortFunc_none { Tryz.laysSF with } none 0 _ w).mono ?_
  rintro e w' ⟨rfl, rfl⟩
  exact ⟨rfl, [], rfl, fun i h => (by cases h), hv⟩
 by_cases hz : ts.length = 0
 ·rw [hz] at hv ⊢
  refine (AnyF.slices_SortFunc_none { Tryz.laysSF with } (some ⟨gb, 0, none⟩) cap _ w).mono ?_
  rintro e w' ⟨rfl, rfl⟩
  exact ⟨rfl, [], rfl, fun i h => (by cases h), hv⟩
 obtain ⟨n, hn⟩ : ∃ n, n = ts.length := ⟨_, rfl⟩
 rw [← hn] at hv r1 r4 ⊢
 letI : Inhabited {i : Nat // i < n} := ⟨⟨0, by omega⟩⟩
 let f : {i : Nat // i < n} → Int := fun x => (x.1 : Int)
 obtain ⟨d, hd⟩ : ∃ d : Array {i : Nat // i < n}, d.map f = ((List.range n).map fun i : Nat => (i : Int)).toArray := ⟨((List.range n).attach.map fun x => ⟨x.1, List.mem_range.1 x.2⟩).toArray, by simp [f, List.map_attach_eq_pmap]⟩
 have hds : d.size = n := by have := congrArg Array.size hd; simpa using this
 let cf : {i : Nat // i < n} → {i : Nat // i < n} → Int := fun x y => cmpNT (ns.getD x.1 0) (ns.getD y.1 0) (ts.getD x.1 []) (ts.getD y.1 [])
 have hH : Holds (fun x => vI (f x)) w gb 0 d := holds_map f (by rw [hd]; exact holds_of_blockI hgb (by rw [Nat.mul_one] at r4; simpa using r4))
 have hup : ∀ (m : Nat) (os : Array Obj) (dk : Array {i : Nat // i < n}), dk.size = n → Pm.Inv B (Res.row 3 1 (.slice (some ⟨gb, 0, none⟩) n cap) n ((dk.toList.map f).map (Value.int .i64)) :: Res.cell nsb [.slice oa n oc] 145 :: Res.cell txb [.slice ta n tc] 26 :: H) (sortWorld (fun x => vI (f x)) w gb 0 m dk os) := by
  intro m os dk hk
  unfold sortWorld
  rw [putRow_map f, map_toL f dk]
  have hgr := grownBy_sortedI (w := w) (g := gb) (n := m) (os := os) (dk.toList.map f).toArray
  have hr := ownsRow_sortedI (n := m) (os := os) (ss := (List.range n).map fun i : Nat => (i : Int)) (ts := dk.toList.map f) (by simp [hk]) h0 hgb (by simpa using r1) r2 r3
  rw [show ((List.range n).map fun i : Nat => (i : Int)).length = n by simp] at hr
  exact hv.upd _ ⟨hgr.os, hgr.tape, hgr.output, hgr.size, fun k hk hn => hgr.block k hk (fun e => hn (by cases e; simp [Value.ownBlock]))⟩ hr (fun b hb => .inl hb) (fun b hb => Nat.lt_of_lt_of_le (hv.headLt b hb) hgr.size) (by simp [Value.ownBlock])
 have hcmp : CmpLays1 Tryz.prog 105 #[vP nsb, vP txb] (fun x => vI (f x)) cf gb 0 d.size w := by
  intro m os dk hk x y
  have hI := (hup m os dk (hk.trans hds)).drop
  have at_ : ∀ x : {i : Nat // i < n}, ns[x.1]? = some (ns.getD x.1 0) ∧ ts[x.1]? = some (ts.getD x.1 []) := fun x => by
   have h1 := x.2
   constructor
   ·rw [List.getD_eq_getElem?_getD, List.getElem?_eq_getElem (by omega)]; rfl
   rw [List.getD_eq_getElem?_getD, List.getElem?_eq_getElem (by omega)]; rfl
  obtain ⟨ib, io, hoa, hrx⟩ := int_reads hrn (at_ x).1
  obtain ⟨ib', io', hoa', hry⟩ := int_reads hrn (at_ y).1
  obtain ⟨kb, ko, hta, hrs⟩ := text_reads hrt (at_ x).2
  obtain ⟨kb', ko', hta', hrt'⟩ := text_reads hrt (at_ y).2
  rw [hoa] at hoa'; cases hoa'
  rw [hta] at hta'; cases hta'
  rw [hoa, hta] at hI
  exact ckLess B H _ ib io kb ko oc tc nsb txb n x.1 y.1 _ _ _ _ x.2 y.2 (by omega) hrx hry hrs hrt' hI
 have hc := Any.slices_SortFunc Tryz.laysSF (fun x => vI (f x)) (fun _ => rfl) cf (swoNT (fun x : {i : Nat // i < n} => ns.getD x.1 0) (fun x => ts.getD x.1 [])) 105 #[vP nsb, vP txb] gb 0 cap d w (enters_of Tryz.func105 (by kernel_rfl) rfl) hcmp hH (Array.getElem?_eq_some_iff.1 hgb).1 (by omega)
 rw [hds] at hc
 refine hc.mono ?_
 rintro e w' ⟨rfl, d', m, os, hp, -, rfl⟩
 refine ⟨rfl, d'.toList.map (·.1), by rw [List.length_map, Array.length_toList, hp.1, hds], fun i hi => ?_, ?_⟩
 ·obtain ⟨x, -, rfl⟩ := List.mem_map.1 hi
  exact x.2
 have := hup m os d' (hp.1.trans hds)
 rw [List.map_map (g := fun i : Nat => (i : Int))]
 exact this
def atCells (n i : Nat) : List Value := ((List.range i).map fun k : Nat => vI k) ++ List.replicate (n - i) (vI 0)
theorem atCells_len {n i : Nat} (h : i ≤ n) : (atCells n i).length = n := by simp [atCells]; omega
theorem atCells_set {n i : Nat} (h : i < n) : (atCells n i).set i (vI i) = atCells n (i + 1) := by
 unfold atCells
 rw [List.set_append_right _ _ (by simp), List.length_map, List.length_range, Nat.sub_self, show n - i = (n - (i + 1)) + 1 by omega, List.replicate_succ, List.set_cons_zero, List.range_succ, List.map_append, List.append_assoc]
 rfl
theorem atCells_all {n : Nat} : (atCells n n).take (n * 1) = intCells ((List.range n).map fun i : Nat => (i : Int)) := by
 unfold atCells
 rw [intCells_map, Nat.sub_self, List.replicate_zero, List.append_nil, List.map_map, List.take_of_length_le (by simp)]
 rfl
theorem kXal145 : AL Tryz.prog 145 [vN] := fun w => by kernel_rfl
theorem kXsz145 : (Tryz.prog.info? 145).map (·.size) = some 1 := by kernel_rfl
theorem kXmk3 : (Tryz.prog.info? 3).map (fun i => (i.zero, i.size, i.bytes)) = some (some (vI 0), 1, 8) := by kernel_rfl
theorem kXcallable104 : Callable Tryz.prog 104 := cb Tryz.func104 (by kernel_rfl)
theorem kXmk9 : (Tryz.prog.info? 9).map (fun i => (i.zero, i.size, i.bytes)) = some (some (vS []), 1, 16) := by kernel_rfl
theorem kXel26 : Elem Tryz.prog 26 9 (vS []) 1 16 := elem_of Tryz.underlying26 kXmk9 (by rfl) (by decide)
theorem ckSortedN (B : Base) (H : List Res) (w : World) (xa : Option Addr) (xc : Nat) (xs : List (List UInt8)) (hrx : RdV B [] xa (textCells xs)) (hmx : xs.length ≤ 1000000) (hN : NumB B) (hv : Inv B H w) :
  Calls Tryz.prog 92 #[.bool false, .slice xa xs.length xc] w fun e w' => ∃ C oa oc out ec, B.Le C ∧ e = .returned (.tuple #[.slice oa out.length oc, vI ec]) ∧ SortR false xs out ec ∧ Inv C (Res.row 9 1 (.slice oa out.length oc) out.length (textCells out) :: H) w' := by
 refine cW Tryz.func92 rfl Tryz.ntmps92 ?_
 simp only [al]
 refine sK fun _ k1 => rL (sl_box (L := [.slice xa xs.length xc]) tV (wn rfl) rfl rfl hv (fun w => by kernel_rfl) (fun b2 w3 hv => ?_))
 refine uA rfl (uA rfl ?_)
 refine uW k1 (sK fun _ k4 => ?_)
 refine sK fun _ k5 => rL (uM rfl ?_)
 refine uW k5 (cF rfl ?_)
 refine kS (tK k4 ?_)
 refine sK fun _ k6 => rL (uL _ rfl (run_load1 s1na26 (hv.load 0 0 rfl rfl)) ?_)
 refine xC v8callable82 rfl ((viewInts B _ _ xa xc xs hrx hmx hN hv).mono ?_) rfl
 rintro e w7 ⟨C, oa, oc, ns, ec, hC, rfl, hrn, hir, hv⟩
 refine ⟨_, rfl, uM rfl ?_⟩
 refine uE rfl (uE rfl ?_)
 refine sl_alloc tV (wn rfl) rfl hv kXal145 (fun b8 w9 hv => ?_)
 simp only [zP, po]
 refine xV 0 (.slice oa ns.length oc) rfl hv kXsz145 rfl rfl (fun w10 hv => ?_)
 simp only [zO, sp] at hv
 refine uA rfl (uW k6 ?_)
 refine sK fun _ k11 => sK fun _ k12 => rL (uM rfl ?_)
 by_cases hb13 : ec ≠ 0
 ·refine uG (.bool true) rfl (ex_neq rfl rfl rfl (qT hb13)) (uW k12 ?_)
  refine cT rfl (sK fun _ k14 => ?_)
  refine rL (uM rfl ?_)
  refine uA rfl (uA rfl ?_)
  refine uW k14 (rR ?_)
  refine tR (bodyPost_ret (results_tmp2 rfl _ _ _) rfl ?_)
  exact ⟨C, none, 0, [], ec, hC, rfl, ⟨fun h => (by cases h), Nat.zero_le _⟩, ((hv.kp [] 0 2)).rowNil 9 1⟩
 refine uG (.bool false) rfl (ex_neq rfl rfl rfl (qF hb13)) (uW k12 ?_)
 refine cF rfl (kS ?_)
 refine tK k11 (sK fun _ k15 => ?_)
 have hnl : ns.length = xs.length := hir.elim (fun h => h.2.1) fun h => absurd h.1 (by omega)
 rw [hnl] at hv ⊢
 refine rL (uL _ rfl (run_load1 s1na26 (hv.load 1 0 rfl rfl)) ?_)
 refine uG (vI (xs.length : Int)) rfl (ex_len0 Tryz.underlying26 rfl rfl) ?_
 refine sl_make1 (len := xs.length) (cap := xs.length) tV (wn rfl) rfl rfl rfl Tryz.underlying145 kXmk3 rfl (by omega) (by unfold maxLen; omega) (by omega) hv (fun b16 w17 hv => ?_)
 refine uA rfl (uW k15 ?_)
 refine sK fun _ k18 => sK fun _ k19 => rL (uM rfl ?_)
 refine uG (vI (xs.length : Int)) rfl (ex_len0 Tryz.underlying145 rfl rfl) (uM rfl ?_)
 refine uW k19 (bB ?_)
 gi_loopw [32] (fun x32 wr => ∃ (i : Nat), x32 = vI i ∧ i ≤ xs.length ∧ Inv C (Res.cell b16 (atCells xs.length i) 3 :: Res.cell b8 [.slice oa xs.length oc] 145 :: Res.cell b2 [.slice xa xs.length xc] 26 :: H) wr) (fun x32 _ => xs.length - (intOf x32).toNat)
 case atStart => exact ⟨0, rfl, Nat.zero_le _, (((hv.front 2 rfl).front 2 rfl).front 2 rfl)⟩
 case round =>
  obtain ⟨i, rfl, hi, hv⟩ := hrel
  refine sK fun _ k21 => rL ?_
  by_cases hb22 : (i : Int) < (xs.length : Int)
  ·refine uG (.bool true) rfl (ex_lss rfl rfl rfl (qT hb22)) (uW k21 ?_)
   refine sK fun _ k23 => cT rfl (kS ?_)
   refine tK k23 (sK fun _ k24 => ?_)
   refine bB (sK fun _ k25 => ?_)
   refine rL (uM rfl ?_)
   refine uA rfl (uW k25 ?_)
   refine rL (uM rfl ?_)
   refine uM rfl (uM rfl ?_)
   refine uG (.pointer (some ⟨b16, 0 + i, none⟩)) rfl (ex_index rfl rfl rfl (run_idx1 (k := i) Tryz.underlying145 s11es145 (by omega))) ?_
   refine sl_storeAt 0 (off := 0 + i) (v := vI i) (L' := atCells xs.length (i + 1)) tV (wn rfl) rfl rfl rfl hv rfl x3sz3 (by rw [atCells_len hi]; omega) rfl rfl (by rw [Nat.zero_add]; exact atCells_set (by omega)) (fun w26 hv => ?_)
   simp only [zO] at hv
   refine uZ (bN ?_)
   refine tK k24 (rL ?_)
   refine uG (vI ((i + 1 : Nat) : Int)) rfl (ex_add rfl rfl rfl (by rw [i64_in (by omega)]; omega)) (uM rfl ?_)
   refine uZ (then_normal ?_)
   go_roundw
   case rel => exact ⟨i + 1, rfl, by omega, (((hv.front 2 rfl).front 2 rfl).front 2 rfl)⟩
   case measure => show xs.length - (((i + 1 : Nat) : Int)).toNat < xs.length - ((i : Int)).toNat; omega
  refine uG (.bool false) rfl (ex_lss rfl rfl rfl (qF hb22)) (uW k21 ?_)
  refine sK fun _ k27 => cF rfl (xE ?_)
  refine tX (tX ?_)
  refine bH (tK k18 ?_)
  refine sK fun _ k28 => ?_
  obtain rfl : i = xs.length := by omega
  replace hv := hv.cellRow (n := xs.length) (c := xs.length) (size := 1) (by rw [atCells_len (Nat.le_refl _), Nat.mul_one]) (Nat.le_refl _) (by unfold maxLen; omega)
  rw [atCells_all] at hv
  refine rL (uM rfl ?_)
  refine uG (.func (.func 105) #[] #[vP b8, vP b2]) rfl (ex_makeFunc (c' := #[vP b8, vP b2]) rfl (by simp only [List.map_toArray, List.map_nil]) (by simp only [List.map_toArray, List.map_cons, List.map_nil]; rfl)) ?_
  replace hv := hv.front 2 rfl
  simp only [eS, eZ] at hv
  replace hv := hv.front 2 rfl
  simp only [eS, eZ] at hv
  replace hv := hv.front 2 rfl
  simp only [eS, eZ] at hv
  refine xC kXcallable104 rfl ((sortIdx C _ _ _ ns xs b8 b2 oc xc oa xa hnl hmx hrn (hrx.more hC (fun _ h => h)) hv).mono ?_) rfl
  rintro e w29 ⟨rfl, l, hll, hlt, hv⟩
  refine ⟨_, rfl, uW k28 ?_⟩
  refine sK fun _ k30 => ?_
  obtain ⟨E, hE, hv, hra, -, -⟩ := hv.rowBy
  refine rL (uL _ rfl (run_load1 s1na26 (hv.load 1 0 rfl rfl)) ?_)
  refine uG (vI (xs.length : Int)) rfl (ex_len0 Tryz.underlying26 rfl rfl) ?_
  refine sl_makeRow (cap := xs.length) tV (wn rfl) rfl rfl rfl kXel26 (by unfold maxLen; omega) (by omega) hv (fun b31 w32 hv => ?_)
  refine uA rfl (uW k30 ?_)
  refine sK fun _ k33 => sK fun _ k34 => rL (uM rfl ?_)
  refine uG (vI (xs.length : Int)) rfl (ex_len0 Tryz.underlying145 rfl rfl) (uM rfl ?_)
  refine uW k34 (bB ?_)
  gi_loopw [10, 48] (fun x10 x48 wr => ∃ (j : Nat) (out : List (List UInt8)) (fa : Option Addr) (fc : Nat), x10 = .slice fa out.length fc ∧ x48 = vI j ∧ j ≤ xs.length ∧ out.length = j ∧ Inv E (Res.row 9 1 (.slice fa out.length fc) out.length (textCells out) :: Res.cell b8 [.slice oa xs.length oc] 145 :: Res.cell b2 [.slice xa xs.length xc] 26 :: H) wr) (fun x10 x48 _ => xs.length - (intOf x48).toNat)
  case atStart => exact ⟨0, [], _, _, rfl, rfl, Nat.zero_le _, rfl, (((hv.front 2 rfl).front 2 rfl).front 2 rfl)⟩
  case round =>
   obtain ⟨j, out, fa, fc, rfl, rfl, hj, hol, hv⟩ := hrel
   refine sK fun _ k36 => rL ?_
   by_cases hb37 : (j : Int) < (xs.length : Int)
   ·refine uG (.bool true) rfl (ex_lss rfl rfl rfl (qT hb37)) (uW k36 ?_)
    refine sK fun _ k38 => cT rfl (kS ?_)
    refine tK k38 (sK fun _ k39 => ?_)
    refine bB (sK fun _ k40 => ?_)
    obtain ⟨q, hq⟩ : ∃ x, l[j]? = some x := ⟨_, List.getElem?_eq_getElem (show j < l.length by omega)⟩
    have hqx := hlt q (List.mem_of_getElem? hq)
    obtain ⟨b9, o9, had9, hrdq⟩ := int_reads hra (show (l.map fun i : Nat => (i : Int))[j]? = some (q : Int) by rw [List.getElem?_map, hq]; rfl)
    cases had9
    obtain ⟨x, hx⟩ : ∃ x, xs[q]? = some x := ⟨_, List.getElem?_eq_getElem (show q < xs.length by omega)⟩
    obtain ⟨kb, ko, had, hrdx⟩ := text_reads hrx hx
    subst had
    refine rL (uG (.pointer (some ⟨b16, 0 + j, none⟩)) rfl (ex_index rfl rfl rfl (run_idx1 (k := j) Tryz.underlying145 s11es145 (by omega))) ?_)
    refine uL _ rfl (run_load1 s2na3 (hrdq _ _ _ (Base.Le.refl _) no_res hv 0 _ rfl)) (uA rfl ?_)
    refine uW k40 (rL ?_)
    refine uM rfl ?_
    refine uL _ rfl (run_load1 s1na26 (hv.load 2 0 rfl rfl)) (uM rfl ?_)
    refine uG (.pointer (some ⟨kb, ko + q, none⟩)) rfl (ex_index rfl rfl rfl (run_idx1 (k := q) Tryz.underlying26 s9es26 (by omega))) ?_
    refine uL _ rfl (run_load1 s9na9 (hrdx _ _ _ (hC.trans hE) no_res hv 0 _ rfl)) ?_
    refine sl_rowOne (v := vS x) tV (wn rfl) rfl rfl hv kXel26 rfl (fun b41 w42 hv => ?_)
    simp only [zP, po]
    replace hv := hv.front 1 rfl
    simp only [eS, eZ] at hv
    refine sl_append (news := [vS x]) tV (wn rfl) rfl rfl rfl kXel26 hv (ok_full (by omega)) rfl (rd_all (hv.get 1 rfl)) (by intro u hu; simp only [List.mem_cons, List.not_mem_nil, or_false] at hu; rcases hu with rfl <;> rfl) (by unfold maxLen; omega) (by omega) (fun rv43 w46 hv => ?_)
    obtain ⟨ra44, rc45, rfl⟩ := row_slice hv.head
    refine uA rfl (uZ ?_)
    refine bN (tK k39 ?_)
    refine rL (uG (vI ((j + 1 : Nat) : Int)) rfl (ex_add rfl rfl rfl (by rw [i64_in (by omega)]; omega)) ?_)
    refine uM rfl (uZ ?_)
    refine then_normal ?_
    go_roundw
    case rel => exact ⟨j + 1, out ++ [x], _, _, by rw [List.length_append, List.length_singleton], rfl, by omega, by rw [List.length_append, List.length_singleton, hol], by rw [List.length_append, List.length_singleton, ← text_snoc]; exact (hv.kp [3, 3, 2] 3 1)⟩
    case measure => show xs.length - (((j + 1 : Nat) : Int)).toNat < xs.length - ((j : Int)).toNat; omega
   refine uG (.bool false) rfl (ex_lss rfl rfl rfl (qF hb37)) (uW k36 ?_)
   refine sK fun _ k47 => cF rfl (xE ?_)
   refine tX (tX ?_)
   refine bH (tK k33 ?_)
   refine sK fun _ k48 => rL (uM rfl ?_)
   refine uA rfl (uA rfl ?_)
   refine uW k48 (rR ?_)
   refine bodyPost_ret (results_tmp2 rfl _ _ _) rfl ?_
   obtain rfl : j = xs.length := by omega
   exact ⟨E, fa, fc, out, 0, hC.trans hE, rfl, ⟨fun h => (by cases h), by omega⟩, (hv.kp [] 1 2)⟩
theorem ckSorted : ∀ b, SortedOk b
 | true => fun B H w xa xc xs h1 h2 h3 _ hv => (ckSortedA B H w xa xc xs h1 h2 h3 hv).mono fun e w' ⟨oa, oc, he, hi⟩ => ⟨B, oa, oc, xs.mergeSort leB, 0, Base.Le.refl _, by rw [List.length_mergeSort]; exact he, ⟨fun _ => ⟨rfl, rfl⟩, by rw [List.length_mergeSort]; exact Nat.le_refl _⟩, by rw [List.length_mergeSort]; exact hi⟩
 | false => fun B H w xa xc xs _ h2 h3 h4 hv => ckSortedN B H w xa xc xs h2 h3 h4 hv
theorem kRcallable15 : Callable Tryz.prog 15 := cb Tryz.func15 (by kernel_rfl)
theorem kRcallable25 : Callable Tryz.prog 25 := cb Tryz.func25 (by kernel_rfl)
theorem kRcallable10 : Callable Tryz.prog 10 := cb Tryz.func10 (by kernel_rfl)
theorem kRal34 : AL Tryz.prog 34 [vI 0, vS [], vI 0, vN] := fun w => by kernel_rfl
theorem kRcallable26 : Callable Tryz.prog 26 := cb Tryz.func26 (by kernel_rfl)
theorem kRmk9 : (Tryz.prog.info? 9).map (fun i => (i.zero, i.size, i.bytes)) = some (some (vS []), 1, 16) := by kernel_rfl
theorem kRel26 : Elem Tryz.prog 26 9 (vS []) 1 16 := elem_of Tryz.underlying26 kRmk9 (by rfl) (by decide)
theorem gAwake (B : Base) (H : List Res) (w : World) (hN : NumB B) (hv : Inv B H w) :
  Calls Tryz.prog 8 #[] w fun e w' => e = .returned (.bool true) ∧ Inv B H w' := by
 refine cW Tryz.func8 rfl Tryz.ntmps8 ?_
 simp only [al]
 refine sK fun _ k1 => rL (uA rfl ?_)
 refine uW k1 (sK fun _ k2 => ?_)
 refine rL (xC kRcallable15 rfl ((lawOpened26 B _ _ 0 (by omega) (by omega) hv).mono ?_) rfl)
 rintro e w3 ⟨v, t, m, s, p, wb, va, vc, sv, rfl, hv⟩
 refine ⟨_, rfl, uA rfl ?_⟩
 refine uW k2 (sK fun _ k4 => ?_)
 refine sK fun _ k5 => rL (uM rfl ?_)
 refine uG (.bool false) rfl (ex_pisnil Tryz.underlying24 rfl rfl rfl rfl) (uM rfl ?_)
 refine uM rfl ?_
 refine xC kRcallable25 rfl ((lawText26 B _ _ ([49] : List UInt8) hv).mono ?_) rfl
 rintro e w6 ⟨rfl, hv⟩
 refine ⟨_, rfl, ?_⟩
 simp only [zP, po]
 replace hv := hv.front 1 rfl
 simp only [eS, eZ] at hv
 replace hv := hv.front 1 rfl
 simp only [eS, eZ] at hv
 refine xC k6callable16 rfl ((viewKeep B _ _ v t m s p wb va vc sv 0 [] [] ([97] : List UInt8) (vText ([49] : List UInt8)) _ _ _ 0 ((vmNil B).more (Base.Le.refl _)) vText_at hv).mono ?_) rfl
 rintro e w7 ⟨D1, es1, M1, ec1, hD1, rfl, hM1, hkp1, hv⟩
 refine ⟨_, rfl, ?_⟩
 have hO1 := OkM.nil.keep hkp1
 obtain ⟨rfl, hR1, hK1⟩ := ck_put RelVK.nil (show KeysOk [] 0 from ⟨List.Pairwise.nil, Nat.le_refl _, fun k h => (by cases h)⟩) (by decide) (by decide) hkp1 ins_A
 refine uG (.bool false) rfl (ex_neq rfl rfl rfl (by decide)) (uK rfl ?_)
 refine uM rfl ?_
 refine uM rfl ?_
 refine xC kRcallable25 rfl ((lawText26 D1 _ _ ([50] : List UInt8) hv).mono ?_) rfl
 rintro e w8 ⟨rfl, hv⟩
 refine ⟨_, rfl, ?_⟩
 simp only [zP, po]
 replace hv := hv.front 1 rfl
 simp only [eS, eZ] at hv
 replace hv := hv.front 1 rfl
 simp only [eS, eZ] at hv
 refine xC k6callable16 rfl ((viewKeep D1 _ _ v t m s p wb va vc sv 0 es1 M1 ([98] : List UInt8) (vText ([50] : List UInt8)) _ _ _ 0 (hM1.more (Base.Le.refl _)) vText_at hv).mono ?_) rfl
 rintro e w9 ⟨D2, es2, M2, ec2, hD2, rfl, hM2, hkp2, hv⟩
 refine ⟨_, rfl, ?_⟩
 have hO2 := hO1.keep hkp2
 obtain ⟨rfl, hR2, hK2⟩ := ck_put hR1 hK1 (by decide) (by decide) hkp2 ins_B
 refine uG (.bool false) rfl (ex_neq rfl rfl rfl (by decide)) (uK rfl ?_)
 refine uM rfl ?_
 refine uM rfl ?_
 refine xC kRcallable25 rfl ((lawText26 D2 _ _ ([51] : List UInt8) hv).mono ?_) rfl
 rintro e w10 ⟨rfl, hv⟩
 refine ⟨_, rfl, ?_⟩
 simp only [zP, po]
 replace hv := hv.front 1 rfl
 simp only [eS, eZ] at hv
 replace hv := hv.front 1 rfl
 simp only [eS, eZ] at hv
 refine xC k6callable16 rfl ((viewKeep D2 _ _ v t m s p wb va vc sv 0 es2 M2 ([99] : List UInt8) (vText ([51] : List UInt8)) _ _ _ 0 (hM2.more (Base.Le.refl _)) vText_at hv).mono ?_) rfl
 rintro e w11 ⟨D3, es3, M3, ec3, hD3, rfl, hM3, hkp3, hv⟩
 refine ⟨_, rfl, ?_⟩
 have hO3 := hO2.keep hkp3
 obtain ⟨rfl, hR3, hK3⟩ := ck_put hR2 hK2 (by decide) (by decide) hkp3 ins_C
 refine uG (.bool false) rfl (ex_neq rfl rfl rfl (by decide)) (uK rfl ?_)
 refine uW k5 (cF rfl ?_)
 refine kS (tK k4 ?_)
 refine sK fun _ k12 => rL (uM rfl ?_)
 refine sl_rowN (pv := #[(0, vS [48]), (1, vS [67, 79, 85, 78, 84]), (2, vS [50])]) (L := [vS [48], vS [67, 79, 85, 78, 84], vS [50]]) (e := 9) tV (wn rfl) rfl (by simp only [List.map_toArray, List.map_cons, List.map_nil]; rfl) hv (fun w => by kernel_rfl) (fun b13 w14 hv => ?_)
 simp only [zP, po]
 obtain ⟨D15, hD15, hv, hrD15, hoD15, -⟩ := (hv.cellRow (n := 3) (c := 3) (size := 1) rfl (by decide) (by decide)).rowBy
 replace hv := hv.front 1 rfl
 simp only [eS, eZ] at hv
 replace hv := hv.front 1 rfl
 simp only [eS, eZ] at hv
 refine xC kRcallable10 rfl ((gDo D15 _ _ v t m s p wb va vc sv 0 es3 M3 (hM3.more hD15) hO3 _ _ [([48] : List UInt8), ([67, 79, 85, 78, 84] : List UInt8), ([50] : List UInt8)] hrD15 hoD15 (by decide) nSCAN (all1 (by decide) (all1 (by decide) (all1 (by decide) all0))) (.inl (all1 (by decide) (all1 (by decide) (all1 (by decide) all0)))) (hN.more (((hD1.trans hD2).trans hD3).trans hD15)) hK3.sh (by have := hK3.len; omega) (by decide) (by decide) ckSorted hv).mono ?_) rfl
 rintro e w16 ⟨C1, es4, M4, r1, cs1, ok1, hC1, rfl, hrp1, hM4, -, hok1, -, hrel1, hv⟩
 refine ⟨_, rfl, ?_⟩
 obtain rfl : ok1 = true := hok1.2 (by decide)
 obtain ⟨hmm1, hsr1⟩ := hrel1 (by unfold GArgs; decide) rfl
 rw [hmm1] at hM4
 rw [ck_names hR3 hK3] at hsr1
 obtain rfl := ck_scan1 hsr1
 obtain ⟨rb1, ro1, rc1, u1, la1, lc1, rfl, hrd1, hu1, hw1, hrl1, hrs1, -⟩ := rp_two hrp1
 refine uG (.tuple #[.agg #[vI 5, vS [], vI 0, .slice (some ⟨rb1, ro1, none⟩) 2 rc1], .bool true]) rfl (ex_move rfl rfl) ?_
 refine uG (.agg #[vI 5, vS [], vI 0, .slice (some ⟨rb1, ro1, none⟩) 2 rc1]) rfl (ex_extract rfl rfl rfl) (uE rfl ?_)
 refine sl_alloc tV (wn rfl) rfl hv kRal34 (fun b17 w18 hv => ?_)
 simp only [zP, po]
 refine xS 0 rfl hv rssz34 rfl (by exact ⟨rfl, rfl, rfl, rfl, trivial⟩) (fun w19 hv => ?_)
 simp only [zO, sp] at hv
 refine uA rfl (uW k12 ?_)
 refine sK fun _ k20 => rL (uM rfl ?_)
 refine sl_rowN (pv := #[(0, vS [50]), (1, vS [67, 79, 85, 78, 84]), (2, vS [50])]) (L := [vS [50], vS [67, 79, 85, 78, 84], vS [50]]) (e := 9) tV (wn rfl) rfl (by simp only [List.map_toArray, List.map_cons, List.map_nil]; rfl) hv (fun w => by kernel_rfl) (fun b21 w22 hv => ?_)
 simp only [zP, po]
 obtain ⟨D23, hD23, hv, hrD23, hoD23, -⟩ := (hv.cellRow (n := 3) (c := 3) (size := 1) rfl (by decide) (by decide)).rowBy
 replace hv := hv.front 2 rfl
 simp only [eS, eZ] at hv
 replace hv := hv.front 2 rfl
 simp only [eS, eZ] at hv
 refine xC kRcallable10 rfl ((gDo D23 _ _ v t m s p wb va vc sv 0 es4 M3 (hM4.more hD23) hO3 _ _ [([50] : List UInt8), ([67, 79, 85, 78, 84] : List UInt8), ([50] : List UInt8)] hrD23 hoD23 (by decide) nSCAN (all1 (by decide) (all1 (by decide) (all1 (by decide) all0))) (.inl (all1 (by decide) (all1 (by decide) (all1 (by decide) all0)))) (hN.more (((((hD1.trans hD2).trans hD3).trans hD15).trans hC1).trans hD23)) hK3.sh (by have := hK3.len; omega) (by decide) (by decide) ckSorted hv).mono ?_) rfl
 rintro e w24 ⟨C2, es5, M5, r2, cs2, ok2, hC2, rfl, hrp2, hM5, -, hok2, -, hrel2, hv⟩
 refine ⟨_, rfl, ?_⟩
 obtain rfl : ok2 = true := hok2.2 (by decide)
 obtain ⟨hmm2, hsr2⟩ := hrel2 (by unfold GArgs; decide) rfl
 rw [hmm2] at hM5
 rw [ck_names hR3 hK3] at hsr2
 obtain rfl := ck_scan2 hsr2
 obtain ⟨rb2, ro2, rc2, u2, la2, lc2, rfl, hrd2, hu2, hw2, hrl2, hrs2, -⟩ := rp_two hrp2
 refine uG (.tuple #[.agg #[vI 5, vS [], vI 0, .slice (some ⟨rb2, ro2, none⟩) 2 rc2], .bool true]) rfl (ex_move rfl rfl) ?_
 refine uG (.agg #[vI 5, vS [], vI 0, .slice (some ⟨rb2, ro2, none⟩) 2 rc2]) rfl (ex_extract rfl rfl rfl) (uE rfl ?_)
 refine sl_alloc tV (wn rfl) rfl hv kRal34 (fun b25 w26 hv => ?_)
 simp only [zP, po]
 refine xS 0 rfl hv rssz34 rfl (by exact ⟨rfl, rfl, rfl, rfl, trivial⟩) (fun w27 hv => ?_)
 simp only [zO, sp] at hv
 refine uA rfl (uW k20 ?_)
 refine sK fun _ k28 => rW mixed [23, 24, 25, 46, 47, 48] [0,1,2,3,4,5,6,7,8,9,10,11,12,13,14,15,16,17,18,19,20,21,22,23,24,25,26,27,28,29,30,31,32,33,34,35,36,37,38,39,40,41,42,43,44,45,46,47,48,49,50] 89 rfl (by kernel_rfl) hv ?_
 simp only [qm, opAt]
 refine dM (.bool true) rfl (dM (.bool true) rfl ?_)
 refine dM (.bool true) rfl ?_
 simp only [zP, po]
 refine dK true (.bool true) rfl (dM (.bool true) rfl ?_)
 refine dG (.pointer (some ⟨b17, 3, none⟩)) rfl (ex_field rfl rfl (rtfa34_3 _ _ _)) ?_
 simp only [zP, po]
 refine dL _ rfl (fun hv => ex_load rfl rfl (run_load1 rtna32 (hv.load 3 3 rfl rfl))) (dG (vI 2) rfl (ex_len0 Tryz.underlying32 rfl rfl) ?_)
 refine dG (.bool true) rfl (ex_eql rfl rfl rfl (by decide)) ?_
 simp only [zP, po]
 refine dK true (.bool true) rfl (dM (.bool true) rfl ?_)
 refine dG (.pointer (some ⟨b17, 3, none⟩)) rfl (ex_field rfl rfl (rtfa34_3 _ _ _)) ?_
 simp only [zP, po]
 refine dL _ rfl (fun hv => ex_load rfl rfl (run_load1 rtna32 (hv.load 3 3 rfl rfl))) (dG (.pointer (some ⟨rb1, ro1 + 0 * 4, none⟩)) rfl (ex_index rfl rfl rfl (run_idx (k := 0) Tryz.underlying32 k0es32 (by omega))) ?_)
 refine dG (.pointer (some ⟨rb1, ro1 + 0 * 4 + 1, none⟩)) rfl (ex_field rfl rfl (k0fa34_1 _ _ _)) ?_
 simp only [zP, po]
 refine dL _ rfl (fun hv => ex_load rfl rfl (run_load1 s9na9 (hrd1 _ _ _ (hD23.trans hC2) no_res hv 1 _ rfl))) (dG (.bool true) rfl (ex_seql rfl rfl rfl (qT (by decide))) ?_)
 refine dK true (.bool true) rfl ?_
 simp only [zP, po]
 refine dM (.bool true) rfl (dG (.pointer (some ⟨b17, 3, none⟩)) rfl (ex_field rfl rfl (rtfa34_3 _ _ _)) ?_)
 refine dF _ rfl (fun hv => ex_load rfl rfl (run_load1 rtna32 (hv.load 3 3 rfl rfl))) fun f29 hf29 => ?_
 simp only [zP, po]
 refine dG (.pointer (some ⟨rb1, ro1 + 1 * 4, none⟩)) rfl (ex_index rfl rfl rfl (run_idx (k := 1) Tryz.underlying32 k0es32 (by omega))) (dF (.agg #[vI 5, vS [], vI 0, .slice la1 (([[97], [98]] : List (List UInt8)).length) lc1]) rfl (fun hv => ex_load rfl rfl (run_loadR (cs := [vI 5, vS [], vI 0, .slice la1 (([[97], [98]] : List (List UInt8)).length) lc1]) rswd34 (Reads.mid (pre := []) (mid := [vI 5, vS [], vI 0, .slice la1 (([[97], [98]] : List (List UInt8)).length) lc1]) (post := []) hrl1 _ _ _ (hD23.trans hC2) no_res hv))) fun f30 hf30 => ?_)
 refine dS rfl fun w31 hv => mem_row2 (v1 := vS [97]) (v2 := vS [98]) (e := 9) rfl rfl rfl rfl hv (fun w => by kernel_rfl) (fun b32 w33 hv => ?_)
 refine dV hv (fC (fun ww hv => hf30 ww (ex_load rfl rfl (run_loadR (cs := [vI 5, vS [], vI 0, .slice la1 (([[97], [98]] : List (List UInt8)).length) lc1]) rswd34 (Reads.mid (pre := []) (mid := [vI 5, vS [], vI 0, .slice la1 (([[97], [98]] : List (List UInt8)).length) lc1]) (post := []) hrl1 _ _ _ (hD23.trans hC2) no_res hv)))) (fC (fun ww hv => hf29 ww (ex_load rfl rfl (run_load1 rtna32 (hv.load 4 3 rfl rfl)))) fN)) ?_
 simp only [zP, po]
 refine dS rfl fun w34 hv => ?_
 obtain ⟨D35, hD35, hv, hrD35, hoD35, -⟩ := (hv.cellRow (n := 2) (c := 2) (size := 1) rfl (by decide) (by decide)).rowBy
 refine mC kRcallable26 rfl ((ref20Strs D35 _ _ _ _ [([97] : List UInt8), ([98] : List UInt8)] hrD35 (by decide) hv).mono ?_) rfl
 rintro e w36 ⟨E1, ve1, hE1, rfl, hrq1, hv⟩
 refine ⟨_, rfl, dV hv (fC (fun ww hv => hf30 ww (ex_load rfl rfl (run_loadR (cs := [vI 5, vS [], vI 0, .slice la1 (([[97], [98]] : List (List UInt8)).length) lc1]) rswd34 (Reads.mid (pre := []) (mid := [vI 5, vS [], vI 0, .slice la1 (([[97], [98]] : List (List UInt8)).length) lc1]) (post := []) hrl1 _ _ _ (((hD23.trans hC2).trans hD35).trans hE1) no_res hv)))) (fC (fun ww hv => hf29 ww (ex_load rfl rfl (run_load1 rtna32 (hv.load 3 3 rfl rfl)))) fN)) ?_⟩
 refine dS rfl fun w37 hv => mC k0callable22 rfl (((sameR_strs (B := E1) (l := ([[97], [98]] : List (List UInt8))) (by decide)) _ _ (rpCells 5 [] 0 (.slice la1 ([[97], [98]] : List (List UInt8)).length lc1)) (rpCells 5 [] 0 ve1) (hrs1.more (((hD23.trans hC2).trans hD35).trans hE1)) (hrq1.more (Base.Le.refl _)) hv).mono ?_) rfl
 rintro e w38 ⟨rfl, hv⟩
 refine ⟨_, rfl, dV hv (fK rfl (fK rfl fN)) ?_⟩
 refine dK true (.bool true) rfl ?_
 simp only [zP, po]
 refine dM (.bool true) rfl (dG (.pointer (some ⟨b25, 3, none⟩)) rfl (ex_field rfl rfl (rtfa34_3 _ _ _)) ?_)
 refine dL _ rfl (fun hv => ex_load rfl rfl (run_load1 rtna32 (hv.load 0 3 rfl rfl))) ?_
 simp only [zP, po]
 refine dG (vI 2) rfl (ex_len0 Tryz.underlying32 rfl rfl) (dG (.bool true) rfl (ex_eql rfl rfl rfl (by decide)) ?_)
 refine dK true (.bool true) rfl ?_
 simp only [zP, po]
 refine dM (.bool true) rfl (dG (.pointer (some ⟨b25, 3, none⟩)) rfl (ex_field rfl rfl (rtfa34_3 _ _ _)) ?_)
 refine dL _ rfl (fun hv => ex_load rfl rfl (run_load1 rtna32 (hv.load 0 3 rfl rfl))) ?_
 simp only [zP, po]
 refine dG (.pointer (some ⟨rb2, ro2 + 0 * 4, none⟩)) rfl (ex_index rfl rfl rfl (run_idx (k := 0) Tryz.underlying32 k0es32 (by omega))) (dG (.pointer (some ⟨rb2, ro2 + 0 * 4 + 1, none⟩)) rfl (ex_field rfl rfl (k0fa34_1 _ _ _)) ?_)
 refine dL _ rfl (fun hv => ex_load rfl rfl (run_load1 s9na9 (hrd2 _ _ _ (hD35.trans hE1) no_res hv 1 _ rfl))) ?_
 simp only [zP, po]
 refine dG (.bool true) rfl (ex_seql rfl rfl rfl (qT (by decide))) (dK true (.bool true) rfl ?_)
 refine dM (.bool true) rfl ?_
 simp only [zP, po]
 refine dG (.pointer (some ⟨b25, 3, none⟩)) rfl (ex_field rfl rfl (rtfa34_3 _ _ _)) (dF _ rfl (fun hv => ex_load rfl rfl (run_load1 rtna32 (hv.load 0 3 rfl rfl))) fun f39 hf39 => ?_)
 refine dG (.pointer (some ⟨rb2, ro2 + 1 * 4, none⟩)) rfl (ex_index rfl rfl rfl (run_idx (k := 1) Tryz.underlying32 k0es32 (by omega))) ?_
 simp only [zP, po]
 refine dF (.agg #[vI 5, vS [], vI 0, .slice la2 (([[99]] : List (List UInt8)).length) lc2]) rfl (fun hv => ex_load rfl rfl (run_loadR (cs := [vI 5, vS [], vI 0, .slice la2 (([[99]] : List (List UInt8)).length) lc2]) rswd34 (Reads.mid (pre := []) (mid := [vI 5, vS [], vI 0, .slice la2 (([[99]] : List (List UInt8)).length) lc2]) (post := []) hrl2 _ _ _ (hD35.trans hE1) no_res hv))) fun f40 hf40 => dS rfl fun w41 hv => mem_row1 (v := vS [99]) rfl rfl rfl hv kRel26 rfl (fun b42 w43 hv => ?_)
 refine dV hv (fC (fun ww hv => hf40 ww (ex_load rfl rfl (run_loadR (cs := [vI 5, vS [], vI 0, .slice la2 (([[99]] : List (List UInt8)).length) lc2]) rswd34 (Reads.mid (pre := []) (mid := [vI 5, vS [], vI 0, .slice la2 (([[99]] : List (List UInt8)).length) lc2]) (post := []) hrl2 _ _ _ (hD35.trans hE1) no_res hv)))) (fC (fun ww hv => hf39 ww (ex_load rfl rfl (run_load1 rtna32 (hv.load 1 3 rfl rfl)))) (fK rfl (fK rfl fN)))) (dS rfl fun w44 hv => ?_)
 obtain ⟨D45, hD45, hv, hrD45, hoD45, -⟩ := (hv.cellRow (n := 1) (c := 1) (size := 1) rfl (by decide) (by decide)).rowBy
 refine mC kRcallable26 rfl ((ref20Strs D45 _ _ _ _ [([99] : List UInt8)] hrD45 (by decide) hv).mono ?_) rfl
 rintro e w46 ⟨E2, ve2, hE2, rfl, hrq2, hv⟩
 refine ⟨_, rfl, dV hv (fC (fun ww hv => hf40 ww (ex_load rfl rfl (run_loadR (cs := [vI 5, vS [], vI 0, .slice la2 (([[99]] : List (List UInt8)).length) lc2]) rswd34 (Reads.mid (pre := []) (mid := [vI 5, vS [], vI 0, .slice la2 (([[99]] : List (List UInt8)).length) lc2]) (post := []) hrl2 _ _ _ (((hD35.trans hE1).trans hD45).trans hE2) no_res hv)))) (fC (fun ww hv => hf39 ww (ex_load rfl rfl (run_load1 rtna32 (hv.load 0 3 rfl rfl)))) (fK rfl (fK rfl fN)))) ?_⟩
 simp only [zP, po]
 refine dS rfl fun w47 hv => mC k0callable22 rfl (((sameR_strs (B := E2) (l := ([[99]] : List (List UInt8))) (by decide)) _ _ (rpCells 5 [] 0 (.slice la2 ([[99]] : List (List UInt8)).length lc2)) (rpCells 5 [] 0 ve2) (hrs2.more (((hD35.trans hE1).trans hD45).trans hE2)) (hrq2.more (Base.Le.refl _)) hv).mono ?_) rfl
 rintro e w48 ⟨rfl, hv⟩
 refine ⟨_, rfl, dV hv (fK rfl (fK rfl (fK rfl (fK rfl fN)))) ?_⟩
 refine dK true (.bool true) rfl (dA (.bool true) rfl ?_)
 refine dE fun w49 hv => ?_
 simp only [zP, po]
 refine tK k28 (rR ?_)
 refine bR rfl rfl (⟨rfl, ((hv.kp [] 0 4)).weak ((((((((((hD1.trans hD2).trans hD3).trans hD15).trans hC1).trans hD23).trans hC2).trans hD35).trans hE1).trans hD45).trans hE2)⟩)
theorem mod_in (n : Int) {L : Int} (hL : 0 < L) : ∃ j : Nat, (n.tmod L + L).tmod L = (j : Int) ∧ (j : Int) < L ∧ -L < n.tmod L ∧ n.tmod L < L := by
 have h1 := Int.lt_tmod_of_pos n hL
 have h2 := Int.tmod_lt_of_pos n hL
 have h3 : 0 ≤ (n.tmod L + L).tmod L := Int.tmod_nonneg L (by omega)
 have h4 := Int.tmod_lt_of_pos (n.tmod L + L) hL
 exact ⟨((n.tmod L + L).tmod L).toNat, by omega, by omega, h1, h2⟩
theorem gNames_pos : (0 : Int) < (gNames.length : Int) := by rw [gNames_len]; decide
theorem kVcallable8 : Callable Tryz.prog 8 := cb Tryz.func8 (by kernel_rfl)
theorem kVwd65 : Wide Tryz.prog 65 2 := wide_of (fun w => by kernel_rfl) (by kernel_rfl)
theorem kVcallable23 : Callable Tryz.prog 23 := cb Tryz.func23 (by kernel_rfl)
theorem kVcallable9 : Callable Tryz.prog 9 := cb Tryz.func9 (by kernel_rfl)
theorem kVal28 : AL Tryz.prog 28 [vN, vI 0, vN] := fun w => by kernel_rfl
theorem kVcallable21 : Callable Tryz.prog 21 := cb Tryz.func21 (by kernel_rfl)
theorem kVfa65_0 : FA Tryz.prog 65 0 0 := fun w b o => by kernel_rfl
theorem kVal34 : AL Tryz.prog 34 [vI 0, vS [], vI 0, vN] := fun w => by kernel_rfl
theorem kVcallable24 : Callable Tryz.prog 24 := cb Tryz.func24 (by kernel_rfl)
theorem lawFaultsMain (B : Base) (H : List Res) (w : World) (ad : Option Addr) (n ac : Nat) (hkr : KeysRd B ad n) (cn : Int) (xa : Option Addr) (xc : Nat) (xs : List (List UInt8)) (hokx : SliceOk xa xs.length xc) (hrx : RdV B [] xa (textCells xs)) (hxl : ∀ x ∈ xs, x.length ≤ 9223372036854775807) (clock : Int) (hN : NumB B) (hv : Inv B H w) :
  Calls Tryz.prog 7 #[.slice ad n ac, .agg #[vI cn, .slice xa xs.length xc], vI clock] w fun e w' => e = .returned (.bool true) ∧ Inv B H w' := by
 refine cW Tryz.func7 rfl Tryz.ntmps7 ?_
 simp only [al]
 refine sK fun _ k1 => rL (sl_box (L := [vI cn, .slice xa xs.length xc]) tV (wn rfl) rfl rfl hv (fun w => by kernel_rfl) (fun b2 w3 hv => ?_))
 refine uA rfl (uW k1 ?_)
 refine sK fun _ k4 => sK fun _ k5 => rL (xC kVcallable8 rfl ((gAwake B _ _ (hN.more (Base.Le.refl _)) hv).mono ?_) rfl)
 rintro e w6 ⟨rfl, hv⟩
 refine ⟨_, rfl, uG (.bool false) rfl (ex_not rfl rfl rfl) ?_⟩
 refine uM rfl ?_
 refine uL (.agg #[vI cn, .slice xa xs.length xc]) rfl (lM 0 kVwd65 hv rfl rfl rfl rfl) ?_
 refine xC kVcallable23 rfl ((lawSmall B _ _ cn xa xc xs hrx hv).mono ?_) rfl
 rintro e w8 ⟨bl7, rfl, hbl7, hv⟩
 refine ⟨_, rfl, ?_⟩
 cases bl7
 ·refine uG (.bool true) rfl (ex_not rfl rfl rfl) (uK rfl ?_)
  refine uW k5 (cT rfl ?_)
  refine sK fun _ k9 => rL (xC kVcallable8 rfl ((gAwake B _ _ (hN.more (Base.Le.refl _)) hv).mono ?_) rfl)
  rintro e w10 ⟨rfl, hv⟩
  refine ⟨_, rfl, uA rfl ?_⟩
  refine uW k9 (rR ?_)
  refine tR (bR rfl rfl ?_)
  exact ⟨rfl, ((hv.kp [] 0 1)).weak (Base.Le.refl _)⟩
 refine uG (.bool false) rfl (ex_not rfl rfl rfl) (uK rfl ?_)
 refine uW k5 (cF rfl ?_)
 refine kS (tK k4 ?_)
 refine sK fun _ k11 => rL (uM rfl ?_)
 refine uM rfl ?_
 obtain ⟨hx14, hx42⟩ := hbl7 rfl
 refine xC kVcallable9 rfl ((lawBegun B _ _ ad n ac hkr clock hv).mono ?_) rfl
 rintro e w12 ⟨C, now, v, t, m, s, p, wb, va, vc, sv, es, M, K, wl, ka, wa, kc, wc, ks, hC, h0, h1, hKl, hwl, hM, hO, hRK, hKO, hRV, rfl, hv⟩
 refine ⟨_, rfl, uM rfl ?_⟩
 refine uE rfl (uE rfl ?_)
 refine uE rfl ?_
 refine sl_alloc tV (wn rfl) rfl hv kVal28 (fun b13 w14 hv => ?_)
 refine uA rfl ?_
 refine xS 0 rfl hv v2sz28 rfl (by exact ⟨rfl, rfl, rfl, trivial⟩) (fun w15 hv => ?_)
 simp only [zO, sp] at hv
 refine uA rfl (uW k11 ?_)
 refine sK fun _ k16 => rL (xC kVcallable21 rfl ((gNamesC C _ _ hv).mono ?_) rfl)
 rintro e w17 ⟨D, na, nc, hD, rfl, hrn, hokn, hv⟩
 refine ⟨_, rfl, uA rfl ?_⟩
 refine uW k16 (sK fun _ k18 => ?_)
 refine sK fun _ k19 => rL (uM rfl ?_)
 refine uG (.bool false) rfl (ex_not rfl rfl rfl) (uM rfl ?_)
 refine uM rfl ?_
 refine uG (vI (gNames.length : Int)) rfl (ex_len0 Tryz.underlying26 rfl rfl) ?_
 refine uG (.bool false) rfl (ex_eql rfl rfl rfl (qF (by rw [gNames_len]; decide))) (uK rfl ?_)
 refine uW k19 (cF rfl ?_)
 refine kS (tK k18 ?_)
 refine sK fun _ k20 => ?_
 have hnl := gNames_len
 obtain ⟨j, hj, hjl⟩ := mod_in cn gNames_pos
 obtain ⟨nm, hnm⟩ : ∃ x, gNames[j]? = some x := ⟨_, List.getElem?_eq_getElem (show j < gNames.length by omega)⟩
 obtain ⟨nb, no, had, hrdnm⟩ := text_reads hrn hnm
 subst had
 have hnmem := List.mem_of_getElem? hnm
 refine rT mixed (fun az wz => ∃ (E : Base) (es' : List (List UInt8 × Value)) (M' : List (List UInt8 × Ver)) (r : Rp) (rk : Int) (rs : List UInt8) (rn : Int) (rv : Value) (b27 : Nat), (D.Le E) ∧ (RpAt E r (rpCells rk rs rn rv)) ∧ (VM E es' M') ∧ (CmdR M M' r) ∧ az = { tmps := List.toArray (.slice ad n ac :: .agg #[vI cn, .slice xa xs.length xc] :: vI clock :: undef :: vP b2 :: undef :: .bool false :: vP v :: vP b13 :: .bool true :: .slice (some ⟨nb, no, none⟩) gNames.length nc :: vP b27 :: .bool true :: .bool true :: .bool false :: .bool false :: .agg #[vI cn, .slice xa xs.length xc] :: .bool true :: .bool false :: .bool false :: undef :: .tuple #[vP v, .agg #[.slice ka K.length kc, vI now, .slice wa wl.length wc], .bool true] :: .slice ad n ac :: vI clock :: .tuple #[vP v, .agg #[.slice ka K.length kc, vI now, .slice wa wl.length wc], .bool true] :: vP v :: .agg #[.slice ka K.length kc, vI now, .slice wa wl.length wc] :: .bool true :: .slice (some ⟨nb, no, none⟩) gNames.length nc :: .bool true :: .bool false :: .bool false :: .slice (some ⟨nb, no, none⟩) gNames.length nc :: vI (gNames.length : Int) :: .bool false :: .bool false :: .tuple #[.agg #[vI rk, vS rs, vI rn, rv], .bool true] :: vP v :: .slice (some ⟨nb, no, none⟩) gNames.length nc :: vP b2 :: vI cn :: .slice (some ⟨nb, no, none⟩) gNames.length nc :: vI (gNames.length : Int) :: vI (cn.tmod (gNames.length : Int)) :: .slice (some ⟨nb, no, none⟩) gNames.length nc :: vI (gNames.length : Int) :: vI (cn.tmod (gNames.length : Int) + (gNames.length : Int)) :: .slice (some ⟨nb, no, none⟩) gNames.length nc :: vI (gNames.length : Int) :: vI j :: .pointer (some ⟨nb, no + j, none⟩) :: vS nm :: .pointer (some ⟨b2, 1, none⟩) :: .slice xa xs.length xc :: .tuple #[.agg #[vI rk, vS rs, vI rn, rv], .bool true] :: .agg #[vI rk, vS rs, vI rn, rv] :: .bool true :: undef :: undef :: undef :: undef :: undef :: undef :: undef :: undef :: undef :: undef :: undef :: []), defers := [] } ∧ Inv E (Res.cell b27 [vI rk, vS rs, vI rn, rv] 34 :: Res.cell v [.iface 100 (vP t)] 56 :: txR t m s p wb va vc sv now es' :: Res.cell b13 [.slice ka K.length kc, vI now, .slice wa wl.length wc] 28 :: Res.cell b2 [vI cn, .slice xa xs.length xc] 65 :: H) wz) [17, 21, 22] [0,1,2,3,4,5,6,7,8,9,10,11,12,13,14,15,16] [18,19,20,21,22,23] [17,18,19,20,22,23] 17 21 68 rfl (by kernel_rfl) hv ?_ ?_
 ·intro R2 l1 l2 hR2 hl1 hl2
  simp only [qm, opAt]
  refine tG (vP v) rfl (ex_move rfl rfl) (tG (.slice (some ⟨nb, no, none⟩) gNames.length nc) rfl (ex_move rfl rfl) ?_)
  simp only [zP, po]
  refine tG (vP b2) rfl (ex_field rfl rfl (kVfa65_0 _ _ _)) (tF (vI cn) rfl (fun hv => ex_load rfl rfl (run_load1 s2na3 (hv.load 3 0 rfl rfl))) fun f21 hf21 => ?_)
  simp only [zP, po]
  refine tG (.slice (some ⟨nb, no, none⟩) gNames.length nc) rfl (ex_move rfl rfl) (tG (vI (gNames.length : Int)) rfl (ex_len0 Tryz.underlying26 rfl rfl) ?_)
  simp only [zP, po]
  refine tG (vI (cn.tmod (gNames.length : Int))) rfl (ex_rem (m := cn) (n := (gNames.length : Int)) rfl rfl rfl (by omega) rfl) (tG (.slice (some ⟨nb, no, none⟩) gNames.length nc) rfl (ex_move rfl rfl) ?_)
  simp only [zP, po]
  refine tG (vI (gNames.length : Int)) rfl (ex_len0 Tryz.underlying26 rfl rfl) (tG (vI (cn.tmod (gNames.length : Int) + (gNames.length : Int))) rfl (ex_add (m := (cn.tmod (gNames.length : Int))) (n := (gNames.length : Int)) rfl rfl rfl (i64_in (by omega))) ?_)
  simp only [zP, po]
  refine tG (.slice (some ⟨nb, no, none⟩) gNames.length nc) rfl (ex_move rfl rfl) (tG (vI (gNames.length : Int)) rfl (ex_len0 Tryz.underlying26 rfl rfl) ?_)
  simp only [zP, po]
  refine tG (vI j) rfl (ex_rem (m := (cn.tmod (gNames.length : Int) + (gNames.length : Int))) (n := (gNames.length : Int)) rfl rfl rfl (by omega) hj) (tG (.pointer (some ⟨nb, no + j, none⟩)) rfl (ex_index rfl rfl rfl (run_idx1 (k := j) Tryz.underlying26 s9es26 (by omega))) ?_)
  simp only [zP, po]
  refine tF (vS nm) rfl (fun hv => ex_load rfl rfl (run_load1 s9na9 (hrdnm _ _ _ (Base.Le.refl _) no_res hv 0 _ rfl))) fun f22 hf22 => tG (.pointer (some ⟨b2, 1, none⟩)) rfl (ex_field rfl rfl (kUfa65_1 _ _ _)) ?_
  simp only [zP, po]
  refine tF (.slice xa xs.length xc) rfl (fun hv => ex_load rfl rfl (run_load1 s1na26 (hv.load 3 1 rfl rfl))) fun f23 hf23 => ?_
  simp only [zP, po]
  refine tB ?_ ?_
  ·rw [hl1]; clear hl1 hl2
   simp only [qm, opAt]
   refine dS rfl fun w24 hv => ?_
   replace hv := hv.front 2 rfl
   simp only [eS, eZ] at hv
   replace hv := hv.front 2 rfl
   simp only [eS, eZ] at hv
   refine mC kRcallable10 rfl ((gDo D _ _ v t m s p wb va vc sv now es M (hM.more hD) hO xa xc xs (hrx.more (hC.trans hD) (fun _ h => h)) hokx (by omega) nm hxl (.inl fun x hx => by have := hx42 x hx; omega) (hN.more (hC.trans hD)) hKO.sh (by have := hKO.len; omega) h0 h1 ckSorted hv).mono ?_) rfl
   rintro e w25 ⟨E, es', M', r, cs, ok, hE, rfl, hrp, hM', hcmd, hok, -, -, hv⟩
   obtain ⟨rk, rs, rn, rv, rfl⟩ := rp_parts hrp
   obtain rfl : ok = true := hok.2 hnmem
   refine ⟨_, rfl, dV hv (fK rfl (fK rfl (fK rfl fN))) ?_⟩
   refine dM (.tuple #[.agg #[vI rk, vS rs, vI rn, rv], .bool true]) rfl (dG (.agg #[vI rk, vS rs, vI rn, rv]) rfl (ex_extract rfl rfl rfl) ?_)
   simp only [zP, po]
   refine dG (.bool true) rfl (ex_extract rfl rfl rfl) (dS rfl fun w26 hv => ?_)
   refine mem_alloc rfl rfl hv kVal34 (fun b27 w28 hv => ?_)
   refine dV hv (fC (fun ww hv => hf23 ww (ex_load rfl rfl (run_load1 s1na26 (hv.load 4 1 rfl rfl)))) (fC (fun ww hv => hf22 ww (ex_load rfl rfl (run_load1 s9na9 (hrdnm _ _ _ hE no_res hv 0 _ rfl)))) (fC (fun ww hv => hf21 ww (ex_load rfl rfl (run_load1 s2na3 (hv.load 4 0 rfl rfl)))) fN))) (dS rfl fun w29 hv => ?_)
   refine mS 0 rfl hv rssz34 rfl (by exact ⟨rfl, rfl, rfl, hrp.lv.2, trivial⟩) (fun w30 hv => ?_)
   simp only [zO, sp] at hv
   refine dV hv (fK rfl (fK rfl (fK rfl fN))) ?_
   simp only [zP, po]
   refine dA (.bool true) rfl (dE fun wz hv => ?_)
   simp only [zP, po]
   exact hR2 _ _ ⟨E, es', M', r, rk, rs, rn, rv, b27, hE, hrp, hM', hcmd, rfl, (((((hv.front 4 rfl).front 4 rfl).front 4 rfl).front 4 rfl).front 4 rfl)⟩
  rw [hl2]; clear hl1 hl2
  simp only [qm, opAt]
  refine dS rfl fun w31 hv => mem_alloc rfl rfl hv kVal34 (fun b32 w33 hv => ?_)
  refine dV hv (fC (fun ww hv => hf23 ww (ex_load rfl rfl (run_load1 s1na26 (hv.load 4 1 rfl rfl)))) (fC (fun ww hv => hf22 ww (ex_load rfl rfl (run_load1 s9na9 (hrdnm _ _ _ (Base.Le.refl _) no_res hv 0 _ rfl)))) (fC (fun ww hv => hf21 ww (ex_load rfl rfl (run_load1 s2na3 (hv.load 4 0 rfl rfl)))) fN))) (dS rfl fun w34 hv => ?_)
  replace hv := hv.front 3 rfl
  simp only [eS, eZ] at hv
  replace hv := hv.front 3 rfl
  simp only [eS, eZ] at hv
  refine mC kRcallable10 rfl ((gDo D _ _ v t m s p wb va vc sv now es M (hM.more hD) hO xa xc xs (hrx.more (hC.trans hD) (fun _ h => h)) hokx (by omega) nm hxl (.inl fun x hx => by have := hx42 x hx; omega) (hN.more (hC.trans hD)) hKO.sh (by have := hKO.len; omega) h0 h1 ckSorted hv).mono ?_) rfl
  rintro e w35 ⟨E, es', M', r, cs, ok, hE, rfl, hrp, hM', hcmd, hok, -, -, hv⟩
  obtain ⟨rk, rs, rn, rv, rfl⟩ := rp_parts hrp
  obtain rfl : ok = true := hok.2 hnmem
  refine ⟨_, rfl, dV hv (fK rfl (fK rfl (fK rfl fN))) ?_⟩
  refine dM (.tuple #[.agg #[vI rk, vS rs, vI rn, rv], .bool true]) rfl ?_
  simp only [zP, po]
  refine dG (.agg #[vI rk, vS rs, vI rn, rv]) rfl (ex_extract rfl rfl rfl) (dG (.bool true) rfl (ex_extract rfl rfl rfl) ?_)
  refine dS rfl fun w36 hv => mS 2 rfl hv rssz34 rfl (by exact ⟨rfl, rfl, rfl, hrp.lv.2, trivial⟩) (fun w37 hv => ?_)
  simp only [zS, zO, sp] at hv
  refine dV hv (fK rfl (fK rfl (fK rfl fN))) ?_
  simp only [zP, po]
  refine dA (.bool true) rfl (dE fun wz hv => ?_)
  simp only [zP, po]
  exact hR2 _ _ ⟨E, es', M', r, rk, rs, rn, rv, b32, hE, hrp, hM', hcmd, rfl, (((((hv.front 4 rfl).front 4 rfl).front 3 rfl).front 3 rfl).front 4 rfl)⟩
 rintro _ w38 ⟨E, es', M', r, rk, rs, rn, rv, b27, hE, hrp, hM', hcmd, rfl, hv⟩
 refine tK k20 (sK fun _ k39 => ?_)
 refine rL (uM rfl ?_)
 refine uM rfl ?_
 refine uF (vP b27) rfl (k0fa34_0 _ _ _) ?_
 refine uL _ rfl (run_load1 s2na3 (hv.load 0 0 rfl rfl)) ?_
 by_cases hb40 : rk ≠ 1
 ·refine uG (.bool true) rfl (ex_neq rfl rfl rfl (qT hb40)) ?_
  refine uM rfl ?_
  iterate 3 refine uP rfl ?_
  refine uK rfl (uK rfl ?_)
  refine uA rfl (uW k39 ?_)
  refine rR (bR rfl rfl ?_)
  exact ⟨rfl, ((hv.kp [] 0 5)).weak ((hC.trans hD).trans hE)⟩
 refine uG (.bool false) rfl (ex_neq rfl rfl rfl (qF hb40)) ?_
 refine uM rfl ?_
 refine uM rfl ?_
 refine uL (.agg #[.slice ka K.length kc, vI now, .slice wa wl.length wc]) rfl (lM 3 v2wd28 hv rfl rfl rfl rfl) ?_
 replace hv := hv.front 2 rfl
 simp only [eS, eZ] at hv
 replace hv := hv.front 2 rfl
 simp only [eS, eZ] at hv
 have hMM : M' = M := hcmd.2 ((rp_kind hrp).trans (Classical.not_not.1 hb40))
 refine xC kVcallable24 rfl ((lawSame E _ _ v t m s p wb va vc sv now es' M K wl ka wa kc wc ks (by rw [← hMM]; exact hM'.more (Base.Le.refl _)) hRK hKO (hRV.more (hD.trans hE)) hKl hwl hv).mono ?_) rfl
 rintro e w41 ⟨rfl, hv⟩
 refine ⟨_, rfl, ?_⟩
 refine uK rfl (uK rfl ?_)
 refine uA rfl (uW k39 ?_)
 refine rR (bR rfl rfl ?_)
 exact ⟨rfl, ((hv.kp [] 0 5)).weak ((hC.trans hD).trans hE)⟩
end Go.Proofs.YtngpmolbphinnaaGreatDoor
