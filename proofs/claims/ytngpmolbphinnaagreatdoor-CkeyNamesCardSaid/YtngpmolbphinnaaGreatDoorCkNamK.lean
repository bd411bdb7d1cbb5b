/- ckey: do, of every command, for the laws on names and faults. -/
import Derived.Test.YtngpmolbphinnaaGreatDoorCkNamB
import Derived.Test.YtngpmolbphinnaaGreatDoorCkNamI
import Derived.Test.YtngpmolbphinnaaGreatDoorCkNamJ
import Derived.Test.YtngpmolbphinnaaGreatDoorCkNamE
import Derived.Test.YtngpmolbphinnaaGreatDoorRows
import Derived.Test.YtngpmolbphinnaaGreatDoorCkNamH
import Derived.Sort.Walk0
import Derived.Test.YtngpmolbphinnaaGreatDoorCkNamC
import Derived.Shelf.SlSortCmp.NoneTotal
import Derived.Shelf.SlicesG.Cmp
import Derived.Shelf.Small.Strs
import Derived.Ground.SlsfProg
import Derived.Ground.SlgcProg
import Derived.Ground.NamesProg
import Derived.Lib.Bytealg
import Derived.Sort.KeysCollected
import Derived.Lib.SlicesCompact
set_option maxRecDepth 100000
set_option maxHeartbeats 16000000
set_option synthInstance.maxSize 4096
set_option synthInstance.maxHeartbeats 400000
namespace Go.Proofs.YtngpmolbphinnaaGreatDoor
open Go.RowKit Go.Pm
abbrev nSCAN : List UInt8 := [83, 67, 65, 78]
def DoK (M : List (List UInt8 × Ver)) (clk : Int) (name : List UInt8) (args : List (List UInt8)) (M' : List (List UInt8 × Ver)) (r : Rp) : Prop := name = nSCAN → M' = M ∧ ScanR (namesT M clk) args r
theorem kPal34 : AL Tryz.prog 34 [vI 0, vS [], vI 0, vN] := fun w => by kernel_rfl
theorem kPfa80_1 : FA Tryz.prog 80 1 1 := fun w b o => by kernel_rfl
theorem kPcallable53 : Callable Tryz.prog 53 := cb Tryz.func53 (by kernel_rfl)
theorem kPcallable55 : Callable Tryz.prog 55 := cb Tryz.func55 (by kernel_rfl)
theorem kPal50 : AL Tryz.prog 50 [vI 0, .bool false, vI 0, vI 0, vS [], vN, vN, vN] := fun w => by kernel_rfl
theorem kPcallable57 : Callable Tryz.prog 57 := cb Tryz.func57 (by kernel_rfl)
theorem kPcallable60 : Callable Tryz.prog 60 := cb Tryz.func60 (by kernel_rfl)
theorem kPcallable62 : Callable Tryz.prog 62 := cb Tryz.func62 (by kernel_rfl)
theorem kPcallable63 : Callable Tryz.prog 63 := cb Tryz.func63 (by kernel_rfl)
theorem kPcallable64 : Callable Tryz.prog 64 := cb Tryz.func64 (by kernel_rfl)
theorem kPcallable65 : Callable Tryz.prog 65 := cb Tryz.func65 (by kernel_rfl)
theorem kPcallable66 : Callable Tryz.prog 66 := cb Tryz.func66 (by kernel_rfl)
theorem ckDoAll (B : Base) (H : List Res) (w : World) (v t m s p wb : Nat) (va : Option Addr) (vc : Nat) (sv : Value) (clk : Int) (es : List (List UInt8 × Value)) (M : List (List UInt8 × Ver)) (hM : VM B es M) (hO : OkM M) (aa : Option Addr) (ac : Nat) (args : List (List UInt8)) (hra : RdV B [] aa (textCells args)) (hoka : SliceOk aa args.length ac) (hma : args.length ≤ 1000) (name : List UInt8) (hc1 : name ≠ ([68, 66, 83, 73, 90, 69] : List UInt8) → name ≠ ([70, 76, 85, 83, 72, 65, 76, 76] : List UInt8) → 1 ≤ args.length) (hc2 : name = ([67, 79, 80, 89] : List UInt8) ∨ name = ([69, 88, 80, 73, 82, 69] : List UInt8) ∨ name = ([69, 88, 80, 73, 82, 69, 65, 84] : List UInt8) ∨ name = ([82, 69, 78, 65, 77, 69] : List UInt8) ∨ name = ([82, 69, 78, 65, 77, 69, 78, 88] : List UInt8) → 2 ≤ args.length) (hxl : ∀ x ∈ args, x.length ≤ 9223372036854775807) (hsm : (∀ x ∈ args, x.length ≤ 1000000) ∨ M = []) (hN : NumB B) (hkl : ∀ k ∈ M.map (·.1), k.length ≤ 256) (hMl : M.length ≤ 1000000) (h0c : 0 ≤ clk) (h1c : clk ≤ 1099511627776) (hsrt : ∀ b, SortedOk b) (hv : Inv B (Res.cell v [.iface 100 (vP t)] 56 :: txR t m s p wb va vc sv clk es :: H) w) :
  Calls Tryz.prog 31 #[.agg #[vP v, .slice aa args.length ac], vS name] w fun e w' => ∃ C es' M' r cs, B.Le C ∧ e = .returned (.agg cs.toArray) ∧ RpAt C r cs ∧ VM C es' M' ∧ CmdR M M' r ∧ DoK M clk name args M' r ∧ Inv C (Res.cell v [.iface 100 (vP t)] 56 :: txR t m s p wb va vc sv clk es' :: H) w' := by
 refine cW Tryz.func31 rfl Tryz.ntmps31 ?_
 simp only [al]
 refine sK fun _ k1 => rL (sl_box (L := [vP v, .slice aa args.length ac]) tV (wn rfl) rfl rfl hv (fun w => by kernel_rfl) (fun b2 w3 hv => ?_))
 simp only [zP, po]
 refine sl_alloc tV (wn rfl) rfl hv kPal34 (fun b4 w5 hv => ?_)
 refine uW k1 (sK fun _ k6 => ?_)
 refine rL (uF (.pointer (some ⟨b2, 1, none⟩)) rfl (kPfa80_1 _ _ _) ?_)
 refine uL _ rfl (run_load1 s1na26 (hv.load 1 1 rfl rfl)) (uA rfl ?_)
 refine uW k6 (sK fun _ k7 => ?_)
 refine sK fun _ k8 => rL (uM rfl ?_)
 refine uW k8 (bB ?_)
 refine sK fun _ k9 => rL ?_
 by_cases hb10 : name = ([67, 79, 80, 89] : List UInt8)
 ·refine uG (.bool true) rfl (ex_seql rfl rfl rfl (qT hb10)) (uA rfl ?_)
  refine uW k9 (cT rfl ?_)
  refine sK fun _ k11 => ?_
  have hal2 : 2 ≤ args.length := hc2 (.inl hb10)
  obtain ⟨k, hk⟩ : ∃ k, args[0]? = some k := ⟨_, List.getElem?_eq_getElem (show 0 < args.length by omega)⟩
  obtain ⟨l, hl⟩ : ∃ k, args[1]? = some k := ⟨_, List.getElem?_eq_getElem (show 1 < args.length by omega)⟩
  have hdn : (args.drop 2).length = args.length - 2 := List.length_drop
  obtain ⟨a3, c3, ha3, ok3, hr3⟩ := sliced_fromV 1 hoka hra (textCells_len args) (show 2 ≤ args.length by omega) (by decide)
  rw [Nat.mul_one, tx_drop] at hr3
  rw [← hdn] at ok3
  obtain ⟨ab, ao, had, hrdk⟩ := text_reads hra hk
  obtain ⟨ab9, ao9, had9, hrdl⟩ := text_reads hra hl
  subst had
  cases had9
  refine rW mixed [9, 10] [0,1,2,3,4,5,6,7,8,9,10] 178 rfl (by kernel_rfl) hv ?_
  simp only [qm, opAt]
  refine dL (.agg #[vP v, .slice (some ⟨ab, ao, none⟩) args.length ac]) rfl (fun hv => ex_load rfl rfl (lM 1 k6wd80 hv rfl rfl rfl rfl)) (dM (.slice (some ⟨ab, ao, none⟩) args.length ac) rfl ?_)
  refine dG (.pointer (some ⟨ab, ao + 0, none⟩)) rfl (ex_index rfl rfl rfl (run_idx1 (k := 0) Tryz.underlying26 s9es26 (by omega))) ?_
  simp only [zP, po]
  refine dL _ rfl (fun hv => ex_load rfl rfl (run_load1 s9na9 (hrdk _ _ _ (Base.Le.refl _) no_res hv 0 _ rfl))) (dM (.slice (some ⟨ab, ao, none⟩) args.length ac) rfl ?_)
  refine dG (.pointer (some ⟨ab, ao + 1, none⟩)) rfl (ex_index rfl rfl rfl (run_idx1 (k := 1) Tryz.underlying26 s9es26 (by omega))) ?_
  simp only [zP, po]
  refine dL _ rfl (fun hv => ex_load rfl rfl (run_load1 s9na9 (hrdl _ _ _ (Base.Le.refl _) no_res hv 0 _ rfl))) (dM (.slice (some ⟨ab, ao, none⟩) args.length ac) rfl ?_)
  refine dG (.slice a3 ((args.drop 2).length) c3) rfl (ex_slice (lo' := some (vI ((2 : Nat) : Int))) rfl rfl (congrArg some rfl) rfl rfl ((run_fromAny Tryz.underlying26 s9es26 (by omega)).trans (by rw [ha3, hdn]))) ?_
  simp only [zP, po]
  refine dS rfl fun w12 hv => ?_
  replace hv := hv.front 3 rfl
  simp only [eS, eZ] at hv
  replace hv := hv.front 3 rfl
  simp only [eS, eZ] at hv
  refine mC kPcallable53 rfl ((ckCopy B _ _ v t m s p wb va vc sv clk es M hM (some ⟨ab, ao, none⟩) args.length ac k l a3 c3 (args.drop 2) hr3 (fun x hx => hxl x (List.mem_of_mem_drop hx)) hv).mono ?_) rfl
  rintro e w13 ⟨D, es1, M1, r1, cs, hD, rfl, hrp, hM1, hrel, hv⟩
  have hcmd : CmdR M M1 r1 := hrel.cmd hO
  obtain ⟨rk, rs, rn, rv, rfl⟩ := rp_parts hrp
  refine ⟨_, rfl, dW hv ?_⟩
  refine dS rfl fun w14 hv => mS 2 rfl hv rssz34 rfl (by exact ⟨rfl, rfl, rfl, hrp.lv.2, trivial⟩) (fun w15 hv => ?_)
  simp only [zS, zO, sp] at hv
  refine dW hv (dE fun w16 hv => ?_)
  simp only [zP, po]
  refine tK k11 (rR ?_)
  refine bZ (tR ?_)
  refine bC 2 rswd34 hv rfl rfl rfl rfl (⟨D, es1, M1, r1, _, hD, rfl, hrp, hM1, hcmd, fun h9 => by rw [hb10] at h9; exact absurd h9 (by decide), (hv.kp [1, 1] 2 2)⟩)
 refine uG (.bool false) rfl (ex_seql rfl rfl rfl (qF hb10)) (uA rfl ?_)
 refine uW k9 (cF rfl ?_)
 refine sK fun _ k17 => rL ?_
 by_cases hb18 : name = ([68, 66, 83, 73, 90, 69] : List UInt8)
 ·refine uG (.bool true) rfl (ex_seql rfl rfl rfl (qT hb18)) (uA rfl ?_)
  refine uW k17 (cT rfl ?_)
  refine sK fun _ k19 => rL (uF (vP b2) rfl (k1fa80_0 _ _ _) ?_)
  refine uL _ rfl (run_load1 k1na24 (hv.load 1 0 rfl rfl)) ?_
  refine uG (vP v) rfl (ex_nil rfl rfl) ?_
  refine uF (vP v) rfl (v1fa56_0 _ _ _) ?_
  refine uL _ rfl (run_load1 v1na54 (hv.load 2 0 rfl rfl)) ?_
  replace hv := hv.front 3 rfl
  simp only [eS, eZ] at hv
  refine wpi_callI k1callable216 tV wideC rfl (wn rfl) rfl rfl (r := vP t) (fun w => by kernel_rfl) (args := #[]) (by simp only [List.map_toArray, List.map_nil]) ((txnNamesC B _ _ t m s p wb va vc sv clk es M (hM.more (Base.Le.refl _)) hkl (by omega) hv).mono ?_)
  rintro e w20 ⟨C, na, nc, hC, rfl, hnr, hokn, hv⟩
  refine ⟨_, rfl, ?_⟩
  have hnl := namesT_le M clk
  refine uG (vI (((namesT M clk).length) : Int)) rfl (ex_len0 Tryz.underlying26 rfl rfl) ?_
  refine xC k6callable54 rfl ((respInt C _ _ (((namesT M clk).length) : Int) hv).mono ?_) rfl
  rintro e w21 ⟨rfl, hv⟩
  refine ⟨_, rfl, ?_⟩
  simp only [zP, po]
  refine xS 1 rfl hv rssz34 rfl (by exact ⟨rfl, rfl, rfl, rfl, trivial⟩) (fun w22 hv => ?_)
  simp only [zS, zO, sp] at hv
  refine uW k19 (rR ?_)
  refine bZ (tR ?_)
  refine bC 1 rswd34 hv rfl rfl rfl rfl (⟨C, es, M, (.mk 2 ([] : List UInt8) (((namesT M clk).length) : Int) []), _, hC, rfl, rpAt_leaf, hM.more hC, ⟨hO, fun _ => rfl⟩, fun h9 => by rw [hb18] at h9; exact absurd h9 (by decide), (hv.kp [3] 2 2)⟩)
 refine uG (.bool false) rfl (ex_seql rfl rfl rfl (qF hb18)) (uA rfl ?_)
 refine uW k17 (cF rfl ?_)
 refine sK fun _ k23 => rL ?_
 by_cases hb24 : name = ([68, 69, 76] : List UInt8)
 ·refine uG (.bool true) rfl (ex_seql rfl rfl rfl (qT hb24)) (uA rfl ?_)
  refine uW k23 (cT rfl ?_)
  refine sK fun _ k25 => rL (uL (.agg #[vP v, .slice aa args.length ac]) rfl (lM 1 k6wd80 hv rfl rfl rfl rfl) ?_)
  refine uM rfl ?_
  replace hv := hv.front 3 rfl
  simp only [eS, eZ] at hv
  replace hv := hv.front 3 rfl
  simp only [eS, eZ] at hv
  refine xC kPcallable55 rfl ((ckDrop B _ _ v t m s p wb va vc sv clk es M (hM.more (Base.Le.refl _)) aa args.length ac aa ac args hra (by omega) hv).mono ?_) rfl
  rintro e w26 ⟨D, es1, M1, e1, hD, rfl, hM1, hdl, hv⟩
  refine ⟨_, rfl, uM rfl ?_⟩
  refine uE rfl (uE rfl ?_)
  refine uA rfl (uA rfl ?_)
  refine uW k25 (sK fun _ k27 => ?_)
  refine rL (uM rfl ?_)
  refine uM rfl ?_
  refine xC k6callable54 rfl ((respInt D _ _ ((dropK M clk args).length : Int) hv).mono ?_) rfl
  rintro e w28 ⟨rfl, hv⟩
  refine ⟨_, rfl, ?_⟩
  simp only [zP, po]
  refine xC k6callable56 rfl ((viewDone D _ _ e1 2 ((dropK M clk args).length : Int) ([] : List UInt8) (vN) rfl rfl hv).mono ?_) rfl
  rintro e w29 ⟨xr, hxr, rfl, hv⟩
  refine ⟨_, rfl, ?_⟩
  rcases hxr with ⟨hec0, rfl⟩ | ⟨hec0, s30, rfl⟩
  ·simp only [zP, po]
   refine xS 2 rfl hv rssz34 rfl (by exact ⟨rfl, rfl, rfl, rfl, trivial⟩) (fun w31 hv => ?_)
   simp only [zS, zO, sp] at hv
   refine uW k27 (rR ?_)
   refine bZ (tR ?_)
   refine bC 2 rswd34 hv rfl rfl rfl rfl (⟨D, es1, M1, (.mk 2 ([] : List UInt8) ((dropK M clk args).length : Int) []), _, hD, rfl, rpAt_leaf, hM1.more (Base.Le.refl _), drop_cmd hO hdl (r0 := rInt ((dropK M clk args).length : Int)) (.inl ⟨by omega, rfl⟩) isF_int, fun h9 => by rw [hb24] at h9; exact absurd h9 (by decide), (hv.kp [1, 1] 2 2)⟩)
  simp only [zP, po]
  refine xS 2 rfl hv rssz34 rfl (by exact ⟨rfl, rfl, rfl, rfl, trivial⟩) (fun w32 hv => ?_)
  simp only [zS, zO, sp] at hv
  refine uW k27 (rR ?_)
  refine bZ (tR ?_)
  refine bC 2 rswd34 hv rfl rfl rfl rfl (⟨D, es1, M1, (.mk 1 s30 0 []), _, hD, rfl, rpAt_leaf, hM1.more (Base.Le.refl _), drop_cmd hO hdl (r0 := rInt ((dropK M clk args).length : Int)) (.inr ⟨by omega, rfl⟩) isF_int, fun h9 => by rw [hb24] at h9; exact absurd h9 (by decide), (hv.kp [1, 1] 2 2)⟩)
 refine uG (.bool false) rfl (ex_seql rfl rfl rfl (qF hb24)) (uA rfl ?_)
 refine uW k23 (cF rfl ?_)
 refine sK fun _ k33 => rL ?_
 by_cases hb34 : name = ([69, 88, 73, 83, 84, 83] : List UInt8)
 ·refine uG (.bool true) rfl (ex_seql rfl rfl rfl (qT hb34)) (uA rfl ?_)
  refine uW k33 (cT rfl ?_)
  refine sK fun _ k35 => rL (uA rfl ?_)
  refine uW k35 (sK fun _ k36 => ?_)
  refine sK fun _ k37 => rL (uM rfl ?_)
  refine uG (vI (args.length : Int)) rfl (ex_len0 Tryz.underlying26 rfl rfl) (uM rfl ?_)
  refine uW k37 (bB ?_)
  gi_loopw [8, 58] (fun x8 x58 wr => ∃ (i n1 : Nat) (D : Base), x8 = vI n1 ∧ x58 = vI i ∧ i ≤ args.length ∧ n1 ≤ i ∧ B.Le D ∧ Inv D (Res.cell b4 [vI 0, vS [], vI 0, vN] 34 :: Res.cell b2 [vP v, .slice aa args.length ac] 80 :: Res.cell v [.iface 100 (vP t)] 56 :: txR t m s p wb va vc sv clk es :: H) wr) (fun x8 x58 _ => args.length - (intOf x58).toNat)
  case atStart => exact ⟨0, 0, B, rfl, rfl, Nat.zero_le _, Nat.zero_le _, Base.Le.refl _, hv⟩
  case round =>
   obtain ⟨i, n1, D, rfl, rfl, hi, hn1, hBD, hv⟩ := hrel
   refine sK fun _ k39 => rL ?_
   by_cases hb40 : (i : Int) < (args.length : Int)
   ·refine uG (.bool true) rfl (ex_lss rfl rfl rfl (qT hb40)) (uW k39 ?_)
    refine sK fun _ k41 => cT rfl (kS ?_)
    refine tK k41 (sK fun _ k42 => ?_)
    refine bB (sK fun _ k43 => ?_)
    obtain ⟨x, hx⟩ : ∃ x, args[i]? = some x := ⟨_, List.getElem?_eq_getElem (show i < args.length by omega)⟩
    obtain ⟨ab, ao, had, hrdx⟩ := text_reads hra hx
    subst had
    refine rL (uG (.pointer (some ⟨ab, ao + i, none⟩)) rfl (ex_index rfl rfl rfl (run_idx1 (k := i) Tryz.underlying26 s9es26 (by omega))) ?_)
    refine uL _ rfl (run_load1 s9na9 (hrdx _ _ _ hBD no_res hv 0 _ rfl)) (uA rfl ?_)
    refine uW k43 (sK fun _ k44 => ?_)
    refine rL (uF (vP b2) rfl (k1fa80_0 _ _ _) ?_)
    refine uL _ rfl (run_load1 k1na24 (hv.load 1 0 rfl rfl)) ?_
    refine uG (vP v) rfl (ex_nil rfl rfl) ?_
    refine uF (vP v) rfl (v1fa56_0 _ _ _) ?_
    refine uL _ rfl (run_load1 v1na54 (hv.load 2 0 rfl rfl)) (uM rfl ?_)
    replace hv := hv.front 3 rfl
    simp only [eS, eZ] at hv
    refine wpi_callI v1callable215 tV wideC rfl (wn rfl) rfl rfl (r := vP t) (fun w => by kernel_rfl) (args := #[vS x]) (by simp only [List.map_toArray, List.map_cons, List.map_nil]; rfl) ((txnGet D _ _ t m s p wb va vc sv clk es M x (hM.more hBD) hv).mono ?_)
    rintro e w45 ⟨G, y, yp, yt, yz, oky, hG, rfl, hgot, hyv, hv⟩
    refine ⟨_, rfl, ?_⟩
    rcases got_of hgot with ⟨rfl, hg⟩ | ⟨rfl, rfl, hg⟩
    ·refine uM rfl (uE rfl ?_)
     refine uE rfl ?_
     refine sl_alloc tV (wn rfl) rfl hv kPal50 (fun b46 w47 hv => ?_)
     simp only [zP, po]
     refine xS 0 rfl hv x0sz50 rfl (by exact ⟨rfl, rfl, rfl, rfl, rfl, hyv.p.one, hyv.t.one, hyv.z.one, trivial⟩) (fun w48 hv => ?_)
     simp only [zO, sp] at hv
     refine uA rfl (uW k44 ?_)
     refine sK fun _ k49 => rL (uM rfl ?_)
     refine uW k49 (cT rfl ?_)
     refine rL (uM rfl ?_)
     refine uG (vI ((n1 + 1 : Nat) : Int)) rfl (ex_add rfl rfl rfl (by rw [i64_in (by omega)]; omega)) (uA rfl ?_)
     refine uZ (bN ?_)
     refine tK k42 (rL ?_)
     refine uG (vI ((i + 1 : Nat) : Int)) rfl (ex_add rfl rfl rfl (by rw [i64_in (by omega)]; omega)) (uM rfl ?_)
     refine uZ (then_normal ?_)
     simp only [vP, vI, vS, vN]
     go_roundw
     case rel => exact ⟨i + 1, n1 + 1, G, rfl, rfl, by omega, by omega, (hBD.trans hG), (hv.kp [1, 4, 4, 4] 4 1)⟩
     case measure => show args.length - (((i + 1 : Nat) : Int)).toNat < args.length - ((i : Int)).toNat; omega
    refine uM rfl (uE rfl ?_)
    refine uE rfl ?_
    refine sl_alloc tV (wn rfl) rfl hv kPal50 (fun b50 w51 hv => ?_)
    simp only [zP, po]
    refine xS 0 rfl hv x0sz50 rfl (by exact ⟨rfl, rfl, rfl, rfl, rfl, hyv.p.one, hyv.t.one, hyv.z.one, trivial⟩) (fun w52 hv => ?_)
    simp only [zO, sp] at hv
    refine uA rfl (uW k44 ?_)
    refine sK fun _ k53 => rL (uM rfl ?_)
    refine uW k53 (cF rfl ?_)
    refine kS (bN ?_)
    refine tK k42 (rL ?_)
    refine uG (vI ((i + 1 : Nat) : Int)) rfl (ex_add rfl rfl rfl (by rw [i64_in (by omega)]; omega)) (uM rfl ?_)
    refine uZ (then_normal ?_)
    simp only [vP, vI, vS, vN]
    go_roundw
    case rel => exact ⟨i + 1, n1, G, rfl, rfl, by omega, by omega, (hBD.trans hG), (hv.kp [1, 4, 4, 4] 4 1)⟩
    case measure => show args.length - (((i + 1 : Nat) : Int)).toNat < args.length - ((i : Int)).toNat; omega
   refine uG (.bool false) rfl (ex_lss rfl rfl rfl (qF hb40)) (uW k39 ?_)
   refine sK fun _ k54 => cF rfl (xE ?_)
   refine tX (tX ?_)
   refine bH (tK k36 ?_)
   refine sK fun _ k55 => rL (uM rfl ?_)
   refine xC k6callable54 rfl ((respInt D _ _ (n1 : Int) hv).mono ?_) rfl
   rintro e w56 ⟨rfl, hv⟩
   refine ⟨_, rfl, ?_⟩
   simp only [zP, po]
   refine xS 0 rfl hv rssz34 rfl (by exact ⟨rfl, rfl, rfl, rfl, trivial⟩) (fun w57 hv => ?_)
   simp only [zO, sp] at hv
   refine uW k55 (rR ?_)
   refine bZ (tR ?_)
   refine bC 0 rswd34 hv rfl rfl rfl rfl (⟨D, es, M, (.mk 2 ([] : List UInt8) (n1 : Int) []), _, hBD, rfl, rpAt_leaf, hM.more hBD, ⟨hO, fun _ => rfl⟩, fun h9 => by rw [hb34] at h9; exact absurd h9 (by decide), (hv.kp [3, 3] 2 2)⟩)
 refine uG (.bool false) rfl (ex_seql rfl rfl rfl (qF hb34)) (uA rfl ?_)
 refine uW k33 (cF rfl ?_)
 refine sK fun _ k58 => sK fun _ k59 => rL ?_
 by_cases hb60 : name = ([69, 88, 80, 73, 82, 69] : List UInt8)
 ·refine uG (.bool true) rfl (ex_seql rfl rfl rfl (qT hb60)) (uA rfl ?_)
  refine uW k59 (cT rfl ?_)
  refine kS (tK k58 ?_)
  refine cT rfl (sK fun _ k61 => ?_)
  have hal2 : 2 ≤ args.length := hc2 (.inr (.inl hb60))
  obtain ⟨k, hk⟩ : ∃ k, args[0]? = some k := ⟨_, List.getElem?_eq_getElem (show 0 < args.length by omega)⟩
  obtain ⟨l, hl⟩ : ∃ k, args[1]? = some k := ⟨_, List.getElem?_eq_getElem (show 1 < args.length by omega)⟩
  have hdn : (args.drop 2).length = args.length - 2 := List.length_drop
  obtain ⟨a3, c3, ha3, ok3, hr3⟩ := sliced_fromV 1 hoka hra (textCells_len args) (show 2 ≤ args.length by omega) (by decide)
  rw [Nat.mul_one, tx_drop] at hr3
  rw [← hdn] at ok3
  obtain ⟨ab, ao, had, hrdk⟩ := text_reads hra hk
  obtain ⟨ab9, ao9, had9, hrdl⟩ := text_reads hra hl
  subst had
  cases had9
  refine rW mixed [11, 12] [0,1,2,3,4,5,6,7,8,9,10,11,12] 178 rfl (by kernel_rfl) hv ?_
  simp only [qm, opAt]
  refine dL (.agg #[vP v, .slice (some ⟨ab, ao, none⟩) args.length ac]) rfl (fun hv => ex_load rfl rfl (lM 1 k6wd80 hv rfl rfl rfl rfl)) (dM (vS name) rfl ?_)
  refine dG (.bool true) rfl (ex_seql rfl rfl rfl (qT hb60)) ?_
  simp only [zP, po]
  refine dM (.slice (some ⟨ab, ao, none⟩) args.length ac) rfl (dG (.pointer (some ⟨ab, ao + 0, none⟩)) rfl (ex_index rfl rfl rfl (run_idx1 (k := 0) Tryz.underlying26 s9es26 (by omega))) ?_)
  refine dL _ rfl (fun hv => ex_load rfl rfl (run_load1 s9na9 (hrdk _ _ _ (Base.Le.refl _) no_res hv 0 _ rfl))) ?_
  simp only [zP, po]
  refine dM (.slice (some ⟨ab, ao, none⟩) args.length ac) rfl (dG (.pointer (some ⟨ab, ao + 1, none⟩)) rfl (ex_index rfl rfl rfl (run_idx1 (k := 1) Tryz.underlying26 s9es26 (by omega))) ?_)
  refine dL _ rfl (fun hv => ex_load rfl rfl (run_load1 s9na9 (hrdl _ _ _ (Base.Le.refl _) no_res hv 0 _ rfl))) ?_
  simp only [zP, po]
  refine dM (.slice (some ⟨ab, ao, none⟩) args.length ac) rfl (dG (.slice a3 ((args.drop 2).length) c3) rfl (ex_slice (lo' := some (vI ((2 : Nat) : Int))) rfl rfl (congrArg some rfl) rfl rfl ((run_fromAny Tryz.underlying26 s9es26 (by omega)).trans (by rw [ha3, hdn]))) ?_)
  refine dS rfl fun w62 hv => ?_
  replace hv := hv.front 3 rfl
  simp only [eS, eZ] at hv
  replace hv := hv.front 3 rfl
  simp only [eS, eZ] at hv
  refine mC kPcallable57 rfl ((ckExpire B _ _ v t m s p wb va vc sv clk es M hM hO (some ⟨ab, ao, none⟩) args.length ac true k l a3 c3 (args.drop 2) hr3 (by omega) (fun x hx => hxl x (List.mem_of_mem_drop hx)) hN h0c h1c hv).mono ?_) rfl
  rintro e w63 ⟨D, es1, M1, r1, cs, hD, rfl, hrp, hM1, hrel, hv⟩
  have hcmd : CmdR M M1 r1 := hrel
  obtain ⟨rk, rs, rn, rv, rfl⟩ := rp_parts hrp
  refine ⟨_, rfl, dW hv ?_⟩
  simp only [zP, po]
  refine dS rfl fun w64 hv => mS 2 rfl hv rssz34 rfl (by exact ⟨rfl, rfl, rfl, hrp.lv.2, trivial⟩) (fun w65 hv => ?_)
  simp only [zS, zO, sp] at hv
  refine dW hv (dE fun w66 hv => ?_)
  simp only [zP, po]
  refine tK k61 (rR ?_)
  refine bZ (tR ?_)
  refine bC 2 rswd34 hv rfl rfl rfl rfl (⟨D, es1, M1, r1, _, hD, rfl, hrp, hM1, hcmd, fun h9 => by rw [hb60] at h9; exact absurd h9 (by decide), (hv.kp [1, 1] 2 2)⟩)
 refine uG (.bool false) rfl (ex_seql rfl rfl rfl (qF hb60)) (uA rfl ?_)
 refine uW k59 (cF rfl ?_)
 refine rL ?_
 by_cases hb67 : name = ([69, 88, 80, 73, 82, 69, 65, 84] : List UInt8)
 ·refine uG (.bool true) rfl (ex_seql rfl rfl rfl (qT hb67)) (uA rfl ?_)
  refine uW k58 (cT rfl ?_)
  refine sK fun _ k68 => ?_
  have hal2 : 2 ≤ args.length := hc2 (.inr (.inr (.inl hb67)))
  obtain ⟨k, hk⟩ : ∃ k, args[0]? = some k := ⟨_, List.getElem?_eq_getElem (show 0 < args.length by omega)⟩
  obtain ⟨l, hl⟩ : ∃ k, args[1]? = some k := ⟨_, List.getElem?_eq_getElem (show 1 < args.length by omega)⟩
  have hdn : (args.drop 2).length = args.length - 2 := List.length_drop
  obtain ⟨a3, c3, ha3, ok3, hr3⟩ := sliced_fromV 1 hoka hra (textCells_len args) (show 2 ≤ args.length by omega) (by decide)
  rw [Nat.mul_one, tx_drop] at hr3
  rw [← hdn] at ok3
  obtain ⟨ab, ao, had, hrdk⟩ := text_reads hra hk
  obtain ⟨ab9, ao9, had9, hrdl⟩ := text_reads hra hl
  subst had
  cases had9
  refine rW mixed [11, 12] [0,1,2,3,4,5,6,7,8,9,10,11,12] 178 rfl (by kernel_rfl) hv ?_
  simp only [qm, opAt]
  refine dL (.agg #[vP v, .slice (some ⟨ab, ao, none⟩) args.length ac]) rfl (fun hv => ex_load rfl rfl (lM 1 k6wd80 hv rfl rfl rfl rfl)) (dM (vS name) rfl ?_)
  refine dG (.bool false) rfl (ex_seql rfl rfl rfl (qF hb60)) ?_
  simp only [zP, po]
  refine dM (.slice (some ⟨ab, ao, none⟩) args.length ac) rfl (dG (.pointer (some ⟨ab, ao + 0, none⟩)) rfl (ex_index rfl rfl rfl (run_idx1 (k := 0) Tryz.underlying26 s9es26 (by omega))) ?_)
  refine dL _ rfl (fun hv => ex_load rfl rfl (run_load1 s9na9 (hrdk _ _ _ (Base.Le.refl _) no_res hv 0 _ rfl))) ?_
  simp only [zP, po]
  refine dM (.slice (some ⟨ab, ao, none⟩) args.length ac) rfl (dG (.pointer (some ⟨ab, ao + 1, none⟩)) rfl (ex_index rfl rfl rfl (run_idx1 (k := 1) Tryz.underlying26 s9es26 (by omega))) ?_)
  refine dL _ rfl (fun hv => ex_load rfl rfl (run_load1 s9na9 (hrdl _ _ _ (Base.Le.refl _) no_res hv 0 _ rfl))) ?_
  simp only [zP, po]
  refine dM (.slice (some ⟨ab, ao, none⟩) args.length ac) rfl (dG (.slice a3 ((args.drop 2).length) c3) rfl (ex_slice (lo' := some (vI ((2 : Nat) : Int))) rfl rfl (congrArg some rfl) rfl rfl ((run_fromAny Tryz.underlying26 s9es26 (by omega)).trans (by rw [ha3, hdn]))) ?_)
  refine dS rfl fun w69 hv => ?_
  replace hv := hv.front 3 rfl
  simp only [eS, eZ] at hv
  replace hv := hv.front 3 rfl
  simp only [eS, eZ] at hv
  refine mC kPcallable57 rfl ((ckExpire B _ _ v t m s p wb va vc sv clk es M hM hO (some ⟨ab, ao, none⟩) args.length ac false k l a3 c3 (args.drop 2) hr3 (by omega) (fun x hx => hxl x (List.mem_of_mem_drop hx)) hN h0c h1c hv).mono ?_) rfl
  rintro e w70 ⟨D, es1, M1, r1, cs, hD, rfl, hrp, hM1, hrel, hv⟩
  have hcmd : CmdR M M1 r1 := hrel
  obtain ⟨rk, rs, rn, rv, rfl⟩ := rp_parts hrp
  refine ⟨_, rfl, dW hv ?_⟩
  simp only [zP, po]
  refine dS rfl fun w71 hv => mS 2 rfl hv rssz34 rfl (by exact ⟨rfl, rfl, rfl, hrp.lv.2, trivial⟩) (fun w72 hv => ?_)
  simp only [zS, zO, sp] at hv
  refine dW hv (dE fun w73 hv => ?_)
  simp only [zP, po]
  refine tK k68 (rR ?_)
  refine bZ (tR ?_)
  refine bC 2 rswd34 hv rfl rfl rfl rfl (⟨D, es1, M1, r1, _, hD, rfl, hrp, hM1, hcmd, fun h9 => by rw [hb67] at h9; exact absurd h9 (by decide), (hv.kp [1, 1] 2 2)⟩)
 refine uG (.bool false) rfl (ex_seql rfl rfl rfl (qF hb67)) (uA rfl ?_)
 refine uW k58 (cF rfl ?_)
 refine sK fun _ k74 => rL ?_
 by_cases hb75 : name = ([70, 76, 85, 83, 72, 65, 76, 76] : List UInt8)
 ·refine uG (.bool true) rfl (ex_seql rfl rfl rfl (qT hb75)) (uA rfl ?_)
  refine uW k74 (cT rfl ?_)
  refine sK fun _ k76 => rW mixed [6, 7] [0,1,2,3,4,5,6,7,8,9,10,11,12] 178 rfl (by kernel_rfl) hv ?_
  simp only [qm, opAt]
  refine dF (.agg #[vP v, .slice aa args.length ac]) rfl (fun hv => ex_load rfl rfl (lM 1 k6wd80 hv rfl rfl rfl rfl)) fun f77 hf77 => dG (vP b2) rfl (ex_field rfl rfl (k1fa80_0 _ _ _)) (dL _ rfl (fun hv => ex_load rfl rfl (run_load1 k1na24 (hv.load 1 0 rfl rfl))) ?_)
  simp only [zP, po]
  refine dG (vP v) rfl (ex_nil rfl rfl) (dG (vP v) rfl (ex_field rfl rfl (v1fa56_0 _ _ _)) ?_)
  refine dL _ rfl (fun hv => ex_load rfl rfl (run_load1 v1na54 (hv.load 2 0 rfl rfl))) ?_
  simp only [zP, po]
  refine dS rfl fun w78 hv => ?_
  replace hv := hv.front 3 rfl
  simp only [eS, eZ] at hv
  refine stepMem_callI k1callable216 rfl rfl rfl (r := vP t) (fun w => by kernel_rfl) (args := #[]) (by simp only [List.map_toArray, List.map_nil]) ((txnNamesC B _ _ t m s p wb va vc sv clk es M (hM.more (Base.Le.refl _)) hkl (by omega) hv).mono ?_)
  rintro e w79 ⟨C, na, nc, hC, rfl, hnr, hokn, hv⟩
  have hnl := namesT_le M clk
  refine ⟨_, rfl, dV hv (fC (fun ww hv => hf77 ww ?_) fN) ?_⟩
  ·exact ex_load rfl rfl (lM 2 k6wd80 hv rfl rfl rfl rfl)
  refine dS rfl fun w80 hv => ?_
  replace hv := hv.front 3 rfl
  simp only [eS, eZ] at hv
  refine mC kPcallable55 rfl ((ckDrop C _ _ v t m s p wb va vc sv clk es M (hM.more hC) aa args.length ac na nc (namesT M clk) hnr (by omega) hv).mono ?_) rfl
  rintro e w81 ⟨D, es1, M1, e1, hD, rfl, hM1, hdl, hv⟩
  refine ⟨_, rfl, dV hv (fK rfl fN) ?_⟩
  refine dM (.tuple #[vI ((dropK M clk (namesT M clk)).length : Int), vI e1]) rfl ?_
  simp only [zP, po]
  refine dG (vI ((dropK M clk (namesT M clk)).length : Int)) rfl (ex_extract rfl rfl rfl) (dG (vI e1) rfl (ex_extract rfl rfl rfl) ?_)
  refine dA (vI ((dropK M clk (namesT M clk)).length : Int)) rfl ?_
  simp only [zP, po]
  refine dA (vI e1) rfl (dE fun w82 hv => ?_)
  simp only [zP, po]
  refine tK k76 (sK fun _ k83 => ?_)
  refine rL (uM rfl ?_)
  refine xC k6callable58 rfl ((respText D _ _ ([79, 75] : List UInt8) hv).mono ?_) rfl
  rintro e w84 ⟨rfl, hv⟩
  refine ⟨_, rfl, ?_⟩
  simp only [zP, po]
  refine xC k6callable56 rfl ((viewDone D _ _ e1 0 0 ([79, 75] : List UInt8) (vN) rfl rfl hv).mono ?_) rfl
  rintro e w85 ⟨xr, hxr, rfl, hv⟩
  refine ⟨_, rfl, ?_⟩
  rcases hxr with ⟨hec0, rfl⟩ | ⟨hec0, s86, rfl⟩
  ·simp only [zP, po]
   refine xS 2 rfl hv rssz34 rfl (by exact ⟨rfl, rfl, rfl, rfl, trivial⟩) (fun w87 hv => ?_)
   simp only [zS, zO, sp] at hv
   refine uW k83 (rR ?_)
   refine bZ (tR ?_)
   refine bC 2 rswd34 hv rfl rfl rfl rfl (⟨D, es1, M1, (.mk 0 ([79, 75] : List UInt8) 0 []), _, (hC.trans hD), rfl, rpAt_leaf, hM1.more (Base.Le.refl _), drop_cmd hO hdl (r0 := rText [79, 75]) (.inl ⟨by omega, rfl⟩) isF_text, fun h9 => by rw [hb75] at h9; exact absurd h9 (by decide), (hv.kp [1, 1] 2 2)⟩)
  simp only [zP, po]
  refine xS 2 rfl hv rssz34 rfl (by exact ⟨rfl, rfl, rfl, rfl, trivial⟩) (fun w88 hv => ?_)
  simp only [zS, zO, sp] at hv
  refine uW k83 (rR ?_)
  refine bZ (tR ?_)
  refine bC 2 rswd34 hv rfl rfl rfl rfl (⟨D, es1, M1, (.mk 1 s86 0 []), _, (hC.trans hD), rfl, rpAt_leaf, hM1.more (Base.Le.refl _), drop_cmd hO hdl (r0 := rText [79, 75]) (.inr ⟨by omega, rfl⟩) isF_text, fun h9 => by rw [hb75] at h9; exact absurd h9 (by decide), (hv.kp [1, 1] 2 2)⟩)
 refine uG (.bool false) rfl (ex_seql rfl rfl rfl (qF hb75)) (uA rfl ?_)
 refine uW k74 (cF rfl ?_)
 refine sK fun _ k89 => rL ?_
 by_cases hb90 : name = ([75, 69, 89, 83] : List UInt8)
 ·refine uG (.bool true) rfl (ex_seql rfl rfl rfl (qT hb90)) (uA rfl ?_)
  refine uW k89 (cT rfl ?_)
  refine sK fun _ k91 => ?_
  have hal1 : 1 ≤ args.length := hc1 (fun h9 => by rw [hb90] at h9; exact absurd h9 (by decide)) (fun h9 => by rw [hb90] at h9; exact absurd h9 (by decide))
  obtain ⟨k, hk⟩ : ∃ k, args[0]? = some k := ⟨_, List.getElem?_eq_getElem (show 0 < args.length by omega)⟩
  obtain ⟨ab, ao, had, hrdk⟩ := text_reads hra hk
  subst had
  refine rW mixed [4, 5, 6] [0,1,2,3,4,5,6] 178 rfl (by kernel_rfl) hv ?_
  simp only [qm, opAt]
  refine dL (.agg #[vP v, .slice (some ⟨ab, ao, none⟩) args.length ac]) rfl (fun hv => ex_load rfl rfl (lM 1 k6wd80 hv rfl rfl rfl rfl)) (dM (.slice (some ⟨ab, ao, none⟩) args.length ac) rfl ?_)
  refine dG (.pointer (some ⟨ab, ao + 0, none⟩)) rfl (ex_index rfl rfl rfl (run_idx1 (k := 0) Tryz.underlying26 s9es26 (by omega))) ?_
  simp only [zP, po]
  refine dL _ rfl (fun hv => ex_load rfl rfl (run_load1 s9na9 (hrdk _ _ _ (Base.Le.refl _) no_res hv 0 _ rfl))) (dS rfl fun w92 hv => ?_)
  replace hv := hv.front 3 rfl
  simp only [eS, eZ] at hv
  replace hv := hv.front 3 rfl
  simp only [eS, eZ] at hv
  refine mC kPcallable60 rfl ((ckMatching B _ _ v t m s p wb va vc sv clk es M hM (some ⟨ab, ao, none⟩) args.length ac k hkl hMl (hsm.imp (fun h9 => h9 k (List.mem_of_getElem? hk)) id) hv).mono ?_) rfl
  rintro e w93 ⟨D, fa, fc, ft, hD, rfl, hfl, hokf, hrf, hv⟩
  refine ⟨_, rfl, dW hv ?_⟩
  refine dS rfl fun w94 hv => mC k1callable59 rfl ((respStrsR D _ _ fa fc ft (hrf.more (Base.Le.refl _) (fun _ h => h)) (hfl) hv).mono ?_) rfl
  rintro e w99 ⟨D95, da96, dc97, hD95, rfl, hrp98o, hrp98, hv⟩
  refine ⟨_, rfl, dW hv ?_⟩
  simp only [zP, po]
  refine dS rfl fun w100 hv => mS 2 rfl hv rssz34 rfl (by exact ⟨rfl, rfl, rfl, rfl, trivial⟩) (fun w101 hv => ?_)
  simp only [zS, zO, sp] at hv
  refine dW hv (dE fun w102 hv => ?_)
  simp only [zP, po]
  refine tK k91 (rR ?_)
  refine bZ (tR ?_)
  refine bC 2 rswd34 hv rfl rfl rfl rfl (⟨D95, es, M, (rStrs ft), _, (hD.trans hD95), rfl, (rpAt_strs hrp98o (hrp98.more (Base.Le.refl _) (fun _ h => h))), hM.more (hD.trans hD95), ⟨hO, fun _ => rfl⟩, fun h9 => by rw [hb90] at h9; exact absurd h9 (by decide), (hv.kp [1, 1] 2 2)⟩)
 refine uG (.bool false) rfl (ex_seql rfl rfl rfl (qF hb90)) (uA rfl ?_)
 refine uW k89 (cF rfl ?_)
 refine sK fun _ k103 => rL ?_
 by_cases hb104 : name = ([82, 69, 78, 65, 77, 69] : List UInt8)
 ·refine uG (.bool true) rfl (ex_seql rfl rfl rfl (qT hb104)) (uA rfl ?_)
  refine uW k103 (cT rfl ?_)
  refine sK fun _ k105 => ?_
  have hal2 : 2 ≤ args.length := hc2 (.inr (.inr (.inr (.inl hb104))))
  obtain ⟨k, hk⟩ : ∃ k, args[0]? = some k := ⟨_, List.getElem?_eq_getElem (show 0 < args.length by omega)⟩
  obtain ⟨l, hl⟩ : ∃ k, args[1]? = some k := ⟨_, List.getElem?_eq_getElem (show 1 < args.length by omega)⟩
  obtain ⟨ab, ao, had, hrdk⟩ := text_reads hra hk
  obtain ⟨ab9, ao9, had9, hrdl⟩ := text_reads hra hl
  subst had
  cases had9
  refine rW mixed [7, 8] [0,1,2,3,4,5,6,7,8] 178 rfl (by kernel_rfl) hv ?_
  simp only [qm, opAt]
  refine dL (.agg #[vP v, .slice (some ⟨ab, ao, none⟩) args.length ac]) rfl (fun hv => ex_load rfl rfl (lM 1 k6wd80 hv rfl rfl rfl rfl)) (dM (.slice (some ⟨ab, ao, none⟩) args.length ac) rfl ?_)
  refine dG (.pointer (some ⟨ab, ao + 0, none⟩)) rfl (ex_index rfl rfl rfl (run_idx1 (k := 0) Tryz.underlying26 s9es26 (by omega))) ?_
  simp only [zP, po]
  refine dL _ rfl (fun hv => ex_load rfl rfl (run_load1 s9na9 (hrdk _ _ _ (Base.Le.refl _) no_res hv 0 _ rfl))) (dM (.slice (some ⟨ab, ao, none⟩) args.length ac) rfl ?_)
  refine dG (.pointer (some ⟨ab, ao + 1, none⟩)) rfl (ex_index rfl rfl rfl (run_idx1 (k := 1) Tryz.underlying26 s9es26 (by omega))) ?_
  simp only [zP, po]
  refine dL _ rfl (fun hv => ex_load rfl rfl (run_load1 s9na9 (hrdl _ _ _ (Base.Le.refl _) no_res hv 0 _ rfl))) (dS rfl fun w106 hv => ?_)
  replace hv := hv.front 3 rfl
  simp only [eS, eZ] at hv
  replace hv := hv.front 3 rfl
  simp only [eS, eZ] at hv
  refine mC k6callable61 rfl ((ckRename B _ _ v t m s p wb va vc sv clk es M hM (some ⟨ab, ao, none⟩) args.length ac k l hv).mono ?_) rfl
  rintro e w107 ⟨D, es1, M1, r1, cs, hD, rfl, hrp, hM1, hrel, hv⟩
  have hcmd : CmdR M M1 r1 := hrel.cmd hO
  obtain ⟨rk, rs, rn, rv, rfl⟩ := rp_parts hrp
  refine ⟨_, rfl, dW hv ?_⟩
  refine dS rfl fun w108 hv => mS 2 rfl hv rssz34 rfl (by exact ⟨rfl, rfl, rfl, hrp.lv.2, trivial⟩) (fun w109 hv => ?_)
  simp only [zS, zO, sp] at hv
  refine dW hv (dE fun w110 hv => ?_)
  simp only [zP, po]
  refine tK k105 (rR ?_)
  refine bZ (tR ?_)
  refine bC 2 rswd34 hv rfl rfl rfl rfl (⟨D, es1, M1, r1, _, hD, rfl, hrp, hM1, hcmd, fun h9 => by rw [hb104] at h9; exact absurd h9 (by decide), (hv.kp [1, 1] 2 2)⟩)
 refine uG (.bool false) rfl (ex_seql rfl rfl rfl (qF hb104)) (uA rfl ?_)
 refine uW k103 (cF rfl ?_)
 refine sK fun _ k111 => rL ?_
 by_cases hb112 : name = ([82, 69, 78, 65, 77, 69, 78, 88] : List UInt8)
 ·refine uG (.bool true) rfl (ex_seql rfl rfl rfl (qT hb112)) (uA rfl ?_)
  refine uW k111 (cT rfl ?_)
  refine sK fun _ k113 => ?_
  have hal2 : 2 ≤ args.length := hc2 (.inr (.inr (.inr (.inr hb112))))
  obtain ⟨k, hk⟩ : ∃ k, args[0]? = some k := ⟨_, List.getElem?_eq_getElem (show 0 < args.length by omega)⟩
  obtain ⟨l, hl⟩ : ∃ k, args[1]? = some k := ⟨_, List.getElem?_eq_getElem (show 1 < args.length by omega)⟩
  obtain ⟨ab, ao, had, hrdk⟩ := text_reads hra hk
  obtain ⟨ab9, ao9, had9, hrdl⟩ := text_reads hra hl
  subst had
  cases had9
  refine rW mixed [7, 8] [0,1,2,3,4,5,6,7,8] 178 rfl (by kernel_rfl) hv ?_
  simp only [qm, opAt]
  refine dL (.agg #[vP v, .slice (some ⟨ab, ao, none⟩) args.length ac]) rfl (fun hv => ex_load rfl rfl (lM 1 k6wd80 hv rfl rfl rfl rfl)) (dM (.slice (some ⟨ab, ao, none⟩) args.length ac) rfl ?_)
  refine dG (.pointer (some ⟨ab, ao + 0, none⟩)) rfl (ex_index rfl rfl rfl (run_idx1 (k := 0) Tryz.underlying26 s9es26 (by omega))) ?_
  simp only [zP, po]
  refine dL _ rfl (fun hv => ex_load rfl rfl (run_load1 s9na9 (hrdk _ _ _ (Base.Le.refl _) no_res hv 0 _ rfl))) (dM (.slice (some ⟨ab, ao, none⟩) args.length ac) rfl ?_)
  refine dG (.pointer (some ⟨ab, ao + 1, none⟩)) rfl (ex_index rfl rfl rfl (run_idx1 (k := 1) Tryz.underlying26 s9es26 (by omega))) ?_
  simp only [zP, po]
  refine dL _ rfl (fun hv => ex_load rfl rfl (run_load1 s9na9 (hrdl _ _ _ (Base.Le.refl _) no_res hv 0 _ rfl))) (dS rfl fun w114 hv => ?_)
  replace hv := hv.front 3 rfl
  simp only [eS, eZ] at hv
  replace hv := hv.front 3 rfl
  simp only [eS, eZ] at hv
  refine mC kPcallable62 rfl ((ckRenamenx B _ _ v t m s p wb va vc sv clk es M hM (some ⟨ab, ao, none⟩) args.length ac k l hv).mono ?_) rfl
  rintro e w115 ⟨D, es1, M1, r1, cs, hD, rfl, hrp, hM1, hrel, hv⟩
  have hcmd : CmdR M M1 r1 := hrel.cmd hO
  obtain ⟨rk, rs, rn, rv, rfl⟩ := rp_parts hrp
  refine ⟨_, rfl, dW hv ?_⟩
  refine dS rfl fun w116 hv => mS 2 rfl hv rssz34 rfl (by exact ⟨rfl, rfl, rfl, hrp.lv.2, trivial⟩) (fun w117 hv => ?_)
  simp only [zS, zO, sp] at hv
  refine dW hv (dE fun w118 hv => ?_)
  simp only [zP, po]
  refine tK k113 (rR ?_)
  refine bZ (tR ?_)
  refine bC 2 rswd34 hv rfl rfl rfl rfl (⟨D, es1, M1, r1, _, hD, rfl, hrp, hM1, hcmd, fun h9 => by rw [hb112] at h9; exact absurd h9 (by decide), (hv.kp [1, 1] 2 2)⟩)
 refine uG (.bool false) rfl (ex_seql rfl rfl rfl (qF hb112)) (uA rfl ?_)
 refine uW k111 (cF rfl ?_)
 refine sK fun _ k119 => rL ?_
 by_cases hb120 : name = ([83, 67, 65, 78] : List UInt8)
 ·refine uG (.bool true) rfl (ex_seql rfl rfl rfl (qT hb120)) (uA rfl ?_)
  refine uW k119 (cT rfl ?_)
  refine sK fun _ k121 => rL (uL (.agg #[vP v, .slice aa args.length ac]) rfl (lM 1 k6wd80 hv rfl rfl rfl rfl) ?_)
  refine uM rfl ?_
  replace hv := hv.front 3 rfl
  simp only [eS, eZ] at hv
  replace hv := hv.front 3 rfl
  simp only [eS, eZ] at hv
  refine xC kPcallable63 rfl ((ckScan B _ _ v t m s p wb va vc sv clk es M hM aa args.length ac aa ac args hoka hra (by omega) hkl hMl hxl hsm hN hv).mono ?_) rfl
  rintro e w122 ⟨D, r1, cs, hD, rfl, hrp, hscr, hv⟩
  refine ⟨_, rfl, ?_⟩
  obtain ⟨rk, rs, rn, rv, rfl⟩ := rp_parts hrp
  simp only [zP, po]
  refine xS 2 rfl hv rssz34 rfl (by exact ⟨rfl, rfl, rfl, hrp.lv.2, trivial⟩) (fun w123 hv => ?_)
  simp only [zS, zO, sp] at hv
  refine uW k121 (rR ?_)
  refine bZ (tR ?_)
  refine bC 2 rswd34 hv rfl rfl rfl rfl (⟨D, es, M, r1, _, hD, rfl, hrp, hM.more hD, ⟨hO, fun _ => rfl⟩, fun _ => ⟨rfl, hscr⟩, (hv.kp [1, 1] 2 2)⟩)
 refine uG (.bool false) rfl (ex_seql rfl rfl rfl (qF hb120)) (uA rfl ?_)
 refine uW k119 (cF rfl ?_)
 refine sK fun _ k124 => rL ?_
 by_cases hb125 : name = ([83, 79, 82, 84] : List UInt8)
 ·refine uG (.bool true) rfl (ex_seql rfl rfl rfl (qT hb125)) (uA rfl ?_)
  refine uW k124 (cT rfl ?_)
  refine sK fun _ k126 => ?_
  have hal1 : 1 ≤ args.length := hc1 (fun h9 => by rw [hb125] at h9; exact absurd h9 (by decide)) (fun h9 => by rw [hb125] at h9; exact absurd h9 (by decide))
  obtain ⟨k, hk⟩ : ∃ k, args[0]? = some k := ⟨_, List.getElem?_eq_getElem (show 0 < args.length by omega)⟩
  have hdn : (args.drop 1).length = args.length - 1 := List.length_drop
  obtain ⟨a3, c3, ha3, ok3, hr3⟩ := sliced_fromV 1 hoka hra (textCells_len args) (show 1 ≤ args.length by omega) (by decide)
  rw [Nat.mul_one, tx_drop] at hr3
  rw [← hdn] at ok3
  obtain ⟨ab, ao, had, hrdk⟩ := text_reads hra hk
  subst had
  refine rW mixed [6, 7] [0,1,2,3,4,5,6,7] 178 rfl (by kernel_rfl) hv ?_
  simp only [qm, opAt]
  refine dL (.agg #[vP v, .slice (some ⟨ab, ao, none⟩) args.length ac]) rfl (fun hv => ex_load rfl rfl (lM 1 k6wd80 hv rfl rfl rfl rfl)) (dM (.slice (some ⟨ab, ao, none⟩) args.length ac) rfl ?_)
  refine dG (.pointer (some ⟨ab, ao + 0, none⟩)) rfl (ex_index rfl rfl rfl (run_idx1 (k := 0) Tryz.underlying26 s9es26 (by omega))) ?_
  simp only [zP, po]
  refine dL _ rfl (fun hv => ex_load rfl rfl (run_load1 s9na9 (hrdk _ _ _ (Base.Le.refl _) no_res hv 0 _ rfl))) (dM (.slice (some ⟨ab, ao, none⟩) args.length ac) rfl ?_)
  refine dG (.slice a3 ((args.drop 1).length) c3) rfl (ex_slice (lo' := some (vI ((1 : Nat) : Int))) rfl rfl (congrArg some rfl) rfl rfl ((run_fromAny Tryz.underlying26 s9es26 (by omega)).trans (by rw [ha3, hdn]))) ?_
  simp only [zP, po]
  refine dS rfl fun w127 hv => ?_
  replace hv := hv.front 3 rfl
  simp only [eS, eZ] at hv
  replace hv := hv.front 3 rfl
  simp only [eS, eZ] at hv
  refine mC kPcallable64 rfl ((ckSort B _ _ v t m s p wb va vc sv clk es M hM (some ⟨ab, ao, none⟩) args.length ac k a3 c3 (args.drop 1) ok3 hr3 (by omega) (fun x hx => hxl x (List.mem_of_mem_drop hx)) hN (fun s _ => hsrt s.g0) hv).mono ?_) rfl
  rintro e w128 ⟨D, es1, M1, r1, cs, hD, rfl, hrp, hM1, hrel, hv⟩
  have hcmd : CmdR M M1 r1 := hrel.cmd hO
  obtain ⟨rk, rs, rn, rv, rfl⟩ := rp_parts hrp
  refine ⟨_, rfl, dW hv ?_⟩
  refine dS rfl fun w129 hv => mS 2 rfl hv rssz34 rfl (by exact ⟨rfl, rfl, rfl, hrp.lv.2, trivial⟩) (fun w130 hv => ?_)
  simp only [zS, zO, sp] at hv
  refine dW hv (dE fun w131 hv => ?_)
  simp only [zP, po]
  refine tK k126 (rR ?_)
  refine bZ (tR ?_)
  refine bC 2 rswd34 hv rfl rfl rfl rfl (⟨D, es1, M1, r1, _, hD, rfl, hrp, hM1, hcmd, fun h9 => by rw [hb125] at h9; exact absurd h9 (by decide), (hv.kp [1, 1] 2 2)⟩)
 refine uG (.bool false) rfl (ex_seql rfl rfl rfl (qF hb125)) (uA rfl ?_)
 refine uW k124 (cF rfl ?_)
 refine sK fun _ k132 => rL ?_
 by_cases hb133 : name = ([84, 89, 80, 69] : List UInt8)
 ·refine uG (.bool true) rfl (ex_seql rfl rfl rfl (qT hb133)) (uA rfl ?_)
  refine uW k132 (cT rfl ?_)
  refine sK fun _ k134 => ?_
  have hal1 : 1 ≤ args.length := hc1 (fun h9 => by rw [hb133] at h9; exact absurd h9 (by decide)) (fun h9 => by rw [hb133] at h9; exact absurd h9 (by decide))
  obtain ⟨k, hk⟩ : ∃ k, args[0]? = some k := ⟨_, List.getElem?_eq_getElem (show 0 < args.length by omega)⟩
  obtain ⟨ab, ao, had, hrdk⟩ := text_reads hra hk
  subst had
  refine rT mixed (fun az wz => ∃ (G : Base) (y : Ver) (yp yt yz : Value) (ok : Bool) (b141 : Nat), (B.Le G) ∧ (ValAt G y.val yp yt yz) ∧ az = { tmps := List.toArray (.agg #[vP v, .slice (some ⟨ab, ao, none⟩) args.length ac] :: vS name :: vP b2 :: undef :: vP b4 :: .slice (some ⟨ab, ao, none⟩) args.length ac :: undef :: undef :: undef :: undef :: undef :: undef :: undef :: undef :: undef :: vP b141 :: .bool ok :: .pointer (some ⟨b2, 1, none⟩) :: .slice (some ⟨ab, ao, none⟩) args.length ac :: vS name :: .bool false :: .bool false :: undef :: undef :: undef :: undef :: undef :: undef :: undef :: undef :: undef :: undef :: .bool false :: .bool false :: undef :: undef :: undef :: undef :: undef :: undef :: undef :: undef :: .bool false :: .bool false :: undef :: undef :: undef :: undef :: undef :: undef :: undef :: undef :: undef :: undef :: .bool false :: .bool false :: undef :: undef :: undef :: undef :: undef :: undef :: undef :: undef :: undef :: undef :: undef :: undef :: undef :: undef :: undef :: undef :: undef :: undef :: undef :: undef :: undef :: undef :: .bool false :: .bool false :: .bool false :: undef :: undef :: undef :: undef :: undef :: undef :: undef :: undef :: undef :: undef :: undef :: undef :: .bool false :: .bool false :: undef :: undef :: undef :: undef :: undef :: undef :: undef :: undef :: undef :: undef :: undef :: undef :: undef :: undef :: .bool false :: .bool false :: undef :: undef :: undef :: undef :: undef :: undef :: .bool false :: .bool false :: undef :: undef :: undef :: undef :: undef :: undef :: undef :: undef :: .bool false :: .bool false :: undef :: undef :: undef :: undef :: undef :: undef :: undef :: undef :: .bool false :: .bool false :: undef :: undef :: undef :: .bool false :: .bool false :: undef :: undef :: undef :: undef :: undef :: undef :: undef :: .bool true :: .bool true :: .tuple #[.agg #[vI y.stamp, .bool y.gone, vI y.expire, vI y.val.kind, vS y.val.text, yp, yt, yz], .bool ok] :: vP b2 :: vP v :: vP v :: vP v :: .iface 100 (vP t) :: .slice (some ⟨ab, ao, none⟩) args.length ac :: .pointer (some ⟨ab, ao + 0, none⟩) :: vS k :: .iface 100 (vP t) :: .iface 100 (vP t) :: .tuple #[.agg #[vI y.stamp, .bool y.gone, vI y.expire, vI y.val.kind, vS y.val.text, yp, yt, yz], .bool ok] :: .agg #[vI y.stamp, .bool y.gone, vI y.expire, vI y.val.kind, vS y.val.text, yp, yt, yz] :: .bool ok :: undef :: undef :: undef :: undef :: undef :: undef :: undef :: undef :: undef :: undef :: undef :: []), defers := [] } ∧ Inv G (Res.cell b141 [vI y.stamp, .bool y.gone, vI y.expire, vI y.val.kind, vS y.val.text, yp, yt, yz] 50 :: txR t m s p wb va vc sv clk es :: Res.cell b4 [vI 0, vS [], vI 0, vN] 34 :: Res.cell b2 [vP v, .slice (some ⟨ab, ao, none⟩) args.length ac] 80 :: Res.cell v [.iface 100 (vP t)] 56 :: H) wz) [10, 14, 15] [0,1,2,3,4,5,6,7,8,9] [11,12,13,14,15,16] [10,11,12,13,15,16] 10 14 178 rfl (by kernel_rfl) hv ?_ ?_
  ·intro R2 l1 l2 hR2 hl1 hl2
   simp only [qm, opAt]
   refine tG (vP b2) rfl (ex_field rfl rfl (k1fa80_0 _ _ _)) (tF (vP v) rfl (fun hv => ex_load rfl rfl (run_load1 k1na24 (hv.load 1 0 rfl rfl))) fun f135 hf135 => ?_)
   simp only [zP, po]
   refine tG (vP v) rfl (ex_nil rfl rfl) (tG (vP v) rfl (ex_field rfl rfl (v1fa56_0 _ _ _)) ?_)
   simp only [zP, po]
   refine tF (.iface 100 (vP t)) rfl (fun hv => ex_load rfl rfl (run_load1 v1na54 (hv.load 2 0 rfl rfl))) fun f136 hf136 => tG (.slice (some ⟨ab, ao, none⟩) args.length ac) rfl (ex_move rfl rfl) ?_
   simp only [zP, po]
   refine tG (.pointer (some ⟨ab, ao + 0, none⟩)) rfl (ex_index rfl rfl rfl (run_idx1 (k := 0) Tryz.underlying26 s9es26 (by omega))) (tF (vS k) rfl (fun hv => ex_load rfl rfl (run_load1 s9na9 (hrdk _ _ _ (Base.Le.refl _) no_res hv 0 _ rfl))) fun f137 hf137 => ?_)
   simp only [zP, po]
   refine tG (.iface 100 (vP t)) rfl (ex_nilI rfl rfl) (tG (.iface 100 (vP t)) rfl (ex_move rfl rfl) ?_)
   simp only [zP, po]
   refine tB ?_ ?_
   ·rw [hl1]; clear hl1 hl2
    simp only [qm, opAt]
    refine dS rfl fun w138 hv => ?_
    replace hv := hv.front 3 rfl
    simp only [eS, eZ] at hv
    refine stepMem_callI v1callable215 rfl rfl rfl (r := vP t) (fun w => by kernel_rfl) (args := #[vS k]) (by simp only [List.map_toArray, List.map_cons, List.map_nil]; rfl) ((txnGet B _ _ t m s p wb va vc sv clk es M k (hM.more (Base.Le.refl _)) hv).mono ?_)
    rintro e w139 ⟨G, y, yp, yt, yz, ok, hG, rfl, hgot, hyv, hv⟩
    refine ⟨_, rfl, dV hv (fK rfl (fK rfl (fK rfl fN))) ?_⟩
    refine dM (.tuple #[.agg #[vI y.stamp, .bool y.gone, vI y.expire, vI y.val.kind, vS y.val.text, yp, yt, yz], .bool ok]) rfl (dG (.agg #[vI y.stamp, .bool y.gone, vI y.expire, vI y.val.kind, vS y.val.text, yp, yt, yz]) rfl (ex_extract rfl rfl rfl) ?_)
    simp only [zP, po]
    refine dG (.bool ok) rfl (ex_extract rfl rfl rfl) (dS rfl fun w140 hv => ?_)
    refine mem_alloc rfl rfl hv kPal50 (fun b141 w142 hv => ?_)
    refine dV hv (fC (fun ww hv => hf137 ww (ex_load rfl rfl (run_load1 s9na9 (hrdk _ _ _ hG no_res hv 0 _ rfl)))) (fC (fun ww hv => hf136 ww (ex_load rfl rfl (run_load1 v1na54 (hv.load 4 0 rfl rfl)))) (fC (fun ww hv => hf135 ww (ex_load rfl rfl (run_load1 k1na24 (hv.load 3 0 rfl rfl)))) fN))) (dS rfl fun w143 hv => ?_)
    refine mS 0 rfl hv x0sz50 rfl (by exact ⟨rfl, rfl, rfl, rfl, rfl, hyv.p.one, hyv.t.one, hyv.z.one, trivial⟩) (fun w144 hv => ?_)
    simp only [zO, sp] at hv
    refine dV hv (fK rfl (fK rfl (fK rfl fN))) ?_
    simp only [zP, po]
    refine dA (.bool ok) rfl (dE fun wz hv => ?_)
    simp only [zP, po]
    exact hR2 _ _ ⟨G, y, yp, yt, yz, ok, b141, hG, hyv, rfl, (((((hv.front 4 rfl).front 4 rfl).front 4 rfl).front 4 rfl).front 4 rfl)⟩
   rw [hl2]; clear hl1 hl2
   simp only [qm, opAt]
   refine dS rfl fun w145 hv => mem_alloc rfl rfl hv kPal50 (fun b146 w147 hv => ?_)
   refine dV hv (fC (fun ww hv => hf137 ww (ex_load rfl rfl (run_load1 s9na9 (hrdk _ _ _ (Base.Le.refl _) no_res hv 0 _ rfl)))) (fC (fun ww hv => hf136 ww (ex_load rfl rfl (run_load1 v1na54 (hv.load 3 0 rfl rfl)))) (fC (fun ww hv => hf135 ww (ex_load rfl rfl (run_load1 k1na24 (hv.load 2 0 rfl rfl)))) fN))) (dS rfl fun w148 hv => ?_)
   replace hv := hv.front 4 rfl
   simp only [eS, eZ] at hv
   refine stepMem_callI v1callable215 rfl rfl rfl (r := vP t) (fun w => by kernel_rfl) (args := #[vS k]) (by simp only [List.map_toArray, List.map_cons, List.map_nil]; rfl) ((txnGet B _ _ t m s p wb va vc sv clk es M k (hM.more (Base.Le.refl _)) hv).mono ?_)
   rintro e w149 ⟨G, y, yp, yt, yz, ok, hG, rfl, hgot, hyv, hv⟩
   refine ⟨_, rfl, dV hv (fK rfl (fK rfl (fK rfl fN))) ?_⟩
   refine dM (.tuple #[.agg #[vI y.stamp, .bool y.gone, vI y.expire, vI y.val.kind, vS y.val.text, yp, yt, yz], .bool ok]) rfl ?_
   simp only [zP, po]
   refine dG (.agg #[vI y.stamp, .bool y.gone, vI y.expire, vI y.val.kind, vS y.val.text, yp, yt, yz]) rfl (ex_extract rfl rfl rfl) (dG (.bool ok) rfl (ex_extract rfl rfl rfl) ?_)
   refine dS rfl fun w150 hv => mS 1 rfl hv x0sz50 rfl (by exact ⟨rfl, rfl, rfl, rfl, rfl, hyv.p.one, hyv.t.one, hyv.z.one, trivial⟩) (fun w151 hv => ?_)
   simp only [zS, zO, sp] at hv
   refine dV hv (fK rfl (fK rfl (fK rfl fN))) ?_
   simp only [zP, po]
   refine dA (.bool ok) rfl (dE fun wz hv => ?_)
   simp only [zP, po]
   exact hR2 _ _ ⟨G, y, yp, yt, yz, ok, b146, hG, hyv, rfl, (((((hv.front 4 rfl).front 4 rfl).front 4 rfl).front 3 rfl).front 4 rfl)⟩
  rintro _ w152 ⟨G, y, yp, yt, yz, ok, b141, hG, hyv, rfl, hv⟩
  refine tK k134 (sK fun _ k153 => ?_)
  refine rL (uF (.pointer (some ⟨b141, 3, none⟩)) rfl (x2fa50_3 _ _ _) ?_)
  refine uF (.pointer (some ⟨b141, 3, none⟩)) rfl (s12fa43_0 _ _ _) ?_
  refine uL _ rfl (run_load1 s2na3 (hv.load 0 3 rfl rfl)) ?_
  refine xC kPcallable65 rfl ((valueName G _ _ y.val.kind hv).mono ?_) rfl
  rintro e w154 ⟨nm, rfl, hv⟩
  refine ⟨_, rfl, ?_⟩
  simp only [zP, po]
  refine xC k6callable58 rfl ((respText G _ _ nm hv).mono ?_) rfl
  rintro e w155 ⟨rfl, hv⟩
  refine ⟨_, rfl, ?_⟩
  simp only [zP, po]
  refine xS 2 rfl hv rssz34 rfl (by exact ⟨rfl, rfl, rfl, rfl, trivial⟩) (fun w156 hv => ?_)
  simp only [zS, zO, sp] at hv
  refine uW k153 (rR ?_)
  refine bZ (tR ?_)
  refine bC 2 rswd34 hv rfl rfl rfl rfl (⟨G, es, M, (.mk 0 nm 0 []), _, hG, rfl, rpAt_leaf, hM.more hG, ⟨hO, fun _ => rfl⟩, fun h9 => by rw [hb133] at h9; exact absurd h9 (by decide), (hv.kp [1, 4] 2 3)⟩)
 refine uG (.bool false) rfl (ex_seql rfl rfl rfl (qF hb133)) (uA rfl ?_)
 refine uW k132 (cF rfl ?_)
 refine kS (bN ?_)
 refine tK k7 (sK fun _ k157 => ?_)
 have hal1 : 1 ≤ args.length := hc1 (fun h9 => absurd h9 hb18) (fun h9 => absurd h9 hb75)
 obtain ⟨k, hk⟩ : ∃ k, args[0]? = some k := ⟨_, List.getElem?_eq_getElem (show 0 < args.length by omega)⟩
 obtain ⟨ab, ao, had, hrdk⟩ := text_reads hra hk
 subst had
 refine rW mixed [5, 6] [0,1,2,3,4,5,6] 178 rfl (by kernel_rfl) hv ?_
 simp only [qm, opAt]
 refine dL (.agg #[vP v, .slice (some ⟨ab, ao, none⟩) args.length ac]) rfl (fun hv => ex_load rfl rfl (lM 1 k6wd80 hv rfl rfl rfl rfl)) (dM (vS name) rfl ?_)
 refine dM (.slice (some ⟨ab, ao, none⟩) args.length ac) rfl ?_
 simp only [zP, po]
 refine dG (.pointer (some ⟨ab, ao + 0, none⟩)) rfl (ex_index rfl rfl rfl (run_idx1 (k := 0) Tryz.underlying26 s9es26 (by omega))) (dL _ rfl (fun hv => ex_load rfl rfl (run_load1 s9na9 (hrdk _ _ _ (Base.Le.refl _) no_res hv 0 _ rfl))) ?_)
 refine dS rfl fun w158 hv => ?_
 replace hv := hv.front 3 rfl
 simp only [eS, eZ] at hv
 replace hv := hv.front 3 rfl
 simp only [eS, eZ] at hv
 refine mC kPcallable66 rfl ((ckTime B _ _ v t m s p wb va vc sv clk es M hM hO (some ⟨ab, ao, none⟩) args.length ac name k hv).mono ?_) rfl
 rintro e w159 ⟨D, es1, M1, r1, cs, hD, rfl, hrp, hM1, hrel, hv⟩
 have hcmd : CmdR M M1 r1 := hrel
 obtain ⟨rk, rs, rn, rv, rfl⟩ := rp_parts hrp
 refine ⟨_, rfl, dW hv ?_⟩
 simp only [zP, po]
 refine dS rfl fun w160 hv => mS 2 rfl hv rssz34 rfl (by exact ⟨rfl, rfl, rfl, hrp.lv.2, trivial⟩) (fun w161 hv => ?_)
 simp only [zS, zO, sp] at hv
 refine dW hv (dE fun w162 hv => ?_)
 simp only [zP, po]
 refine tK k157 (rR ?_)
 refine bC 2 rswd34 hv rfl rfl rfl rfl (⟨D, es1, M1, r1, _, hD, rfl, hrp, hM1, hcmd, fun h9 => absurd h9 hb120, (hv.kp [1, 1] 2 2)⟩)
abbrev GX := DoK
def GArgs (name : List UInt8) (n : Nat) : Prop := ∃ x ∈ gRows, x.1 = name ∧ x.2.1 ≤ (n : Int) ∧ (0 ≤ x.2.2 → (n : Int) ≤ x.2.2)
theorem gRows_one : ∀ x ∈ gRows, x.1 ≠ ([68, 66, 83, 73, 90, 69] : List UInt8) → x.1 ≠ ([70, 76, 85, 83, 72, 65, 76, 76] : List UInt8) → 1 ≤ x.2.1 := by decide
theorem gRows_two : ∀ x ∈ gRows, (x.1 = ([67, 79, 80, 89] : List UInt8) ∨ x.1 = ([69, 88, 80, 73, 82, 69] : List UInt8) ∨ x.1 = ([69, 88, 80, 73, 82, 69, 65, 84] : List UInt8) ∨ x.1 = ([82, 69, 78, 65, 77, 69] : List UInt8) ∨ x.1 = ([82, 69, 78, 65, 77, 69, 78, 88] : List UInt8)) → 2 ≤ x.2.1 := by decide
theorem gDoAll (B : Base) (H : List Res) (w : World) (v t m s p wb : Nat) (va : Option Addr) (vc : Nat) (sv : Value) (clk : Int) (es : List (List UInt8 × Value)) (M : List (List UInt8 × Ver)) (hM : VM B es M) (hO : OkM M) (aa : Option Addr) (ac : Nat) (args : List (List UInt8)) (hra : RdV B [] aa (textCells args)) (hoka : SliceOk aa args.length ac) (hma : args.length ≤ 1000) (name : List UInt8) (hgr : GArgs name args.length) (hxl : ∀ x ∈ args, x.length ≤ 9223372036854775807) (hsm : (∀ x ∈ args, x.length ≤ 1000000) ∨ M = []) (hN : NumB B) (hkl : ∀ k ∈ M.map (·.1), k.length ≤ 256) (hMl : M.length ≤ 1000000) (h0c : 0 ≤ clk) (h1c : clk ≤ 1099511627776) (hsrt : ∀ b, SortedOk b) (hv : Inv B (Res.cell v [.iface 100 (vP t)] 56 :: txR t m s p wb va vc sv clk es :: H) w) : Calls Tryz.prog 31 #[.agg #[vP v, .slice aa args.length ac], vS name] w fun e w' => ∃ C es' M' r cs, B.Le C ∧ e = .returned (.agg cs.toArray) ∧ RpAt C r cs ∧ VM C es' M' ∧ CmdR M M' r ∧ GX M clk name args M' r ∧ Inv C (Res.cell v [.iface 100 (vP t)] 56 :: txR t m s p wb va vc sv clk es' :: H) w' := by
 obtain ⟨x, hx, hxn, hx1, hx2⟩ := hgr
 exact ckDoAll B H w v t m s p wb va vc sv clk es M hM hO aa ac args hra hoka hma name (fun h1 h2 => by have := gRows_one x hx (by rw [hxn]; exact h1) (by rw [hxn]; exact h2); omega) (fun h => by have := gRows_two x hx (by rw [hxn]; exact h); omega) hxl hsm hN hkl hMl h0c h1c hsrt hv
theorem kQal34 : AL Tryz.prog 34 [vI 0, vS [], vI 0, vN] := fun w => by kernel_rfl
theorem kQal4 : AL Tryz.prog 4 [.bool false] := fun w => by kernel_rfl
theorem kQal78 : AL Tryz.prog 78 [vS [], vI 0, vI 0] := fun w => by kernel_rfl
theorem kQfa78_1 : FA Tryz.prog 78 1 1 := fun w b o => by kernel_rfl
theorem kQcallable28 : Callable Tryz.prog 28 := cb Tryz.func28 (by kernel_rfl)
theorem kQrec28 (n : Nat) (x0 x1 : Value) (w : World) : CallsDIn Fence.wide n Tryz.prog 28 #[x0, x1] .returning w fun e u' w' => e = .returned (.tuple #[]) ∧ u' = .returning ∧ w' = w := by
 refine callsDIn_of_wpSIn Tryz.func28 rfl trivial fun c₀ cs hu => ?_
 apply wpSIn_seq
 apply wpSIn_region
 simp [wpOpsSIn, go_sem, recoverD, hu, Tryz.ntmps28, Exit.thenS]
 refine wpSIn_cond (t := false) (by simp [Act.eval, Array.replicate]) ?_
 simp only [Bool.false_eq_true, if_false]
 refine wpSIn_of_wpIn rfl (wpIn_skip ?_)
 cases c₀
 simp_all [bodyPostS, results, Tryz.results28]
theorem kQfa78_2 : FA Tryz.prog 78 2 2 := fun w b o => by kernel_rfl
theorem kQcallable31 : Callable Tryz.prog 31 := cb Tryz.func31 (by kernel_rfl)
theorem gDo (B : Base) (H : List Res) (w : World) (v t m s p wb : Nat) (va : Option Addr) (vc : Nat) (sv : Value) (clk : Int) (es : List (List UInt8 × Value)) (M : List (List UInt8 × Ver)) (hM : VM B es M) (hO : OkM M) (aa : Option Addr) (ac : Nat) (args : List (List UInt8)) (hra : RdV B [] aa (textCells args)) (hoka : SliceOk aa args.length ac) (hma : args.length ≤ 1000) (name : List UInt8) (hxl : ∀ x ∈ args, x.length ≤ 9223372036854775807) (hsm : (∀ x ∈ args, x.length ≤ 1000000) ∨ M = []) (hN : NumB B) (hkl : ∀ k ∈ M.map (·.1), k.length ≤ 256) (hMl : M.length ≤ 1000000) (h0c : 0 ≤ clk) (h1c : clk ≤ 1099511627776) (hsrt : ∀ b, SortedOk b) (hv : Inv B (Res.cell v [.iface 100 (vP t)] 56 :: txR t m s p wb va vc sv clk es :: H) w) :
  Calls Tryz.prog 10 #[vP v, vS name, .slice aa args.length ac] w fun e w' => ∃ C es' M' r cs ok, B.Le C ∧ e = .returned (.tuple #[.agg cs.toArray, .bool ok]) ∧ RpAt C r cs ∧ VM C es' M' ∧ CmdR M M' r ∧ (ok = true ↔ name ∈ gNames) ∧ (ok = false → M' = M ∧ r = rText []) ∧ (GArgs name args.length → GX M clk name args M' r) ∧ Inv C (Res.cell v [.iface 100 (vP t)] 56 :: txR t m s p wb va vc sv clk es' :: H) w' := by
 refine (callsIn_wide (n := 5)).1 (callsIn_of_wp_defers Tryz.func10 rfl trivial ?_)
 simp only [Tryz.ntmps10, List.size_toArray, List.length_cons, List.length_nil, Nat.reduceAdd, Nat.reduceSub, Array.replicate_succ, Array.replicate_zero, List.push_toArray, List.append_toArray, List.nil_append, List.cons_append]
 refine sK fun _ k1 => rL (sl_alloc tV (wn rfl) rfl hv kQal34 (fun b2 w3 hv => ?_))
 refine sl_alloc tV (wn rfl) rfl hv kQal4 (fun b4 w5 hv => ?_)
 refine uW k1 (sK fun _ k6 => ?_)
 refine rL (uG (.func (.func 28) #[] #[vP b2, vP b4]) rfl (ex_makeFunc (c' := #[vP b2, vP b4]) rfl (by simp only [List.map_toArray, List.map_nil]) (by simp only [List.map_toArray, List.map_cons, List.map_nil]; rfl)) ?_)
 refine wpi_defer tV rfl (wn rfl) rfl rfl (uW k6 ?_)
 refine sK fun _ k7 => sK fun _ k8 => rL (xC k2callable30 rfl ((gRowsC B _ _ hv).mono ?_) rfl)
 rintro e w9 ⟨C, ra, rc, hC, rfl, hrr, hv⟩
 refine ⟨_, rfl, uG (vI (gRows.length : Int)) rfl (ex_len0 Tryz.underlying75 rfl rfl) ?_⟩
 refine uM rfl (uW k8 ?_)
 refine bB ?_
 gi_loopw [14] (fun x14 wr => ∃ (i : Nat), x14 = vI i ∧ i ≤ gRows.length ∧ (∀ (j : Nat) y, j < i → gRows[j]? = some y → y.1 ≠ name) ∧ Inv C (Res.cell b4 [.bool false] 4 :: Res.cell b2 [vI 0, vS [], vI 0, vN] 34 :: Res.cell v [.iface 100 (vP t)] 56 :: txR t m s p wb va vc sv clk es :: H) wr) (fun x14 _ => gRows.length - (intOf x14).toNat)
 case atStart => exact ⟨0, rfl, Nat.zero_le _, fun j y h => by omega, hv⟩
 case round =>
  obtain ⟨i, rfl, hi, hno, hv⟩ := hrel
  have hrl := gRows_len
  refine sK fun _ k11 => rL ?_
  by_cases hb12 : (i : Int) < (gRows.length : Int)
  ·refine uG (.bool true) rfl (ex_lss rfl rfl rfl (qT hb12)) (uW k11 ?_)
   refine sK fun _ k13 => cT rfl (kS ?_)
   refine tK k13 (sK fun _ k14 => ?_)
   refine bB (sK fun _ k15 => ?_)
   have hrl := gRows_len
   obtain ⟨x, hx⟩ : ∃ x, gRows[i]? = some x := ⟨_, List.getElem?_eq_getElem (show i < gRows.length by omega)⟩
   have hxm := List.mem_of_getElem? hx
   obtain ⟨rb, ro, had, hrdx⟩ := gRow_reads hrr hx
   subst had
   refine rL (uG (.pointer (some ⟨rb, ro + i * 3, none⟩)) rfl (ex_index rfl rfl rfl (run_idx (k := i) Tryz.underlying75 k2es75 (by omega))) ?_)
   refine uL (.agg #[vS x.1, vI x.2.1, vI x.2.2]) rfl (run_loadR (cs := [vS x.1, vI x.2.1, vI x.2.2]) k2wd78 (Reads.mid (pre := []) (mid := [vS x.1, vI x.2.1, vI x.2.2]) (post := []) hrdx _ _ _ (Base.Le.refl _) no_res hv)) ?_
   refine sl_alloc tV (wn rfl) rfl hv kQal78 (fun b16 w17 hv => ?_)
   simp only [zP, po]
   refine xS 0 rfl hv k2sz78 rfl (by exact ⟨rfl, rfl, rfl, trivial⟩) (fun w18 hv => ?_)
   simp only [zO, sp] at hv
   refine uW k15 (sK fun _ k19 => ?_)
   refine sK fun _ k20 => rL (uF (vP b16) rfl (k2fa78_0 _ _ _) ?_)
   refine uL _ rfl (run_load1 s9na9 (hv.load 0 0 rfl rfl)) (uM rfl ?_)
   by_cases hb21 : x.1 ≠ name
   ·refine uG (.bool true) rfl (ex_sneq rfl rfl rfl (qT hb21)) (uW k20 ?_)
    refine cT rfl (xE ?_)
    refine tX (bH ?_)
    refine tK k14 (rL ?_)
    refine uG (vI ((i + 1 : Nat) : Int)) rfl (ex_add rfl rfl rfl (by rw [i64_in (by omega)]; omega)) (uM rfl ?_)
    refine uZ (then_normal ?_)
    go_roundw
    case rel => exact ⟨i + 1, rfl, by omega, fun j y hj hy => (by
       rcases Nat.lt_or_ge j i with h | h
       ·exact hno j y h hy
       obtain rfl : j = i := by omega
       rw [hx] at hy; cases hy; exact hb21), (hv.kp [4, 4, 4, 4] 4 1)⟩
    case measure => show gRows.length - (((i + 1 : Nat) : Int)).toNat < gRows.length - ((i : Int)).toNat; omega
   refine uG (.bool false) rfl (ex_sneq rfl rfl rfl (qF hb21)) (uW k20 ?_)
   refine cF rfl (kS ?_)
   refine tK k19 (sK fun _ k22 => ?_)
   refine sK fun _ k23 => ?_
   have hxn : x.1 = name := Classical.byContradiction fun h9 => hb21 h9
   refine rL (uM rfl ?_)
   refine uG (vI (args.length : Int)) rfl (ex_len0 Tryz.underlying26 rfl rfl) (uA rfl ?_)
   refine uW k23 (sK fun _ k24 => ?_)
   refine rL (uM rfl ?_)
   refine uF (.pointer (some ⟨b16, 1, none⟩)) rfl (kQfa78_1 _ _ _) ?_
   refine uL _ rfl (run_load1 s2na3 (hv.load 0 1 rfl rfl)) ?_
   by_cases hb25 : (args.length : Int) < x.2.1
   ·refine uG (.bool true) rfl (ex_lss rfl rfl rfl (qT hb25)) (uM rfl ?_)
    iterate 9 refine uP rfl ?_
    refine uK rfl (uW k24 ?_)
    refine cT rfl (sK fun _ k26 => ?_)
    refine rL (xC rscallable29 rfl ((viewWrong C _ _ 43 hv).mono ?_) rfl)
    rintro e w28 ⟨s27, rfl, hv⟩
    refine ⟨_, rfl, ?_⟩
    refine xS 2 rfl hv rssz34 rfl (by exact ⟨rfl, rfl, rfl, rfl, trivial⟩) (fun w29 hv => ?_)
    simp only [zS, zO, sp] at hv
    refine xV 1 (.bool true) rfl hv v8sz4 rfl rfl (fun w30 hv => ?_)
    simp only [zS, zO, sp] at hv
    refine uW k26 (rR ?_)
    refine tR (bZ ?_)
    refine tR (tR ?_)
    refine bZ (tR ?_)
    refine leave_rec kQcallable28 (kQrec28 _ _ _ _) (res_cells2 rfl rfl (lM 2 rswd34 hv rfl rfl rfl rfl) rfl (run_load1 s2na4 (hv.load 1 0 rfl rfl))) ?_
    have hmem : name ∈ gNames := by rw [← (show x.1 = name from Classical.byContradiction fun h9 => hb21 h9)]; exact List.mem_map_of_mem hxm
    exact ⟨C, es, M, rFault s27, rpCells 1 s27 0 (vN), true, hC, rfl, rpAt_leaf, hM.more hC, ⟨hO, fun _ => rfl⟩, ⟨fun _ => hmem, fun _ => rfl⟩, fun h9 => (by cases h9), fun ⟨y9, hy9, hyn9, hg1, hg2⟩ => (by obtain rfl := gRows_inj y9 hy9 x hxm (by rw [hyn9]; exact (Classical.byContradiction fun h9 => hb21 h9 : x.1 = name).symm); omega), (hv.kp [4, 4] 2 3)⟩
   refine uG (.bool false) rfl (ex_lss rfl rfl rfl (qF hb25)) (uM rfl ?_)
   refine uF (.pointer (some ⟨b16, 2, none⟩)) rfl (kQfa78_2 _ _ _) ?_
   refine uL _ rfl (run_load1 s2na3 (hv.load 0 2 rfl rfl)) ?_
   by_cases hb31 : x.2.2 ≥ 0
   ·refine uG (.bool true) rfl (ex_geq rfl rfl rfl (qT hb31)) ?_
    refine uM rfl ?_
    refine uM rfl ?_
    refine uF (.pointer (some ⟨b16, 2, none⟩)) rfl (kQfa78_2 _ _ _) ?_
    refine uL _ rfl (run_load1 s2na3 (hv.load 0 2 rfl rfl)) ?_
    by_cases hb32 : (args.length : Int) > x.2.2
    ·refine uG (.bool true) rfl (ex_gtr rfl rfl rfl (qT hb32)) ?_
     refine uK rfl (uK rfl ?_)
     refine uW k24 (cT rfl ?_)
     refine sK fun _ k33 => rL (xC rscallable29 rfl ((viewWrong C _ _ 43 hv).mono ?_) rfl)
     rintro e w35 ⟨s34, rfl, hv⟩
     refine ⟨_, rfl, ?_⟩
     refine xS 2 rfl hv rssz34 rfl (by exact ⟨rfl, rfl, rfl, rfl, trivial⟩) (fun w36 hv => ?_)
     simp only [zS, zO, sp] at hv
     refine xV 1 (.bool true) rfl hv v8sz4 rfl rfl (fun w37 hv => ?_)
     simp only [zS, zO, sp] at hv
     refine uW k33 (rR ?_)
     refine tR (bZ ?_)
     refine tR (tR ?_)
     refine bZ (tR ?_)
     refine leave_rec kQcallable28 (kQrec28 _ _ _ _) (res_cells2 rfl rfl (lM 2 rswd34 hv rfl rfl rfl rfl) rfl (run_load1 s2na4 (hv.load 1 0 rfl rfl))) ?_
     have hmem : name ∈ gNames := by rw [← (show x.1 = name from Classical.byContradiction fun h9 => hb21 h9)]; exact List.mem_map_of_mem hxm
     exact ⟨C, es, M, rFault s34, rpCells 1 s34 0 (vN), true, hC, rfl, rpAt_leaf, hM.more hC, ⟨hO, fun _ => rfl⟩, ⟨fun _ => hmem, fun _ => rfl⟩, fun h9 => (by cases h9), fun ⟨y9, hy9, hyn9, hg1, hg2⟩ => (by obtain rfl := gRows_inj y9 hy9 x hxm (by rw [hyn9]; exact (Classical.byContradiction fun h9 => hb21 h9 : x.1 = name).symm); omega), (hv.kp [4, 4] 2 3)⟩
    refine uG (.bool false) rfl (ex_gtr rfl rfl rfl (qF hb32)) ?_
    refine uK rfl (uK rfl ?_)
    refine uW k24 (cF rfl ?_)
    refine kS (tK k22 ?_)
    refine sK fun _ k38 => rL (uM rfl ?_)
    refine uM rfl ?_
    refine uG (.agg #[vP v, .slice aa args.length ac]) rfl (ex_buildN (vs := #[(0, vP v), (1, .slice aa args.length ac)]) rfl (by simp only [List.map_toArray, List.map_cons, List.map_nil]; rfl) (by kernel_rfl)) (uM rfl ?_)
    replace hv := hv.front 4 rfl
    simp only [eS, eZ] at hv
    replace hv := hv.front 4 rfl
    simp only [eS, eZ] at hv
    refine xC kQcallable31 rfl ((gDoAll C _ _ v t m s p wb va vc sv clk es M (hM.more hC) hO aa ac args (hra.more hC (fun _ h => h)) hoka hma name ⟨x, hxm, hxn, by omega, fun h9 => by omega⟩ hxl hsm (hN.more hC) hkl hMl h0c h1c hsrt hv).mono ?_) rfl
    rintro e w39 ⟨D, es', M', r, cs, hD, rfl, hrp, hM', hcmd, hgx, hv⟩
    refine ⟨_, rfl, ?_⟩
    obtain ⟨rk, rs, rn, rv, rfl⟩ := rp_parts hrp
    refine xS 4 rfl hv rssz34 rfl (by exact ⟨rfl, rfl, rfl, hrp.lv.2, trivial⟩) (fun w40 hv => ?_)
    simp only [zS, zO, sp] at hv
    simp only [zP, po]
    refine xV 3 (.bool true) rfl hv v8sz4 rfl rfl (fun w41 hv => ?_)
    simp only [zS, zO, sp] at hv
    refine uW k38 (rR ?_)
    refine bZ (tR ?_)
    refine tR (bZ ?_)
    refine tR (leave_rec kQcallable28 (kQrec28 _ _ _ _) (res_cells2 rfl rfl (lM 4 rswd34 hv rfl rfl rfl rfl) rfl (run_load1 s2na4 (hv.load 3 0 rfl rfl))) ?_)
    have hmem : name ∈ gNames := by rw [← (show x.1 = name from Classical.byContradiction fun h9 => hb21 h9)]; exact List.mem_map_of_mem hxm
    exact ⟨D, es', M', r, _, true, (hC.trans hD), rfl, hrp, hM', hcmd, ⟨fun _ => hmem, fun _ => rfl⟩, fun h9 => (by cases h9), fun _ => hgx, (hv.kp [1, 1] 2 3)⟩
   refine uG (.bool false) rfl (ex_geq rfl rfl rfl (qF hb31)) ?_
   refine uM rfl ?_
   iterate 4 refine uP rfl ?_
   refine uK rfl (uK rfl ?_)
   refine uW k24 (cF rfl ?_)
   refine kS (tK k22 ?_)
   refine sK fun _ k42 => rL (uM rfl ?_)
   refine uM rfl ?_
   refine uG (.agg #[vP v, .slice aa args.length ac]) rfl (ex_buildN (vs := #[(0, vP v), (1, .slice aa args.length ac)]) rfl (by simp only [List.map_toArray, List.map_cons, List.map_nil]; rfl) (by kernel_rfl)) (uM rfl ?_)
   replace hv := hv.front 4 rfl
   simp only [eS, eZ] at hv
   replace hv := hv.front 4 rfl
   simp only [eS, eZ] at hv
   refine xC kQcallable31 rfl ((gDoAll C _ _ v t m s p wb va vc sv clk es M (hM.more hC) hO aa ac args (hra.more hC (fun _ h => h)) hoka hma name ⟨x, hxm, hxn, by omega, fun h9 => by omega⟩ hxl hsm (hN.more hC) hkl hMl h0c h1c hsrt hv).mono ?_) rfl
   rintro e w43 ⟨D, es', M', r, cs, hD, rfl, hrp, hM', hcmd, hgx, hv⟩
   refine ⟨_, rfl, ?_⟩
   obtain ⟨rk, rs, rn, rv, rfl⟩ := rp_parts hrp
   refine xS 4 rfl hv rssz34 rfl (by exact ⟨rfl, rfl, rfl, hrp.lv.2, trivial⟩) (fun w44 hv => ?_)
   simp only [zS, zO, sp] at hv
   simp only [zP, po]
   refine xV 3 (.bool true) rfl hv v8sz4 rfl rfl (fun w45 hv => ?_)
   simp only [zS, zO, sp] at hv
   refine uW k42 (rR ?_)
   refine bZ (tR ?_)
   refine tR (bZ ?_)
   refine tR (leave_rec kQcallable28 (kQrec28 _ _ _ _) (res_cells2 rfl rfl (lM 4 rswd34 hv rfl rfl rfl rfl) rfl (run_load1 s2na4 (hv.load 3 0 rfl rfl))) ?_)
   have hmem : name ∈ gNames := by rw [← (show x.1 = name from Classical.byContradiction fun h9 => hb21 h9)]; exact List.mem_map_of_mem hxm
   exact ⟨D, es', M', r, _, true, (hC.trans hD), rfl, hrp, hM', hcmd, ⟨fun _ => hmem, fun _ => rfl⟩, fun h9 => (by cases h9), fun _ => hgx, (hv.kp [1, 1] 2 3)⟩
  refine uG (.bool false) rfl (ex_lss rfl rfl rfl (qF hb12)) (uW k11 ?_)
  refine sK fun _ k46 => cF rfl (xE ?_)
  refine tX (tX ?_)
  refine bH (tK k7 ?_)
  refine sK fun _ k47 => rL (uG (.agg #[vI 0, vS [], vI 0, vN]) rfl (ex_buildN (vs := #[]) rfl (by simp only [List.map_toArray, List.map_nil]) (by kernel_rfl)) ?_)
  refine xS 1 rfl hv rssz34 rfl (by exact ⟨rfl, rfl, rfl, rfl, trivial⟩) (fun w48 hv => ?_)
  simp only [zS, zO, sp] at hv
  refine xV 0 (.bool false) rfl hv v8sz4 rfl rfl (fun w49 hv => ?_)
  simp only [zO, sp] at hv
  refine uW k47 (rR ?_)
  refine leave_rec kQcallable28 (kQrec28 _ _ _ _) (res_cells2 rfl rfl (lM 1 rswd34 hv rfl rfl rfl rfl) rfl (run_load1 s2na4 (hv.load 0 0 rfl rfl))) ?_
  have hmem : name ∉ gNames := fun h9 => by
   obtain ⟨y, hy, hyn⟩ := List.mem_map.1 h9
   obtain ⟨j, hj⟩ := List.mem_iff_getElem?.1 hy
   exact hno j y (by have := (List.getElem?_eq_some_iff.1 hj).1; omega) hj hyn
  exact ⟨C, es, M, rText [], rpCells 0 [] 0 (vN), false, hC, rfl, rpAt_leaf, hM.more hC, ⟨hO, fun _ => rfl⟩, ⟨fun h9 => (by cases h9), fun h9 => absurd h9 hmem⟩, fun _ => ⟨rfl, rfl⟩, fun ⟨y9, hy9, hyn9, _⟩ => absurd (hyn9 ▸ List.mem_map_of_mem hy9) hmem, (hv.kp [3, 3] 2 2)⟩
open Go.Sort
structure RelVK (M : List (List UInt8 × Ver)) (K : List KeyR) : Prop where
 so : SortedT (K.map (·.name))
 of_ : ∀ x ∈ K, lookA M x.name = some ⟨0, false, x.exp, x.val⟩
 back : ∀ k y, lookA M k = some y → y.gone = false → ∃ x ∈ K, x.name = k
theorem RelVK.nil : RelVK [] [] := ⟨List.Pairwise.nil, fun x h => (by cases h), fun k y h => (by cases h)⟩
theorem sortedT_nodup {l : List (List UInt8)} (h : SortedT l) : l.Nodup := List.Pairwise.imp (fun hab e => lt_ne hab e) h
theorem alive_live (x : KeyR) (clk : Int) : aliveB ⟨0, false, x.exp, x.val⟩ clk = liveK clk x := by
 unfold aliveB liveK
 simp only [Bool.not_false, Bool.true_and, gt_iff_lt]
section
variable {M : List (List UInt8 × Ver)} {K : List KeyR} {clk : Int} {name : List UInt8}
theorem RelVK.nodup (h : RelVK M K) : (K.map (·.name)).Nodup := sortedT_nodup h.so
theorem getK_mem {x : KeyR} (h : getK K clk name = some x) : x ∈ K ∧ x.name = name ∧ liveK clk x = true := by
 unfold getK at h
 have h2 := List.find?_some h
 simp only [Bool.and_eq_true, decide_eq_true_eq] at h2
 exact ⟨List.mem_of_find?_eq_some h, h2.1, h2.2⟩
theorem RelVK.got (h : RelVK M K) {x : KeyR} (hg : getK K clk name = some x) : lookA M name = some ⟨0, false, x.exp, x.val⟩ ∧ aliveB ⟨0, false, x.exp, x.val⟩ clk = true := by
 obtain ⟨h1, rfl, h3⟩ := getK_mem hg
 exact ⟨h.of_ x h1, by rw [alive_live]; exact h3⟩
theorem RelVK.alive (h : RelVK M K) {y : Ver} (hl : lookA M name = some y) (ha : aliveB y clk = true) : ∃ x, getK K clk name = some x ∧ y = ⟨0, false, x.exp, x.val⟩ := by
 have hg : y.gone = false := by unfold aliveB at ha; cases hy : y.gone <;> simp [hy] at ha ⊢
 obtain ⟨x, hx, rfl⟩ := h.back name y hl hg
 have h2 := h.of_ x hx
 rw [hl] at h2
 cases h2
 obtain ⟨i, hi⟩ := List.mem_iff_getElem?.1 hx
 exact ⟨x, getK_at h.nodup hi (by rw [← alive_live]; exact ha), rfl⟩
theorem RelVK.dead (h : RelVK M K) (hg : getK K clk name = none) : DeadM M clk name := by
 intro y hy
 cases ha : aliveB y clk with
 | false => rfl
 | true =>
  obtain ⟨x, h2, -⟩ := h.alive hy ha
  rw [hg] at h2; cases h2
theorem RelVK.free (h : RelVK M K) (hd : DeadM M clk name) : getK K clk name = none := by
 cases hg : getK K clk name with
 | none => rfl
 | some x =>
  obtain ⟨h1, h2⟩ := h.got hg
  rw [hd _ h1] at h2; cases h2
theorem others_sorted (h : SortedT (K.map (·.name))) : SortedT ((others K name).map (·.name)) := by
 unfold SortedT others at *
 exact h.sublist (List.Sublist.map _ (List.filter_sublist))
theorem others_iff {x : KeyR} : x ∈ others K name ↔ x ∈ K ∧ x.name ≠ name := by
 unfold others; rw [List.mem_filter]; simp
theorem RelVK.del (h : RelVK M K) : RelVK (updA M name gver) (others K name) := by
 refine ⟨others_sorted h.so, fun x hx => ?_, fun k y hl hg => ?_⟩
 ·obtain ⟨h1, h2⟩ := others_iff.1 hx
  rw [look_upd, if_neg (fun e => h2 e.symm)]
  exact h.of_ x h1
 rw [look_upd] at hl
 split at hl
 ·cases hl; cases hg
 rename_i hne
 obtain ⟨x, hx, rfl⟩ := h.back k y hl hg
 exact ⟨x, others_iff.2 ⟨hx, fun e => hne e.symm⟩, rfl⟩
theorem RelVK.put (h : RelVK M K) {v : Val} {exp : Int} {K' : List KeyR} (hi : InsK (others K name) ⟨name, v, exp⟩ K') : RelVK (updA M name ⟨0, false, exp, v⟩) K' := by
 obtain ⟨j, hj, rfl, h1, h2⟩ := hi
 have hso := others_sorted (name := name) h.so
 have hmem : ∀ x, x ∈ (others K name).take j ++ (⟨name, v, exp⟩ : KeyR) :: (others K name).drop j ↔ x = ⟨name, v, exp⟩ ∨ x ∈ others K name := by
  intro x
  rw [List.mem_append, List.mem_cons]
  constructor
  ·rintro (hx | rfl | hx)
   ·exact .inr (List.mem_of_mem_take hx)
   ·exact .inl rfl
   exact .inr (List.mem_of_mem_drop hx)
  rintro (rfl | hx)
  ·exact .inr (.inl rfl)
  rw [← List.take_append_drop j (others K name), List.mem_append] at hx
  rcases hx with hx | hx
  ·exact .inl hx
  exact .inr (.inr hx)
 refine ⟨?_, fun x hx => ?_, fun k y hl hg => ?_⟩
 ·unfold SortedT at *
  rw [List.map_append, List.map_cons, List.map_take, List.map_drop]
  rw [List.pairwise_append, List.pairwise_cons]
  have hgt : ∀ k ∈ ((others K name).map (·.name)).drop j, Op.bytesLess name k = true := by
   intro k hk
   rw [← List.map_drop] at hk
   obtain ⟨x, hx, rfl⟩ := List.mem_map.1 hk
   have hne := (others_iff.1 (List.mem_of_mem_drop hx)).2
   have hnl : Op.bytesLess x.name name = false := by
    cases hd : (others K name).drop j with
    | nil => rw [hd] at hx; cases hx
    | cons y l =>
     have hy : (others K name)[j]? = some y := by rw [← List.head?_drop, hd]; rfl
     rw [hd] at hx
     rcases List.mem_cons.1 hx with rfl | hx
     ·exact h2 _ hy
     have hs2 : ((y :: l).map (·.name)).Pairwise (fun a b => Op.bytesLess a b = true) := by rw [← hd, List.map_drop]; exact hso.sublist (List.drop_sublist _ _)
     rw [List.map_cons, List.pairwise_cons] at hs2
     exact ge_trans (h2 _ hy) (hs2.1 _ (List.mem_map.2 ⟨x, hx, rfl⟩))
   cases hlt : Op.bytesLess name x.name with
   | true => rfl
   | false => exact absurd (lt_total _ _ hnl hlt) hne
  refine ⟨hso.sublist (List.take_sublist _ _), ⟨hgt, hso.sublist (List.drop_sublist _ _)⟩, fun a ha b hb => ?_⟩
  rw [← List.map_take] at ha
  obtain ⟨x, hx, rfl⟩ := List.mem_map.1 ha
  have hxn := h1 x hx
  rcases List.mem_cons.1 hb with rfl | hb
  ·exact hxn
  exact lt_trans _ _ _ hxn (hgt b hb)
 ·rw [look_upd]
  rcases (hmem x).1 hx with rfl | hx
  ·rw [if_pos rfl]
  obtain ⟨h3, h4⟩ := others_iff.1 hx
  rw [if_neg (fun e => h4 e.symm)]
  exact h.of_ x h3
 rw [look_upd] at hl
 split at hl
 ·rename_i e
  exact ⟨⟨name, v, exp⟩, (hmem _).2 (.inl rfl), e⟩
 rename_i hne
 obtain ⟨x, hx, rfl⟩ := h.back k y hl hg
 exact ⟨x, (hmem _).2 (.inr (others_iff.2 ⟨hx, fun e => hne e.symm⟩)), rfl⟩
theorem RelVK.names (h : RelVK M K) (hnd : (M.map (·.1)).Nodup) : namesT M clk = namesR K clk := by
 have hle : ∀ a b : List UInt8, leB a b = !Op.bytesLess b a := by
  intro a b
  rw [bytesLess_eq, leB, ← decide_not]
  exact decide_eq_decide.2 List.not_lt.symm
 refine sorted_ext ?_ ?_ fun k => ?_
 ·unfold namesT
  have hp : ((M.map (·.1)).mergeSort leB).Pairwise (fun a b => leB a b = true) := List.pairwise_mergeSort (fun a b c h1 h2 => by simp only [leB, decide_eq_true_eq] at *; exact List.le_trans h1 h2) (fun a b => by simp only [leB, Bool.or_eq_true, decide_eq_true_eq]; exact List.le_total a b) _
  have hn : ((M.map (·.1)).mergeSort leB).Nodup := ((List.mergeSort_perm _ _).nodup_iff).2 hnd
  refine List.Pairwise.filter _ ((hp.and hn).imp fun {a b} hab => ?_)
  obtain ⟨h1, h2⟩ := hab
  rw [hle] at h1
  cases h3 : Op.bytesLess a b with
  | true => rfl
  | false => exact absurd (lt_total _ _ h3 (by simpa using h1)) h2
 ·unfold namesR
  exact h.so.sublist (List.Sublist.map _ List.filter_sublist)
 unfold namesT namesR
 rw [List.mem_filter, List.mem_map]
 have hmk : k ∈ (M.map (·.1)).mergeSort leB ↔ lookA M k ≠ none := by
  simp only [List.mem_mergeSort, ne_eq, look_none, Classical.not_not]
 rw [hmk]
 constructor
 ·rintro ⟨h1, h2⟩
  cases hl : lookA M k with
  | none => exact absurd hl h1
  | some y =>
   unfold deadNow at h2
   rw [hl] at h2
   simp only [Bool.not_not] at h2
   obtain ⟨x, hx, -⟩ := h.alive hl h2
   obtain ⟨h3, h4, h5⟩ := getK_mem hx
   exact ⟨x, List.mem_filter.2 ⟨h3, h5⟩, h4⟩
 rintro ⟨x, hx, rfl⟩
 obtain ⟨h1, h2⟩ := List.mem_filter.1 hx
 have h3 := h.of_ x h1
 refine ⟨by rw [h3]; simp, ?_⟩
 unfold deadNow
 rw [h3]
 simp only [Bool.not_not]
 rw [alive_live]; exact h2
end
theorem keep_ok {M M' : List (List UInt8 × Ver)} {clk exp ec : Int} {key : List UInt8} {x : Val} (hk : key.length ≤ 256) (hp : FullV x → PutOk key x exp) (h : KeepI M clk key x exp ec M') : ec = 0 ∧ ((FullV x ∧ M' = updA M key ⟨0, false, exp, x⟩) ∨ (¬ FullV x ∧ DeadM M clk key ∧ M' = M) ∨ (¬ FullV x ∧ ¬ DeadM M clk key ∧ M' = updA M key gver)) := by
 rcases h with ⟨h1, -, h2, h3⟩ | ⟨h1, h2, -⟩ | ⟨h1, h2, h3, h4⟩ | ⟨h1, ⟨y, h2, h3⟩, ⟨-, h4, h5⟩ | ⟨h4, -⟩⟩
 ·exact ⟨h2, .inl ⟨h1, h3⟩⟩
 ·exact absurd (hp h1) h2
 ·exact ⟨h3, .inr (.inl ⟨h1, h2, h4⟩)⟩
 ·exact ⟨h4, .inr (.inr ⟨h1, (fun hd => by rw [hd y h2] at h3; cases h3), h5⟩)⟩
 omega
theorem rel_step {M M' : List (List UInt8 × Ver)} {K K' : List KeyR} {clk exp : Int} {key : List UInt8} {x : Val} (hR : RelVK M K) (hm : (FullV x ∧ M' = updA M key ⟨0, false, exp, x⟩) ∨ (¬ FullV x ∧ DeadM M clk key ∧ M' = M) ∨ (¬ FullV x ∧ ¬ DeadM M clk key ∧ M' = updA M key gver)) (hk : PutK K clk key x exp K') : RelVK M' K' := by
 rcases hk with ⟨hf, rfl⟩ | ⟨hf, hi⟩
 ·rcases hm with ⟨h, -⟩ | ⟨-, hd, rfl⟩ | ⟨-, hd, rfl⟩
  ·exact absurd h hf
  ·unfold delK; rw [hR.free hd]; exact hR
  have : (getK K clk key).isSome = true := by
   cases hg : getK K clk key with
   | some x => rfl
   | none => exact absurd (hR.dead hg) hd
  unfold delK; rw [this]; exact hR.del
 rcases hm with ⟨-, rfl⟩ | ⟨h, -⟩ | ⟨h, -⟩
 ·exact hR.put hi
 ·exact absurd hf h
 exact absurd hf h
structure KeysOk (M : List (List UInt8 × Ver)) (i : Nat) : Prop where
 nd : (M.map (·.1)).Nodup
 len : M.length ≤ i
 sh : ∀ k ∈ M.map (·.1), k.length ≤ 256
theorem KeysOk.upd {M : List (List UInt8 × Ver)} {i : Nat} (h : KeysOk M i) {k : List UInt8} (hk : k.length ≤ 256) (y : Ver) : KeysOk (updA M k y) (i + 1) := by
 refine ⟨by rw [updA_keys]; exact addKey_nodup h.nd, by have := updA_len M k y; have := h.len; omega, fun k9 hk9 => ?_⟩
 rw [updA_keys] at hk9
 unfold addKey at hk9
 split at hk9
 ·exact h.sh k9 hk9
 rcases List.mem_append.1 hk9 with h9 | h9
 ·exact h.sh k9 h9
 rw [List.mem_singleton.1 h9]; exact hk
theorem KeysOk.step {M M' : List (List UInt8 × Ver)} {i : Nat} {clk exp : Int} {key : List UInt8} {x : Val} (h : KeysOk M i) (hk : key.length ≤ 256) (hm : (FullV x ∧ M' = updA M key ⟨0, false, exp, x⟩) ∨ (¬ FullV x ∧ DeadM M clk key ∧ M' = M) ∨ (¬ FullV x ∧ ¬ DeadM M clk key ∧ M' = updA M key gver)) : KeysOk M' (i + 1) := by
 rcases hm with ⟨-, rfl⟩ | ⟨-, -, rfl⟩ | ⟨-, -, rfl⟩
 ·exact h.upd hk _
 ·exact ⟨h.nd, by have := h.len; omega, h.sh⟩
 exact h.upd hk _
section
variable {M : List (List UInt8 × Ver)} {clk kd : Int} {key : List UInt8} {y : Ver} {ec : Int} {k : KeyR}
end
def vText (s : List UInt8) : Val := ⟨1, s, [], [], []⟩
theorem vText_full {s : List UInt8} : FullV (vText s) := .inl rfl
theorem vText_put {k s : List UInt8} (hk : k.length ≤ 256) (hs : s.length ≤ 4096) : PutOk k (vText s) 0 := ⟨hk, .inl ⟨rfl, hs, rfl, rfl, rfl⟩, by omega, by omega⟩
theorem vText_at {B : Base} {s : List UInt8} : ValAt B (vText s) (vN) (vN) (vN) :=
 ⟨⟨none, 0, rfl, ⟨Nat.le_refl _, Nat.zero_le _, fun _ => rfl⟩, rdV_nil⟩, ⟨none, 0, rfl, ⟨Nat.le_refl _, Nat.zero_le _, fun _ => rfl⟩, rdV_nil⟩, ⟨none, 0, rfl, ⟨Nat.le_refl _, Nat.zero_le _, fun _ => rfl⟩, rdV_nil⟩, Nat.zero_le _, Nat.zero_le _, Nat.zero_le _⟩
theorem ck_put {M M' : List (List UInt8 × Ver)} {K K' : List KeyR} {i : Nat} {clk ec : Int} {k s : List UInt8} (hR : RelVK M K) (hKO : KeysOk M i) (hk : k.length ≤ 256) (hs : s.length ≤ 4096) (hkp : KeepI M clk k (vText s) 0 ec M') (hi : InsK (others K k) ⟨k, vText s, 0⟩ K') : ec = 0 ∧ RelVK M' K' ∧ KeysOk M' (i + 1) := by
 obtain ⟨h1, hm⟩ := keep_ok hk (fun _ => vText_put hk hs) hkp
 exact ⟨h1, rel_step hR hm (.inr ⟨vText_full, hi⟩), hKO.step hk hm⟩
def ckA : List KeyR := [⟨[97], vText [49], 0⟩]
def ckB : List KeyR := [⟨[97], vText [49], 0⟩, ⟨[98], vText [50], 0⟩]
def ckC : List KeyR := [⟨[97], vText [49], 0⟩, ⟨[98], vText [50], 0⟩, ⟨[99], vText [51], 0⟩]
theorem ins_A : InsK (others [] [97]) ⟨[97], vText [49], 0⟩ ckA := ⟨0, Nat.le_refl _, rfl, fun x h => (by cases h), fun x h => (by cases h)⟩
theorem ins_B : InsK (others ckA [98]) ⟨[98], vText [50], 0⟩ ckB := by
 rw [show others ckA [98] = ckA from rfl]
 exact ⟨1, Nat.le_refl _, rfl, by decide, fun x h => (by cases h)⟩
theorem ins_C : InsK (others ckB [99]) ⟨[99], vText [51], 0⟩ ckC := by
 rw [show others ckB [99] = ckB from rfl]
 exact ⟨2, Nat.le_refl _, rfl, by decide, fun x h => (by cases h)⟩
theorem ck_names {M : List (List UInt8 × Ver)} (hR : RelVK M ckC) (hKO : KeysOk M 3) : namesT M 0 = [[97], [98], [99]] := (hR.names hKO.nd).trans (by decide)
theorem ck_scan1 {r : Rp} (h : ScanR [[97], [98], [99]] [[48], wCOUNT, [50]] r) : r = rList [rStr [50], rStrs [[97], [98]]] := by
 obtain ⟨b, hb, rfl⟩ := scan_count (names := [[97], [98], [99]]) (a := 0) (c := 2) (by decide) (by decide) (by decide) (by decide) (by rw [itoa_small 0 (by decide), itoa_small 2 (by decide)]; exact h)
 obtain rfl : b = 2 := hb
 rw [show (((if 2 < [[97], [98], ([99] : List UInt8)].length then 2 else 0 : Nat)) : Int) = ((2 : Nat) : Int) from rfl, itoa_small 2 (by decide)]
 rfl
theorem ck_scan2 {r : Rp} (h : ScanR [[97], [98], [99]] [[50], wCOUNT, [50]] r) : r = rList [rStr [48], rStrs [[99]]] := by
 obtain ⟨b, hb, rfl⟩ := scan_count (names := [[97], [98], [99]]) (a := 2) (c := 2) (by decide) (by decide) (by decide) (by decide) (by rw [itoa_small 2 (by decide)]; exact h)
 obtain rfl : b = 3 := hb
 rw [show (((if 3 < [[97], [98], ([99] : List UInt8)].length then 3 else 0 : Nat)) : Int) = ((0 : Nat) : Int) from rfl, itoa_small 0 (by decide)]
 rfl
theorem rp_two {B : Base} {s : List UInt8} {l : List (List UInt8)} {cs : List Value} (h : RpAt B (rList [rStr s, rStrs l]) cs) : ∃ b off c v0 la lc, cs = rpCells 5 [] 0 (.slice (some ⟨b, off, none⟩) 2 c) ∧ Reads B [] b (off + 0 * 4) (rpCells 3 s 0 v0) ∧ v0.cells = #[v0] ∧ v0.oneCell' = true ∧ Reads B [] b (off + 1 * 4) (rpCells 5 [] 0 (.slice la l.length lc)) ∧ RpAt B (rStrs l) (rpCells 5 [] 0 (.slice la l.length lc)) ∧ (∀ (i : Nat) x, l[i]? = some x → ∃ b2 off2 v2, la = some ⟨b2, off2, none⟩ ∧ v2.cells = #[v2] ∧ v2.oneCell' = true ∧ Reads B [] b2 (off2 + i * 4) (rpCells 3 x 0 v2)) := by
 simp only [rList, RpAt] at h
 obtain ⟨v, xs, rfl, ⟨ra, rc, rfl, hok, hr⟩, hs⟩ := h
 obtain ⟨b, off, v0, y0, rfl, h0, -, hr0⟩ := hs.reads (i := 0) hr rfl
 obtain ⟨b', off', v1, y1, e1, h1, hs1, hr1⟩ := hs.reads (i := 1) hr (show [rStr s, rStrs l][1]? = some (Rp.mk 5 [] 0 (l.map rStr)) from rfl)
 cases e1
 have hR : RpAt B (rStrs l) (rpCells 5 [] 0 v1) := rpAt_of h1 hs1
 obtain ⟨la, lc, rfl, -, hl⟩ := h1
 rw [List.length_map] at hr1 hR
 refine ⟨b, off, rc, v0, la, lc, rfl, hr0, h0.cells, h0.one, hr1, hR, fun i x hx => ?_⟩
 obtain ⟨b2, off2, v2, y2, e2, h2, -, hr2⟩ := hs1.reads (i := i) hl (show (l.map rStr)[i]? = some (Rp.mk 3 x 0 []) by rw [List.getElem?_map, hx]; rfl)
 exact ⟨b2, off2, v2, e2, h2.cells, h2.one, hr2⟩
end Go.Proofs.YtngpmolbphinnaaGreatDoor
namespace Go.Pm
open Go.RowKit
inductive Tr (α : Type) where
 | lin (is : List α)
 | fork (x : α) (t1 : Tr α) (y : α) (t2 : Tr α)
section
variable {P : Program} {ops : Array Oper} {mem perm pre is : List Nat} {R : Act → World → Prop} {Q : Exit → Act → World → Prop} {a0 a aS : Act} {listed : Array Bool} {w w' : World} {val : Nat → Value} {Fl : List (Nat × (World → Prop))} {J : World → Prop} {i : Nat} {o : Oper} {K : Act → World → Prop}
end
section
variable {P : Program} {ops : Array Oper} {mem : List Nat} {Q : Exit → Act → World → Prop} {a0 : Act}
end
section
variable {n : Nat} {P : Program} {ops : Array Oper} {Q : Exit → Act → World → Prop} {a0 : Act} {w0 : World} {B : Base} {H : List Res}
end
section
variable {P : Program} {ops : Array Oper} {mem : List Nat} {R : Act → World → Prop} {D : List (Nat × (World → Prop)) → (World → Prop) → Act → Prop} {i : Nat} {o : Oper} {is : List (Nat × Oper)} {Fl : List (Nat × (World → Prop))} {J : World → Prop} {a : Act} {v : Value} {x y : Nat × Oper} {t1 t2 : Tr (Nat × Oper)} {G : (World → Prop) → Act → Prop} {B : Base} {H : List Res} {w' : World}
end
end Go.Pm
namespace Go.Proofs.YtngpmolbphinnaaGreatDoor
open Go.RowKit Go.Pm
theorem k3al43 : AL Tryz.prog 43 [vI 0, vS [], vN, vN, vN] := fun w => by kernel_rfl
theorem lawText26 (B : Base) (H : List Res) (w : World) (s : List UInt8) (hv : Inv B H w) :
  Calls Tryz.prog 25 #[vS s] w fun e w' => e = .returned (.agg #[vI 1, vS s, vN, vN, vN]) ∧ Inv B H w' := by
 refine cW Tryz.func25 rfl Tryz.ntmps25 ?_
 simp only [al]
 refine sK fun _ k1 => rL (sl_alloc tV (wn rfl) rfl hv k3al43 (fun b2 w3 hv => ?_))
 refine uW k1 (sK fun _ k4 => ?_)
 refine rL (uM rfl ?_)
 refine uG (.agg #[vI 1, vS s, vN, vN, vN]) rfl (ex_buildN (vs := #[(0, vI 1), (1, vS s)]) rfl (by simp only [List.map_toArray, List.map_cons, List.map_nil]; rfl) (by kernel_rfl)) ?_
 refine xS 0 rfl hv s1sz43 rfl (by exact ⟨rfl, rfl, rfl, rfl, rfl, trivial⟩) (fun w5 hv => ?_)
 simp only [zO, sp] at hv
 refine uW k4 (rR ?_)
 refine bC 0 s1wd43 hv rfl rfl rfl rfl (⟨rfl, (hv.kp [] 0 1)⟩)
open Go.Sort
theorem kHmk9 : (Tryz.prog.info? 9).map (fun i => (i.zero, i.size, i.bytes)) = some (some (vS []), 1, 16) := by kernel_rfl
theorem kHel26 : Elem Tryz.prog 26 9 (vS []) 1 16 := elem_of Tryz.underlying26 kHmk9 (by rfl) (by decide)
theorem cloneOwn1 (B : Base) (H : List Res) (w : World) (a : Addr) (n c : Nat) (xs : List Value) (hok : SliceOk (some a) n c) (hl : xs.length = n * 1) (h1 : ∀ u ∈ xs, u.oneCell' = true) (hn : n ≤ 1000000) (hr : RdV B [] (some a) xs) (hv : Inv B H w) :
  Calls Tryz.prog 73 #[.slice (some a) n c] w fun e w' => ∃ v, e = .returned v ∧ Inv B (Res.row 9 1 v n xs :: H) w' := by
 refine cW Tryz.func73 rfl Tryz.ntmps73 ?_
 simp only [al]
 refine sK fun _ k1 => rL (uA rfl ?_)
 refine uW k1 (sK fun _ k2 => ?_)
 refine sK fun _ k3 => rL (uM rfl ?_)
 refine uG (.bool false) rfl (ex_slnil Tryz.underlying26 rfl rfl rfl rfl) (uW k3 ?_)
 refine cF rfl (kS ?_)
 refine tK k2 (sK fun _ k4 => ?_)
 refine rL (sl_row0 (size := 1) tV (wn rfl) rfl hv (e := 9) (fun w => by kernel_rfl) (fun b5 w6 hv => ?_))
 refine uM rfl ?_
 refine sl_append (news := xs) tV (wn rfl) rfl rfl rfl kHel26 hv hok hl ((hr.more (Base.Le.refl _) (fun _ h => by cases h)).src hv) (h1) (by unfold maxLen; omega) (by omega) (fun rv7 w10 hv => ?_)
 obtain ⟨ra8, rc9, rfl⟩ := row_slice hv.head
 refine uA rfl (uW k4 ?_)
 refine rR (bR rfl rfl ?_)
 rw [Nat.zero_add, List.nil_append] at hv
 exact ⟨_, by rw [Nat.zero_add]; rfl, hv⟩
theorem cloneOwn (B : Base) (H : List Res) (w : World) (ad : Option Addr) (n c : Nat) (xs : List Value) (hok : SliceOk ad n c) (hl : xs.length = n * 1) (h1 : ∀ u ∈ xs, u.oneCell' = true) (hn : n ≤ 1000000) (hr : RdV B [] ad xs) (hv : Inv B H w) :
  Calls Tryz.prog 73 #[.slice ad n c] w fun e w' => ∃ v, e = .returned v ∧ Inv B (Res.row 9 1 v n xs :: H) w' := by
 cases ad with
 | none =>
  have hc0 : c = 0 := hok.nil rfl
  have hn0 : n = 0 := by have := hok.le; omega
  subst hc0 hn0
  have hx : xs = [] := List.eq_nil_of_length_eq_zero (by simpa using hl)
  subst hx
  refine (cloneTexts0 B H w hv).mono ?_
  rintro e w' ⟨rfl, hv⟩
  exact ⟨_, rfl, hv.rowNil _ _⟩
 | some a => exact cloneOwn1 B H w a n c xs hok hl h1 hn hr hv
theorem ckSortedA (B : Base) (H : List Res) (w : World) (xa : Option Addr) (xc : Nat) (xs : List (List UInt8)) (hokx : SliceOk xa xs.length xc) (hrx : RdV B [] xa (textCells xs)) (hmx : xs.length ≤ 1000000) (hv : Inv B H w) :
  Calls Tryz.prog 92 #[.bool true, .slice xa xs.length xc] w fun e w' => ∃ oa oc, e = .returned (.tuple #[.slice oa xs.length oc, vI 0]) ∧ Inv B (Res.row 9 1 (.slice oa xs.length oc) xs.length (textCells (xs.mergeSort leB)) :: H) w' := by
 refine cW Tryz.func92 rfl Tryz.ntmps92 ?_
 simp only [al]
 refine sK fun _ k1 => rL (sl_box (L := [.slice xa xs.length xc]) tV (wn rfl) rfl rfl hv (fun w => by kernel_rfl) (fun b2 w3 hv => ?_))
 refine uA rfl (uA rfl ?_)
 refine uW k1 (sK fun _ k4 => ?_)
 refine sK fun _ k5 => rL (uM rfl ?_)
 refine uW k5 (cT rfl ?_)
 refine sK fun _ k6 => rL (uL _ rfl (run_load1 s1na26 (hv.load 0 0 rfl rfl)) ?_)
 refine xC s1callable73 rfl ((cloneOwn B _ _ xa xs.length xc (textCells xs) hokx (textCells_len _) (textCells_one _) hmx hrx hv).mono ?_) rfl
 rintro e w7 ⟨v9, rfl, hv⟩
 refine ⟨_, rfl, ?_⟩
 obtain ⟨va, vc, rfl⟩ := row_slice hv.head
 refine xV 1 (.slice va xs.length vc) rfl hv s1sz26 rfl rfl (fun w8 hv => ?_)
 simp only [zS, zO, sp] at hv
 refine uW k6 (sK fun _ k9 => ?_)
 refine rL (uL _ rfl (run_load1 s1na26 (hv.load 1 0 rfl rfl)) ?_)
 refine xC x6callable103 rfl ((sortTexts B _ _ _ xs hmx hv).mono ?_) rfl
 rintro e w10 ⟨rfl, hv⟩
 refine ⟨_, rfl, uW k9 ?_⟩
 refine sK fun _ k11 => rL (uL _ rfl (run_load1 s1na26 (hv.load 1 0 rfl rfl)) ?_)
 refine uA rfl (uA rfl ?_)
 refine uW k11 (rR ?_)
 refine tR (bodyPost_ret (results_tmp2 rfl _ _ _) rfl ?_)
 exact ⟨va, vc, rfl, (hv.kp [] 1 1)⟩
end Go.Proofs.YtngpmolbphinnaaGreatDoor
namespace Go.Proofs
open Go.Shelf
def Tryz.laysSF_ren : Go.Shelf.Ren := ⟨fun | 6 => 104 | 15 => 116 | 14 => 117 | 28 => 139 | 29 => 140 | 20 => 141 | 21 => 142 | 22 => 143 | 23 => 144 | 24 => 145 | 25 => 146 | 26 => 147 | 27 => 148 | 46 => 165 | 47 => 160 | 48 => 161 | 49 => 166 | 50 => 167 | 57 => 176 | n => n, fun | 22 => 145 | 24 => 3 | 25 => 195 | 3 => 3 | 39 => 209 | 0 => 0 | 53 => 231 | 55 => 110 | 4 => 4 | 46 => 225 | 45 => 224 | 50 => 148 | 5 => 5 | 9 => 9 | 66 => 246 | 70 => 250 | 76 => 258 | 77 => 259 | n => n, fun | n => n⟩
theorem Tryz.laysSF : Go.Proofs.SlLaysF.n6 Tryz.prog Tryz.laysSF_ren := {
 mixed := by kernel_rfl
 f6 := ⟨Tryz.f104.name, by decide, Tryz.func104.trans (congrArg some (by kernel_rfl))⟩
 f14 := ⟨Tryz.f117.name, by decide, Tryz.func117.trans (congrArg some (by kernel_rfl))⟩
 f15 := Tryz.func116.trans (congrArg some (by kernel_rfl))
 f20 := ⟨Tryz.f141.name, by decide, Tryz.func141.trans (congrArg some (by kernel_rfl))⟩
 f21 := ⟨Tryz.f142.name, by decide, Tryz.func142.trans (congrArg some (by kernel_rfl))⟩
 f22 := ⟨Tryz.f143.name, by decide, Tryz.func143.trans (congrArg some (by kernel_rfl))⟩
 f23 := ⟨Tryz.f144.name, by decide, Tryz.func144.trans (congrArg some (by kernel_rfl))⟩
 f24 := ⟨Tryz.f145.name, by decide, Tryz.func145.trans (congrArg some (by kernel_rfl))⟩
 f25 := ⟨Tryz.f146.name, by decide, Tryz.func146.trans (congrArg some (by kernel_rfl))⟩
 f26 := ⟨Tryz.f147.name, by decide, Tryz.func147.trans (congrArg some (by kernel_rfl))⟩
 f27 := ⟨Tryz.f148.name, by decide, Tryz.func148.trans (congrArg some (by kernel_rfl))⟩
 f28 := Tryz.func139.trans (congrArg some (by kernel_rfl))
 f29 := Tryz.func140.trans (congrArg some (by kernel_rfl))
 f46 := ⟨Tryz.f165.name, by decide, Tryz.func165.trans (congrArg some (by kernel_rfl))⟩
 f47 := Tryz.func160.trans (congrArg some (by kernel_rfl))
 f48 := Tryz.func161.trans (congrArg some (by kernel_rfl))
 f49 := ⟨Tryz.f166.name, by decide, Tryz.func166.trans (congrArg some (by kernel_rfl))⟩
 f50 := ⟨Tryz.f167.name, by decide, Tryz.func167.trans (congrArg some (by kernel_rfl))⟩
 f57 := ⟨Tryz.f176.name, by decide, Tryz.func176.trans (congrArg some (by kernel_rfl))⟩
 t0 := Tryz.underlying0
 a0 := Tryz.isAgg0
 z0 := Tryz.sizeOf0
 v0 := Tryz.zeroValue0
 t3 := Tryz.underlying3
 a3 := Tryz.isAgg3
 z3 := Tryz.sizeOf3
 v3 := Tryz.zeroValue3
 t4 := Tryz.underlying4
 a4 := Tryz.isAgg4
 z4 := Tryz.sizeOf4
 v4 := Tryz.zeroValue4
 t5 := Tryz.underlying5
 a5 := Tryz.isAgg5
 z5 := Tryz.sizeOf5
 v5 := Tryz.zeroValue5
 t9 := Tryz.underlying9
 a9 := Tryz.isAgg9
 z9 := Tryz.sizeOf9
 v9 := Tryz.zeroValue9
 t22 := Tryz.underlying145
 a22 := Tryz.isAgg145
 z22 := Tryz.sizeOf145
 v22 := Tryz.zeroValue145
 a24 := Tryz.isAgg3
 z24 := Tryz.sizeOf3
 t25 := Tryz.underlying195
 a25 := Tryz.isAgg195
 z25 := Tryz.sizeOf195
 v25 := Tryz.zeroValue195
 t39 := Tryz.underlying209
 a39 := Tryz.isAgg209
 z39 := Tryz.sizeOf209
 v39 := Tryz.zeroValue209
 t45 := Tryz.underlying224
 a45 := Tryz.isAgg224
 z45 := Tryz.sizeOf224
 v45 := Tryz.zeroValue224
 t46 := Tryz.underlying225
 a46 := Tryz.isAgg225
 z46 := Tryz.sizeOf225
 v46 := Tryz.zeroValue225
 t50 := Tryz.underlying148
 a50 := Tryz.isAgg148
 z50 := Tryz.sizeOf148
 v50 := Tryz.zeroValue148
 t53 := Tryz.underlying231
 a53 := Tryz.isAgg231
 z53 := Tryz.sizeOf231
 v53 := Tryz.zeroValue231
 t55 := Tryz.underlying110
 a55 := Tryz.isAgg110
 z55 := Tryz.sizeOf110
 v55 := Tryz.zeroValue110
 t66 := Tryz.underlying246
 a66 := Tryz.isAgg246
 z66 := Tryz.sizeOf246
 v66 := Tryz.zeroValue246
 t70 := Tryz.underlying250
 a70 := Tryz.isAgg250
 z70 := Tryz.sizeOf250
 v70 := Tryz.zeroValue250
 t76 := Tryz.underlying258
 a76 := Tryz.isAgg258
 z76 := Tryz.sizeOf258
 v76 := Tryz.zeroValue258
 t77 := Tryz.underlying259
 a77 := Tryz.isAgg259
 z77 := Tryz.sizeOf259
 v77 := Tryz.zeroValue259 }
def Tryz.laysCmp_ren : Go.Shelf.Ren := ⟨fun | 5 => 107 | 7 => 118 | n => n, fun | 22 => 3 | 3 => 3 | 4 => 4 | n => n, fun | n => n⟩
theorem Tryz.laysCmp : Go.Proofs.SlLaysC2.n5 Tryz.prog Tryz.laysCmp_ren := {
 mixed := by kernel_rfl
 f5 := ⟨Tryz.f107.name, by decide, Tryz.func107.trans (congrArg some (by kernel_rfl))⟩
 f7 := ⟨Tryz.f118.name, by decide, Tryz.func118.trans (congrArg some (by kernel_rfl))⟩
 t3 := Tryz.underlying3
 a3 := Tryz.isAgg3
 z3 := Tryz.sizeOf3
 v3 := Tryz.zeroValue3
 t4 := Tryz.underlying4
 a4 := Tryz.isAgg4
 z4 := Tryz.sizeOf4
 v4 := Tryz.zeroValue4
 t22 := Tryz.underlying3
 a22 := Tryz.isAgg3
 z22 := Tryz.sizeOf3
 v22 := Tryz.zeroValue3 }
def Tryz.laysCs_ren : Go.Shelf.Ren := ⟨fun | 106 => 108 | 213 => 119 | 265 => 149 | n => n, fun | 9 => 9 | 3 => 3 | n => n, fun | n => n⟩
theorem Tryz.laysCs : Go.Proofs.Lays.n106 Tryz.prog Tryz.laysCs_ren := {
 mixed := by kernel_rfl
 f106 := Tryz.func108.trans (congrArg some (by kernel_rfl))
 f213 := Tryz.func119.trans (congrArg some (by kernel_rfl))
 f265 := Tryz.func149.trans (congrArg some (by kernel_rfl))
 t3 := Tryz.underlying3
 a3 := Tryz.isAgg3
 z3 := Tryz.sizeOf3
 v3 := Tryz.zeroValue3
 t9 := Tryz.underlying9
 a9 := Tryz.isAgg9
 z9 := Tryz.sizeOf9
 v9 := Tryz.zeroValue9 }
end Go.Proofs
namespace Go.Pm
open Go.RowKit Go.Sort Go.Proofs
def GrowR (w w' : World) : Prop := ∃ (q : Nat) (os : Array Obj), w' = grow (w.drewN q) os
theorem GrowR.refl (w : World) : GrowR w w := ⟨0, #[], by simp [grow, World.drewN]⟩
theorem GrowR.trans {w w' w'' : World} (h : GrowR w w') (h2 : GrowR w' w'') : GrowR w w'' := by
 obtain ⟨q, os, rfl⟩ := h
 obtain ⟨q2, os2, rfl⟩ := h2
 exact ⟨q + q2, os ++ os2, by simp [grow, World.drewN, Array.append_assoc, Nat.add_assoc]⟩
theorem GrowR.alloc (w : World) (o : Obj) : GrowR w (w.alloc o) := ⟨0, #[o], by cases w; simp only [World.alloc, grow, World.drewN, Nat.add_zero]; congr 1⟩
theorem GrowR.ext {w w' : World} (h : GrowR w w') : Ext w w' := by
 obtain ⟨q, os, rfl⟩ := h
 exact ⟨rfl, rfl, rfl, by simp [grow, World.drewN], fun k hk => by simp [grow, World.drewN, Array.getElem?_append, hk]⟩
instance : EOk GrowR := ⟨GrowR.refl, fun w => ⟨1, #[], by rw [grow_empty]; rfl⟩⟩
def JG (B : Base) (H : List Res) (w0 : World) : World → Prop := fun w => Inv B H w ∧ GrowR w0 w
theorem JG.st {B : Base} {H : List Res} {w0 : World} : ∀ w w', JG B H w0 w → GrowR w w' → JG B H w0 w' := fun _ _ h he => ⟨h.1.ext he.ext, h.2.trans he⟩
section
variable {P : Program} {ops : Array Oper} {mem : List Nat} {R : Act → World → Prop} {i : Nat} {o : Oper} {is : List (Nat × Oper)} {Fl : List (Nat × (World → Prop))} {a : Act} {v : Value} {B : Base} {H : List Res} {w w' w0 : World}
theorem dVG (hv : Inv B H w') (hg : GrowR w0 w') (hf : FlOk ops i (JG B H w0) Fl) (h : DWE GrowR P ops mem R is Fl (JG B H w0) (a.put o.dst v)) : JNE GrowR P ops mem R i o is Fl a ([] ++ [v]) w' := ⟨v, rfl, JG B H w0, JG.st, ⟨hv, hg⟩, hf, h⟩
theorem rWG {Q : Exit → Act → World → Prop} {a0 : Act} {n : Nat} {l : List Oper} {id : Nat} (hm : P.follows .mixedOrders = true) (mem perm : List Nat) (k : Nat) (hsize : a0.tmps.size = k) (hck : okDW l.toArray mem perm k = true) (hv : Inv B H w0)
  (h : DWE GrowR P l.toArray mem (Q .normal) (qm l perm) [] (JG B H w0) a0) : (Code.region id l.toArray true).wpIn Fence.wide n P Q a0 w0 := rWE hm mem perm k hsize hck JG.st ⟨hv, GrowR.refl _⟩ h
theorem mem_row2E {J : List Value → World → Prop} {Q : Exit → Act → World → Prop} {vals : List Value} {t e : TypeId} {x y : Operand} {v1 v2 : Value} (hg : Region.wanted o (yielded ops a.tmps) = true) (ho : o.op = .buildSlice t 2 #[(0, x), (1, y)]) (hx : a.eval x = v1) (hy : a.eval y = v2) (hv : Inv B H w)
  (hr : ∀ w, (Instr.buildSlice t 2 #[(0, v1), (1, v2)]).run P w = .ok (.slice (some ⟨w.heap.size, 0, none⟩) 2 2) (w.alloc (.cells [v1, v2].toArray e)))
  (h : ∀ b w', Inv B (Res.cell b [v1, v2] e :: H) w' → GrowR w w' → J (vals ++ [.slice (some ⟨b, 0, none⟩) 2 2]) w') : StepMem P ops J Q o a w vals :=
 Ex.mem (by unfold Ex; simp [execOp, ho, hx, hy, hr]) hg (h _ _ (hv.alloc [v1, v2] e) (GrowR.alloc w _))
end
theorem cmpB_lt : ∀ a b : List UInt8, Lib.compareBytes a b < 0 ↔ Op.bytesLess a b = true
 | [], [] => by simp [Lib.compareBytes, Op.bytesLess]
 | [], _ :: _ => by simp [Lib.compareBytes, Op.bytesLess]
 | _ :: _, [] => by simp [Lib.compareBytes, Op.bytesLess]
 | a :: x, b :: y => by
  have ih := cmpB_lt x y
  simp only [Lib.compareBytes, Op.bytesLess, Bool.or_eq_true, Bool.and_eq_true, decide_eq_true_eq, beq_iff_eq]
  by_cases h1 : a < b
  ·simp [h1]
  by_cases h2 : b < a
  ·have h3 : ¬ a = b := fun e => by subst e; exact h1 h2
   simp [h1, h2, h3]
  have h3 : a = b := UInt8.le_antisymm (UInt8.not_lt.1 h2) (UInt8.not_lt.1 h1)
  subst h3
  simp [h1, ih]
def cmpNT (n m : Int) (s t : List UInt8) : Int := if Lib.compareInt n m ≠ 0 then Lib.compareInt n m else Lib.compareBytes s t
theorem cmpNT_lt {n m : Int} {s t : List UInt8} : cmpNT n m s t < 0 ↔ n < m ∨ (n = m ∧ Op.bytesLess s t = true) := by
 rw [← cmpB_lt]
 unfold cmpNT Lib.compareInt
 by_cases h1 : n < m
 ·simp [h1]
 by_cases h2 : n > m
 ·have h3 : ¬ n = m := by omega
  simp [h1, h2, h3]
 have h3 : n = m := by omega
 simp [h3]
theorem ltNT {α : Type} (f : α → Int) (g : α → List UInt8) (x y : α) : ltOf (fun x y => cmpNT (f x) (f y) (g x) (g y)) x y = true ↔ f x < f y ∨ (f x = f y ∧ Op.bytesLess (g x) (g y) = true) := by
 unfold ltOf
 rw [decide_eq_true_iff]
 exact cmpNT_lt
theorem swoNT {α : Type} (f : α → Int) (g : α → List UInt8) : SWO (ltOf fun x y => cmpNT (f x) (f y) (g x) (g y)) where
 irrefl x := by
  refine Bool.eq_false_iff.2 fun h => ?_
  rcases (ltNT f g x x).1 h with h | ⟨-, h⟩
  ·omega
  exact absurd h (by rw [lt_irrefl]; decide)
 trans x y z h1 h2 := by
  rcases (ltNT f g x y).1 h1 with h1 | ⟨h1, h3⟩ <;> rcases (ltNT f g y z).1 h2 with h2 | ⟨h2, h4⟩ <;> refine (ltNT f g x z).2 ?_
  ·exact .inl (by omega)
  ·exact .inl (by omega)
  ·exact .inl (by omega)
  exact .inr ⟨by omega, lt_trans _ _ _ h3 h4⟩
 ntrans x y z h1 h2 := by
  refine Bool.eq_false_iff.2 fun h => ?_
  have n1 : ¬ (f x < f y ∨ (f x = f y ∧ Op.bytesLess (g x) (g y) = true)) := fun h9 => by rw [(ltNT f g x y).2 h9] at h1; cases h1
  have n2 : ¬ (f y < f z ∨ (f y = f z ∧ Op.bytesLess (g y) (g z) = true)) := fun h9 => by rw [(ltNT f g y z).2 h9] at h2; cases h2
  rcases (ltNT f g x z).1 h with h | ⟨h, h3⟩
  ·omega
  have e1 : f x = f y := by omega
  have e2 : f y = f z := by omega
  have b1 : Op.bytesLess (g x) (g y) = false := Bool.eq_false_iff.2 fun h9 => n1 (.inr ⟨e1, h9⟩)
  have b2 : Op.bytesLess (g y) (g z) = false := Bool.eq_false_iff.2 fun h9 => n2 (.inr ⟨e2, h9⟩)
  by_cases e : g y = g x
  ·rw [e] at b2; rw [b2] at h3; cases h3
  have b3 : Op.bytesLess (g y) (g x) = true := by
   cases h4 : Op.bytesLess (g y) (g x) with
   | true => rfl
   | false => exact absurd (lt_total _ _ h4 b1) e
  rw [lt_trans _ _ _ b3 h3] at b2; cases b2
section
variable {α : Type} [Inhabited α] (f : α → Int)
theorem map_get {d : Array α} {j : Nat} (h : j < d.size) : (d.map f)[j]! = f d[j]! := by
 rw [getElem!_pos _ j (by simpa using h), getElem!_pos _ j h, Array.getElem_map]
theorem putRow_map (w : World) (b off : Nat) (d : Array α) : putRow (fun x => Value.int .i64 (f x)) w b off d = putRow (Value.int .i64) w b off (d.map f) := by
 unfold putRow
 congr 1
 funext c
 unfold putCells
 congr 1
 funext k x
 rw [Array.size_map]
 split
 ·rename_i h; rw [map_get f (by omega)]
 rfl
omit [Inhabited α] in
theorem map_toL (d : Array α) : d.map f = (d.toList.map f).toArray := Array.ext' (by rw [Array.toList_map])
theorem holds_map {w : World} {b off : Nat} {d : Array α} (h : Holds (Value.int .i64) w b off (d.map f)) : Holds (fun x => Value.int .i64 (f x)) w b off d := fun j hj => by
 have := h j (by simpa using hj)
 rw [map_get f hj] at this
 exact this
end
end Go.Pm
namespace Go.Proofs.YtngpmolbphinnaaGreatDoor
open Go.RowKit Go.Pm
section
variable {x : Val} {now till e : Int} {M M' : List (List UInt8 × Ver)} {r : Rp} {k : List UInt8}
end
end Go.Proofs.YtngpmolbphinnaaGreatDoor
namespace Go.Pm
open Go.RowKit Go.Sort
section
variable {s fresh out : List (List UInt8)} {i j : Nat} {x z : List UInt8}
end
end Go.Pm
namespace Go.Proofs.YtngpmolbphinnaaGreatDoor
open Go.RowKit Go.Pm Go.Sort
section
variable {xs out ws : List (List UInt8)} {M M' : List (List UInt8 × Ver)} {clk e : Int} {r : Rp} {k : List UInt8} {s : WishS}
end
end Go.Proofs.YtngpmolbphinnaaGreatDoor
