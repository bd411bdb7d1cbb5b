/- clist: popFirst, remove, set, span. -/
import Derived.Test.YtmhdpjifhfoabaaGreatDoorClFauC
import Derived.Test.YtmhdpjifhfoabaaGreatDoorClFauM
import Derived.Test.YtmhdpjifhfoabaaGreatDoorClFauJ
import Derived.Test.YtmhdpjifhfoabaaGreatDoorClFauB
import Derived.Test.YtmhdpjifhfoabaaGreatDoorRows
import Derived.Test.YtmhdpjifhfoabaaGreatDoorClFauF
set_option maxRecDepth 100000
set_option maxHeartbeats 16000000
set_option synthInstance.maxSize 4096
set_option synthInstance.maxHeartbeats 400000
namespace Go.Proofs.YtmhdpjifhfoabaaGreatDoor
open Go.RowKit Go.Pm
theorem ints_of2 {ws : Tx} {ns : List Int} {ec : Int} (h : IntsR ws ns ec) (hl : ws.length = 2) : (ec = 0 ∧ IntsR ws ns 0 ∧ ∃ a b, ns = [a, b] ∧ (-9223372036854775808 ≤ a ∧ a ≤ 9223372036854775807) ∧ (-9223372036854775808 ≤ b ∧ b ≤ 9223372036854775807)) ∨ (ec = 41 ∧ ns = [] ∧ ∃ t ∈ ws, NumP t 0 false) := by
 have h0 := h
 rcases h with ⟨h1, h2, h3⟩ | h1
 ·match ws, hl, ns, h2 with
  | [t, u], _, [a, b], _ =>
   have ha := numP_rng (h3 0 t a rfl rfl)
   have hb := numP_rng (h3 1 u b rfl rfl)
   exact .inl ⟨h1, by rw [h1] at h0; exact h0, a, b, rfl, ha, hb⟩
 exact .inr h1
theorem j4al28 : AL Tryz.prog 28 [vI 0, vS [], vI 0, vN] := fun w => by kernel_rfl
theorem j4mk9 : (Tryz.prog.info? 9).map (fun i => (i.zero, i.size, i.bytes)) = some (some (vS []), 1, 16) := by kernel_rfl
theorem j4el22 : Elem Tryz.prog 22 9 (vS []) 1 16 := elem_of Tryz.underlying22 j4mk9 (by rfl) (by decide)
theorem j4al85 : AL Tryz.prog 85 [vI 0, .bool false, vI 0, vI 0, vS [], vN, vN, vN] := fun w => by kernel_rfl
theorem clistPopFirst (B : Base) (H : List Res) (w : World) (v t m s p wb : Nat) (va : Option Addr) (vc : Nat) (sv : Value) (clk : Int) (es : List (List UInt8 × Value)) (M : List (List UInt8 × Ver)) (hM : VM B es M) (hO : OkM M) (aa : Option Addr) (ac : Nat) (args : List (List UInt8)) (hra : RdV B [] aa (textCells args)) (hoka : SliceOk aa args.length ac) (_ : args.length ≤ 10000) (key : List UInt8) (hkey : args[0]? = some key) (xa : Option Addr) (xc : Nat) (xs : Tx) (hokx : SliceOk xa xs.length xc) (hrx : RdV B [] xa (textCells xs)) (hmx : xs.length ≤ 10000) (hxl : ∀ x ∈ xs, x.length ≤ 9223372036854775807) (hN : NumB B) (hv : Inv B (Res.cell v [.iface 62 (vP t)] 36 :: txR t m s p wb va vc sv clk es :: H) w) :
  Calls Tryz.prog 46 #[.agg #[vP v, .slice aa args.length ac], .slice xa xs.length xc] w fun e w' => ∃ C es' M' r cs, B.Le C ∧ e = .returned (.agg cs.toArray) ∧ RpAt C r cs ∧ VM C es' M' ∧ CmdR M M' r ∧ Inv C (Res.cell v [.iface 62 (vP t)] 36 :: txR t m s p wb va vc sv clk es' :: H) w' := by
 refine cW Tryz.func46 rfl Tryz.ntmps46 ?_
 simp only [al]
 refine sK fun _ k1 => ?_
 obtain ⟨ab, ao, had, hrdkey⟩ := text_reads hra hkey
 subst had
 have halkey : 0 < args.length := (List.getElem?_eq_some_iff.1 hkey).1
 refine rL (sl_box (L := [vP v, .slice (some ⟨ab, ao, none⟩) args.length ac]) tV (wn rfl) rfl rfl hv (fun w => by kernel_rfl) (fun b2 w3 hv => ?_))
 simp only [zP, po]
 refine sl_alloc tV (wn rfl) rfl hv j4al28 (fun b4 w5 hv => ?_)
 refine uW k1 (sK fun _ k6 => ?_)
 refine rL (uF (.pointer (some ⟨b2, 1, none⟩)) rfl (j1fa74_1 _ _ _) ?_)
 refine uL _ rfl (run_load1 s1na22 (hv.load 1 1 rfl rfl)) ?_
 refine uG (.pointer (some ⟨ab, ao + 0, none⟩)) rfl (ex_index rfl rfl rfl (run_idx1 (k := 0) Tryz.underlying22 s9es22 (by omega))) ?_
 refine uL _ rfl (run_load1 s9na9 (hrdkey _ _ _ (Base.Le.refl _) no_res hv 0 _ rfl)) ?_
 refine sl_rowOne (v := vS key) tV (wn rfl) rfl rfl hv j4el22 rfl (fun b7 w8 hv => ?_)
 simp only [zP, po]
 obtain ⟨K9, hK9, hv, hrkK9, hokK9, -⟩ := (hv.cellRow (n := 1) (c := 1) (size := 1) rfl (by decide) (by decide)).rowBy
 refine xC j1callable76 rfl ((viewInts K9 _ _ _ 1 [key] hrkK9 (Nat.le_of_ble_eq_true rfl) (hN.more hK9) hv).mono ?_) rfl
 rintro e w18 ⟨E12, ia10, ic11, ns13, ei14, hE12, rfl, hri15, hir, hv⟩
 refine ⟨_, rfl, ?_⟩
 rcases ints_one hir with ⟨rfl, n17, rfl, hnp16⟩ | ⟨rfl, rfl, hnp16⟩
 ·refine uG (.tuple #[.slice ia10 1 ic11, vI 0]) rfl (ex_move rfl rfl) ?_
  refine uG (.slice ia10 1 ic11) rfl (ex_extract rfl rfl rfl) (uE rfl ?_)
  refine uA rfl (uA rfl ?_)
  refine uW k6 (sK fun _ k19 => ?_)
  refine sK fun _ k20 => rL (uM rfl ?_)
  refine uG (.bool false) rfl (ex_neq rfl rfl rfl (by decide)) (uW k20 ?_)
  refine cF rfl (kS ?_)
  refine tK k19 (sK fun _ k21 => ?_)
  obtain ⟨ib, io, had, hrdn17⟩ := int_reads hri15 (show [n17][0]? = some n17 from rfl)
  subst had
  have hfitn17 : -9223372036854775808 ≤ n17 ∧ n17 ≤ 9223372036854775807 := hnp16.elim (fun h => ⟨h.2.1, h.2.2.1⟩) (fun h => absurd h.1 (by decide))
  refine rL (uG (.slice (some ⟨ib, io, none⟩) 1 ic11) rfl (ex_move rfl rfl) ?_)
  refine uG (.pointer (some ⟨ib, io + 0, none⟩)) rfl (ex_index rfl rfl rfl (run_idx1 (k := 0) Tryz.underlying149 s11es149 (by omega))) ?_
  refine uL _ rfl (run_load1 s2na3 (hrdn17 _ _ _ (Base.Le.refl _) no_res hv 0 _ rfl)) (uA rfl ?_)
  refine uW k21 (sK fun _ k22 => ?_)
  refine sK fun _ k23 => rL (uM rfl ?_)
  by_cases hb24 : n17 < 1
  ·refine uG (.bool true) rfl (ex_lss rfl rfl rfl (qT hb24)) (uW k23 ?_)
   refine cT rfl (sK fun _ k25 => ?_)
   refine rL (xC rscallable25 rfl ((viewWrong E12 _ _ 44 hv).mono ?_) rfl)
   rintro e w27 ⟨s26, rfl, hv⟩
   refine ⟨_, rfl, ?_⟩
   simp only [zP, po]
   refine xS 0 rfl hv rssz28 rfl (by exact ⟨rfl, rfl, rfl, rfl, trivial⟩) (fun w28 hv => ?_)
   simp only [zO, sp] at hv
   refine uW k25 (rR ?_)
   refine tR (bC 0 rswd28 hv rfl rfl rfl rfl ?_)
   exact ⟨E12, es, M, (.mk 1 s26 0 []), _, (hK9.trans hE12), rfl, rpAt_leaf, hM.more (hK9.trans hE12), ⟨hO, fun _ => rfl⟩, (hv.kp [3, 3] 2 2)⟩
  refine uG (.bool false) rfl (ex_lss rfl rfl rfl (qF hb24)) (uW k23 ?_)
  refine cF rfl (kS ?_)
  refine tK k22 (sK fun _ k29 => ?_)
  refine sK fun _ k30 => rL (uM rfl ?_)
  refine uM rfl ?_
  refine uG (vI (xs.length : Int)) rfl (ex_len0 Tryz.underlying22 rfl rfl) ?_
  by_cases hb31 : n17 ≥ (xs.length : Int)
  ·refine uG (.bool true) rfl (ex_geq rfl rfl rfl (qT hb31)) (uW k30 ?_)
   refine cT rfl (sK fun _ k32 => ?_)
   refine rL (xC rscallable25 rfl ((viewWrong E12 _ _ 42 hv).mono ?_) rfl)
   rintro e w34 ⟨s33, rfl, hv⟩
   refine ⟨_, rfl, ?_⟩
   simp only [zP, po]
   refine xS 0 rfl hv rssz28 rfl (by exact ⟨rfl, rfl, rfl, rfl, trivial⟩) (fun w35 hv => ?_)
   simp only [zO, sp] at hv
   refine uW k32 (rR ?_)
   refine tR (bC 0 rswd28 hv rfl rfl rfl rfl ?_)
   exact ⟨E12, es, M, (.mk 1 s33 0 []), _, (hK9.trans hE12), rfl, rpAt_leaf, hM.more (hK9.trans hE12), ⟨hO, fun _ => rfl⟩, (hv.kp [3, 3] 2 2)⟩
  refine uG (.bool false) rfl (ex_geq rfl rfl rfl (qF hb31)) (uW k30 ?_)
  refine cF rfl (kS ?_)
  refine tK k29 (sK fun _ k36 => ?_)
  obtain ⟨nn, rfl⟩ : ∃ q : Nat, n17 = (q : Int) := ⟨(n17).toNat, by omega⟩
  obtain ⟨a5, ha5, ok5, hr5⟩ := sliced_hiV 1 hokx hrx (textCells_len _) (show nn ≤ xs.length by omega)
  obtain ⟨a6, c6, ha6, ok6, hr6⟩ := sliced_fromV 1 hokx hrx (textCells_len _) (show nn ≤ xs.length by omega) (by decide)
  rw [Nat.mul_one, tx_take] at hr5
  rw [Nat.mul_one, tx_drop] at hr6
  have htl : (xs.take nn).length = nn := by rw [List.length_take]; omega
  have hdl : (xs.drop nn).length = xs.length - nn := List.length_drop
  have hxd : ∀ x ∈ xs.drop nn, x.length ≤ 9223372036854775807 := fun x hx => hxl x (List.mem_of_mem_drop hx)
  refine rW mixed [] [0,1,2,3,4,5,6,7] 137 rfl (by kernel_rfl) hv ?_
  simp only [qm, opAt]
  refine dM (.slice xa xs.length xc) rfl (dM (vI nn) rfl ?_)
  refine dG (.slice a5 ((xs.take nn).length) xc) rfl (ex_slice (hi' := some (vI nn)) rfl rfl rfl (congrArg some rfl) rfl ((run_hiAny (h := nn) Tryz.underlying22 s9es22 (by have := hokx.le; omega)).trans (by rw [ha5, htl]))) ?_
  simp only [zP, po]
  refine dM (.slice xa xs.length xc) rfl (dM (vI nn) rfl ?_)
  refine dG (.slice a6 ((xs.drop nn).length) c6) rfl (ex_slice (lo' := some (vI nn)) rfl rfl (congrArg some rfl) rfl rfl ((run_fromAny Tryz.underlying22 s9es22 (by omega)).trans (by rw [ha6, hdl]))) ?_
  simp only [zP, po]
  refine dA (.slice a5 ((xs.take nn).length) xc) rfl (dA (.slice a6 ((xs.drop nn).length) c6) rfl ?_)
  refine dE fun w37 hv => ?_
  simp only [zP, po]
  refine tK k36 (sK fun _ k38 => ?_)
  have hv9 := hv
  obtain ⟨v0, hv0⟩ : ∃ x, (xs.drop nn)[0]? = some x := ⟨_, List.getElem?_eq_getElem (show 0 < (xs.drop nn).length by omega)⟩
  obtain ⟨wb6, wo6, had, hrdv0⟩ := text_reads hr6 hv0
  subst had
  have hv := hv9
  clear hv9
  refine rL (uM rfl ?_)
  refine uG (.pointer (some ⟨wb6, wo6 + 0, none⟩)) rfl (ex_index rfl rfl rfl (run_idx1 (k := 0) Tryz.underlying22 s9es22 (by omega))) ?_
  refine uL _ rfl (run_load1 s9na9 (hrdv0 _ _ _ (hK9.trans hE12) no_res hv 0 _ rfl)) ?_
  refine sl_rowN (pv := #[(0, vS [76, 69, 70, 84]), (1, vS [82, 73, 71, 72, 84])]) (L := [vS [76, 69, 70, 84], vS [82, 73, 71, 72, 84]]) (e := 9) tV (wn rfl) rfl (by simp only [List.map_toArray, List.map_cons, List.map_nil]; rfl) hv (fun w => by kernel_rfl) (fun b39 w40 hv => ?_)
  simp only [zP, po]
  obtain ⟨K41, hK41, hv, hrkK41, hokK41, -⟩ := (hv.cellRow (n := 2) (c := 2) (size := 1) rfl (by decide) (by decide)).rowBy
  refine xC j1callable44 rfl ((viewIs K41 _ _ v0 _ 2 [([76, 69, 70, 84] : List UInt8), ([82, 73, 71, 72, 84] : List UInt8)] hrkK41 (Nat.le_of_ble_eq_true rfl) (hxd v0 (List.mem_of_getElem? hv0)) hv).mono ?_) rfl
  rintro e w44 ⟨ri42, rfl, his43, hv⟩
  refine ⟨_, rfl, uA rfl ?_⟩
  refine uA rfl (uW k38 ?_)
  refine sK fun K45 k45 => ?_
  have hJ45 : ∀ (most : Int) (j5 j6 j53 j54 j55 j56 j57 j58 j59 j60 j61 j62 j63 j64 j65 j66 j67 j68 j69 j70 j71 j72 j73 j74 j75 j76 j77 j78 j79 j80 j81 j82 j83 j84 j85 j86 j87 j88 j89 j90 j91 : Value) (w46 : World), (-9223372036854775808 ≤ most ∧ most ≤ 9223372036854775807) → Inv K41 (Res.cell b4 [vI 0, vS [], vI 0, vN] 28 :: Res.cell b2 [vP v, .slice (some ⟨ab, ao, none⟩) args.length ac] 74 :: Res.cell v [.iface 62 (vP t)] 36 :: txR t m s p wb va vc sv clk es :: H) w46 → K45 { tmps := List.toArray (.agg #[vP v, .slice (some ⟨ab, ao, none⟩) args.length ac] :: .slice xa xs.length xc :: vP b2 :: undef :: vP b4 :: j5 :: j6 :: vI nn :: .slice a5 ((xs.take nn).length) xc :: .slice (some ⟨wb6, wo6, none⟩) ((xs.drop nn).length) c6 :: vI ri42 :: vI most :: undef :: undef :: undef :: undef :: undef :: undef :: .tuple #[.slice (some ⟨ib, io, none⟩) 1 ic11, vI 0] :: .pointer (some ⟨b2, 1, none⟩) :: .slice (some ⟨ab, ao, none⟩) args.length ac :: .pointer (some ⟨ab, ao + 0, none⟩) :: vS key :: .slice (some ⟨b7, 0, none⟩) 1 1 :: .tuple #[.slice (some ⟨ib, io, none⟩) 1 ic11, vI 0] :: .slice (some ⟨ib, io, none⟩) 1 ic11 :: vI 0 :: vI 0 :: .bool false :: undef :: undef :: .slice (some ⟨ib, io, none⟩) 1 ic11 :: .pointer (some ⟨ib, io + 0, none⟩) :: vI nn :: vI nn :: .bool false :: undef :: vI nn :: .slice xa xs.length xc :: vI (xs.length : Int) :: .bool false :: undef :: .slice xa xs.length xc :: vI nn :: .slice a5 ((xs.take nn).length) xc :: .slice xa xs.length xc :: vI nn :: .slice (some ⟨wb6, wo6, none⟩) ((xs.drop nn).length) c6 :: .slice (some ⟨wb6, wo6, none⟩) ((xs.drop nn).length) c6 :: .pointer (some ⟨wb6, wo6 + 0, none⟩) :: vS v0 :: .slice (some ⟨b39, 0, none⟩) 2 2 :: vI ri42 :: j53 :: j54 :: j55 :: j56 :: j57 :: j58 :: j59 :: j60 :: j61 :: j62 :: j63 :: j64 :: j65 :: j66 :: j67 :: j68 :: j69 :: j70 :: j71 :: j72 :: j73 :: j74 :: j75 :: j76 :: j77 :: j78 :: j79 :: j80 :: j81 :: j82 :: j83 :: j84 :: j85 :: j86 :: j87 :: j88 :: j89 :: j90 :: j91 :: undef :: undef :: undef :: undef :: undef :: undef :: undef :: undef :: undef :: undef :: undef :: undef :: undef :: undef :: undef :: undef :: undef :: undef :: undef :: undef :: undef :: undef :: undef :: undef :: undef :: undef :: undef :: undef :: undef :: undef :: undef :: undef :: undef :: undef :: undef :: undef :: undef :: undef :: undef :: undef :: undef :: undef :: undef :: undef :: undef :: []), defers := [] } w46 := by
   intro most j5 j6 j53 j54 j55 j56 j57 j58 j59 j60 j61 j62 j63 j64 j65 j66 j67 j68 j69 j70 j71 j72 j73 j74 j75 j76 j77 j78 j79 j80 j81 j82 j83 j84 j85 j86 j87 j88 j89 j90 j91 w46 hmost hv
   refine k45 _ _ (sK fun _ k47 => ?_)
   refine sK fun _ k48 => rL (uM rfl ?_)
   refine uG (vI (((xs.take nn).length) : Int)) rfl (ex_len0 Tryz.underlying22 rfl rfl) (uM rfl ?_)
   refine uW k48 (bB ?_)
   gi_loopw [94] (fun x94 wr => ∃ (i : Nat) (D : Base), x94 = vI i ∧ i ≤ (xs.take nn).length ∧ B.Le D ∧ Inv D (Res.cell b4 [vI 0, vS [], vI 0, vN] 28 :: Res.cell b2 [vP v, .slice (some ⟨ab, ao, none⟩) args.length ac] 74 :: Res.cell v [.iface 62 (vP t)] 36 :: txR t m s p wb va vc sv clk es :: H) wr) (fun x94 _ => (xs.take nn).length - (intOf x94).toNat)
   case atStart => exact ⟨0, B, rfl, Nat.zero_le _, Base.Le.refl _, hv.weak ((hK9.trans hE12).trans hK41)⟩
   case round =>
    obtain ⟨i, D, rfl, hi, hBD, hv⟩ := hrel
    refine sK fun _ k50 => rL ?_
    by_cases hb51 : (i : Int) < (((xs.take nn).length) : Int)
    ·refine uG (.bool true) rfl (ex_lss rfl rfl rfl (qT hb51)) (uW k50 ?_)
     refine sK fun _ k52 => cT rfl (kS ?_)
     refine tK k52 (sK fun _ k53 => ?_)
     refine bB (sK fun _ k54 => ?_)
     have hv9 := hv
     obtain ⟨x, hx⟩ : ∃ x, (xs.take nn)[i]? = some x := ⟨_, List.getElem?_eq_getElem (show i < (xs.take nn).length by omega)⟩
     obtain ⟨kb5, ko5, had, hrdx⟩ := text_reads hr5 hx
     subst had
     have hv := hv9
     clear hv9
     refine rL (uG (.pointer (some ⟨kb5, ko5 + i, none⟩)) rfl (ex_index rfl rfl rfl (run_idx1 (k := i) Tryz.underlying22 s9es22 (by omega))) ?_)
     refine uL _ rfl (run_load1 s9na9 (hrdx _ _ _ hBD no_res hv 0 _ rfl)) (uA rfl ?_)
     refine uW k54 (sK fun _ k55 => ?_)
     refine rL (uF (vP b2) rfl (j1fa74_0 _ _ _) ?_)
     refine uL _ rfl (run_load1 j1na24 (hv.load 1 0 rfl rfl)) (uM rfl ?_)
     replace hv := hv.front 3 rfl
     simp only [eS, eZ] at hv
     replace hv := hv.front 3 rfl
     simp only [eS, eZ] at hv
     refine xC j1callable41 rfl ((viewOf D _ _ v t m s p wb va vc sv clk es M x 3 (hM.more hBD) hv).mono ?_) rfl
     rintro e w56 ⟨C, y, yp, yt, yz, ec, hC, rfl, hyv, hof, hv⟩
     refine ⟨_, rfl, ?_⟩
     obtain ⟨pa, pc, sa, sc, za, zc, rfl, rfl, rfl, hokp, hrp, hoks, hrs, hokz, hrz⟩ := valAt_open hyv
     refine uM rfl (uE rfl ?_)
     refine uE rfl ?_
     refine sl_alloc tV (wn rfl) rfl hv j4al85 (fun b57 w58 hv => ?_)
     simp only [zP, po]
     refine xS 0 rfl hv x0sz85 rfl (by exact ⟨rfl, rfl, rfl, rfl, rfl, rfl, rfl, rfl, trivial⟩) (fun w59 hv => ?_)
     simp only [zO, sp] at hv
     refine uA rfl (uW k55 ?_)
     refine sK fun _ k60 => sK fun _ k61 => rL (uM rfl ?_)
     by_cases hb62 : ec ≠ 0
     ·refine uG (.bool true) rfl (ex_neq rfl rfl rfl (qT hb62)) (uW k61 ?_)
      refine cT rfl (sK fun _ k63 => ?_)
      refine rL (uM rfl ?_)
      refine xC rscallable25 rfl ((viewWrong C _ _ ec hv).mono ?_) rfl
      rintro e w65 ⟨s64, rfl, hv⟩
      refine ⟨_, rfl, ?_⟩
      simp only [zP, po]
      refine xS 3 rfl hv rssz28 rfl (by exact ⟨rfl, rfl, rfl, rfl, trivial⟩) (fun w66 hv => ?_)
      simp only [zS, zO, sp] at hv
      refine uW k63 (rR ?_)
      refine tR (bZ ?_)
      refine tR (tR ?_)
      refine bZ (tR ?_)
      refine bC 3 rswd28 hv rfl rfl rfl rfl (⟨C, es, M, (.mk 1 s64 0 []), _, (hBD.trans hC), rfl, rpAt_leaf, hM.more (hBD.trans hC), ⟨hO, fun _ => rfl⟩, (hv.kp [2, 2] 2 3)⟩)
     refine uG (.bool false) rfl (ex_neq rfl rfl rfl (qF hb62)) (uW k61 ?_)
     refine cF rfl (kS ?_)
     refine tK k60 (sK fun _ k67 => ?_)
     refine sK fun _ k68 => rL (uF (.pointer (some ⟨b57, 3, none⟩)) rfl (x2fa85_3 _ _ _) ?_)
     refine uF (.pointer (some ⟨b57, 3, none⟩)) rfl (s12fa78_0 _ _ _) ?_
     refine uL _ rfl (run_load1 s2na3 (hv.load 0 3 rfl rfl)) ?_
     by_cases hb69 : y.val.kind ≠ 3
     ·refine uG (.bool true) rfl (ex_neq rfl rfl rfl (qT hb69)) (uW k68 ?_)
      refine cT rfl (xE ?_)
      refine tX (bH ?_)
      refine tK k53 (rL ?_)
      refine uG (vI ((i + 1 : Nat) : Int)) rfl (ex_add rfl rfl rfl (by rw [i64_in (by omega)]; omega)) (uM rfl ?_)
      refine uZ (then_normal ?_)
      simp only [vP, vI, vS, vN]
      go_roundw
      case rel => exact ⟨i + 1, C, rfl, by omega, (hBD.trans hC), (hv.kp [2, 2, 4, 4] 4 1)⟩
      case measure => show (xs.take nn).length - (((i + 1 : Nat) : Int)).toNat < (xs.take nn).length - ((i : Int)).toNat; omega
     refine uG (.bool false) rfl (ex_neq rfl rfl rfl (qF hb69)) (uW k68 ?_)
     refine cF rfl (kS ?_)
     refine tK k67 (sK fun _ k70 => ?_)
     refine rL (uF (.pointer (some ⟨b57, 3, none⟩)) rfl (x2fa85_3 _ _ _) ?_)
     refine uF (.pointer (some ⟨b57, 6, none⟩)) rfl (s1fa78_3 _ _ _) ?_
     refine uL _ rfl (run_load1 s1na22 (hv.load 0 6 rfl rfl)) (uM rfl ?_)
     by_cases hb71 : ri42 = 0
     ·refine uG (.bool true) rfl (ex_eql rfl rfl rfl (qT hb71)) (uM rfl ?_)
      refine xC j2callable74 rfl ((listPop C _ _ sa sc y.val.texts hoks hrs hyv.tm true most hv).mono ?_) rfl
      rintro e w72 ⟨G, ka, kc, ga, gc, left, gone, hG, rfl, hokk, hrk, hokg, hrg, hleft, hgone, hv⟩
      refine ⟨_, rfl, ?_⟩
      have hll : left.length ≤ 1000000 := by rw [hleft]; exact Nat.le_trans popL_le hyv.tm
      have hgl : gone.length ≤ 1000000 := by rw [hgone]; exact Nat.le_trans popG_le hyv.tm
      refine uM rfl (uE rfl ?_)
      refine uE rfl (uA rfl ?_)
      refine uA rfl (uW k70 ?_)
      refine sK fun _ k73 => rL (uL (.agg #[vP v, .slice (some ⟨ab, ao, none⟩) args.length ac]) rfl (lM 4 j1wd74 hv rfl rfl rfl rfl) ?_)
      refine uM rfl ?_
      refine uL (.agg #[vI y.stamp, .bool y.gone, vI y.expire, vI y.val.kind, vS y.val.text, .slice pa y.val.pairs.length pc, .slice sa y.val.texts.length sc, .slice za y.val.zset.length zc]) rfl (lM 0 x0wd85 hv rfl rfl rfl rfl) (uM rfl ?_)
      replace hv := hv.front 2 rfl
      simp only [eS, eZ] at hv
      replace hv := hv.front 2 rfl
      simp only [eS, eZ] at hv
      refine xC j1callable71 rfl ((clistKeep G _ _ v t m s p wb va vc sv clk es M (hM.more ((hBD.trans hC).trans hG)) (some ⟨ab, ao, none⟩) args.length ac x _ _ y.expire _ _ _ _ _ _ _ _ _ _ _ ka kc left (hrk.more (Base.Le.refl _) (fun _ h => h)) hokk (hll) hv).mono ?_) rfl
      rintro e w80 ⟨G75, es79, Mk78, e74, hG75, rfl, hMk77, hkp76, hv⟩
      refine ⟨_, rfl, uM rfl ?_⟩
      refine xC rtcallable69 rfl ((respStr G75 _ _ x hv).mono ?_) rfl
      rintro e w81 ⟨rfl, hv⟩
      refine ⟨_, rfl, uM rfl ?_⟩
      refine xC j3callable78 rfl ((respStrsR G75 _ _ ga gc gone (hrg.more hG75 (fun _ h => h)) (hgl) hv).mono ?_) rfl
      rintro e w86 ⟨D82, da83, dc84, hD82, rfl, hrp85o, hrp85, hv⟩
      refine ⟨_, rfl, ?_⟩
      simp only [zP, po]
      refine sl_rowN (pv := #[(0, .agg #[vI 3, vS x, vI 0, vN]), (1, .agg #[vI 5, vS [], vI 0, .slice da83 gone.length dc84])]) (L := [vI 3, vS x, vI 0, vN, vI 5, vS [], vI 0, .slice da83 gone.length dc84]) (e := 28) tV (wn rfl) rfl (by simp only [List.map_toArray, List.map_cons, List.map_nil]; rfl) hv (fun w => by kernel_rfl) (fun b87 w88 hv => ?_)
      simp only [zP, po]
      obtain ⟨K89, hK89, hv, hrK89, hokK89, -⟩ := (hv.cellRow (n := 2) (c := 2) (size := 4) rfl (by decide) (by decide)).rowBy
      refine xC j3callable77 rfl ((respList K89 _ _ _ 2 2 _ (rList [rStr x, rStrs gone]) hokK89 hrK89 (listIn_two hrp85o (hrp85.more hK89 (fun _ h => h)) (hgl)) (by decide) hv).mono ?_) rfl
      rintro e w93 ⟨J90, lw91, hJ90, rfl, hrw92, hv⟩
      refine ⟨_, rfl, ?_⟩
      simp only [zP, po]
      refine xC j1callable42 rfl ((viewDone J90 _ _ e74 5 0 ([] : List UInt8) lw91 hrw92.lv.1 hrw92.lv.2 hv).mono ?_) rfl
      rintro e w94 ⟨xr, hxr, rfl, hv⟩
      refine ⟨_, rfl, ?_⟩
      rcases hxr with ⟨hec0, rfl⟩ | ⟨hec0, s95, rfl⟩
      ·simp only [zP, po]
       refine xS 3 rfl hv rssz28 rfl (by exact ⟨rfl, rfl, rfl, hrw92.lv.2, trivial⟩) (fun w96 hv => ?_)
       simp only [zS, zO, sp] at hv
       refine uW k73 (rR ?_)
       refine bZ (tR ?_)
       refine tR (bZ ?_)
       refine tR (bC 3 rswd28 hv rfl rfl rfl rfl ?_)
       exact ⟨J90, es79, Mk78, rList [rStr x, rStrs gone], _, ((((((hBD.trans hC).trans hG).trans hG75).trans hD82).trans hK89).trans hJ90), rfl, (hrw92.more (Base.Le.refl _)), hMk77.more ((hD82.trans hK89).trans hJ90), DoneR.keep (r0 := rList [rStr x, rStrs gone]) hO hkp76 (.inl ⟨by omega, rfl⟩) (fun h9 => absurd (show (5 : Int) = 1 from h9) (by decide)), (hv.kp [1, 1] 2 3)⟩
      simp only [zP, po]
      refine xS 3 rfl hv rssz28 rfl (by exact ⟨rfl, rfl, rfl, rfl, trivial⟩) (fun w97 hv => ?_)
      simp only [zS, zO, sp] at hv
      refine uW k73 (rR ?_)
      refine bZ (tR ?_)
      refine tR (bZ ?_)
      refine tR (bC 3 rswd28 hv rfl rfl rfl rfl ?_)
      exact ⟨J90, es79, Mk78, (.mk 1 s95 0 []), _, ((((((hBD.trans hC).trans hG).trans hG75).trans hD82).trans hK89).trans hJ90), rfl, rpAt_leaf, hMk77.more ((hD82.trans hK89).trans hJ90), DoneR.keep (r0 := rList [rStr x, rStrs gone]) hO hkp76 (.inr ⟨by omega, rfl⟩) (fun h9 => absurd (show (5 : Int) = 1 from h9) (by decide)), (hv.kp [1, 1] 2 3)⟩
     refine uG (.bool false) rfl (ex_eql rfl rfl rfl (qF hb71)) (uM rfl ?_)
     refine xC j2callable74 rfl ((listPop C _ _ sa sc y.val.texts hoks hrs hyv.tm false most hv).mono ?_) rfl
     rintro e w98 ⟨G, ka, kc, ga, gc, left, gone, hG, rfl, hokk, hrk, hokg, hrg, hleft, hgone, hv⟩
     refine ⟨_, rfl, ?_⟩
     have hll : left.length ≤ 1000000 := by rw [hleft]; exact Nat.le_trans popL_le hyv.tm
     have hgl : gone.length ≤ 1000000 := by rw [hgone]; exact Nat.le_trans popG_le hyv.tm
     refine uM rfl (uE rfl ?_)
     refine uE rfl (uA rfl ?_)
     refine uA rfl (uW k70 ?_)
     refine sK fun _ k99 => rL (uL (.agg #[vP v, .slice (some ⟨ab, ao, none⟩) args.length ac]) rfl (lM 4 j1wd74 hv rfl rfl rfl rfl) ?_)
     refine uM rfl ?_
     refine uL (.agg #[vI y.stamp, .bool y.gone, vI y.expire, vI y.val.kind, vS y.val.text, .slice pa y.val.pairs.length pc, .slice sa y.val.texts.length sc, .slice za y.val.zset.length zc]) rfl (lM 0 x0wd85 hv rfl rfl rfl rfl) (uM rfl ?_)
     replace hv := hv.front 2 rfl
     simp only [eS, eZ] at hv
     replace hv := hv.front 2 rfl
     simp only [eS, eZ] at hv
     refine xC j1callable71 rfl ((clistKeep G _ _ v t m s p wb va vc sv clk es M (hM.more ((hBD.trans hC).trans hG)) (some ⟨ab, ao, none⟩) args.length ac x _ _ y.expire _ _ _ _ _ _ _ _ _ _ _ ka kc left (hrk.more (Base.Le.refl _) (fun _ h => h)) hokk (hll) hv).mono ?_) rfl
     rintro e w106 ⟨G101, es105, Mk104, e100, hG101, rfl, hMk103, hkp102, hv⟩
     refine ⟨_, rfl, uM rfl ?_⟩
     refine xC rtcallable69 rfl ((respStr G101 _ _ x hv).mono ?_) rfl
     rintro e w107 ⟨rfl, hv⟩
     refine ⟨_, rfl, uM rfl ?_⟩
     refine xC j3callable78 rfl ((respStrsR G101 _ _ ga gc gone (hrg.more hG101 (fun _ h => h)) (hgl) hv).mono ?_) rfl
     rintro e w112 ⟨D108, da109, dc110, hD108, rfl, hrp111o, hrp111, hv⟩
     refine ⟨_, rfl, ?_⟩
     simp only [zP, po]
     refine sl_rowN (pv := #[(0, .agg #[vI 3, vS x, vI 0, vN]), (1, .agg #[vI 5, vS [], vI 0, .slice da109 gone.length dc110])]) (L := [vI 3, vS x, vI 0, vN, vI 5, vS [], vI 0, .slice da109 gone.length dc110]) (e := 28) tV (wn rfl) rfl (by simp only [List.map_toArray, List.map_cons, List.map_nil]; rfl) hv (fun w => by kernel_rfl) (fun b113 w114 hv => ?_)
     simp only [zP, po]
     obtain ⟨K115, hK115, hv, hrK115, hokK115, -⟩ := (hv.cellRow (n := 2) (c := 2) (size := 4) rfl (by decide) (by decide)).rowBy
     refine xC j3callable77 rfl ((respList K115 _ _ _ 2 2 _ (rList [rStr x, rStrs gone]) hokK115 hrK115 (listIn_two hrp111o (hrp111.more hK115 (fun _ h => h)) (hgl)) (by decide) hv).mono ?_) rfl
     rintro e w119 ⟨J116, lw117, hJ116, rfl, hrw118, hv⟩
     refine ⟨_, rfl, ?_⟩
     simp only [zP, po]
     refine xC j1callable42 rfl ((viewDone J116 _ _ e100 5 0 ([] : List UInt8) lw117 hrw118.lv.1 hrw118.lv.2 hv).mono ?_) rfl
     rintro e w120 ⟨xr, hxr, rfl, hv⟩
     refine ⟨_, rfl, ?_⟩
     rcases hxr with ⟨hec0, rfl⟩ | ⟨hec0, s121, rfl⟩
     ·simp only [zP, po]
      refine xS 3 rfl hv rssz28 rfl (by exact ⟨rfl, rfl, rfl, hrw118.lv.2, trivial⟩) (fun w122 hv => ?_)
      simp only [zS, zO, sp] at hv
      refine uW k99 (rR ?_)
      refine bZ (tR ?_)
      refine tR (bZ ?_)
      refine tR (bC 3 rswd28 hv rfl rfl rfl rfl ?_)
      exact ⟨J116, es105, Mk104, rList [rStr x, rStrs gone], _, ((((((hBD.trans hC).trans hG).trans hG101).trans hD108).trans hK115).trans hJ116), rfl, (hrw118.more (Base.Le.refl _)), hMk103.more ((hD108.trans hK115).trans hJ116), DoneR.keep (r0 := rList [rStr x, rStrs gone]) hO hkp102 (.inl ⟨by omega, rfl⟩) (fun h9 => absurd (show (5 : Int) = 1 from h9) (by decide)), (hv.kp [1, 1] 2 3)⟩
     simp only [zP, po]
     refine xS 3 rfl hv rssz28 rfl (by exact ⟨rfl, rfl, rfl, rfl, trivial⟩) (fun w123 hv => ?_)
     simp only [zS, zO, sp] at hv
     refine uW k99 (rR ?_)
     refine bZ (tR ?_)
     refine tR (bZ ?_)
     refine tR (bC 3 rswd28 hv rfl rfl rfl rfl ?_)
     exact ⟨J116, es105, Mk104, (.mk 1 s121 0 []), _, ((((((hBD.trans hC).trans hG).trans hG101).trans hD108).trans hK115).trans hJ116), rfl, rpAt_leaf, hMk103.more ((hD108.trans hK115).trans hJ116), DoneR.keep (r0 := rList [rStr x, rStrs gone]) hO hkp102 (.inr ⟨by omega, rfl⟩) (fun h9 => absurd (show (5 : Int) = 1 from h9) (by decide)), (hv.kp [1, 1] 2 3)⟩
    refine uG (.bool false) rfl (ex_lss rfl rfl rfl (qF hb51)) (uW k50 ?_)
    refine sK fun _ k124 => cF rfl (xE ?_)
    refine tX (tX ?_)
    refine bH (tK k47 ?_)
    refine sK fun _ k125 => rL (xC j1callable68 rfl ((respNone D _ _ hv).mono ?_) rfl)
    rintro e w126 ⟨rfl, hv⟩
    refine ⟨_, rfl, ?_⟩
    simp only [zP, po]
    refine xS 0 rfl hv rssz28 rfl (by exact ⟨rfl, rfl, rfl, rfl, trivial⟩) (fun w127 hv => ?_)
    simp only [zO, sp] at hv
    refine uW k125 (rR ?_)
    refine bC 0 rswd28 hv rfl rfl rfl rfl (⟨D, es, M, (.mk 4 ([] : List UInt8) 0 []), _, hBD, rfl, rpAt_leaf, hM.more hBD, ⟨hO, fun _ => rfl⟩, (hv.kp [3, 3] 2 2)⟩)
  refine bB (sK fun _ k128 => ?_)
  refine rL (uM rfl ?_)
  by_cases hb129 : ri42 < 0
  ·refine uG (.bool true) rfl (ex_lss rfl rfl rfl (qT hb129)) (uA rfl ?_)
   refine uW k128 (cT rfl ?_)
   refine sK fun _ k130 => rL (xC rscallable25 rfl ((viewWrong K41 _ _ 42 hv).mono ?_) rfl)
   rintro e w132 ⟨s131, rfl, hv⟩
   refine ⟨_, rfl, ?_⟩
   simp only [zP, po]
   refine xS 0 rfl hv rssz28 rfl (by exact ⟨rfl, rfl, rfl, rfl, trivial⟩) (fun w133 hv => ?_)
   simp only [zO, sp] at hv
   refine uW k130 (rR ?_)
   refine bZ (tR ?_)
   clear hJ45
   refine bC 0 rswd28 hv rfl rfl rfl rfl (⟨K41, es, M, (.mk 1 s131 0 []), _, ((hK9.trans hE12).trans hK41), rfl, rpAt_leaf, hM.more ((hK9.trans hE12).trans hK41), ⟨hO, fun _ => rfl⟩, (hv.kp [3, 3] 2 2)⟩)
  refine uG (.bool false) rfl (ex_lss rfl rfl rfl (qF hb129)) (uA rfl ?_)
  refine uW k128 (cF rfl ?_)
  refine sK fun _ k134 => rL (uM rfl ?_)
  refine uG (vI (((xs.drop nn).length) : Int)) rfl (ex_len0 Tryz.underlying22 rfl rfl) ?_
  by_cases hb135 : (((xs.drop nn).length) : Int) = 3
  ·have hv9 := hv
   obtain ⟨v1, hv1⟩ : ∃ x, (xs.drop nn)[1]? = some x := ⟨_, List.getElem?_eq_getElem (show 1 < (xs.drop nn).length by omega)⟩
   obtain ⟨b9, o9, had9, hrdv1⟩ := text_reads hr6 hv1
   cases had9
   have hv := hv9
   clear hv9
   skip
   refine uG (.bool true) rfl (ex_eql rfl rfl rfl (qT hb135)) (uM rfl ?_)
   refine uM rfl ?_
   refine uG (.pointer (some ⟨wb6, wo6 + 1, none⟩)) rfl (ex_index rfl rfl rfl (run_idx1 (k := 1) Tryz.underlying22 s9es22 (by omega))) ?_
   refine uL _ rfl (run_load1 s9na9 (hrdv1 _ _ _ ((hK9.trans hE12).trans hK41) no_res hv 0 _ rfl)) ?_
   refine sl_rowOne (v := vS [67, 79, 85, 78, 84]) tV (wanted_of (j := 3) (d := 61) (b := true) rfl rfl rfl) rfl rfl hv j4el22 rfl (fun b136 w137 hv => ?_)
   simp only [zP, po]
   obtain ⟨K138, hK138, hv, hrkK138, hokK138, -⟩ := (hv.cellRow (n := 1) (c := 1) (size := 1) rfl (by decide) (by decide)).rowBy
   refine xC j1callable44 rfl ((viewIs K138 _ _ v1 _ 1 [([67, 79, 85, 78, 84] : List UInt8)] hrkK138 (Nat.le_of_ble_eq_true rfl) (hxd v1 (List.mem_of_getElem? hv1)) hv).mono ?_) rfl
   rintro e w141 ⟨ri139, rfl, his140, hv⟩
   refine ⟨_, rfl, ?_⟩
   simp only [zP, po]
   by_cases hb142 : ri139 = 0
   ·refine uG (.bool true) rfl (ex_eql rfl rfl rfl (qT hb142)) (uK rfl ?_)
    refine uA rfl (uW k134 ?_)
    refine cT rfl (sK fun _ k143 => ?_)
    refine sK fun _ k144 => ?_
    have hv9 := hv
    obtain ⟨v2, hv2⟩ : ∃ x, (xs.drop nn)[2]? = some x := ⟨_, List.getElem?_eq_getElem (show 2 < (xs.drop nn).length by omega)⟩
    obtain ⟨b9, o9, had9, hrdv2⟩ := text_reads hr6 hv2
    cases had9
    have hv := hv9
    clear hv9
    refine rL (uM rfl ?_)
    refine uG (.pointer (some ⟨wb6, wo6 + 2, none⟩)) rfl (ex_index rfl rfl rfl (run_idx1 (k := 2) Tryz.underlying22 s9es22 (by omega))) ?_
    refine uL _ rfl (run_load1 s9na9 (hrdv2 _ _ _ (((hK9.trans hE12).trans hK41).trans hK138) no_res hv 0 _ rfl)) ?_
    refine sl_rowOne (v := vS v2) tV (wn rfl) rfl rfl hv j4el22 rfl (fun b145 w146 hv => ?_)
    simp only [zP, po]
    obtain ⟨K147, hK147, hv, hrkK147, hokK147, -⟩ := (hv.cellRow (n := 1) (c := 1) (size := 1) rfl (by decide) (by decide)).rowBy
    refine xC j1callable76 rfl ((viewInts K147 _ _ _ 1 [v2] hrkK147 (Nat.le_of_ble_eq_true rfl) (hN.more ((((hK9.trans hE12).trans hK41).trans hK138).trans hK147)) hv).mono ?_) rfl
    rintro e w156 ⟨E150, ia148, ic149, ns151, ei152, hE150, rfl, hri153, hir, hv⟩
    refine ⟨_, rfl, ?_⟩
    rcases ints_one hir with ⟨rfl, n155, rfl, hnp154⟩ | ⟨rfl, rfl, hnp154⟩
    ·refine uG (.tuple #[.slice ia148 1 ic149, vI 0]) rfl (ex_move rfl rfl) ?_
     refine uG (.slice ia148 1 ic149) rfl (ex_extract rfl rfl rfl) (uE rfl ?_)
     refine uA rfl (uA rfl ?_)
     refine uW k144 (sK fun _ k157 => ?_)
     refine rL (uM rfl ?_)
     refine uG (.bool false) rfl (ex_neq rfl rfl rfl (by decide)) (uW k157 ?_)
     refine cF rfl (kS ?_)
     refine tK k143 (sK fun _ k158 => ?_)
     obtain ⟨ib2, io2, had, hrdn155⟩ := int_reads hri153 (show [n155][0]? = some n155 from rfl)
     subst had
     have hfitn155 : -9223372036854775808 ≤ n155 ∧ n155 ≤ 9223372036854775807 := hnp154.elim (fun h => ⟨h.2.1, h.2.2.1⟩) (fun h => absurd h.1 (by decide))
     refine rL (uG (.slice (some ⟨ib2, io2, none⟩) 1 ic149) rfl (ex_move rfl rfl) ?_)
     refine uG (.pointer (some ⟨ib2, io2 + 0, none⟩)) rfl (ex_index rfl rfl rfl (run_idx1 (k := 0) Tryz.underlying149 s11es149 (by omega))) ?_
     refine uL _ rfl (run_load1 s2na3 (hrdn155 _ _ _ (Base.Le.refl _) no_res hv 0 _ rfl)) (uA rfl ?_)
     refine uW k158 (sK fun _ k159 => ?_)
     refine rL (uM rfl ?_)
     by_cases hb160 : n155 < 1
     ·refine uG (.bool true) rfl (ex_lss rfl rfl rfl (qT hb160)) (uW k159 ?_)
      refine cT rfl (sK fun _ k161 => ?_)
      refine rL (xC rscallable25 rfl ((viewWrong E150 _ _ 44 hv).mono ?_) rfl)
      rintro e w163 ⟨s162, rfl, hv⟩
      refine ⟨_, rfl, ?_⟩
      simp only [zP, po]
      refine xS 0 rfl hv rssz28 rfl (by exact ⟨rfl, rfl, rfl, rfl, trivial⟩) (fun w164 hv => ?_)
      simp only [zO, sp] at hv
      refine uW k161 (rR ?_)
      refine bZ (tR ?_)
      clear hJ45
      refine bC 0 rswd28 hv rfl rfl rfl rfl (⟨E150, es, M, (.mk 1 s162 0 []), _, (((((hK9.trans hE12).trans hK41).trans hK138).trans hK147).trans hE150), rfl, rpAt_leaf, hM.more (((((hK9.trans hE12).trans hK41).trans hK138).trans hK147).trans hE150), ⟨hO, fun _ => rfl⟩, (hv.kp [3, 3] 2 2)⟩)
     refine uG (.bool false) rfl (ex_lss rfl rfl rfl (qF hb160)) (uW k159 ?_)
     refine cF rfl (kS ?_)
     refine bN (then_normal (hJ45 n155 _ _ _ _ _ _ _ _ _ _ _ _ _ _ _ _ _ _ _ _ _ _ _ _ _ _ _ _ _ _ _ _ _ _ _ _ _ _ _ _ _ _ (by omega) ((((((hv.front 3 rfl).front 3 rfl).front 3 rfl).front 3 rfl)).weak ((hK138.trans hK147).trans hE150))))
    refine uM rfl (uE rfl ?_)
    refine uE rfl (uA rfl ?_)
    refine uA rfl (uW k144 ?_)
    refine sK fun _ k165 => rL (uM rfl ?_)
    refine uG (.bool true) rfl (ex_neq rfl rfl rfl (by decide)) (uW k165 ?_)
    refine cT rfl (sK fun _ k166 => ?_)
    refine rL (uM rfl ?_)
    refine xC rscallable25 rfl ((viewWrong E150 _ _ 41 hv).mono ?_) rfl
    rintro e w168 ⟨s167, rfl, hv⟩
    refine ⟨_, rfl, ?_⟩
    simp only [zP, po]
    refine xS 0 rfl hv rssz28 rfl (by exact ⟨rfl, rfl, rfl, rfl, trivial⟩) (fun w169 hv => ?_)
    simp only [zO, sp] at hv
    refine uW k166 (rR ?_)
    refine tR (bZ ?_)
    refine tR ?_
    clear hJ45
    refine bC 0 rswd28 hv rfl rfl rfl rfl (⟨E150, es, M, (.mk 1 s167 0 []), _, (((((hK9.trans hE12).trans hK41).trans hK138).trans hK147).trans hE150), rfl, rpAt_leaf, hM.more (((((hK9.trans hE12).trans hK41).trans hK138).trans hK147).trans hE150), ⟨hO, fun _ => rfl⟩, (hv.kp [3, 3] 2 2)⟩)
   refine uG (.bool false) rfl (ex_eql rfl rfl rfl (qF hb142)) (uK rfl ?_)
   refine uA rfl (uW k134 ?_)
   refine cF rfl (sK fun _ k170 => ?_)
   refine rL (uM rfl ?_)
   refine uG (vI (((xs.drop nn).length) : Int)) rfl (ex_len0 Tryz.underlying22 rfl rfl) ?_
   by_cases hb171 : (((xs.drop nn).length) : Int) > 1
   ·refine uG (.bool true) rfl (ex_gtr rfl rfl rfl (qT hb171)) (uA rfl ?_)
    refine uW k170 (cT rfl ?_)
    refine sK fun _ k172 => rL (xC rscallable25 rfl ((viewWrong K138 _ _ 42 hv).mono ?_) rfl)
    rintro e w174 ⟨s173, rfl, hv⟩
    refine ⟨_, rfl, ?_⟩
    simp only [zP, po]
    refine xS 0 rfl hv rssz28 rfl (by exact ⟨rfl, rfl, rfl, rfl, trivial⟩) (fun w175 hv => ?_)
    simp only [zO, sp] at hv
    refine uW k172 (rR ?_)
    refine bZ (tR ?_)
    clear hJ45
    refine bC 0 rswd28 hv rfl rfl rfl rfl (⟨K138, es, M, (.mk 1 s173 0 []), _, (((hK9.trans hE12).trans hK41).trans hK138), rfl, rpAt_leaf, hM.more (((hK9.trans hE12).trans hK41).trans hK138), ⟨hO, fun _ => rfl⟩, (hv.kp [3, 3] 2 2)⟩)
   refine uG (.bool false) rfl (ex_gtr rfl rfl rfl (qF hb171)) (uA rfl ?_)
   refine uW k170 (cF rfl ?_)
   refine kS (bN ?_)
   exact then_normal (hJ45 1 _ _ _ _ _ _ _ _ _ _ _ _ _ _ _ _ _ _ _ _ _ _ _ _ _ _ _ _ _ _ _ _ _ _ _ _ _ _ _ _ _ _ (by omega) ((((((hv.front 3 rfl).front 3 rfl).front 3 rfl).front 3 rfl)).weak hK138))
  refine uG (.bool false) rfl (ex_eql rfl rfl rfl (qF hb135)) (uM rfl ?_)
  iterate 6 refine uP rfl ?_
  refine uK rfl (uA rfl ?_)
  refine uW k134 (cF rfl ?_)
  refine sK fun _ k176 => rL (uM rfl ?_)
  refine uG (vI (((xs.drop nn).length) : Int)) rfl (ex_len0 Tryz.underlying22 rfl rfl) ?_
  by_cases hb177 : (((xs.drop nn).length) : Int) > 1
  ·refine uG (.bool true) rfl (ex_gtr rfl rfl rfl (qT hb177)) (uA rfl ?_)
   refine uW k176 (cT rfl ?_)
   refine sK fun _ k178 => rL (xC rscallable25 rfl ((viewWrong K41 _ _ 42 hv).mono ?_) rfl)
   rintro e w180 ⟨s179, rfl, hv⟩
   refine ⟨_, rfl, ?_⟩
   simp only [zP, po]
   refine xS 0 rfl hv rssz28 rfl (by exact ⟨rfl, rfl, rfl, rfl, trivial⟩) (fun w181 hv => ?_)
   simp only [zO, sp] at hv
   refine uW k178 (rR ?_)
   refine bZ (tR ?_)
   clear hJ45
   refine bC 0 rswd28 hv rfl rfl rfl rfl (⟨K41, es, M, (.mk 1 s179 0 []), _, ((hK9.trans hE12).trans hK41), rfl, rpAt_leaf, hM.more ((hK9.trans hE12).trans hK41), ⟨hO, fun _ => rfl⟩, (hv.kp [3, 3] 2 2)⟩)
  refine uG (.bool false) rfl (ex_gtr rfl rfl rfl (qF hb177)) (uA rfl ?_)
  refine uW k176 (cF rfl ?_)
  refine kS (bN ?_)
  exact then_normal (hJ45 1 _ _ _ _ _ _ _ _ _ _ _ _ _ _ _ _ _ _ _ _ _ _ _ _ _ _ _ _ _ _ _ _ _ _ _ _ _ _ _ _ _ _ (by omega) (((((hv.front 3 rfl).front 3 rfl).front 3 rfl).front 3 rfl)))
 refine uM rfl (uE rfl ?_)
 refine uE rfl (uA rfl ?_)
 refine uA rfl (uW k6 ?_)
 refine sK fun _ k182 => sK fun _ k183 => rL (uM rfl ?_)
 refine uG (.bool true) rfl (ex_neq rfl rfl rfl (by decide)) (uW k183 ?_)
 refine cT rfl (sK fun _ k184 => ?_)
 refine rL (uM rfl ?_)
 refine xC rscallable25 rfl ((viewWrong E12 _ _ 41 hv).mono ?_) rfl
 rintro e w186 ⟨s185, rfl, hv⟩
 refine ⟨_, rfl, ?_⟩
 simp only [zP, po]
 refine xS 0 rfl hv rssz28 rfl (by exact ⟨rfl, rfl, rfl, rfl, trivial⟩) (fun w187 hv => ?_)
 simp only [zO, sp] at hv
 refine uW k184 (rR ?_)
 refine tR (bC 0 rswd28 hv rfl rfl rfl rfl ?_)
 exact ⟨E12, es, M, (.mk 1 s185 0 []), _, (hK9.trans hE12), rfl, rpAt_leaf, hM.more (hK9.trans hE12), ⟨hO, fun _ => rfl⟩, (hv.kp [3, 3] 2 2)⟩
theorem j4callable80 : Callable Tryz.prog 80 := cb Tryz.func80 (by kernel_rfl)
theorem clistRemove (B : Base) (H : List Res) (w : World) (v t m s p wb : Nat) (va : Option Addr) (vc : Nat) (sv : Value) (clk : Int) (es : List (List UInt8 × Value)) (M : List (List UInt8 × Ver)) (hM : VM B es M) (hO : OkM M) (aa : Option Addr) (ac : Nat) (args : List (List UInt8)) (hra : RdV B [] aa (textCells args)) (hoka : SliceOk aa args.length ac) (hma : args.length ≤ 10000) (key : List UInt8) (hkey : args[0]? = some key) (wd1 : List UInt8) (hwd1 : args[1]? = some wd1) (wd2 : List UInt8) (hwd2 : args[2]? = some wd2) (hN : NumB B) (hv : Inv B (Res.cell v [.iface 62 (vP t)] 36 :: txR t m s p wb va vc sv clk es :: H) w) :
  Calls Tryz.prog 50 #[.agg #[vP v, .slice aa args.length ac]] w fun e w' => ∃ C es' M' r cs, B.Le C ∧ e = .returned (.agg cs.toArray) ∧ RpAt C r cs ∧ VM C es' M' ∧ CmdR M M' r ∧ Inv C (Res.cell v [.iface 62 (vP t)] 36 :: txR t m s p wb va vc sv clk es' :: H) w' := by
 refine cW Tryz.func50 rfl Tryz.ntmps50 ?_
 simp only [al]
 refine sK fun _ k1 => ?_
 obtain ⟨ab, ao, had, hrdkey⟩ := text_reads hra hkey
 subst had
 have halkey : 0 < args.length := (List.getElem?_eq_some_iff.1 hkey).1
 obtain ⟨ab9, ao9, had9, hrdwd1⟩ := text_reads hra hwd1
 cases had9
 have halwd1 : 1 < args.length := (List.getElem?_eq_some_iff.1 hwd1).1
 obtain ⟨ab9, ao9, had9, hrdwd2⟩ := text_reads hra hwd2
 cases had9
 have halwd2 : 2 < args.length := (List.getElem?_eq_some_iff.1 hwd2).1
 refine rL (sl_box (L := [vP v, .slice (some ⟨ab, ao, none⟩) args.length ac]) tV (wn rfl) rfl rfl hv (fun w => by kernel_rfl) (fun b2 w3 hv => ?_))
 refine sl_alloc tV (wn rfl) rfl hv j4al28 (fun b4 w5 hv => ?_)
 refine uW k1 (sK fun _ k6 => ?_)
 refine rL (uL (.agg #[vP v, .slice (some ⟨ab, ao, none⟩) args.length ac]) rfl (lM 1 j1wd74 hv rfl rfl rfl rfl) ?_)
 replace hv := hv.front 3 rfl
 simp only [eS, eZ] at hv
 replace hv := hv.front 3 rfl
 simp only [eS, eZ] at hv
 refine xC j1callable66 rfl ((clistNumbered B _ _ v t m s p wb va vc sv clk es M hM (some ⟨ab, ao, none⟩) ac args hra hoka hma key hkey wd1 hwd1 hN hv).mono ?_) rfl
 rintro e w7 ⟨C, ys, yg, yx, yk, yt9, p1, q1, c1, sa, ts, sc, p3, q3, c3, n, ec, hC, rfl, hoks, hrs, hml, hnf, hv⟩
 refine ⟨_, rfl, uM rfl ?_⟩
 refine uE rfl (uE rfl ?_)
 refine uE rfl ?_
 refine sl_alloc tV (wn rfl) rfl hv j4al85 (fun b8 w9 hv => ?_)
 refine xS 0 rfl hv x0sz85 rfl (by exact ⟨rfl, rfl, rfl, rfl, rfl, rfl, rfl, rfl, trivial⟩) (fun w10 hv => ?_)
 simp only [zO, sp] at hv
 refine uA rfl (uA rfl ?_)
 refine uW k6 (sK fun _ k11 => ?_)
 refine sK fun _ k12 => rL (uM rfl ?_)
 by_cases hb13 : ec ≠ 0
 ·refine uG (.bool true) rfl (ex_neq rfl rfl rfl (qT hb13)) (uW k12 ?_)
  refine cT rfl (sK fun _ k14 => ?_)
  refine rL (uM rfl ?_)
  refine xC rscallable25 rfl ((viewWrong C _ _ ec hv).mono ?_) rfl
  rintro e w16 ⟨s15, rfl, hv⟩
  refine ⟨_, rfl, ?_⟩
  refine xS 3 rfl hv rssz28 rfl (by exact ⟨rfl, rfl, rfl, rfl, trivial⟩) (fun w17 hv => ?_)
  simp only [zS, zO, sp] at hv
  refine uW k14 (rR ?_)
  refine tR (bC 3 rswd28 hv rfl rfl rfl rfl ?_)
  exact ⟨C, es, M, (.mk 1 s15 0 []), _, hC, rfl, rpAt_leaf, hM.more hC, ⟨hO, fun _ => rfl⟩, (hv.kp [2, 2] 2 3)⟩
 refine uG (.bool false) rfl (ex_neq rfl rfl rfl (qF hb13)) (uW k12 ?_)
 refine cF rfl (kS ?_)
 refine tK k11 (sK fun _ k18 => ?_)
 refine rW mixed [8] [0,1,2,3,4,5,6,7,8,9,10,11,12,13] 44 rfl (by kernel_rfl) hv ?_
 simp only [qm, opAt]
 refine dG (.pointer (some ⟨b8, 3, none⟩)) rfl (ex_field rfl rfl (x2fa85_3 _ _ _)) (dG (.pointer (some ⟨b8, 6, none⟩)) rfl (ex_field rfl rfl (s1fa78_3 _ _ _)) ?_)
 refine dL _ rfl (fun hv => ex_load rfl rfl (run_load1 s1na22 (hv.load 0 6 rfl rfl))) ?_
 simp only [zP, po]
 refine dM (vI n) rfl (dG (.pointer (some ⟨b2, 1, none⟩)) rfl (ex_field rfl rfl (j1fa74_1 _ _ _)) ?_)
 refine dL _ rfl (fun hv => ex_load rfl rfl (run_load1 s1na22 (hv.load 4 1 rfl rfl))) ?_
 simp only [zP, po]
 refine dG (.pointer (some ⟨ab, ao + 2, none⟩)) rfl (ex_index rfl rfl rfl (run_idx1 (k := 2) Tryz.underlying22 s9es22 (by omega))) (dL _ rfl (fun hv => ex_load rfl rfl (run_load1 s9na9 (hrdwd2 _ _ _ hC no_res hv 0 _ rfl))) ?_)
 refine dS rfl fun w19 hv => mC j4callable80 rfl ((listRemove C _ _ sa sc ts hoks hrs hml n hnf wd2 hv).mono ?_) rfl
 rintro e w20 ⟨D, oa, oc, out, m9, hD, rfl, hoko, hro, hol, hv⟩
 refine ⟨_, rfl, dW hv ?_⟩
 simp only [zP, po]
 refine dM (.tuple #[.slice oa out.length oc, vI m9]) rfl (dG (.slice oa out.length oc) rfl (ex_extract rfl rfl rfl) ?_)
 refine dG (vI m9) rfl (ex_extract rfl rfl rfl) ?_
 simp only [zP, po]
 refine dA (.slice oa out.length oc) rfl (dA (vI m9) rfl ?_)
 refine dE fun w21 hv => ?_
 simp only [zP, po]
 refine tK k18 (sK fun _ k22 => ?_)
 refine sK fun _ k23 => rL (uM rfl ?_)
 by_cases hb24 : m9 = 0
 ·refine uG (.bool true) rfl (ex_eql rfl rfl rfl (qT hb24)) (uW k23 ?_)
  refine cT rfl (sK fun _ k25 => ?_)
  refine rL (xC j1callable43 rfl ((respInt D _ _ 0 hv).mono ?_) rfl)
  rintro e w26 ⟨rfl, hv⟩
  refine ⟨_, rfl, ?_⟩
  refine xS 3 rfl hv rssz28 rfl (by exact ⟨rfl, rfl, rfl, rfl, trivial⟩) (fun w27 hv => ?_)
  simp only [zS, zO, sp] at hv
  refine uW k25 (rR ?_)
  refine tR (bC 3 rswd28 hv rfl rfl rfl rfl ?_)
  exact ⟨D, es, M, (.mk 2 ([] : List UInt8) 0 []), _, (hC.trans hD), rfl, rpAt_leaf, hM.more (hC.trans hD), ⟨hO, fun _ => rfl⟩, (hv.kp [2, 2] 2 3)⟩
 refine uG (.bool false) rfl (ex_eql rfl rfl rfl (qF hb24)) (uW k23 ?_)
 refine cF rfl (kS ?_)
 refine tK k22 (sK fun _ k28 => ?_)
 refine rW mixed [7, 9, 10, 11] [0,1,2,3,4,5,6,8,7,9,10,11] 44 rfl (by kernel_rfl) hv ?_
 simp only [qm, opAt]
 refine dL (.agg #[vP v, .slice (some ⟨ab, ao, none⟩) args.length ac]) rfl (fun hv => ex_load rfl rfl (lM 4 j1wd74 hv rfl rfl rfl rfl)) (dG (.pointer (some ⟨b2, 1, none⟩)) rfl (ex_field rfl rfl (j1fa74_1 _ _ _)) ?_)
 refine dL _ rfl (fun hv => ex_load rfl rfl (run_load1 s1na22 (hv.load 4 1 rfl rfl))) ?_
 simp only [zP, po]
 refine dG (.pointer (some ⟨ab, ao + 0, none⟩)) rfl (ex_index rfl rfl rfl (run_idx1 (k := 0) Tryz.underlying22 s9es22 (by omega))) (dL _ rfl (fun hv => ex_load rfl rfl (run_load1 s9na9 (hrdkey _ _ _ (hC.trans hD) no_res hv 0 _ rfl))) ?_)
 refine dL (.agg #[vI ys, .bool yg, vI yx, vI yk, vS yt9, .slice p1 q1 c1, .slice sa ts.length sc, .slice p3 q3 c3]) rfl (fun hv => ex_load rfl rfl (lM 0 x0wd85 hv rfl rfl rfl rfl)) ?_
 simp only [zP, po]
 refine dM (.slice oa out.length oc) rfl (dM (vI m9) rfl ?_)
 refine dS rfl fun w29 hv => ?_
 replace hv := hv.front 2 rfl
 simp only [eS, eZ] at hv
 replace hv := hv.front 2 rfl
 simp only [eS, eZ] at hv
 refine mC j1callable71 rfl ((clistKeep D _ _ v t m s p wb va vc sv clk es M (hM.more (hC.trans hD)) (some ⟨ab, ao, none⟩) args.length ac key _ _ yx _ _ _ _ _ _ _ _ _ _ _ oa oc out (hro.more (Base.Le.refl _) (fun _ h => h)) hoko (hol) hv).mono ?_) rfl
 rintro e w36 ⟨G31, es35, Mk34, e30, hG31, rfl, hMk33, hkp32, hv⟩
 refine ⟨_, rfl, dW hv ?_⟩
 simp only [zP, po]
 refine dS rfl fun w37 hv => mC j1callable43 rfl ((respInt G31 _ _ m9 hv).mono ?_) rfl
 rintro e w38 ⟨rfl, hv⟩
 refine ⟨_, rfl, dW hv ?_⟩
 refine dS rfl fun w39 hv => mC j1callable42 rfl ((viewDone G31 _ _ e30 2 m9 ([] : List UInt8) (vN) rfl rfl hv).mono ?_) rfl
 rintro e w40 ⟨xr, hxr, rfl, hv⟩
 rcases hxr with ⟨hec0, rfl⟩ | ⟨hec0, s41, rfl⟩
 ·refine ⟨_, rfl, dW hv ?_⟩
  refine dS rfl fun w42 hv => mS 3 rfl hv rssz28 rfl (by exact ⟨rfl, rfl, rfl, rfl, trivial⟩) (fun w43 hv => ?_)
  simp only [zS, zO, sp] at hv
  refine dW hv (dE fun w44 hv => ?_)
  simp only [zP, po]
  refine tK k28 (rR ?_)
  refine bC 3 rswd28 hv rfl rfl rfl rfl (⟨G31, es35, Mk34, (.mk 2 ([] : List UInt8) m9 []), _, ((hC.trans hD).trans hG31), rfl, rpAt_leaf, hMk33.more (Base.Le.refl _), DoneR.keep (r0 := (.mk 2 ([] : List UInt8) m9 [])) hO hkp32 (.inl ⟨by omega, rfl⟩) (fun h9 => absurd (show (2 : Int) = 1 from h9) (by decide)), (hv.kp [1, 1] 2 3)⟩)
 refine ⟨_, rfl, dW hv ?_⟩
 refine dS rfl fun w45 hv => mS 3 rfl hv rssz28 rfl (by exact ⟨rfl, rfl, rfl, rfl, trivial⟩) (fun w46 hv => ?_)
 simp only [zS, zO, sp] at hv
 refine dW hv (dE fun w47 hv => ?_)
 simp only [zP, po]
 refine tK k28 (rR ?_)
 refine bC 3 rswd28 hv rfl rfl rfl rfl (⟨G31, es35, Mk34, (.mk 1 s41 0 []), _, ((hC.trans hD).trans hG31), rfl, rpAt_leaf, hMk33.more (Base.Le.refl _), DoneR.keep (r0 := (.mk 2 ([] : List UInt8) m9 [])) hO hkp32 (.inr ⟨by omega, rfl⟩) (fun h9 => absurd (show (2 : Int) = 1 from h9) (by decide)), (hv.kp [1, 1] 2 3)⟩)
theorem j4callable81 : Callable Tryz.prog 81 := cb Tryz.func81 (by kernel_rfl)
theorem j4callable82 : Callable Tryz.prog 82 := cb Tryz.func82 (by kernel_rfl)
theorem clistSet (B : Base) (H : List Res) (w : World) (v t m s p wb : Nat) (va : Option Addr) (vc : Nat) (sv : Value) (clk : Int) (es : List (List UInt8 × Value)) (M : List (List UInt8 × Ver)) (hM : VM B es M) (hO : OkM M) (aa : Option Addr) (ac : Nat) (args : List (List UInt8)) (hra : RdV B [] aa (textCells args)) (hoka : SliceOk aa args.length ac) (hma : args.length ≤ 10000) (key : List UInt8) (hkey : args[0]? = some key) (wd1 : List UInt8) (hwd1 : args[1]? = some wd1) (wd2 : List UInt8) (hwd2 : args[2]? = some wd2) (hN : NumB B) (hv : Inv B (Res.cell v [.iface 62 (vP t)] 36 :: txR t m s p wb va vc sv clk es :: H) w) :
  Calls Tryz.prog 51 #[.agg #[vP v, .slice aa args.length ac]] w fun e w' => ∃ C es' M' r cs, B.Le C ∧ e = .returned (.agg cs.toArray) ∧ RpAt C r cs ∧ VM C es' M' ∧ CmdR M M' r ∧ Inv C (Res.cell v [.iface 62 (vP t)] 36 :: txR t m s p wb va vc sv clk es' :: H) w' := by
 refine cW Tryz.func51 rfl Tryz.ntmps51 ?_
 simp only [al]
 refine sK fun _ k1 => ?_
 obtain ⟨ab, ao, had, hrdkey⟩ := text_reads hra hkey
 subst had
 have halkey : 0 < args.length := (List.getElem?_eq_some_iff.1 hkey).1
 obtain ⟨ab9, ao9, had9, hrdwd1⟩ := text_reads hra hwd1
 cases had9
 have halwd1 : 1 < args.length := (List.getElem?_eq_some_iff.1 hwd1).1
 obtain ⟨ab9, ao9, had9, hrdwd2⟩ := text_reads hra hwd2
 cases had9
 have halwd2 : 2 < args.length := (List.getElem?_eq_some_iff.1 hwd2).1
 refine rL (sl_box (L := [vP v, .slice (some ⟨ab, ao, none⟩) args.length ac]) tV (wn rfl) rfl rfl hv (fun w => by kernel_rfl) (fun b2 w3 hv => ?_))
 refine sl_alloc tV (wn rfl) rfl hv j4al28 (fun b4 w5 hv => ?_)
 refine uW k1 (sK fun _ k6 => ?_)
 refine rL (uL (.agg #[vP v, .slice (some ⟨ab, ao, none⟩) args.length ac]) rfl (lM 1 j1wd74 hv rfl rfl rfl rfl) ?_)
 replace hv := hv.front 3 rfl
 simp only [eS, eZ] at hv
 replace hv := hv.front 3 rfl
 simp only [eS, eZ] at hv
 refine xC j1callable66 rfl ((clistNumbered B _ _ v t m s p wb va vc sv clk es M hM (some ⟨ab, ao, none⟩) ac args hra hoka hma key hkey wd1 hwd1 hN hv).mono ?_) rfl
 rintro e w7 ⟨C, ys, yg, yx, yk, yt9, p1, q1, c1, sa, ts, sc, p3, q3, c3, n, ec, hC, rfl, hoks, hrs, hml, hnf, hv⟩
 refine ⟨_, rfl, uM rfl ?_⟩
 refine uE rfl (uE rfl ?_)
 refine uE rfl ?_
 refine sl_alloc tV (wn rfl) rfl hv j4al85 (fun b8 w9 hv => ?_)
 refine xS 0 rfl hv x0sz85 rfl (by exact ⟨rfl, rfl, rfl, rfl, rfl, rfl, rfl, rfl, trivial⟩) (fun w10 hv => ?_)
 simp only [zO, sp] at hv
 refine uA rfl (uA rfl ?_)
 refine uW k6 (sK fun _ k11 => ?_)
 refine sK fun _ k12 => rL (uM rfl ?_)
 by_cases hb13 : ec ≠ 0
 ·refine uG (.bool true) rfl (ex_neq rfl rfl rfl (qT hb13)) (uW k12 ?_)
  refine cT rfl (sK fun _ k14 => ?_)
  refine rL (uM rfl ?_)
  refine xC rscallable25 rfl ((viewWrong C _ _ ec hv).mono ?_) rfl
  rintro e w16 ⟨s15, rfl, hv⟩
  refine ⟨_, rfl, ?_⟩
  refine xS 3 rfl hv rssz28 rfl (by exact ⟨rfl, rfl, rfl, rfl, trivial⟩) (fun w17 hv => ?_)
  simp only [zS, zO, sp] at hv
  refine uW k14 (rR ?_)
  refine tR (bC 3 rswd28 hv rfl rfl rfl rfl ?_)
  exact ⟨C, es, M, (.mk 1 s15 0 []), _, hC, rfl, rpAt_leaf, hM.more hC, ⟨hO, fun _ => rfl⟩, (hv.kp [2, 2] 2 3)⟩
 refine uG (.bool false) rfl (ex_neq rfl rfl rfl (qF hb13)) (uW k12 ?_)
 refine cF rfl (kS ?_)
 refine tK k11 (sK fun _ k18 => ?_)
 refine sK fun _ k19 => rL (uF (.pointer (some ⟨b8, 3, none⟩)) rfl (x2fa85_3 _ _ _) ?_)
 refine uF (.pointer (some ⟨b8, 3, none⟩)) rfl (s12fa78_0 _ _ _) ?_
 refine uL _ rfl (run_load1 s2na3 (hv.load 0 3 rfl rfl)) ?_
 by_cases hb20 : yk ≠ 3
 ·refine uG (.bool true) rfl (ex_neq rfl rfl rfl (qT hb20)) (uW k19 ?_)
  refine cT rfl (sK fun _ k21 => ?_)
  refine rL (xC rscallable25 rfl ((viewWrong C _ _ 23 hv).mono ?_) rfl)
  rintro e w23 ⟨s22, rfl, hv⟩
  refine ⟨_, rfl, ?_⟩
  refine xS 3 rfl hv rssz28 rfl (by exact ⟨rfl, rfl, rfl, rfl, trivial⟩) (fun w24 hv => ?_)
  simp only [zS, zO, sp] at hv
  refine uW k21 (rR ?_)
  refine tR (bC 3 rswd28 hv rfl rfl rfl rfl ?_)
  exact ⟨C, es, M, (.mk 1 s22 0 []), _, hC, rfl, rpAt_leaf, hM.more hC, ⟨hO, fun _ => rfl⟩, (hv.kp [2, 2] 2 3)⟩
 refine uG (.bool false) rfl (ex_neq rfl rfl rfl (qF hb20)) (uW k19 ?_)
 refine cF rfl (kS ?_)
 refine tK k18 (sK fun _ k25 => ?_)
 refine rW mixed [8] [0,1,2,3,4,5,6,7,8,9,10,11,12,13] 51 rfl (by kernel_rfl) hv ?_
 simp only [qm, opAt]
 refine dG (.pointer (some ⟨b8, 3, none⟩)) rfl (ex_field rfl rfl (x2fa85_3 _ _ _)) (dG (.pointer (some ⟨b8, 6, none⟩)) rfl (ex_field rfl rfl (s1fa78_3 _ _ _)) ?_)
 refine dL _ rfl (fun hv => ex_load rfl rfl (run_load1 s1na22 (hv.load 0 6 rfl rfl))) ?_
 simp only [zP, po]
 refine dM (vI n) rfl (dG (.pointer (some ⟨b2, 1, none⟩)) rfl (ex_field rfl rfl (j1fa74_1 _ _ _)) ?_)
 refine dL _ rfl (fun hv => ex_load rfl rfl (run_load1 s1na22 (hv.load 4 1 rfl rfl))) ?_
 simp only [zP, po]
 refine dG (.pointer (some ⟨ab, ao + 2, none⟩)) rfl (ex_index rfl rfl rfl (run_idx1 (k := 2) Tryz.underlying22 s9es22 (by omega))) (dL _ rfl (fun hv => ex_load rfl rfl (run_load1 s9na9 (hrdwd2 _ _ _ hC no_res hv 0 _ rfl))) ?_)
 refine dS rfl fun w26 hv => mC j4callable81 rfl ((listSet C _ _ sa sc ts hoks hrs hml n hnf wd2 hv).mono ?_) rfl
 rintro e w27 ⟨D, oa, oc, out, e2, hD, rfl, hoko, hro, hol, hv⟩
 refine ⟨_, rfl, dW hv ?_⟩
 simp only [zP, po]
 refine dM (.tuple #[.slice oa out.length oc, vI e2]) rfl (dG (.slice oa out.length oc) rfl (ex_extract rfl rfl rfl) ?_)
 refine dG (vI e2) rfl (ex_extract rfl rfl rfl) ?_
 simp only [zP, po]
 refine dA (.slice oa out.length oc) rfl (dA (vI e2) rfl ?_)
 refine dE fun w28 hv => ?_
 simp only [zP, po]
 refine tK k25 (sK fun _ k29 => ?_)
 refine sK fun _ k30 => rL (uM rfl ?_)
 by_cases hb31 : e2 = 23
 ·refine uG (.bool true) rfl (ex_eql rfl rfl rfl (qT hb31)) (uW k30 ?_)
  refine cT rfl (sK fun _ k32 => ?_)
  refine rL (xC rscallable25 rfl ((viewWrong D _ _ 44 hv).mono ?_) rfl)
  rintro e w34 ⟨s33, rfl, hv⟩
  refine ⟨_, rfl, ?_⟩
  refine xS 3 rfl hv rssz28 rfl (by exact ⟨rfl, rfl, rfl, rfl, trivial⟩) (fun w35 hv => ?_)
  simp only [zS, zO, sp] at hv
  refine uW k32 (rR ?_)
  refine tR (bC 3 rswd28 hv rfl rfl rfl rfl ?_)
  exact ⟨D, es, M, (.mk 1 s33 0 []), _, (hC.trans hD), rfl, rpAt_leaf, hM.more (hC.trans hD), ⟨hO, fun _ => rfl⟩, (hv.kp [2, 2] 2 3)⟩
 refine uG (.bool false) rfl (ex_eql rfl rfl rfl (qF hb31)) (uW k30 ?_)
 refine cF rfl (kS ?_)
 refine tK k29 (sK fun _ k36 => ?_)
 refine sK fun _ k37 => rL (uM rfl ?_)
 by_cases hb38 : e2 ≠ 0
 ·refine uG (.bool true) rfl (ex_neq rfl rfl rfl (qT hb38)) (uW k37 ?_)
  refine cT rfl (sK fun _ k39 => ?_)
  refine rL (uM rfl ?_)
  refine xC rscallable25 rfl ((viewWrong D _ _ e2 hv).mono ?_) rfl
  rintro e w41 ⟨s40, rfl, hv⟩
  refine ⟨_, rfl, ?_⟩
  refine xS 3 rfl hv rssz28 rfl (by exact ⟨rfl, rfl, rfl, rfl, trivial⟩) (fun w42 hv => ?_)
  simp only [zS, zO, sp] at hv
  refine uW k39 (rR ?_)
  refine tR (bC 3 rswd28 hv rfl rfl rfl rfl ?_)
  exact ⟨D, es, M, (.mk 1 s40 0 []), _, (hC.trans hD), rfl, rpAt_leaf, hM.more (hC.trans hD), ⟨hO, fun _ => rfl⟩, (hv.kp [2, 2] 2 3)⟩
 refine uG (.bool false) rfl (ex_neq rfl rfl rfl (qF hb38)) (uW k37 ?_)
 refine cF rfl (kS ?_)
 refine tK k36 (sK fun _ k43 => ?_)
 refine rW mixed [7, 8, 9, 10] [0,1,2,3,4,5,6,7,8,9,10] 51 rfl (by kernel_rfl) hv ?_
 simp only [qm, opAt]
 refine dL (.agg #[vP v, .slice (some ⟨ab, ao, none⟩) args.length ac]) rfl (fun hv => ex_load rfl rfl (lM 4 j1wd74 hv rfl rfl rfl rfl)) (dG (.pointer (some ⟨b2, 1, none⟩)) rfl (ex_field rfl rfl (j1fa74_1 _ _ _)) ?_)
 refine dL _ rfl (fun hv => ex_load rfl rfl (run_load1 s1na22 (hv.load 4 1 rfl rfl))) ?_
 simp only [zP, po]
 refine dG (.pointer (some ⟨ab, ao + 0, none⟩)) rfl (ex_index rfl rfl rfl (run_idx1 (k := 0) Tryz.underlying22 s9es22 (by omega))) (dL _ rfl (fun hv => ex_load rfl rfl (run_load1 s9na9 (hrdkey _ _ _ (hC.trans hD) no_res hv 0 _ rfl))) ?_)
 refine dL (.agg #[vI ys, .bool yg, vI yx, vI yk, vS yt9, .slice p1 q1 c1, .slice sa ts.length sc, .slice p3 q3 c3]) rfl (fun hv => ex_load rfl rfl (lM 0 x0wd85 hv rfl rfl rfl rfl)) ?_
 simp only [zP, po]
 refine dM (.slice oa out.length oc) rfl (dS rfl fun w44 hv => ?_)
 replace hv := hv.front 2 rfl
 simp only [eS, eZ] at hv
 replace hv := hv.front 2 rfl
 simp only [eS, eZ] at hv
 refine mC j1callable71 rfl ((clistKeep D _ _ v t m s p wb va vc sv clk es M (hM.more (hC.trans hD)) (some ⟨ab, ao, none⟩) args.length ac key _ _ yx _ _ _ _ _ _ _ _ _ _ _ oa oc out (hro.more (Base.Le.refl _) (fun _ h => h)) hoko (hol) hv).mono ?_) rfl
 rintro e w51 ⟨G46, es50, Mk49, e45, hG46, rfl, hMk48, hkp47, hv⟩
 refine ⟨_, rfl, dW hv ?_⟩
 refine dS rfl fun w52 hv => mC j4callable82 rfl ((respText G46 _ _ ([79, 75] : List UInt8) hv).mono ?_) rfl
 rintro e w53 ⟨rfl, hv⟩
 refine ⟨_, rfl, dW hv ?_⟩
 simp only [zP, po]
 refine dS rfl fun w54 hv => mC j1callable42 rfl ((viewDone G46 _ _ e45 0 0 ([79, 75] : List UInt8) (vN) rfl rfl hv).mono ?_) rfl
 rintro e w55 ⟨xr, hxr, rfl, hv⟩
 rcases hxr with ⟨hec0, rfl⟩ | ⟨hec0, s56, rfl⟩
 ·refine ⟨_, rfl, dW hv ?_⟩
  refine dS rfl fun w57 hv => mS 3 rfl hv rssz28 rfl (by exact ⟨rfl, rfl, rfl, rfl, trivial⟩) (fun w58 hv => ?_)
  simp only [zS, zO, sp] at hv
  refine dW hv (dE fun w59 hv => ?_)
  simp only [zP, po]
  refine tK k43 (rR ?_)
  refine bC 3 rswd28 hv rfl rfl rfl rfl (⟨G46, es50, Mk49, (.mk 0 ([79, 75] : List UInt8) 0 []), _, ((hC.trans hD).trans hG46), rfl, rpAt_leaf, hMk48.more (Base.Le.refl _), DoneR.keep (r0 := (.mk 0 ([79, 75] : List UInt8) 0 [])) hO hkp47 (.inl ⟨by omega, rfl⟩) (fun h9 => absurd (show (0 : Int) = 1 from h9) (by decide)), (hv.kp [1, 1] 2 3)⟩)
 refine ⟨_, rfl, dW hv ?_⟩
 refine dS rfl fun w60 hv => mS 3 rfl hv rssz28 rfl (by exact ⟨rfl, rfl, rfl, rfl, trivial⟩) (fun w61 hv => ?_)
 simp only [zS, zO, sp] at hv
 refine dW hv (dE fun w62 hv => ?_)
 simp only [zP, po]
 refine tK k43 (rR ?_)
 refine bC 3 rswd28 hv rfl rfl rfl rfl (⟨G46, es50, Mk49, (.mk 1 s56 0 []), _, ((hC.trans hD).trans hG46), rfl, rpAt_leaf, hMk48.more (Base.Le.refl _), DoneR.keep (r0 := (.mk 0 ([79, 75] : List UInt8) 0 [])) hO hkp47 (.inr ⟨by omega, rfl⟩) (fun h9 => absurd (show (0 : Int) = 1 from h9) (by decide)), (hv.kp [1, 1] 2 3)⟩)
theorem clistRange (B : Base) (H : List Res) (w : World) (v t m s p wb : Nat) (va : Option Addr) (vc : Nat) (sv : Value) (clk : Int) (es : List (List UInt8 × Value)) (M : List (List UInt8 × Ver)) (hM : VM B es M) (hO : OkM M) (aa : Option Addr) (ac : Nat) (args : List (List UInt8)) (hra : RdV B [] aa (textCells args)) (hoka : SliceOk aa args.length ac) (_ : args.length ≤ 10000) (key : List UInt8) (hkey : args[0]? = some key) (hal3 : args.length = 3) (hN : NumB B) (hv : Inv B (Res.cell v [.iface 62 (vP t)] 36 :: txR t m s p wb va vc sv clk es :: H) w) :
  Calls Tryz.prog 52 #[.agg #[vP v, .slice aa args.length ac], .bool false] w fun e w' => ∃ C es' M' r cs, B.Le C ∧ e = .returned (.agg cs.toArray) ∧ RpAt C r cs ∧ VM C es' M' ∧ (OkM M' ∧ LRangeR M clk key (args.drop 1) M' r) ∧ Inv C (Res.cell v [.iface 62 (vP t)] 36 :: txR t m s p wb va vc sv clk es' :: H) w' := by
 have hd1 : (args.drop 1).length = args.length - 1 := List.length_drop
 obtain ⟨a3, c3, ha3, ok3, hr3⟩ := sliced_fromV 1 hoka hra (textCells_len args) (show 1 ≤ args.length by omega) (by decide)
 rw [Nat.mul_one, tx_drop] at hr3
 rw [← hd1] at ok3
 refine cW Tryz.func52 rfl Tryz.ntmps52 ?_
 simp only [al]
 refine sK fun _ k1 => rL (sl_box (L := [vP v, .slice aa args.length ac]) tV (wn rfl) rfl rfl hv (fun w => by kernel_rfl) (fun b2 w3 hv => ?_))
 simp only [zP, po]
 refine sl_alloc tV (wn rfl) rfl hv j4al28 (fun b4 w5 hv => ?_)
 refine uW k1 (sK fun _ k6 => ?_)
 refine rL (uF (.pointer (some ⟨b2, 1, none⟩)) rfl (j1fa74_1 _ _ _) ?_)
 refine uL _ rfl (run_load1 s1na22 (hv.load 1 1 rfl rfl)) ?_
 refine uG (.slice a3 ((args.drop 1).length) c3) rfl (ex_slice (lo' := some (vI ((1 : Nat) : Int))) rfl rfl (congrArg some rfl) rfl rfl ((run_fromAny Tryz.underlying22 s9es22 (by omega)).trans (by rw [ha3, hd1]))) ?_
 refine xC j1callable76 rfl ((viewInts B _ _ a3 c3 (args.drop 1) hr3 (by omega) hN hv).mono ?_) rfl
 rintro e w7 ⟨E, ia, ic, ns, ei, hE, rfl, hri, hir, hv⟩
 refine ⟨_, rfl, ?_⟩
 rcases ints_of2 hir (by omega) with ⟨rfl, hir0, n0, n1, rfl, hf0, hf1⟩ | ⟨rfl, rfl, hbad⟩
 ·refine uG (.tuple #[.slice ia 2 ic, vI 0]) rfl (ex_move rfl rfl) ?_
  refine uG (.slice ia 2 ic) rfl (ex_extract rfl rfl rfl) (uE rfl ?_)
  refine uA rfl (uA rfl ?_)
  refine uW k6 (sK fun _ k8 => ?_)
  refine sK fun _ k9 => rL (uM rfl ?_)
  refine uG (.bool false) rfl (ex_neq rfl rfl rfl (by decide)) (uW k9 ?_)
  refine cF rfl (kS ?_)
  refine tK k8 (sK fun _ k10 => ?_)
  obtain ⟨ab, ao, had, hrdkey⟩ := text_reads hra hkey
  subst had
  have halkey : 0 < args.length := (List.getElem?_eq_some_iff.1 hkey).1
  refine rT mixed (fun az wz => ∃ (C : Base) (y : Ver) (yp yt yz : Value) (ec : Int) (b17 : Nat), (E.Le C) ∧ (ValAt C y.val yp yt yz) ∧ (OfI M clk key 3 y ec) ∧ az = { tmps := List.toArray (.agg #[vP v, .slice (some ⟨ab, ao, none⟩) args.length ac] :: .bool false :: vP b2 :: undef :: vP b4 :: .slice ia 2 ic :: vI ec :: vP b17 :: undef :: .tuple #[.slice ia 2 ic, vI 0] :: .pointer (some ⟨b2, 1, none⟩) :: .slice (some ⟨ab, ao, none⟩) args.length ac :: .slice a3 ((args.drop 1).length) c3 :: .tuple #[.slice ia 2 ic, vI 0] :: .slice ia 2 ic :: vI 0 :: vI 0 :: .bool false :: undef :: undef :: .tuple #[.agg #[vI y.stamp, .bool y.gone, vI y.expire, vI y.val.kind, vS y.val.text, yp, yt, yz], vI ec] :: vP b2 :: vP v :: .pointer (some ⟨b2, 1, none⟩) :: .slice (some ⟨ab, ao, none⟩) args.length ac :: .pointer (some ⟨ab, ao + 0, none⟩) :: vS key :: .tuple #[.agg #[vI y.stamp, .bool y.gone, vI y.expire, vI y.val.kind, vS y.val.text, yp, yt, yz], vI ec] :: .agg #[vI y.stamp, .bool y.gone, vI y.expire, vI y.val.kind, vS y.val.text, yp, yt, yz] :: vI ec :: undef :: undef :: undef :: undef :: undef :: undef :: undef :: undef :: undef :: undef :: undef :: undef :: undef :: undef :: undef :: undef :: undef :: undef :: undef :: undef :: undef :: undef :: undef :: undef :: undef :: undef :: undef :: undef :: undef :: undef :: undef :: undef :: undef :: undef :: undef :: undef :: undef :: undef :: undef :: undef :: undef :: undef :: undef :: undef :: undef :: []), defers := [] } ∧ Inv C (Res.cell b17 [vI y.stamp, .bool y.gone, vI y.expire, vI y.val.kind, vS y.val.text, yp, yt, yz] 85 :: Res.cell v [.iface 62 (vP t)] 36 :: txR t m s p wb va vc sv clk es :: Res.cell b4 [vI 0, vS [], vI 0, vN] 28 :: Res.cell b2 [vP v, .slice (some ⟨ab, ao, none⟩) args.length ac] 74 :: H) wz) [6, 10, 11] [0,1,2,3,4,5] [7,8,9,10,11,12] [6,7,8,9,11,12] 6 10 75 rfl (by kernel_rfl) hv ?_ ?_
  ·intro R2 l1 l2 hR2 hl1 hl2
   simp only [qm, opAt]
   refine tG (vP b2) rfl (ex_field rfl rfl (j1fa74_0 _ _ _)) (tF (vP v) rfl (fun hv => ex_load rfl rfl (run_load1 j1na24 (hv.load 1 0 rfl rfl))) fun f11 hf11 => ?_)
   simp only [zP, po]
   refine tG (.pointer (some ⟨b2, 1, none⟩)) rfl (ex_field rfl rfl (j1fa74_1 _ _ _)) (tF (.slice (some ⟨ab, ao, none⟩) args.length ac) rfl (fun hv => ex_load rfl rfl (run_load1 s1na22 (hv.load 1 1 rfl rfl))) fun f12 hf12 => ?_)
   simp only [zP, po]
   refine tG (.pointer (some ⟨ab, ao + 0, none⟩)) rfl (ex_index rfl rfl rfl (run_idx1 (k := 0) Tryz.underlying22 s9es22 (by omega))) (tF (vS key) rfl (fun hv => ex_load rfl rfl (run_load1 s9na9 (hrdkey _ _ _ hE no_res hv 0 _ rfl))) fun f13 hf13 => ?_)
   simp only [zP, po]
   refine tB ?_ ?_
   ·rw [hl1]; clear hl1 hl2
    simp only [qm, opAt]
    refine dS rfl fun w14 hv => ?_
    replace hv := hv.front 3 rfl
    simp only [eS, eZ] at hv
    replace hv := hv.front 3 rfl
    simp only [eS, eZ] at hv
    refine mC j1callable41 rfl ((viewOf E _ _ v t m s p wb va vc sv clk es M key 3 (hM.more hE) hv).mono ?_) rfl
    rintro e w15 ⟨C, y, yp, yt, yz, ec, hC, rfl, hyv, hof, hv⟩
    refine ⟨_, rfl, dV hv (fK rfl (fK rfl (fK rfl fN))) ?_⟩
    refine dM (.tuple #[.agg #[vI y.stamp, .bool y.gone, vI y.expire, vI y.val.kind, vS y.val.text, yp, yt, yz], vI ec]) rfl (dG (.agg #[vI y.stamp, .bool y.gone, vI y.expire, vI y.val.kind, vS y.val.text, yp, yt, yz]) rfl (ex_extract rfl rfl rfl) ?_)
    simp only [zP, po]
    refine dG (vI ec) rfl (ex_extract rfl rfl rfl) (dS rfl fun w16 hv => ?_)
    refine mem_alloc rfl rfl hv j4al85 (fun b17 w18 hv => ?_)
    refine dV hv (fC (fun ww hv => hf13 ww (ex_load rfl rfl (run_load1 s9na9 (hrdkey _ _ _ (hE.trans hC) no_res hv 0 _ rfl)))) (fC (fun ww hv => hf12 ww (ex_load rfl rfl (run_load1 s1na22 (hv.load 4 1 rfl rfl)))) (fC (fun ww hv => hf11 ww (ex_load rfl rfl (run_load1 j1na24 (hv.load 4 0 rfl rfl)))) fN))) (dS rfl fun w19 hv => ?_)
    refine mS 0 rfl hv x0sz85 rfl (by exact ⟨rfl, rfl, rfl, rfl, rfl, hyv.p.one, hyv.t.one, hyv.z.one, trivial⟩) (fun w20 hv => ?_)
    simp only [zO, sp] at hv
    refine dV hv (fK rfl (fK rfl (fK rfl fN))) ?_
    simp only [zP, po]
    refine dA (vI ec) rfl (dE fun wz hv => ?_)
    simp only [zP, po]
    exact hR2 _ _ ⟨C, y, yp, yt, yz, ec, b17, hC, hyv, hof, rfl, (((((hv.front 4 rfl).front 4 rfl).front 4 rfl).front 4 rfl).front 4 rfl)⟩
   rw [hl2]; clear hl1 hl2
   simp only [qm, opAt]
   refine dS rfl fun w21 hv => mem_alloc rfl rfl hv j4al85 (fun b22 w23 hv => ?_)
   refine dV hv (fC (fun ww hv => hf13 ww (ex_load rfl rfl (run_load1 s9na9 (hrdkey _ _ _ hE no_res hv 0 _ rfl)))) (fC (fun ww hv => hf12 ww (ex_load rfl rfl (run_load1 s1na22 (hv.load 2 1 rfl rfl)))) (fC (fun ww hv => hf11 ww (ex_load rfl rfl (run_load1 j1na24 (hv.load 2 0 rfl rfl)))) fN))) (dS rfl fun w24 hv => ?_)
   replace hv := hv.front 4 rfl
   simp only [eS, eZ] at hv
   replace hv := hv.front 4 rfl
   simp only [eS, eZ] at hv
   refine mC j1callable41 rfl ((viewOf E _ _ v t m s p wb va vc sv clk es M key 3 (hM.more hE) hv).mono ?_) rfl
   rintro e w25 ⟨C, y, yp, yt, yz, ec, hC, rfl, hyv, hof, hv⟩
   refine ⟨_, rfl, dV hv (fK rfl (fK rfl (fK rfl fN))) ?_⟩
   refine dM (.tuple #[.agg #[vI y.stamp, .bool y.gone, vI y.expire, vI y.val.kind, vS y.val.text, yp, yt, yz], vI ec]) rfl ?_
   simp only [zP, po]
   refine dG (.agg #[vI y.stamp, .bool y.gone, vI y.expire, vI y.val.kind, vS y.val.text, yp, yt, yz]) rfl (ex_extract rfl rfl rfl) (dG (vI ec) rfl (ex_extract rfl rfl rfl) ?_)
   refine dS rfl fun w26 hv => mS 2 rfl hv x0sz85 rfl (by exact ⟨rfl, rfl, rfl, rfl, rfl, hyv.p.one, hyv.t.one, hyv.z.one, trivial⟩) (fun w27 hv => ?_)
   simp only [zS, zO, sp] at hv
   refine dV hv (fK rfl (fK rfl (fK rfl fN))) ?_
   simp only [zP, po]
   refine dA (vI ec) rfl (dE fun wz hv => ?_)
   simp only [zP, po]
   exact hR2 _ _ ⟨C, y, yp, yt, yz, ec, b22, hC, hyv, hof, rfl, (((((hv.front 4 rfl).front 4 rfl).front 3 rfl).front 3 rfl).front 4 rfl)⟩
  rintro _ w28 ⟨C, y, yp, yt, yz, ec, b17, hC, hyv, hof, rfl, hv⟩
  obtain ⟨pa, pc, sa, sc, za, zc, rfl, rfl, rfl, hokp, hrp, hoks, hrs, hokz, hrz⟩ := valAt_open hyv
  refine tK k10 (sK fun _ k29 => ?_)
  refine sK fun _ k30 => rL (uM rfl ?_)
  by_cases hb31 : ec ≠ 0
  ·refine uG (.bool true) rfl (ex_neq rfl rfl rfl (qT hb31)) (uW k30 ?_)
   refine cT rfl (sK fun _ k32 => ?_)
   refine rL (uM rfl ?_)
   refine xC rscallable25 rfl ((viewWrong C _ _ ec hv).mono ?_) rfl
   rintro e w34 ⟨s33, rfl, hv⟩
   refine ⟨_, rfl, ?_⟩
   simp only [zP, po]
   refine xS 3 rfl hv rssz28 rfl (by exact ⟨rfl, rfl, rfl, rfl, trivial⟩) (fun w35 hv => ?_)
   simp only [zS, zO, sp] at hv
   refine uW k32 (rR ?_)
   refine tR (bC 3 rswd28 hv rfl rfl rfl rfl ?_)
   exact ⟨C, es, M, (.mk 1 s33 0 []), _, (hE.trans hC), rfl, rpAt_leaf, hM.more (hE.trans hC), ⟨hO, rfl, .inr ⟨n0, n1, hir0, y, ec, hof, .inl ⟨hb31, rfl⟩⟩⟩, (hv.kp [2, 2] 2 3)⟩
  refine uG (.bool false) rfl (ex_neq rfl rfl rfl (qF hb31)) (uW k30 ?_)
  refine cF rfl (kS ?_)
  refine tK k29 (sK fun _ k36 => ?_)
  refine sK fun _ k37 => rL (uM rfl ?_)
  refine uG (.bool true) rfl (ex_not rfl rfl rfl) (uW k37 ?_)
  refine cT rfl (sK fun _ k38 => ?_)
  have hv9 := hv
  obtain ⟨ib, io, had, hrd0⟩ := int_reads hri (show [n0, n1][0]? = some n0 from rfl)
  obtain ⟨ib2, io2, had2, hrd1⟩ := int_reads hri (show [n0, n1][1]? = some n1 from rfl)
  subst had
  cases had2
  have hv := hv9
  clear hv9
  refine rW mixed [9, 10, 11] [0,1,2,3,4,5,6,7,8,9,10,11] 75 rfl (by kernel_rfl) hv ?_
  simp only [qm, opAt]
  refine dG (.pointer (some ⟨b17, 3, none⟩)) rfl (ex_field rfl rfl (x2fa85_3 _ _ _)) (dG (.pointer (some ⟨b17, 6, none⟩)) rfl (ex_field rfl rfl (s1fa78_3 _ _ _)) ?_)
  refine dL _ rfl (fun hv => ex_load rfl rfl (run_load1 s1na22 (hv.load 0 6 rfl rfl))) ?_
  simp only [zP, po]
  refine dM (.slice (some ⟨ib, io, none⟩) 2 ic) rfl (dG (.pointer (some ⟨ib, io + 0, none⟩)) rfl (ex_index rfl rfl rfl (run_idx1 (k := 0) Tryz.underlying149 s11es149 (by omega))) ?_)
  refine dL _ rfl (fun hv => ex_load rfl rfl (run_load1 s2na3 (hrd0 _ _ _ hC no_res hv 0 _ rfl))) ?_
  simp only [zP, po]
  refine dM (.slice (some ⟨ib, io, none⟩) 2 ic) rfl (dG (.pointer (some ⟨ib, io + 1, none⟩)) rfl (ex_index rfl rfl rfl (run_idx1 (k := 1) Tryz.underlying149 s11es149 (by omega))) ?_)
  refine dL _ rfl (fun hv => ex_load rfl rfl (run_load1 s2na3 (hrd1 _ _ _ hC no_res hv 0 _ rfl))) ?_
  simp only [zP, po]
  refine dS rfl fun w39 hv => mC i1callable83 rfl ((listRange C _ _ sa sc y.val.texts hoks hrs hyv.tm n0 n1 hf0 hf1 hv).mono ?_) rfl
  rintro e w40 ⟨D, oa, oc, out, hD, rfl, hoko, hro, hout, hv⟩
  have hol : out.length ≤ 1000000 := by rw [hout]; unfold rangeF; have := hyv.tm; rw [List.length_drop, List.length_take]; omega
  refine ⟨_, rfl, dW hv ?_⟩
  refine dS rfl fun w41 hv => mC j3callable78 rfl ((respStrsR D _ _ oa oc out (hro.more (Base.Le.refl _) (fun _ h => h)) (hol) hv).mono ?_) rfl
  rintro e w46 ⟨D42, da43, dc44, hD42, rfl, hrp45o, hrp45, hv⟩
  refine ⟨_, rfl, dW hv ?_⟩
  refine dS rfl fun w47 hv => mS 3 rfl hv rssz28 rfl (by exact ⟨rfl, rfl, rfl, rfl, trivial⟩) (fun w48 hv => ?_)
  simp only [zS, zO, sp] at hv
  refine dW hv (dE fun w49 hv => ?_)
  simp only [zP, po]
  refine tK k38 (rR ?_)
  refine tR (bC 3 rswd28 hv rfl rfl rfl rfl ?_)
  exact ⟨D42, es, M, (rStrs out), _, (((hE.trans hC).trans hD).trans hD42), rfl, (rpAt_strs hrp45o (hrp45.more (Base.Le.refl _) (fun _ h => h))), hM.more (((hE.trans hC).trans hD).trans hD42), ⟨hO, rfl, .inr ⟨n0, n1, hir0, y, ec, hof, .inr ⟨by omega, by rw [hout]⟩⟩⟩, (hv.kp [2, 2] 2 3)⟩
 refine uM rfl (uE rfl ?_)
 refine uE rfl (uA rfl ?_)
 refine uA rfl (uW k6 ?_)
 refine sK fun _ k50 => sK fun _ k51 => rL (uM rfl ?_)
 refine uG (.bool true) rfl (ex_neq rfl rfl rfl (by decide)) (uW k51 ?_)
 refine cT rfl (sK fun _ k52 => ?_)
 refine rL (uM rfl ?_)
 refine xC rscallable25 rfl ((viewWrong E _ _ 41 hv).mono ?_) rfl
 rintro e w54 ⟨s53, rfl, hv⟩
 refine ⟨_, rfl, ?_⟩
 simp only [zP, po]
 refine xS 0 rfl hv rssz28 rfl (by exact ⟨rfl, rfl, rfl, rfl, trivial⟩) (fun w55 hv => ?_)
 simp only [zO, sp] at hv
 refine uW k52 (rR ?_)
 refine tR (bC 0 rswd28 hv rfl rfl rfl rfl ?_)
 exact ⟨E, es, M, (.mk 1 s53 0 []), _, hE, rfl, rpAt_leaf, hM.more hE, ⟨hO, rfl, .inl ⟨hbad, rfl⟩⟩, (hv.kp [3, 3] 2 2)⟩
theorem j4callable84 : Callable Tryz.prog 84 := cb Tryz.func84 (by kernel_rfl)
theorem clistTrim (B : Base) (H : List Res) (w : World) (v t m s p wb : Nat) (va : Option Addr) (vc : Nat) (sv : Value) (clk : Int) (es : List (List UInt8 × Value)) (M : List (List UInt8 × Ver)) (hM : VM B es M) (hO : OkM M) (aa : Option Addr) (ac : Nat) (args : List (List UInt8)) (hra : RdV B [] aa (textCells args)) (hoka : SliceOk aa args.length ac) (_ : args.length ≤ 10000) (key : List UInt8) (hkey : args[0]? = some key) (hal3 : args.length = 3) (hN : NumB B) (hv : Inv B (Res.cell v [.iface 62 (vP t)] 36 :: txR t m s p wb va vc sv clk es :: H) w) :
  Calls Tryz.prog 52 #[.agg #[vP v, .slice aa args.length ac], .bool true] w fun e w' => ∃ C es' M' r cs, B.Le C ∧ e = .returned (.agg cs.toArray) ∧ RpAt C r cs ∧ VM C es' M' ∧ CmdR M M' r ∧ Inv C (Res.cell v [.iface 62 (vP t)] 36 :: txR t m s p wb va vc sv clk es' :: H) w' := by
 have hd1 : (args.drop 1).length = args.length - 1 := List.length_drop
 obtain ⟨a3, c3, ha3, ok3, hr3⟩ := sliced_fromV 1 hoka hra (textCells_len args) (show 1 ≤ args.length by omega) (by decide)
 rw [Nat.mul_one, tx_drop] at hr3
 rw [← hd1] at ok3
 refine cW Tryz.func52 rfl Tryz.ntmps52 ?_
 simp only [al]
 refine sK fun _ k1 => rL (sl_box (L := [vP v, .slice aa args.length ac]) tV (wn rfl) rfl rfl hv (fun w => by kernel_rfl) (fun b2 w3 hv => ?_))
 simp only [zP, po]
 refine sl_alloc tV (wn rfl) rfl hv j4al28 (fun b4 w5 hv => ?_)
 refine uW k1 (sK fun _ k6 => ?_)
 refine rL (uF (.pointer (some ⟨b2, 1, none⟩)) rfl (j1fa74_1 _ _ _) ?_)
 refine uL _ rfl (run_load1 s1na22 (hv.load 1 1 rfl rfl)) ?_
 refine uG (.slice a3 ((args.drop 1).length) c3) rfl (ex_slice (lo' := some (vI ((1 : Nat) : Int))) rfl rfl (congrArg some rfl) rfl rfl ((run_fromAny Tryz.underlying22 s9es22 (by omega)).trans (by rw [ha3, hd1]))) ?_
 refine xC j1callable76 rfl ((viewInts B _ _ a3 c3 (args.drop 1) hr3 (by omega) hN hv).mono ?_) rfl
 rintro e w7 ⟨E, ia, ic, ns, ei, hE, rfl, hri, hir, hv⟩
 refine ⟨_, rfl, ?_⟩
 rcases ints_of2 hir (by omega) with ⟨rfl, hir0, n0, n1, rfl, hf0, hf1⟩ | ⟨rfl, rfl, hbad⟩
 ·refine uG (.tuple #[.slice ia 2 ic, vI 0]) rfl (ex_move rfl rfl) ?_
  refine uG (.slice ia 2 ic) rfl (ex_extract rfl rfl rfl) (uE rfl ?_)
  refine uA rfl (uA rfl ?_)
  refine uW k6 (sK fun _ k8 => ?_)
  refine sK fun _ k9 => rL (uM rfl ?_)
  refine uG (.bool false) rfl (ex_neq rfl rfl rfl (by decide)) (uW k9 ?_)
  refine cF rfl (kS ?_)
  refine tK k8 (sK fun _ k10 => ?_)
  obtain ⟨ab, ao, had, hrdkey⟩ := text_reads hra hkey
  subst had
  have halkey : 0 < args.length := (List.getElem?_eq_some_iff.1 hkey).1
  refine rT mixed (fun az wz => ∃ (C : Base) (y : Ver) (yp yt yz : Value) (ec : Int) (b17 : Nat), (E.Le C) ∧ (ValAt C y.val yp yt yz) ∧ (OfI M clk key 3 y ec) ∧ az = { tmps := List.toArray (.agg #[vP v, .slice (some ⟨ab, ao, none⟩) args.length ac] :: .bool true :: vP b2 :: undef :: vP b4 :: .slice ia 2 ic :: vI ec :: vP b17 :: undef :: .tuple #[.slice ia 2 ic, vI 0] :: .pointer (some ⟨b2, 1, none⟩) :: .slice (some ⟨ab, ao, none⟩) args.length ac :: .slice a3 ((args.drop 1).length) c3 :: .tuple #[.slice ia 2 ic, vI 0] :: .slice ia 2 ic :: vI 0 :: vI 0 :: .bool false :: undef :: undef :: .tuple #[.agg #[vI y.stamp, .bool y.gone, vI y.expire, vI y.val.kind, vS y.val.text, yp, yt, yz], vI ec] :: vP b2 :: vP v :: .pointer (some ⟨b2, 1, none⟩) :: .slice (some ⟨ab, ao, none⟩) args.length ac :: .pointer (some ⟨ab, ao + 0, none⟩) :: vS key :: .tuple #[.agg #[vI y.stamp, .bool y.gone, vI y.expire, vI y.val.kind, vS y.val.text, yp, yt, yz], vI ec] :: .agg #[vI y.stamp, .bool y.gone, vI y.expire, vI y.val.kind, vS y.val.text, yp, yt, yz] :: vI ec :: undef :: undef :: undef :: undef :: undef :: undef :: undef :: undef :: undef :: undef :: undef :: undef :: undef :: undef :: undef :: undef :: undef :: undef :: undef :: undef :: undef :: undef :: undef :: undef :: undef :: undef :: undef :: undef :: undef :: undef :: undef :: undef :: undef :: undef :: undef :: undef :: undef :: undef :: undef :: undef :: undef :: undef :: undef :: undef :: undef :: []), defers := [] } ∧ Inv C (Res.cell b17 [vI y.stamp, .bool y.gone, vI y.expire, vI y.val.kind, vS y.val.text, yp, yt, yz] 85 :: Res.cell v [.iface 62 (vP t)] 36 :: txR t m s p wb va vc sv clk es :: Res.cell b4 [vI 0, vS [], vI 0, vN] 28 :: Res.cell b2 [vP v, .slice (some ⟨ab, ao, none⟩) args.length ac] 74 :: H) wz) [6, 10, 11] [0,1,2,3,4,5] [7,8,9,10,11,12] [6,7,8,9,11,12] 6 10 75 rfl (by kernel_rfl) hv ?_ ?_
  ·intro R2 l1 l2 hR2 hl1 hl2
   simp only [qm, opAt]
   refine tG (vP b2) rfl (ex_field rfl rfl (j1fa74_0 _ _ _)) (tF (vP v) rfl (fun hv => ex_load rfl rfl (run_load1 j1na24 (hv.load 1 0 rfl rfl))) fun f11 hf11 => ?_)
   simp only [zP, po]
   refine tG (.pointer (some ⟨b2, 1, none⟩)) rfl (ex_field rfl rfl (j1fa74_1 _ _ _)) (tF (.slice (some ⟨ab, ao, none⟩) args.length ac) rfl (fun hv => ex_load rfl rfl (run_load1 s1na22 (hv.load 1 1 rfl rfl))) fun f12 hf12 => ?_)
   simp only [zP, po]
   refine tG (.pointer (some ⟨ab, ao + 0, none⟩)) rfl (ex_index rfl rfl rfl (run_idx1 (k := 0) Tryz.underlying22 s9es22 (by omega))) (tF (vS key) rfl (fun hv => ex_load rfl rfl (run_load1 s9na9 (hrdkey _ _ _ hE no_res hv 0 _ rfl))) fun f13 hf13 => ?_)
   simp only [zP, po]
   refine tB ?_ ?_
   ·rw [hl1]; clear hl1 hl2
    simp only [qm, opAt]
    refine dS rfl fun w14 hv => ?_
    replace hv := hv.front 3 rfl
    simp only [eS, eZ] at hv
    replace hv := hv.front 3 rfl
    simp only [eS, eZ] at hv
    refine mC j1callable41 rfl ((viewOf E _ _ v t m s p wb va vc sv clk es M key 3 (hM.more hE) hv).mono ?_) rfl
    rintro e w15 ⟨C, y, yp, yt, yz, ec, hC, rfl, hyv, hof, hv⟩
    refine ⟨_, rfl, dV hv (fK rfl (fK rfl (fK rfl fN))) ?_⟩
    refine dM (.tuple #[.agg #[vI y.stamp, .bool y.gone, vI y.expire, vI y.val.kind, vS y.val.text, yp, yt, yz], vI ec]) rfl (dG (.agg #[vI y.stamp, .bool y.gone, vI y.expire, vI y.val.kind, vS y.val.text, yp, yt, yz]) rfl (ex_extract rfl rfl rfl) ?_)
    simp only [zP, po]
    refine dG (vI ec) rfl (ex_extract rfl rfl rfl) (dS rfl fun w16 hv => ?_)
    refine mem_alloc rfl rfl hv j4al85 (fun b17 w18 hv => ?_)
    refine dV hv (fC (fun ww hv => hf13 ww (ex_load rfl rfl (run_load1 s9na9 (hrdkey _ _ _ (hE.trans hC) no_res hv 0 _ rfl)))) (fC (fun ww hv => hf12 ww (ex_load rfl rfl (run_load1 s1na22 (hv.load 4 1 rfl rfl)))) (fC (fun ww hv => hf11 ww (ex_load rfl rfl (run_load1 j1na24 (hv.load 4 0 rfl rfl)))) fN))) (dS rfl fun w19 hv => ?_)
    refine mS 0 rfl hv x0sz85 rfl (by exact ⟨rfl, rfl, rfl, rfl, rfl, hyv.p.one, hyv.t.one, hyv.z.one, trivial⟩) (fun w20 hv => ?_)
    simp only [zO, sp] at hv
    refine dV hv (fK rfl (fK rfl (fK rfl fN))) ?_
    simp only [zP, po]
    refine dA (vI ec) rfl (dE fun wz hv => ?_)
    simp only [zP, po]
    exact hR2 _ _ ⟨C, y, yp, yt, yz, ec, b17, hC, hyv, hof, rfl, (((((hv.front 4 rfl).front 4 rfl).front 4 rfl).front 4 rfl).front 4 rfl)⟩
   rw [hl2]; clear hl1 hl2
   simp only [qm, opAt]
   refine dS rfl fun w21 hv => mem_alloc rfl rfl hv j4al85 (fun b22 w23 hv => ?_)
   refine dV hv (fC (fun ww hv => hf13 ww (ex_load rfl rfl (run_load1 s9na9 (hrdkey _ _ _ hE no_res hv 0 _ rfl)))) (fC (fun ww hv => hf12 ww (ex_load rfl rfl (run_load1 s1na22 (hv.load 2 1 rfl rfl)))) (fC (fun ww hv => hf11 ww (ex_load rfl rfl (run_load1 j1na24 (hv.load 2 0 rfl rfl)))) fN))) (dS rfl fun w24 hv => ?_)
   replace hv := hv.front 4 rfl
   simp only [eS, eZ] at hv
   replace hv := hv.front 4 rfl
   simp only [eS, eZ] at hv
   refine mC j1callable41 rfl ((viewOf E _ _ v t m s p wb va vc sv clk es M key 3 (hM.more hE) hv).mono ?_) rfl
   rintro e w25 ⟨C, y, yp, yt, yz, ec, hC, rfl, hyv, hof, hv⟩
   refine ⟨_, rfl, dV hv (fK rfl (fK rfl (fK rfl fN))) ?_⟩
   refine dM (.tuple #[.agg #[vI y.stamp, .bool y.gone, vI y.expire, vI y.val.kind, vS y.val.text, yp, yt, yz], vI ec]) rfl ?_
   simp only [zP, po]
   refine dG (.agg #[vI y.stamp, .bool y.gone, vI y.expire, vI y.val.kind, vS y.val.text, yp, yt, yz]) rfl (ex_extract rfl rfl rfl) (dG (vI ec) rfl (ex_extract rfl rfl rfl) ?_)
   refine dS rfl fun w26 hv => mS 2 rfl hv x0sz85 rfl (by exact ⟨rfl, rfl, rfl, rfl, rfl, hyv.p.one, hyv.t.one, hyv.z.one, trivial⟩) (fun w27 hv => ?_)
   simp only [zS, zO, sp] at hv
   refine dV hv (fK rfl (fK rfl (fK rfl fN))) ?_
   simp only [zP, po]
   refine dA (vI ec) rfl (dE fun wz hv => ?_)
   simp only [zP, po]
   exact hR2 _ _ ⟨C, y, yp, yt, yz, ec, b22, hC, hyv, hof, rfl, (((((hv.front 4 rfl).front 4 rfl).front 3 rfl).front 3 rfl).front 4 rfl)⟩
  rintro _ w28 ⟨C, y, yp, yt, yz, ec, b17, hC, hyv, hof, rfl, hv⟩
  obtain ⟨pa, pc, sa, sc, za, zc, rfl, rfl, rfl, hokp, hrp, hoks, hrs, hokz, hrz⟩ := valAt_open hyv
  refine tK k10 (sK fun _ k29 => ?_)
  refine sK fun _ k30 => rL (uM rfl ?_)
  by_cases hb31 : ec ≠ 0
  ·refine uG (.bool true) rfl (ex_neq rfl rfl rfl (qT hb31)) (uW k30 ?_)
   refine cT rfl (sK fun _ k32 => ?_)
   refine rL (uM rfl ?_)
   refine xC rscallable25 rfl ((viewWrong C _ _ ec hv).mono ?_) rfl
   rintro e w34 ⟨s33, rfl, hv⟩
   refine ⟨_, rfl, ?_⟩
   simp only [zP, po]
   refine xS 3 rfl hv rssz28 rfl (by exact ⟨rfl, rfl, rfl, rfl, trivial⟩) (fun w35 hv => ?_)
   simp only [zS, zO, sp] at hv
   refine uW k32 (rR ?_)
   refine tR (bC 3 rswd28 hv rfl rfl rfl rfl ?_)
   exact ⟨C, es, M, (.mk 1 s33 0 []), _, (hE.trans hC), rfl, rpAt_leaf, hM.more (hE.trans hC), ⟨hO, fun _ => rfl⟩, (hv.kp [2, 2] 2 3)⟩
  refine uG (.bool false) rfl (ex_neq rfl rfl rfl (qF hb31)) (uW k30 ?_)
  refine cF rfl (kS ?_)
  refine tK k29 (sK fun _ k36 => ?_)
  refine sK fun _ k37 => rL (uM rfl ?_)
  refine uG (.bool false) rfl (ex_not rfl rfl rfl) (uW k37 ?_)
  refine cF rfl (kS ?_)
  refine tK k36 (sK fun _ k38 => ?_)
  have hv9 := hv
  obtain ⟨ib, io, had, hrd0⟩ := int_reads hri (show [n0, n1][0]? = some n0 from rfl)
  obtain ⟨ib2, io2, had2, hrd1⟩ := int_reads hri (show [n0, n1][1]? = some n1 from rfl)
  subst had
  cases had2
  have hv := hv9
  clear hv9
  refine rW mixed [9] [0,1,2,3,4,5,6,7,8,9,10] 75 rfl (by kernel_rfl) hv ?_
  simp only [qm, opAt]
  refine dG (.pointer (some ⟨b17, 3, none⟩)) rfl (ex_field rfl rfl (x2fa85_3 _ _ _)) (dG (.pointer (some ⟨b17, 6, none⟩)) rfl (ex_field rfl rfl (s1fa78_3 _ _ _)) ?_)
  refine dL _ rfl (fun hv => ex_load rfl rfl (run_load1 s1na22 (hv.load 0 6 rfl rfl))) ?_
  simp only [zP, po]
  refine dM (.slice (some ⟨ib, io, none⟩) 2 ic) rfl (dG (.pointer (some ⟨ib, io + 0, none⟩)) rfl (ex_index rfl rfl rfl (run_idx1 (k := 0) Tryz.underlying149 s11es149 (by omega))) ?_)
  refine dL _ rfl (fun hv => ex_load rfl rfl (run_load1 s2na3 (hrd0 _ _ _ hC no_res hv 0 _ rfl))) ?_
  simp only [zP, po]
  refine dM (.slice (some ⟨ib, io, none⟩) 2 ic) rfl (dG (.pointer (some ⟨ib, io + 1, none⟩)) rfl (ex_index rfl rfl rfl (run_idx1 (k := 1) Tryz.underlying149 s11es149 (by omega))) ?_)
  refine dL _ rfl (fun hv => ex_load rfl rfl (run_load1 s2na3 (hrd1 _ _ _ hC no_res hv 0 _ rfl))) ?_
  simp only [zP, po]
  refine dS rfl fun w39 hv => mC j4callable84 rfl ((listTrim C _ _ sa sc y.val.texts hoks hrs hyv.tm n0 n1 hf0 hf1 hv).mono ?_) rfl
  rintro e w40 ⟨D, oa, oc, out, hD, rfl, hoko, hro, hout, hv⟩
  have hol : out.length ≤ 1000000 := by rw [hout]; unfold rangeF; have := hyv.tm; rw [List.length_drop, List.length_take]; omega
  refine ⟨_, rfl, dW hv ?_⟩
  refine dA (.slice oa out.length oc) rfl (dE fun w41 hv => ?_)
  simp only [zP, po]
  refine tK k38 (sK fun _ k42 => ?_)
  refine sK fun _ k43 => rL (uM rfl ?_)
  refine uG (vI (out.length : Int)) rfl (ex_len0 Tryz.underlying22 rfl rfl) ?_
  refine uF (.pointer (some ⟨b17, 3, none⟩)) rfl (x2fa85_3 _ _ _) ?_
  refine uF (.pointer (some ⟨b17, 6, none⟩)) rfl (s1fa78_3 _ _ _) ?_
  refine uL _ rfl (run_load1 s1na22 (hv.load 0 6 rfl rfl)) ?_
  refine uG (vI (y.val.texts.length : Int)) rfl (ex_len0 Tryz.underlying22 rfl rfl) ?_
  by_cases hb44 : (out.length : Int) < (y.val.texts.length : Int)
  ·refine uG (.bool true) rfl (ex_lss rfl rfl rfl (qT hb44)) (uW k43 ?_)
   refine cT rfl (rW mixed [7] [0,1,2,3,4,5,6,7,8] 75 rfl (by kernel_rfl) hv ?_)
   simp only [qm, opAt]
   refine dL (.agg #[vP v, .slice (some ⟨ab, ao, none⟩) args.length ac]) rfl (fun hv => ex_load rfl rfl (lM 4 j1wd74 hv rfl rfl rfl rfl)) (dG (.pointer (some ⟨b2, 1, none⟩)) rfl (ex_field rfl rfl (j1fa74_1 _ _ _)) ?_)
   refine dL _ rfl (fun hv => ex_load rfl rfl (run_load1 s1na22 (hv.load 4 1 rfl rfl))) ?_
   simp only [zP, po]
   refine dG (.pointer (some ⟨ab, ao + 0, none⟩)) rfl (ex_index rfl rfl rfl (run_idx1 (k := 0) Tryz.underlying22 s9es22 (by omega))) (dL _ rfl (fun hv => ex_load rfl rfl (run_load1 s9na9 (hrdkey _ _ _ ((hE.trans hC).trans hD) no_res hv 0 _ rfl))) ?_)
   refine dL (.agg #[vI y.stamp, .bool y.gone, vI y.expire, vI y.val.kind, vS y.val.text, .slice pa y.val.pairs.length pc, .slice sa y.val.texts.length sc, .slice za y.val.zset.length zc]) rfl (fun hv => ex_load rfl rfl (lM 0 x0wd85 hv rfl rfl rfl rfl)) ?_
   simp only [zP, po]
   refine dM (.slice oa out.length oc) rfl (dS rfl fun w45 hv => ?_)
   replace hv := hv.front 2 rfl
   simp only [eS, eZ] at hv
   replace hv := hv.front 2 rfl
   simp only [eS, eZ] at hv
   refine mC j1callable71 rfl ((clistKeep D _ _ v t m s p wb va vc sv clk es M (hM.more ((hE.trans hC).trans hD)) (some ⟨ab, ao, none⟩) args.length ac key _ _ y.expire _ _ _ _ _ _ _ _ _ _ _ oa oc out (hro.more (Base.Le.refl _) (fun _ h => h)) hoko (hol) hv).mono ?_) rfl
   rintro e w52 ⟨G47, es51, Mk50, e46, hG47, rfl, hMk49, hkp48, hv⟩
   refine ⟨_, rfl, dW hv ?_⟩
   refine dA (vI e46) rfl (dE fun w53 hv => ?_)
   simp only [zP, po]
   refine tK k42 (sK fun _ k54 => ?_)
   refine rL (uM rfl ?_)
   refine xC j4callable82 rfl ((respText G47 _ _ ([79, 75] : List UInt8) hv).mono ?_) rfl
   rintro e w55 ⟨rfl, hv⟩
   refine ⟨_, rfl, ?_⟩
   simp only [zP, po]
   refine xC j1callable42 rfl ((viewDone G47 _ _ e46 0 0 ([79, 75] : List UInt8) (vN) rfl rfl hv).mono ?_) rfl
   rintro e w56 ⟨xr, hxr, rfl, hv⟩
   refine ⟨_, rfl, ?_⟩
   rcases hxr with ⟨hec0, rfl⟩ | ⟨hec0, s57, rfl⟩
   ·simp only [zP, po]
    refine xS 3 rfl hv rssz28 rfl (by exact ⟨rfl, rfl, rfl, rfl, trivial⟩) (fun w58 hv => ?_)
    simp only [zS, zO, sp] at hv
    refine uW k54 (rR ?_)
    refine bC 3 rswd28 hv rfl rfl rfl rfl (⟨G47, es51, Mk50, (.mk 0 ([79, 75] : List UInt8) 0 []), _, (((hE.trans hC).trans hD).trans hG47), rfl, rpAt_leaf, hMk49.more (Base.Le.refl _), DoneR.keep (r0 := (.mk 0 ([79, 75] : List UInt8) 0 [])) hO hkp48 (.inl ⟨by omega, rfl⟩) (fun h9 => absurd (show (0 : Int) = 1 from h9) (by decide)), (hv.kp [1, 1] 2 3)⟩)
   simp only [zP, po]
   refine xS 3 rfl hv rssz28 rfl (by exact ⟨rfl, rfl, rfl, rfl, trivial⟩) (fun w59 hv => ?_)
   simp only [zS, zO, sp] at hv
   refine uW k54 (rR ?_)
   refine bC 3 rswd28 hv rfl rfl rfl rfl (⟨G47, es51, Mk50, (.mk 1 s57 0 []), _, (((hE.trans hC).trans hD).trans hG47), rfl, rpAt_leaf, hMk49.more (Base.Le.refl _), DoneR.keep (r0 := (.mk 0 ([79, 75] : List UInt8) 0 [])) hO hkp48 (.inr ⟨by omega, rfl⟩) (fun h9 => absurd (show (0 : Int) = 1 from h9) (by decide)), (hv.kp [1, 1] 2 3)⟩)
  refine uG (.bool false) rfl (ex_lss rfl rfl rfl (qF hb44)) (uW k43 ?_)
  refine cF rfl (kS ?_)
  refine tK k42 (sK fun _ k60 => ?_)
  refine rL (uM rfl ?_)
  refine xC j4callable82 rfl ((respText D _ _ ([79, 75] : List UInt8) hv).mono ?_) rfl
  rintro e w61 ⟨rfl, hv⟩
  refine ⟨_, rfl, ?_⟩
  simp only [zP, po]
  refine xC j1callable42 rfl ((viewDone D _ _ ec 0 0 ([79, 75] : List UInt8) (vN) rfl rfl hv).mono ?_) rfl
  rintro e w62 ⟨xr, hxr, rfl, hv⟩
  refine ⟨_, rfl, ?_⟩
  rcases hxr with ⟨hec0, rfl⟩ | ⟨hec0, s63, rfl⟩
  ·simp only [zP, po]
   refine xS 3 rfl hv rssz28 rfl (by exact ⟨rfl, rfl, rfl, rfl, trivial⟩) (fun w64 hv => ?_)
   simp only [zS, zO, sp] at hv
   refine uW k60 (rR ?_)
   refine bC 3 rswd28 hv rfl rfl rfl rfl (⟨D, es, M, (.mk 0 ([79, 75] : List UInt8) 0 []), _, ((hE.trans hC).trans hD), rfl, rpAt_leaf, hM.more ((hE.trans hC).trans hD), ⟨hO, fun _ => rfl⟩, (hv.kp [2, 2] 2 3)⟩)
  simp only [zP, po]
  refine xS 3 rfl hv rssz28 rfl (by exact ⟨rfl, rfl, rfl, rfl, trivial⟩) (fun w65 hv => ?_)
  simp only [zS, zO, sp] at hv
  refine uW k60 (rR ?_)
  refine bC 3 rswd28 hv rfl rfl rfl rfl (⟨D, es, M, (.mk 1 s63 0 []), _, ((hE.trans hC).trans hD), rfl, rpAt_leaf, hM.more ((hE.trans hC).trans hD), ⟨hO, fun _ => rfl⟩, (hv.kp [2, 2] 2 3)⟩)
 refine uM rfl (uE rfl ?_)
 refine uE rfl (uA rfl ?_)
 refine uA rfl (uW k6 ?_)
 refine sK fun _ k66 => sK fun _ k67 => rL (uM rfl ?_)
 refine uG (.bool true) rfl (ex_neq rfl rfl rfl (by decide)) (uW k67 ?_)
 refine cT rfl (sK fun _ k68 => ?_)
 refine rL (uM rfl ?_)
 refine xC rscallable25 rfl ((viewWrong E _ _ 41 hv).mono ?_) rfl
 rintro e w70 ⟨s69, rfl, hv⟩
 refine ⟨_, rfl, ?_⟩
 simp only [zP, po]
 refine xS 0 rfl hv rssz28 rfl (by exact ⟨rfl, rfl, rfl, rfl, trivial⟩) (fun w71 hv => ?_)
 simp only [zO, sp] at hv
 refine uW k68 (rR ?_)
 refine tR (bC 0 rswd28 hv rfl rfl rfl rfl ?_)
 exact ⟨E, es, M, (.mk 1 s69 0 []), _, hE, rfl, rpAt_leaf, hM.more hE, ⟨hO, fun _ => rfl⟩, (hv.kp [3, 3] 2 2)⟩
end Go.Proofs.YtmhdpjifhfoabaaGreatDoor
namespace Go.Pm
open Go.RowKit
inductive Tr (α : Type) where
 | lin (is : List α)
 | fork (x : α) (t1 : Tr α) (y : α) (t2 : Tr α)
def Tr.map {α β : Type} (f : α → β) : Tr α → Tr β
 | .lin is => .lin (is.map f)
 | .fork x t1 y t2 => .fork (f x) (t1.map f) (f y) (t2.map f)
def DX (P : Program) (ops : Array Oper) (x : Nat × Oper) (G : (World → Prop) → Act → Prop) (Fl : List (Nat × (World → Prop))) (J : World → Prop) (a : Act) : Prop :=
 (Region.wanted x.2 (yielded ops a.tmps) = false ∧ G J (a.put x.2.dst undef)) ∨ (Region.wanted x.2 (yielded ops a.tmps) = true ∧
  ∀ w, J w → x.2.wp P a w (fun b w' => ∃ v, b = a.put x.2.dst v ∧ ∃ J' : World → Prop, (∀ w w', J' w → Ext w w' → J' w') ∧ J' w' ∧ FlOk ops x.1 J' Fl ∧ G J' (a.put x.2.dst v)) QF)
def DTr (P : Program) (ops : Array Oper) (mem : List Nat) (R : Act → World → Prop) : Tr (Nat × Oper) → List (Nat × (World → Prop)) → (World → Prop) → Act → Prop
 | .lin is, Fl, J, a => DW P ops mem R is Fl J a
 | .fork x t1 y t2, Fl, J, a => DX P ops x (fun J' a' => DTr P ops mem R t1 Fl J' a') Fl J a ∧ DX P ops y (fun J' a' => DTr P ops mem R t2 Fl J' a') Fl J a
def DWB (P : Program) (ops : Array Oper) (D : List (Nat × (World → Prop)) → (World → Prop) → Act → Prop) : List (Nat × Oper) → List (Nat × (World → Prop)) → (World → Prop) → Act → Prop
 | [], Fl, J, a => D Fl J a
 | x :: is, Fl, J, a =>
  (Region.wanted x.2 (yielded ops a.tmps) = false ∧ DWB P ops D is Fl J (a.put x.2.dst undef)) ∨ (Region.wanted x.2 (yielded ops a.tmps) = true ∧
  ∃ v, ((∀ w, Adds P x.2 a w v) ∧ DWB P ops D is Fl J (a.put x.2.dst v)) ∨ ∃ f : World → Prop, (∀ w, f w → Adds P x.2 a w v) ∧ (∀ w, J w → f w) ∧ DWB P ops D is ((x.1, f) :: Fl) J (a.put x.2.dst v))
def PendT (P : Program) (ops : Array Oper) (a0 : Act) (val : Nat → Value) (pre : List Nat) (Fl : List (Nat × (World → Prop))) (i : Nat) : Prop :=
 ∃ (o : Oper) (ai : Act) (L : Nat → Prop), ops[i]? = some o ∧ Tk ops L val a0 ai ∧ (∀ q, ahead ops q i = true → L q) ∧ (∀ q, L q → q ≠ i ∧ ahead ops i q = false) ∧ (∀ q, L q → q ∈ pre) ∧
  ((Region.wanted o (yielded ops ai.tmps) = false ∧ val i = undef) ∨ (Region.wanted o (yielded ops ai.tmps) = true ∧ ((∀ w, Adds P o ai w (val i)) ∨ ∃ f : World → Prop, (i, f) ∈ Fl ∧ ∀ w, f w → Adds P o ai w (val i))))
structure TI (P : Program) (ops : Array Oper) (mem : List Nat) (a0 : Act) (listed : Array Bool) (a : Act) (w : World) (pre : List Nat) (val : Nat → Value) (Fl : List (Nat × (World → Prop))) (J : World → Prop) (aS : Act) : Prop where
 lsize : listed.size = ops.size
 closed : ∀ (j : Nat) (o : Oper), ops[j]? = some o → listed.getD j false = true → ∀ k, binder o k = true → listed.getD k false = true
 tk : Tk ops (fun q => listed.getD q false = true) val a0 a
 tkS : Tk ops (· ∈ pre) val a0 aS
 st : ∀ w w', J w → Ext w w' → J w'
 inv : J w
 fl : ∀ f ∈ Fl, listed.getD f.1 false = false → ∀ w, J w → f.2 w
 sub : ∀ q, listed.getD q false = true → q ∈ pre
 memd : ∀ q, q ∈ mem → q ∈ pre → listed.getD q false = true
 pend : ∀ i, i ∈ pre → listed.getD i false = false → PendT P ops a0 val pre Fl i
section
variable {P : Program} {ops : Array Oper} {mem perm pre is : List Nat} {R : Act → World → Prop} {Q : Exit → Act → World → Prop} {a0 a aS : Act} {listed : Array Bool} {w w' : World} {val : Nat → Value} {Fl : List (Nat × (World → Prop))} {J : World → Prop} {i : Nat} {o : Oper} {K : Act → World → Prop}
theorem TI.di (I : TI P ops mem a0 listed a w pre val Fl J aS) (h : DW P ops mem R (pm ops is) Fl J aS) : DI P ops mem R a0 (pre ++ is) listed a w pre is val Fl J aS :=
 ⟨I.lsize, I.closed, I.tk, rfl, I.tkS, h, I.st, I.inv, I.fl, I.sub, I.memd, fun i hi hl => by
  obtain ⟨o, ai, L, h1, h2, h3, h4, h5, h6⟩ := I.pend i hi hl
  refine ⟨o, ai, L, h1, h2, h3, h4, h5, ?_⟩
  rcases h6 with h6 | ⟨h6, h7 | h7⟩
  ·exact .inl h6
  ·exact .inr ⟨h6, .inl h7⟩
  exact .inr ⟨h6, .inr (.inr h7)⟩⟩
theorem TI.any (I : TI P ops mem a0 listed a w pre val Fl J aS) : DI P ops mem (fun _ _ => True) a0 (pre ++ []) listed a w pre [] val Fl J aS := I.di (R := fun _ _ => True) (is := []) (fun _ _ => trivial)
theorem TI.fired (hnd : onceDst ops = true) (hfit : ∀ (j : Nat) (o : Oper) (d : Tmp), ops[j]? = some o → o.dst = some d → d < a0.tmps.size) (I : TI P ops mem a0 listed a w pre val Fl J aS) (r : Rd ops listed i o) (hip : i ∈ pre) (hx : Ext w w') :
  TI P ops mem a0 (listed.setIfInBounds i true) (a.put o.dst (val i)) w' pre val Fl J aS := by
 refine ⟨by simpa using I.lsize, r.closed, (Tk.put hnd hfit I.tk r.ho (by rw [r.lf]; decide) rfl).iff (fun q => (r.ls q).symm) (fun _ _ => rfl), I.tkS, I.st, I.st _ _ I.inv hx, fun f hf hq => I.fl f hf (r.lf2 _ hq).2, fun q hq => ?_, fun q hq h => (r.ls q).2 (.inr (I.memd q hq h)), fun q hq h => I.pend q hq (r.lf2 q h).2⟩
 rcases (r.ls q).1 hq with h | h
 ·subst h; exact hip
 exact I.sub q h
theorem TI.step (hnd : onceDst ops = true) (hfit : ∀ (j : Nat) (o : Oper) (d : Tmp), ops[j]? = some o → o.dst = some d → d < a0.tmps.size) (hsel : ∀ (j : Nat) (o : Oper), ops[j]? = some o → notSel o = true) (hlook : ∀ (i : Nat) (o : Oper), ops[i]? = some o → ∀ t ∈ o.looksAt ops, ∀ (q : Nat) (o' : Oper), ops[q]? = some o' → o'.dst = some t → q = i ∨ ahead ops q i = true ∨ ahead ops i q = true)
  (I : TI P ops mem a0 listed a w pre val Fl J aS) (hmp2 : i ∉ pre) (hpa : ∀ q ∈ pre, ahead ops i q = false) (r : Rd ops listed i o) {G : (World → Prop) → Act → Prop} (hdw : DX P ops (i, ops.getD i default) G Fl J aS)
  (hK : ∀ a' w' val' J' aS', TI P ops mem a0 (listed.setIfInBounds i true) a' w' (pre ++ [i]) val' Fl J' aS' → G J' aS' → K a' w') : wpOp P ops Q i K a w := by
 have hpb : ∀ q, q ∈ pre → q ≠ i ∧ ahead ops i q = false := fun q hq => ⟨fun e => hmp2 (e ▸ hq), hpa q hq⟩
 obtain ⟨he, hw⟩ := I.any.agr hsel hlook r aS (· ∈ pre) I.tkS (fun q hq => I.sub q (r.prT q hq)) hpb
 have hoo : ops.getD i default = o := by simp [Array.getD_eq_getD_getElem?, r.ho]
 unfold DX at hdw
 simp only [hoo] at hdw
 unfold wpOp
 rw [r.ho]
 simp only []
 suffices nx : ∀ v J' w', (∀ w w', J' w → Ext w w' → J' w') → J' w' → (∀ f ∈ Fl, ahead ops f.1 i = false → ∀ w, listed.getD f.1 false = false → J' w → f.2 w) → G J' (aS.put o.dst v) → K (a.put o.dst v) w' by
  rcases hdw with ⟨h1, h2⟩ | ⟨h1, h2⟩
  ·rw [← hw, h1]
   simp only [Bool.false_eq_true, if_false]
   exact nx undef J w I.st I.inv (fun f hf _ w hl hJ => I.fl f hf hl w hJ) h2
  rw [← hw, h1]
  simp only [if_true]
  refine .inl (Oper.wp_mono (fun a' w' ⟨v, ha, J', hst, hJ', hfl, hdw'⟩ => ?_) (wp_move he (by rw [I.tkS.size, I.tk.size]) (h2 w I.inv)))
  rw [ha]
  exact nx v J' w' hst hJ' (fun f hf ha w _ => hfl.at f hf ha w) hdw'
 intro v J' w' hst hJ' hfl hdw'
 have hval : ∀ q, q ∈ pre → val q = if q = i then v else val q := fun q hq => by rw [if_neg (hpb q hq).1]
 refine hK _ _ (fun q => if q = i then v else val q) J' (aS.put o.dst v) ⟨by simpa using I.lsize, r.closed, ?_, ?_, hst, hJ', ?_, ?_, ?_, ?_⟩ hdw'
 ·exact (Tk.put hnd hfit (I.tk.iff (fun _ => Iff.rfl) fun q hq => hval q (I.sub q hq)) r.ho (by rw [r.lf]; decide) (if_pos rfl)).iff (fun q => (r.ls q).symm) (fun _ _ => rfl)
 ·refine (Tk.put hnd hfit (I.tkS.iff (fun _ => Iff.rfl) hval) r.ho hmp2 (if_pos rfl)).iff (fun q => ?_) (fun _ _ => rfl)
  simp [or_comm]
 ·intro f hf hq
  refine fun w => hfl f hf ?_ w (r.lf2 _ hq).2
  cases ha : ahead ops f.1 i with
  | false => rfl
  | true => have h9 := (r.lf2 _ hq).2; rw [r.prT _ ha] at h9; cases h9
 ·intro q hq
  rcases (r.ls q).1 hq with h | h
  ·subst h; simp
  simp [I.sub q h]
 ·intro q hq hqp
  rcases List.mem_append.1 hqp with h | h
  ·exact (r.ls q).2 (.inr (I.memd q hq h))
  exact (r.ls q).2 (.inl (List.mem_singleton.1 h))
 intro q hq hlq
 obtain ⟨hqi, hlq⟩ := r.lf2 q hlq
 have hqp : q ∈ pre := by
  rcases List.mem_append.1 hq with h | h
  ·exact h
  exact (hqi (List.mem_singleton.1 h)).elim
 obtain ⟨o2, ai, L, h1, h2, h3, h4, h5, h6⟩ := I.pend q hqp hlq
 have hqv := hval q hqp
 refine ⟨o2, ai, L, h1, h2.iff (fun _ => Iff.rfl) (fun r hr => hval r (h5 r hr)), h3, h4, fun r hr => by simp [h5 r hr], ?_⟩
 simp only [← hqv]
 exact h6
end
theorem walkB {P : Program} {ops : Array Oper} {perm r0 : List Nat} {a0 : Act} {J : World → Prop} {D : List (Nat × (World → Prop)) → (World → Prop) → Act → Prop} (hnd : onceDst ops = true) (hfit : ∀ (j : Nat) (o : Oper) (d : Tmp), ops[j]? = some o → o.dst = some d → d < a0.tmps.size) (hno : ∀ i, ahead ops i i = false)
  (hnp : perm.Nodup) (hlt : ∀ i ∈ perm, i < ops.size) (hpo : pwOk ops [] perm = true) (hpre : ∀ i q, i ∈ perm → ahead ops q i = true → q ∈ perm) :
  ∀ (is pre : List Nat) (val : Nat → Value) (Fl : List (Nat × (World → Prop))) (aS : Act), perm = pre ++ (is ++ r0) → Pre2 P ops a0 pre val Fl J aS → DWB P ops D (pm ops is) Fl J aS →
  ∃ val' Fl' aS', Pre2 P ops a0 (pre ++ is) val' Fl' J aS' ∧ D Fl' J aS' := by
 intro is
 induction is with
 | nil => intro pre val Fl aS hp I h; exact ⟨val, Fl, aS, by rw [List.append_nil]; exact I, h⟩
 | cons i is ih =>
  intro pre val Fl aS hp I hdw
  have hip : i ∈ perm := by rw [hp]; simp
  have hi := hlt i hip
  have hp' : perm = pre ++ i :: (is ++ r0) := hp
  have hnd2 : (pre ++ i :: (is ++ r0)).Nodup := hp' ▸ hnp
  have hpo2 : pwOk ops [] (pre ++ i :: (is ++ r0)) = true := hp' ▸ hpo
  have hipre : i ∉ pre := fun h => by
   rw [List.nodup_append] at hnd2
   exact hnd2.2.2 i h i (by simp) rfl
  have hio : ops[i]? = some (ops.getD i default) := by simp [Array.getD, hi]
  have hpa : ∀ q, ahead ops q i = true → q ∈ pre := by
   intro q hq
   have hqp := hpre i q hip hq
   rw [hp'] at hqp
   rcases List.mem_append.1 hqp with h | h
   ·exact h
   rcases List.mem_cons.1 h with h | h
   ·subst h; rw [hno] at hq; cases hq
   have := (pwOk_at hpo2 q h).1
   rw [this] at hq; cases hq
  have hpb : ∀ q, q ∈ pre → q ≠ i ∧ ahead ops i q = false := by
   intro q hq
   refine ⟨fun e => hipre (e ▸ hq), ?_⟩
   obtain ⟨p1, p2, rfl⟩ := List.append_of_mem hq
   have h2 := hpo2
   rw [List.append_assoc, List.cons_append] at h2
   exact (pwOk_at h2 i (by simp)).1
  have next : ∀ v Fl', (∀ f ∈ Fl, f ∈ Fl') → (∀ f ∈ Fl', f ∈ Fl ∨ ∀ w, J w → f.2 w) → DWB P ops D (pm ops is) Fl' J (aS.put (ops.getD i default).dst v) →
    ((Region.wanted (ops.getD i default) (yielded ops aS.tmps) = false ∧ v = undef) ∨ (Region.wanted (ops.getD i default) (yielded ops aS.tmps) = true ∧
     ((∀ w, Adds P (ops.getD i default) aS w v) ∨ ∃ f : World → Prop, (i, f) ∈ Fl' ∧ ∀ w, f w → Adds P (ops.getD i default) aS w v))) →
    ∃ val' Fl' aS', Pre2 P ops a0 (pre ++ i :: is) val' Fl' J aS' ∧ D Fl' J aS' := by
   intro v Fl' hF1 hF2 hdw hob
   have hval : ∀ q, q ∈ pre → val q = if q = i then v else val q := fun q hq => by rw [if_neg (hpb q hq).1]
   have hg := ih (pre ++ [i]) (fun q => if q = i then v else val q) Fl' _ (by rw [hp]; simp) ⟨?_, ?_, ?_⟩ hdw
   ·rw [List.append_assoc] at hg; exact hg
   ·refine (Tk.put hnd hfit (I.tkS.iff (fun _ => Iff.rfl) hval) hio hipre (if_pos rfl)).iff (fun q => ?_) (fun _ _ => rfl)
    simp [or_comm]
   ·intro f hf
    rcases hF2 f hf with h | h
    ·exact I.fl f h
    exact h
   intro q hq
   rcases List.mem_append.1 hq with h | h
   ·obtain ⟨o, ai, L, h1, h2, h3, h4, h5, h6⟩ := I.pend q h
    have hqv := hval q h
    refine ⟨o, ai, L, h1, h2.iff (fun _ => Iff.rfl) (fun r hr => hval r (h5 r hr)), h3, h4, fun r hr => by simp [h5 r hr], ?_⟩
    simp only [← hqv]
    rcases h6 with h6 | ⟨h6, h7⟩
    ·exact .inl h6
    refine .inr ⟨h6, ?_⟩
    rcases h7 with h7 | ⟨f, h7, h8⟩
    ·exact .inl h7
    exact .inr ⟨f, hF1 _ h7, h8⟩
   have := List.mem_singleton.1 h
   subst this
   refine ⟨_, aS, (· ∈ pre), hio, I.tkS.iff (fun _ => Iff.rfl) hval, hpa, hpb, fun r hr => by simp [hr], ?_⟩
   simpa using hob
  simp only [pm, List.map_cons, DWB] at hdw
  rcases hdw with ⟨h1, h2⟩ | ⟨h1, v, ⟨h2, h3⟩ | ⟨f, h2, h3, h4⟩⟩
  ·exact next undef Fl (fun _ h => h) (fun _ h => .inl h) h2 (.inl ⟨h1, rfl⟩)
  ·exact next v Fl (fun _ h => h) (fun _ h => .inl h) h3 (.inr ⟨h1, .inl h2⟩)
  refine next v ((i, f) :: Fl) (fun _ h => List.mem_cons_of_mem _ h) (fun g hg => ?_) h4 (.inr ⟨h1, .inr ⟨f, by simp, h2⟩⟩)
  rcases List.mem_cons.1 hg with rfl | hg
  ·exact .inr h3
  exact .inl hg
def okTr (ops : Array Oper) (mem : List Nat) : Tr Nat → List Nat → Bool
 | .lin is, pre => pwOk ops mem is && (decide (pre ++ is).Nodup && (decide ((pre ++ is).length = ops.size) && ((pre ++ is).all (· < ops.size) && pwOk ops [] (pre ++ is))))
 | .fork x t1 y t2, pre => !pre.contains x && (!pre.contains y && (pre.all (fun q => !ahead ops x q && !ahead ops y q) && (decide (x < ops.size) && ((List.range ops.size).all (fun i => pre.contains i || (i == x || (i == y || (ahead ops x i || ahead ops y i)))) && (okTr ops mem t1 (pre ++ [x]) && okTr ops mem t2 (pre ++ [y]))))))
def Tr.flat : Tr Nat → List Nat
 | .lin is => is
 | .fork x t1 _ _ => x :: t1.flat
def okF (ops : Array Oper) (mem pre : List Nat) (t : Tr Nat) (k : Nat) : Bool :=
 backward ops && (onceDst ops && (fitsDst ops k && (ops.all notSel && (lookOk ops && (pre.all (fun i => !mem.contains i) && (okTr ops mem t pre && (decide (pre ++ t.flat).Nodup && (decide ((pre ++ t.flat).length = ops.size) && ((pre ++ t.flat).all (· < ops.size) && pwOk ops [] (pre ++ t.flat))))))))))
def pmT (ops : Array Oper) (t : Tr Nat) : Tr (Nat × Oper) := t.map fun i => (i, ops.getD i default)
section
variable {P : Program} {ops : Array Oper} {mem : List Nat} {Q : Exit → Act → World → Prop} {a0 : Act}
theorem tr_walk (hbk : backward ops = true) (hnd : onceDst ops = true) (hfit : ∀ (j : Nat) (o : Oper) (d : Tmp), ops[j]? = some o → o.dst = some d → d < a0.tmps.size) (hsel : ∀ (j : Nat) (o : Oper), ops[j]? = some o → notSel o = true) (hlook : ∀ (i : Nat) (o : Oper), ops[i]? = some o → ∀ t ∈ o.looksAt ops, ∀ (q : Nat) (o' : Oper), ops[q]? = some o' → o'.dst = some t → q = i ∨ ahead ops q i = true ∨ ahead ops i q = true)
  (hno : ∀ i, ahead ops i i = false) : ∀ (t : Tr Nat) (pre : List Nat) (val : Nat → Value) (Fl : List (Nat × (World → Prop))) (J : World → Prop) (aS : Act), okTr ops mem t pre = true → DTr P ops mem (Q .normal) (pmT ops t) Fl J aS →
  ∀ (fuel : Nat) (listed : Array Bool) (a : Act) (w : World), toCome ops listed ≤ fuel → TI P ops mem a0 listed a w pre val Fl J aS → wpAny P .any ops Q fuel listed a w := by
 intro t
 induction t with
 | lin is =>
  intro pre val Fl J aS hck hd fuel listed a w hc I
  simp only [okTr, Bool.and_eq_true] at hck
  obtain ⟨hm, hn, hl, ht, ho⟩ := hck
  have hn := of_decide_eq_true hn
  have hl := of_decide_eq_true hl
  have hlt : ∀ i ∈ pre ++ is, i < ops.size := fun i hi => by simpa using List.all_eq_true.1 ht i hi
  exact any_walk (R := Q .normal) hbk hnd hfit hsel hlook hno hn (all_in hn hl hlt) ho (fun _ _ h => h) _ _ _ _ _ _ _ _ _ _ hc (I.di hd) hm
 | fork x t1 y t2 ih1 ih2 =>
  intro pre val Fl J aS hck hd
  simp only [okTr, Bool.and_eq_true] at hck
  obtain ⟨hxp, hyp, hpa, hxs, hall, hk1, hk2⟩ := hck
  have hxp : x ∉ pre := by simpa using hxp
  have hyp : y ∉ pre := by simpa using hyp
  have hxs := of_decide_eq_true hxs
  have hpx : ∀ q ∈ pre, ahead ops x q = false := fun q hq => by have := List.all_eq_true.1 hpa q hq; simp at this; exact this.1
  have hpy : ∀ q ∈ pre, ahead ops y q = false := fun q hq => by have := List.all_eq_true.1 hpa q hq; simp at this; exact this.2
  have emp : ∀ (listed : Array Bool) (a : Act) (w : World), TI P ops mem a0 listed a w pre val Fl J aS → Region.ready .any ops listed = [] → False := fun listed a w I hr => hxp (I.sub x (all_listed hbk I.lsize hr x hxs))
  obtain ⟨hd1, hd2⟩ := hd
  intro fuel
  induction fuel with
  | zero =>
   intro listed a w hc I
   have hr : Region.ready .any ops listed = [] := by
    rw [List.eq_nil_iff_forall_not_mem]
    intro i hi
    obtain ⟨o, _, hi2, hl, _⟩ := mem_ready hi
    have := toCome_set hi2 hl
    omega
   exact (emp _ _ _ I hr).elim
  | succ fuel ih =>
   intro listed a w hc I
   refine ⟨fun hr => (emp _ _ _ I hr).elim, fun i hi => ?_⟩
   obtain ⟨o, r⟩ := rd_of I.lsize I.closed hi
   have hct : toCome ops (listed.setIfInBounds i true) ≤ fuel := by have := r.ct; omega
   by_cases hip : i ∈ pre
   ·exact I.any.fire hsel hlook r hip fun w' hx => ih _ _ _ hct (I.fired hnd hfit r hip hx)
   by_cases hix : i = x
   ·subst hix
    exact I.step hnd hfit hsel hlook hxp hpx r hd1 fun a' w' val' J' aS' I' hg => ih1 _ _ _ _ _ hk1 hg _ _ _ _ hct I'
   by_cases hiy : i = y
   ·subst hiy
    exact I.step hnd hfit hsel hlook hyp hpy r hd2 fun a' w' val' J' aS' I' hg => ih2 _ _ _ _ _ hk2 hg _ _ _ _ hct I'
   have h9 := List.all_eq_true.1 hall i (List.mem_range.2 r.lt)
   simp only [Bool.or_eq_true, beq_iff_eq, List.contains_iff_mem] at h9
   rcases h9 with h9 | h9 | h9 | h9 | h9
   ·exact (hip h9).elim
   ·exact (hix h9).elim
   ·exact (hiy h9).elim
   ·exact (hxp (I.sub x (r.prT x h9))).elim
   exact (hyp (I.sub y (r.prT y h9))).elim
end
section
variable {n : Nat} {P : Program} {ops : Array Oper} {Q : Exit → Act → World → Prop} {a0 : Act} {w0 : World} {B : Base} {H : List Res}
theorem any_f {J : World → Prop} (mem pre : List Nat) (t : Tr Nat) (k : Nat) (hsize : a0.tmps.size = k) (hck : okF ops mem pre t k = true) (hst : ∀ w w', J w → Ext w w' → J w') (hv : J w0)
    (h : DWB P ops (DTr P ops mem (Q .normal) (pmT ops t)) (pm ops pre) [] J a0) : wpAny P .any ops Q ops.size (Array.replicate ops.size false) a0 { w0 with drawn := w0.drawn + 1 } := by
  unfold okF at hck
  simp only [Bool.and_eq_true] at hck
  obtain ⟨hbk, hnd, hft, hns, hlk, hpm, hokt, hn1, hl1, ht1, ho1⟩ := hck
  have hn1 := of_decide_eq_true hn1
  have hl1 := of_decide_eq_true hl1
  have hlt1 : ∀ i ∈ pre ++ t.flat, i < ops.size := fun i hi => by simpa using List.all_eq_true.1 ht1 i hi
  have ha1 := all_in hn1 hl1 hlt1
  have hfit : ∀ (j : Nat) (o : Oper) (d : Tmp), ops[j]? = some o → o.dst = some d → d < a0.tmps.size := by
    intro j o d hj hd
    have := List.all_eq_true.1 hft o (by rw [List.mem_iff_getElem?]; exact ⟨j, by simpa using hj⟩)
    rw [hd] at this
    rw [hsize]
    simpa using this
  have hsel : ∀ (j : Nat) (o : Oper), ops[j]? = some o → notSel o = true := fun j o hj => by
    obtain ⟨hj2, rfl⟩ := Array.getElem?_eq_some_iff.1 hj
    exact (Array.all_eq_true.1 hns) j hj2
  have hlook : ∀ (i : Nat) (o : Oper), ops[i]? = some o → ∀ t ∈ o.looksAt ops, ∀ (q : Nat) (o' : Oper), ops[q]? = some o' → o'.dst = some t → q = i ∨ ahead ops q i = true ∨ ahead ops i q = true := fun i o hi t ht q o' hq hd => by
    have h1 := List.all_eq_true.1 hlk (o, i) (by rw [List.mem_iff_getElem?]; exact ⟨i, by simp [hi]⟩)
    have h2 := List.all_eq_true.1 h1 t ht
    have h3 := List.all_eq_true.1 h2 (o', q) (by rw [List.mem_iff_getElem?]; exact ⟨q, by simp [hq]⟩)
    simpa [hd] using h3
  have hno : ∀ i, ahead ops i i = false := fun i => by
    cases h : ahead ops i i with
    | false => rfl
    | true => have := ahead_lt hbk h; omega
  have hpre1 : ∀ i q, i ∈ pre ++ t.flat → ahead ops q i = true → q ∈ pre ++ t.flat := fun i q hi hq => (ha1 q).2 (Nat.lt_trans (ahead_lt hbk hq) (hlt1 i hi))
  obtain ⟨val, Fl, aS, I0, hd⟩ := walkB (r0 := t.flat) hnd hfit hno hn1 hlt1 ho1 hpre1 pre [] (fun _ => undef) [] a0 rfl ⟨(Tk.start (val := fun _ => undef)).iff (fun q => by simp) (fun _ _ => rfl), fun f hf => (by cases hf), fun i hi => (by cases hi)⟩ h
  rw [List.nil_append] at I0
  have hnl : ∀ j, (Array.replicate ops.size false).getD j false = true → False := by
    intro j hl
    simp only [Array.getD_eq_getD_getElem?] at hl
    by_cases h : j < ops.size <;> simp [h] at hl
  refine tr_walk hbk hnd hfit hsel hlook hno t pre val Fl J aS hokt hd _ _ _ _ ?_ ⟨by simp, fun j o hj hl => (hnl j hl).elim, (Tk.start (val := val)).iff (fun q => ⟨False.elim, hnl q⟩) (fun _ _ => rfl), I0.tkS, hst, hst _ _ hv (Ext.drew' w0), fun f hf _ => I0.fl f hf, fun q hq => (hnl q hq).elim,
     fun q hq hp => by have := List.all_eq_true.1 hpm q hp; simp [hq] at this, fun i hi _ => I0.pend i hi⟩
  unfold toCome
  exact Nat.le_trans (List.countP_le_length) (by simp)
def qmT (l : List Oper) : Tr Nat → Tr (Nat × Oper)
 | .lin is => .lin (qm l is)
 | .fork x t1 y t2 => .fork (x, opAt l x) (qmT l t1) (y, opAt l y) (qmT l t2)
theorem qmT_pmT (l : List Oper) (t : Tr Nat) : qmT l t = pmT l.toArray t := by
 induction t with
 | lin is => show Tr.lin (qm l is) = Tr.lin (pm l.toArray is); rw [qm_pm]
 | fork x t1 y t2 ih1 ih2 => show Tr.fork _ _ _ _ = Tr.fork _ _ _ _; rw [ih1, ih2, opAt_get, opAt_get]; rfl
theorem rF {l : List Oper} {id : Nat} (hm : P.follows .mixedOrders = true) (R : Act → World → Prop) (mem pre : List Nat) (t : Tr Nat) (k : Nat) (hsize : a0.tmps.size = k) (hck : okF l.toArray mem pre t k = true) (hv : Inv B H w0)
  (h0 : ∀ (R' : Act → World → Prop) (T : Tr (Nat × Oper)), (∀ a w, R a w → R' a w) → T = qmT l t → DWB P l.toArray (DTr P l.toArray mem R' T) (qm l pre) [] (Inv B H) a0) (hR : ∀ a w, R a w → Q .normal a w) : (Code.region id l.toArray true).wpIn Fence.wide n P Q a0 w0 := by
 have h := h0 R _ (fun _ _ h => h) rfl
 have h2 : (Code.region id l.toArray true).wpIn Fence.wide n P (fun e a w => e = .normal ∧ R a w) a0 w0 := by
  refine wpIn_wide.2 (wp_region_any hm (any_f mem pre t k hsize hck (fun _ _ h he => h.ext he) hv ?_))
  rw [qm_pm, qmT_pmT] at h
  have : (fun a w => (Exit.normal : Exit) = .normal ∧ R a w) = R := by funext a w; simp
  show DWB P l.toArray (DTr P l.toArray mem (fun a w => (Exit.normal : Exit) = .normal ∧ R a w) _) _ _ _ _
  rw [this]; exact h
 exact wpIn_mono h2 (fun e a w ⟨h3, h4⟩ => by subst h3; exact hR a w h4)
end
section
variable {P : Program} {ops : Array Oper} {mem : List Nat} {R : Act → World → Prop} {D : List (Nat × (World → Prop)) → (World → Prop) → Act → Prop} {i : Nat} {o : Oper} {is : List (Nat × Oper)} {Fl : List (Nat × (World → Prop))} {J : World → Prop} {a : Act} {v : Value} {x y : Nat × Oper} {t1 t2 : Tr (Nat × Oper)} {G : (World → Prop) → Act → Prop} {B : Base} {H : List Res} {w' : World}
theorem bE (h : D Fl J a) : DWB P ops D [] Fl J a := h
theorem bG (v : Value) (hw : Region.wanted o (yielded ops a.tmps) = true) (hr : ∀ {w}, Ex P a o w v w) (h : DWB P ops D is Fl J (a.put o.dst v)) : DWB P ops D ((i, o) :: is) Fl J a := by
 unfold DWB; exact .inr ⟨hw, v, .inl ⟨fun w => hr.addsv, h⟩⟩
theorem bF (v : Value) (hw : Region.wanted o (yielded ops a.tmps) = true) (hr : ∀ {w}, J w → Ex P a o w v w) (h : ∀ f : World → Prop, (∀ w, Ex P a o w v w → f w) → DWB P ops D is ((i, f) :: Fl) J (a.put o.dst v)) : DWB P ops D ((i, o) :: is) Fl J a := by
 unfold DWB; exact .inr ⟨hw, v, .inr ⟨fun w => Ex P a o w v w, fun w hx => hx.addsv, fun w hJ => hr hJ, h _ fun _ hx => hx⟩⟩
theorem gL (h : DW P ops mem R is Fl J a) : DTr P ops mem R (.lin is) Fl J a := h
theorem gF (h1 : DX P ops x (fun J' a' => DTr P ops mem R t1 Fl J' a') Fl J a) (h2 : DX P ops y (fun J' a' => DTr P ops mem R t2 Fl J' a') Fl J a) : DTr P ops mem R (.fork x t1 y t2) Fl J a := ⟨h1, h2⟩
def JX (ops : Array Oper) (i : Nat) (o : Oper) (G : (World → Prop) → Act → Prop) (Fl : List (Nat × (World → Prop))) (a : Act) (vs : List Value) (w : World) : Prop :=
 ∃ v, vs = [v] ∧ ∃ J' : World → Prop, (∀ w w', J' w → Ext w w' → J' w') ∧ J' w ∧ FlOk ops i J' Fl ∧ G J' (a.put o.dst v)
theorem gS (hw : Region.wanted o (yielded ops a.tmps) = true) (hs : ∀ w, J w → StepMem P ops (JX ops i o G Fl a) QF o a w []) : DX P ops (i, o) G Fl J a := by
 refine .inr ⟨hw, fun w hJ => ?_⟩
 have := hs w hJ
 unfold StepMem at this
 rw [if_pos hw] at this
 exact Oper.wp_mono (fun b w' ⟨v, hb, u, hu, J', h⟩ => by cases hu; exact ⟨v, hb, J', h⟩) this
theorem gV (hv : Inv B H w') (hf : FlOk ops i (Inv B H) Fl) (h : G (Inv B H) (a.put o.dst v)) : JX ops i o G Fl a ([] ++ [v]) w' := ⟨v, rfl, Inv B H, fun _ _ h he => h.ext he, hv, hf, h⟩
theorem mem_rowN {w : World} {vals : List Value} {Jv : List Value → World → Prop} {Q : Exit → Act → World → Prop} {t e : TypeId} {k : Nat} {parts : Array (Nat × Operand)} {pv : Array (Nat × Value)} {L : List Value} (hg : Region.wanted o (yielded ops a.tmps) = true) (ho : o.op = .buildSlice t k parts) (hx : (parts.map fun (i, x) => (i, a.eval x)) = pv) (hv : Inv B H w)
  (hr : ∀ w, (Instr.buildSlice t k pv).run P w = .ok (.slice (some ⟨w.heap.size, 0, none⟩) k k) (w.alloc (.cells L.toArray e))) (h : ∀ b w', Inv B (Res.cell b L e :: H) w' → Jv (vals ++ [.slice (some ⟨b, 0, none⟩) k k]) w') : StepMem P ops Jv Q o a w vals :=
 Ex.mem (by unfold Ex; simp only [execOp, ho, hx]; simp [hr]) hg (h _ _ (hv.alloc L e))
end
end Go.Pm
