/- Law 22: do; ChashBack. -/
import Derived.Test.YtffnhfkkochnhaaGreatDoorChBakB
import Derived.Test.YtffnhfkkochnhaaGreatDoorChBakJ
import Derived.Test.YtffnhfkkochnhaaGreatDoorRows
import Derived.Test.YtffnhfkkochnhaaGreatDoorChBakI
import Derived.Lib.LaidTab
import Derived.LaidSub
import Derived.Lib.ItoaNum
import Derived.Deep.LoopGhost
import Derived.Test.YtffnhfkkochnhaaGreatDoorChBakE
import Derived.Lib.ParseIntBTie
set_option maxRecDepth 100000
set_option maxHeartbeats 16000000
set_option synthInstance.maxSize 4096
set_option synthInstance.maxHeartbeats 400000
namespace Go.Proofs.YtffnhfkkochnhaaGreatDoor
open Go.RowKit Go.Pm
theorem hFal28 : AL Tryz.prog 28 [vI 0, vS [], vI 0, vN] := fun w => by kernel_rfl
theorem lawDo (B : Base) (H : List Res) (w : World) (v t m s p wb : Nat) (va : Option Addr) (vc : Nat) (sv : Value) (clk : Int) (es : List (List UInt8 × Value)) (M : List (List UInt8 × Ver)) (hM : VM B es M) (hO : OkM M) (wa2 : Option Addr) (wc2 : Nat) (name : List UInt8) (args : List (List UInt8)) (hrw : RdV B [] wa2 (textCells (name :: args))) (hokw : SliceOk wa2 (args.length + 1) wc2) (hma : args.length ≤ 900) (hxl : ∀ x ∈ args, x.length ≤ 1000000) (hN : NumB B) (hv : Inv B (Res.cell v [.iface 63 (vP t)] 40 :: txR t m s p wb va vc sv clk es :: H) w) :
  Calls Tryz.prog 8 #[vP v, .slice wa2 (args.length + 1) wc2] w fun e w' => ∃ C es' M' r cs, B.Le C ∧ e = .returned (.agg cs.toArray) ∧ RpAt C r cs ∧ VM C es' M' ∧ OkM M' ∧ (GArgs name args.length → GX M clk name args M' r) ∧ Inv C (Res.cell v [.iface 63 (vP t)] 40 :: txR t m s p wb va vc sv clk es' :: H) w' := by
 refine cW Tryz.func8 rfl Tryz.ntmps8 ?_
 simp only [al]
 refine sK fun _ k1 => ?_
 obtain ⟨a3, c3, ha3, ok3, hr3⟩ := sliced_fromV 1 hokw hrw (textCells_len _) (show 1 ≤ args.length + 1 by omega) (by decide)
 rw [Nat.mul_one, tx_drop] at hr3
 have hr3 : RdV B [] a3 (textCells args) := hr3
 have ok3 : SliceOk a3 args.length c3 := ok3
 obtain ⟨wb0, wo, had, hrdn⟩ := text_reads hrw (show (name :: args)[0]? = some name from rfl)
 subst had
 refine rL (sl_alloc tV (wn rfl) rfl hv hFal28 (fun b2 w3 hv => ?_))
 refine uW k1 (sK fun _ k4 => ?_)
 refine rT mixed (fun az wz => ∃ (C : Base) (es' : List (List UInt8 × Value)) (M' : List (List UInt8 × Ver)) (r : Rp) (rk : Int) (rs : List UInt8) (rn : Int) (rv : Value) (ok : Bool) (b9 : Nat), (B.Le C) ∧ (RpAt C r (rpCells rk rs rn rv)) ∧ (VM C es' M') ∧ (OkM M') ∧ (GArgs name args.length → GX M clk name args M' r) ∧ az = { tmps := #[vP v, .slice (some ⟨wb0, wo, none⟩) (args.length + 1) wc2, undef, undef, vP b2, vP b9, .bool ok, .tuple #[.agg #[vI rk, vS rs, vI rn, rv], .bool ok], vP v, .slice (some ⟨wb0, wo, none⟩) (args.length + 1) wc2, .pointer (some ⟨wb0, wo + 0, none⟩), vS name, .slice (some ⟨wb0, wo, none⟩) (args.length + 1) wc2, .slice a3 args.length c3, .tuple #[.agg #[vI rk, vS rs, vI rn, rv], .bool ok], .agg #[vI rk, vS rs, vI rn, rv], .bool ok, undef], defers := [] } ∧ Inv C (Res.cell b9 [vI rk, vS rs, vI rn, rv] 28 :: Res.cell v [.iface 63 (vP t)] 40 :: txR t m s p wb va vc sv clk es' :: Res.cell b2 [vI 0, vS [], vI 0, vN] 28 :: H) wz) [6, 10, 11] [0,1,2,3,4,5] [7,8,9,10,11,12] [6,7,8,9,11,12] 6 10 18 rfl (by kernel_rfl) hv ?_ ?_
 ·intro R2 l1 l2 hR2 hl1 hl2
  simp only [qm, opAt]
  refine tG (vP v) rfl (ex_move rfl rfl) (tG (.slice (some ⟨wb0, wo, none⟩) (args.length + 1) wc2) rfl (ex_move rfl rfl) ?_)
  simp only [zP, po]
  refine tG (.pointer (some ⟨wb0, wo + 0, none⟩)) rfl (ex_index rfl rfl rfl (run_idx1 (k := 0) Tryz.underlying22 s9es22 (by omega))) (tF (vS name) rfl (fun hv => ex_load rfl rfl (run_load1 h1na9 (hrdn _ _ _ (Base.Le.refl _) no_res hv 0 _ rfl))) fun f5 hf5 => ?_)
  simp only [zP, po]
  refine tG (.slice (some ⟨wb0, wo, none⟩) (args.length + 1) wc2) rfl (ex_move rfl rfl) (tG (.slice a3 args.length c3) rfl (ex_slice (lo' := some (vI ((1 : Nat) : Int))) rfl rfl (congrArg some rfl) rfl rfl ((run_fromAny Tryz.underlying22 s9es22 (by omega)).trans (by rw [ha3]; rfl))) ?_)
  simp only [zP, po]
  refine tB ?_ ?_
  ·rw [hl1]; clear hl1 hl2
   simp only [qm, opAt]
   refine dS rfl fun w6 hv => ?_
   replace hv := hv.front 2 rfl
   simp only [eS, eZ] at hv
   replace hv := hv.front 2 rfl
   simp only [eS, eZ] at hv
   refine mC hCcallable11 rfl ((gDo B _ _ v t m s p wb va vc sv clk es M hM hO a3 c3 args hr3 ok3 (by omega) name (fun x hx => Nat.le_trans (hxl x hx) (by decide)) (.inl hxl) hN hv).mono ?_) rfl
   rintro e w7 ⟨C, es', M', r, cs, ok, hC, rfl, hrp, hM', ⟨hO', -⟩, -, -, hgx, hv⟩
   obtain ⟨rk, rs, rn, rv, rfl⟩ := rp_parts hrp
   refine ⟨_, rfl, dV hv (fK rfl fN) ?_⟩
   refine dM (.tuple #[.agg #[vI rk, vS rs, vI rn, rv], .bool ok]) rfl (dG (.agg #[vI rk, vS rs, vI rn, rv]) rfl (ex_extract rfl rfl rfl) ?_)
   simp only [zP, po]
   refine dG (.bool ok) rfl (ex_extract rfl rfl rfl) (dS rfl fun w8 hv => ?_)
   refine mem_alloc rfl rfl hv hFal28 (fun b9 w10 hv => ?_)
   refine dV hv (fC (fun ww hv => hf5 ww (ex_load rfl rfl (run_load1 h1na9 (hrdn _ _ _ hC no_res hv 0 _ rfl)))) fN) (dS rfl fun w11 hv => ?_)
   refine mS 0 rfl hv rssz28 rfl (by exact ⟨rfl, rfl, rfl, hrp.lv.2, trivial⟩) (fun w12 hv => ?_)
   simp only [zO, sp] at hv
   refine dV hv (fK rfl fN) ?_
   simp only [zP, po]
   refine dA (.bool ok) rfl (dE fun wz hv => ?_)
   simp only [zP, po]
   exact hR2 _ _ ⟨C, es', M', r, rk, rs, rn, rv, ok, b9, hC, hrp, hM', hO', hgx, rfl, ((((hv.front 3 rfl).front 3 rfl).front 3 rfl).front 3 rfl)⟩
  rw [hl2]; clear hl1 hl2
  simp only [qm, opAt]
  refine dS rfl fun w13 hv => mem_alloc rfl rfl hv hFal28 (fun b14 w15 hv => ?_)
  refine dV hv (fC (fun ww hv => hf5 ww (ex_load rfl rfl (run_load1 h1na9 (hrdn _ _ _ (Base.Le.refl _) no_res hv 0 _ rfl)))) fN) (dS rfl fun w16 hv => ?_)
  replace hv := hv.front 3 rfl
  simp only [eS, eZ] at hv
  replace hv := hv.front 3 rfl
  simp only [eS, eZ] at hv
  refine mC hCcallable11 rfl ((gDo B _ _ v t m s p wb va vc sv clk es M hM hO a3 c3 args hr3 ok3 (by omega) name (fun x hx => Nat.le_trans (hxl x hx) (by decide)) (.inl hxl) hN hv).mono ?_) rfl
  rintro e w17 ⟨C, es', M', r, cs, ok, hC, rfl, hrp, hM', ⟨hO', -⟩, -, -, hgx, hv⟩
  obtain ⟨rk, rs, rn, rv, rfl⟩ := rp_parts hrp
  refine ⟨_, rfl, dV hv (fK rfl fN) ?_⟩
  refine dM (.tuple #[.agg #[vI rk, vS rs, vI rn, rv], .bool ok]) rfl ?_
  simp only [zP, po]
  refine dG (.agg #[vI rk, vS rs, vI rn, rv]) rfl (ex_extract rfl rfl rfl) (dG (.bool ok) rfl (ex_extract rfl rfl rfl) ?_)
  refine dS rfl fun w18 hv => mS 2 rfl hv rssz28 rfl (by exact ⟨rfl, rfl, rfl, hrp.lv.2, trivial⟩) (fun w19 hv => ?_)
  simp only [zS, zO, sp] at hv
  refine dV hv (fK rfl fN) ?_
  simp only [zP, po]
  refine dA (.bool ok) rfl (dE fun wz hv => ?_)
  simp only [zP, po]
  exact hR2 _ _ ⟨C, es', M', r, rk, rs, rn, rv, ok, b14, hC, hrp, hM', hO', hgx, rfl, ((((hv.front 3 rfl).front 2 rfl).front 2 rfl).front 3 rfl)⟩
 rintro _ w20 ⟨C, es', M', r, rk, rs, rn, rv, ok, b9, hC, hrp, hM', hO', hgx, rfl, hv⟩
 refine tK k4 (sK fun _ k21 => ?_)
 refine rL (uL (.agg #[vI rk, vS rs, vI rn, rv]) rfl (lM 0 rswd28 hv rfl rfl rfl rfl) ?_)
 refine xS 3 rfl hv rssz28 rfl (by exact ⟨rfl, rfl, rfl, hrp.lv.2, trivial⟩) (fun w22 hv => ?_)
 simp only [zS, zO, sp] at hv
 refine uW k21 (rR ?_)
 refine bC 3 rswd28 hv rfl rfl rfl rfl (⟨C, es', M', r, _, hC, rfl, hrp, hM', hO', hgx, (hv.kp [2, 2] 2 2)⟩)
theorem prsF_psX : ∀ fs : List (List UInt8), prsF (fs.flatMap fun f => [f, [120]]) = psX fs
 | [] => rfl
 | f :: fs => congrArg ((f, [120]) :: ·) (prsF_psX fs)
theorem flat2_len (fs : List (List UInt8)) : (fs.flatMap fun f => [f, ([120] : List UInt8)]).length = 2 * fs.length := by
 induction fs with
 | nil => rfl
 | cons f fs ih => simp only [List.flatMap_cons, List.length_append, List.length_cons, List.length_nil, ih]; omega
theorem even_mod (n : Nat) : ((2 * n : Nat) : Int).tmod 2 = 0 := by rw [Int.tmod_eq_emod_of_nonneg (by omega)]; omega
theorem gargs_set (n : Nat) (h : 1 ≤ n) : GArgs [72, 83, 69, 84] (2 * n + 1) := by
 refine ⟨([72, 83, 69, 84], 3, -1, 2), by decide, rfl, by show (3 : Int) ≤ _; omega, fun h9 => absurd h9 (by decide), ?_⟩
 show (((2 * n + 1 : Nat) : Int) - 3).tmod 2 = 0
 rw [show (((2 * n + 1 : Nat) : Int) - 3) = ((2 * (n - 1) : Nat) : Int) by omega]
 exact even_mod _
theorem gargs_del (n : Nat) (h : 1 ≤ n) : GArgs [72, 68, 69, 76] (n + 1) := by
 refine ⟨([72, 68, 69, 76], 2, -1, 1), by decide, rfl, by show (2 : Int) ≤ _; omega, fun h9 => absurd h9 (by decide), ?_⟩
 show (((n + 1 : Nat) : Int) - 2).tmod 1 = 0
 exact Int.tmod_one _
theorem mod_k (n : Int) : ∃ j : Nat, (n.tmod 1000 + 1000).tmod 1000 = (j : Int) ∧ j < 1000 ∧ -1000 < n.tmod 1000 ∧ n.tmod 1000 < 1000 := by
 have h1 := Int.lt_tmod_of_pos n (show (0 : Int) < 1000 by decide)
 have h2 := Int.tmod_lt_of_pos n (show (0 : Int) < 1000 by decide)
 have h3 : 0 ≤ (n.tmod 1000 + 1000).tmod 1000 := Int.tmod_nonneg 1000 (by omega)
 have h4 := Int.tmod_lt_of_pos (n.tmod 1000 + 1000) (show (0 : Int) < 1000 by decide)
 exact ⟨((n.tmod 1000 + 1000).tmod 1000).toNat, by omega, by omega, h1, h2⟩
theorem mod_d (j : Nat) : (j : Int).tmod 10 = ((j % 10 : Nat) : Int) := by rw [Int.tmod_eq_emod_of_nonneg (by omega)]; omega
theorem u8_dig0 (n : Nat) (h : n ≤ 9) : IntKind.u8.wrap ((48 + n : Nat) : Int) = ((UInt8.ofNat (48 + n)).toNat : Int) := by
 match n, h with
 | 0, _ => rfl
 | 1, _ => rfl
 | 2, _ => rfl
 | 3, _ => rfl
 | 4, _ => rfl
 | 5, _ => rfl
 | 6, _ => rfl
 | 7, _ => rfl
 | 8, _ => rfl
 | 9, _ => rfl
theorem row_two {l : List (List UInt8)} {x : List UInt8} : textCells l ++ [strV x, strV [120]] = textCells (l ++ [x, [120]]) := by simp [textCells]
theorem row_one {l : List (List UInt8)} {x : List UInt8} : textCells l ++ [strV x] = textCells (l ++ [x]) := by simp [textCells]
theorem hFcallable6 : Callable Tryz.prog 6 := cb Tryz.func6 (by kernel_rfl)
theorem hFcallable8 : Callable Tryz.prog 8 := cb Tryz.func8 (by kernel_rfl)
theorem hFmk9 : (Tryz.prog.info? 9).map (fun i => (i.zero, i.size, i.bytes)) = some (some (vS []), 1, 16) := by kernel_rfl
theorem hFel22 : Elem Tryz.prog 22 9 (vS []) 1 16 := elem_of Tryz.underlying22 hFmk9 (by rfl) (by decide)
theorem hFmk5 : (Tryz.prog.info? 5).map (fun i => (i.zero, i.size, i.bytes)) = some (some (.int .u8 0), 1, 1) := by kernel_rfl
theorem hFel31 : Elem Tryz.prog 31 5 (.int .u8 0) 1 1 := elem_of Tryz.underlying31 hFmk5 (by rfl) (by decide)
theorem chashBackMain (B : Base) (H : List Res) (w : World) (fa : Option Addr) (fc : Nat) (fs : List (List UInt8)) (hokf : SliceOk fa fs.length fc) (hrf : RdV B [] fa (textCells fs)) (by_ : Int) (hN : NumB B) (hv : Inv B H w) :
  Calls Tryz.prog 3 #[.slice fa fs.length fc, vI by_] w fun e w' => e = .returned (.bool true) ∧ Inv B H w' := by
 obtain ⟨kk, hkk, hk1000, hm1, hm2⟩ := mod_k by_
 refine cW Tryz.func3 rfl Tryz.ntmps3 ?_
 simp only [al]
 refine sK fun _ k1 => rL (uA rfl ?_)
 refine uW k1 (sK fun _ k2 => ?_)
 refine sK fun _ k3 => rL (xC hFcallable6 rfl ((gAwake B _ _ (hN.more (Base.Le.refl _)) hv).mono ?_) rfl)
 rintro e w4 ⟨rfl, hv⟩
 refine ⟨_, rfl, uG (.bool false) rfl (ex_not rfl rfl rfl) ?_⟩
 refine uM rfl ?_
 refine uM rfl ?_
 refine uG (vI (fs.length : Int)) rfl (ex_len0 Tryz.underlying22 rfl rfl) ?_
 by_cases hb5 : (fs.length : Int) = 0
 ·refine uG (.bool true) rfl (ex_eql rfl rfl rfl (qT hb5)) (uK rfl ?_)
  refine uM rfl ?_
  iterate 3 refine uP rfl ?_
  refine uK rfl (uW k3 ?_)
  refine cT rfl (sK fun _ k6 => ?_)
  refine rL (xC hFcallable6 rfl ((gAwake B _ _ (hN.more (Base.Le.refl _)) hv).mono ?_) rfl)
  rintro e w7 ⟨rfl, hv⟩
  refine ⟨_, rfl, uA rfl ?_⟩
  refine uW k6 (rR ?_)
  refine tR (bR rfl rfl ?_)
  exact ⟨rfl, (hv).weak (Base.Le.refl _)⟩
 refine uG (.bool false) rfl (ex_eql rfl rfl rfl (qF hb5)) (uK rfl ?_)
 refine uM rfl ?_
 refine uM rfl ?_
 refine uG (vI (fs.length : Int)) rfl (ex_len0 Tryz.underlying22 rfl rfl) ?_
 by_cases hb8 : (fs.length : Int) > 20
 ·refine uG (.bool true) rfl (ex_gtr rfl rfl rfl (qT hb8)) (uK rfl ?_)
  refine uW k3 (cT rfl ?_)
  refine sK fun _ k9 => rL (xC hFcallable6 rfl ((gAwake B _ _ (hN.more (Base.Le.refl _)) hv).mono ?_) rfl)
  rintro e w10 ⟨rfl, hv⟩
  refine ⟨_, rfl, uA rfl ?_⟩
  refine uW k9 (rR ?_)
  refine tR (bR rfl rfl ?_)
  exact ⟨rfl, (hv).weak (Base.Le.refl _)⟩
 refine uG (.bool false) rfl (ex_gtr rfl rfl rfl (qF hb8)) (uK rfl ?_)
 refine uW k3 (cF rfl ?_)
 refine kS (tK k2 ?_)
 refine sK fun _ k11 => rL (xC hCcallable7 rfl ((lawOpened B _ _ 0 (by omega) (by omega) hv).mono ?_) rfl)
 rintro e w12 ⟨v, t, m, s, p, wb, va, vc, sv, rfl, hv⟩
 refine ⟨_, rfl, uA rfl ?_⟩
 refine uW k11 (sK fun _ k13 => ?_)
 refine rL (uM rfl ?_)
 refine sl_rowN (pv := #[(0, vS [72, 83, 69, 84]), (1, vS [104]), (2, vS [0, 102, 105, 114, 115, 116]), (3, vS [49])]) (L := [vS [72, 83, 69, 84], vS [104], vS [0, 102, 105, 114, 115, 116], vS [49]]) (e := 9) tV (wn rfl) rfl (by simp only [List.map_toArray, List.map_cons, List.map_nil]; rfl) hv (fun w => by kernel_rfl) (fun b14 w15 hv => ?_)
 simp only [zP, po]
 obtain ⟨D16, hD16, hv, hrD16, hoD16, -⟩ := (hv.cellRow (n := 4) (c := 4) (size := 1) rfl (by decide) (by decide)).rowBy
 replace hv := hv.front 1 rfl
 simp only [eS, eZ] at hv
 replace hv := hv.front 1 rfl
 simp only [eS, eZ] at hv
 refine xC hFcallable8 rfl ((lawDo D16 _ _ v t m s p wb va vc sv 0 [] [] ((vmNil B).more hD16) OkM.nil _ _ ([72, 83, 69, 84] : List UInt8) [([104] : List UInt8), ([0, 102, 105, 114, 115, 116] : List UInt8), ([49] : List UInt8)] hrD16 hoD16 (Nat.le_of_ble_eq_true rfl) (all1 (by decide) (all1 (by decide) (all1 (by decide) all0))) (hN.more hD16) hv).mono ?_) rfl
 rintro e w17 ⟨C1, es1, M1, r1, cs1, hC1, rfl, hrp1, hM1, hO1, hrel1, hv⟩
 refine ⟨_, rfl, ?_⟩
 obtain ⟨k9, e9, hd9⟩ := (hrel1 (by unfold GArgs; decide)).1 rfl
 cases e9
 have hF1 := hb_first hd9
 obtain ⟨rk1, rs1, rn1, v1, rfl⟩ := rp_parts hrp1
 refine uW k13 (sK fun _ k18 => ?_)
 refine rL (uM rfl ?_)
 refine sl_rowN (pv := #[(0, vS [72, 71, 69, 84, 65, 76, 76]), (1, vS [104])]) (L := [vS [72, 71, 69, 84, 65, 76, 76], vS [104]]) (e := 9) tV (wn rfl) rfl (by simp only [List.map_toArray, List.map_cons, List.map_nil]; rfl) hv (fun w => by kernel_rfl) (fun b19 w20 hv => ?_)
 simp only [zP, po]
 obtain ⟨D21, hD21, hv, hrD21, hoD21, -⟩ := (hv.cellRow (n := 2) (c := 2) (size := 1) rfl (by decide) (by decide)).rowBy
 replace hv := hv.front 1 rfl
 simp only [eS, eZ] at hv
 replace hv := hv.front 1 rfl
 simp only [eS, eZ] at hv
 refine xC hFcallable8 rfl ((lawDo D21 _ _ v t m s p wb va vc sv 0 es1 M1 (hM1.more hD21) hO1 _ _ ([72, 71, 69, 84, 65, 76, 76] : List UInt8) [([104] : List UInt8)] hrD21 hoD21 (Nat.le_of_ble_eq_true rfl) (all1 (by decide) all0) (hN.more ((hD16.trans hC1).trans hD21)) hv).mono ?_) rfl
 rintro e w22 ⟨C2, es2, M2, r2, cs2, hC2, rfl, hrp2, hM2, hO2, hrel2, hv⟩
 refine ⟨_, rfl, ?_⟩
 obtain ⟨k9, e9, hd9⟩ := (hrel2 (by unfold GArgs; decide)).2.1 rfl
 cases e9
 obtain ⟨hMe2, rfl⟩ := HasH.all hF1 hd9
 have hF2 : HasH M2 [(fst0, [49])] := by rw [hMe2]; exact hF1
 obtain ⟨a2, c2, rfl⟩ := rp_strs hrp2
 simp only [zP, po]
 refine sl_alloc tV (wn rfl) rfl hv hFal28 (fun b23 w24 hv => ?_)
 simp only [zP, po]
 refine xS 0 rfl hv rssz28 rfl (by exact ⟨rfl, rfl, rfl, rfl, trivial⟩) (fun w25 hv => ?_)
 simp only [zO, sp] at hv
 refine uW k18 (sK fun _ k26 => ?_)
 refine rL (sl_rowN (pv := #[(0, vS [72, 83, 69, 84]), (1, vS [104])]) (L := [vS [72, 83, 69, 84], vS [104]]) (e := 9) tV (wn rfl) rfl (by simp only [List.map_toArray, List.map_cons, List.map_nil]; rfl) hv (fun w => by kernel_rfl) (fun b27 w28 hv => ?_))
 simp only [zP, po]
 refine sl_rowN (pv := #[(0, vS [72, 68, 69, 76]), (1, vS [104])]) (L := [vS [72, 68, 69, 76], vS [104]]) (e := 9) tV (wn rfl) rfl (by simp only [List.map_toArray, List.map_cons, List.map_nil]; rfl) hv (fun w => by kernel_rfl) (fun b29 w30 hv => ?_)
 refine uA rfl (uA rfl ?_)
 refine uW k26 (sK fun _ k31 => ?_)
 refine sK fun _ k32 => ?_
 replace hv := hv.front 1 rfl
 simp only [eS, eZ] at hv
 replace hv := hv.cellRow (n := 2) (c := 2) (size := 1) rfl (by decide) (by decide)
 replace hv := hv.front 1 rfl
 simp only [eS, eZ] at hv
 replace hv := hv.cellRow (n := 2) (c := 2) (size := 1) rfl (by decide) (by decide)
 have hfl1 : 1 ≤ fs.length := by omega
 have hfne : fs ≠ [] := fun h9 => by rw [h9] at hfl1; exact absurd hfl1 (by decide)
 have hb9 := B
 refine rL (uA rfl ?_)
 refine uW k32 (bB ?_)
 gi_loopw [7, 8, 9] (fun x7 x8 x9 wr => ∃ (i : Nat) (sa : Option Addr) (sc : Nat) (da : Option Addr) (dc : Nat), x7 = .slice sa (2 + 2 * i) sc ∧ x8 = .slice da (2 + i) dc ∧ x9 = vI i ∧ i ≤ fs.length ∧ (∀ x ∈ fs.take i, x.length ≤ 300) ∧ (∀ x ∈ fs.take i, x ≠ fst0) ∧ Inv C2 (Res.row 9 1 (.slice sa (2 + 2 * i) sc) (2 + 2 * i) (textCells ([72, 83, 69, 84] :: kH :: (fs.take i).flatMap fun f => [f, [120]])) :: Res.row 9 1 (.slice da (2 + i) dc) (2 + i) (textCells ([72, 68, 69, 76] :: kH :: fs.take i)) :: Res.cell b23 [vI 5, vS [], vI 0, .slice a2 2 c2] 28 :: Res.cell v [.iface 63 (vP t)] 40 :: txR t m s p wb va vc sv 0 es2 :: H) wr) (fun x7 x8 x9 _ => fs.length - (intOf x9).toNat)
 case atStart => exact ⟨0, _, _, _, _, rfl, rfl, rfl, Nat.zero_le _, fun x h => (by cases h), fun x h => (by cases h), (((((hv.front 4 rfl).front 4 rfl).front 4 rfl).front 3 rfl).front 4 rfl)⟩
 case round =>
  obtain ⟨i, sa, sc, da, dc, rfl, rfl, rfl, hi, hall, hno, hv⟩ := hrel
  refine sK fun _ k34 => sK fun _ k35 => rL (uM rfl ?_)
  refine uM rfl ?_
  refine uG (vI (fs.length : Int)) rfl (ex_len0 Tryz.underlying22 rfl rfl) ?_
  by_cases hb36 : (i : Int) < (fs.length : Int)
  ·refine uG (.bool true) rfl (ex_lss rfl rfl rfl (qT hb36)) (uW k35 ?_)
   refine cT rfl (kS ?_)
   refine tK k34 (sK fun _ k37 => ?_)
   refine bB (sK fun _ k38 => ?_)
   refine sK fun _ k39 => ?_
   obtain ⟨x, hx⟩ : ∃ x, fs[i]? = some x := ⟨_, List.getElem?_eq_getElem (show i < fs.length by omega)⟩
   obtain ⟨fb, fo, had, hrdx⟩ := text_reads hrf hx
   subst had
   refine rL (uM rfl ?_)
   refine uM rfl ?_
   refine uG (.pointer (some ⟨fb, fo + i, none⟩)) rfl (ex_index rfl rfl rfl (run_idx1 (k := i) Tryz.underlying22 s9es22 (by omega))) ?_
   refine uL _ rfl (run_load1 h1na9 (hrdx _ _ _ (((hD16.trans hC1).trans hD21).trans hC2) no_res hv 0 _ rfl)) ?_
   refine uG (vI (x.length : Int)) rfl (ex_lenStr Tryz.underlying9 rfl rfl) ?_
   by_cases hb40 : (x.length : Int) > 300
   ·refine uG (.bool true) rfl (ex_gtr rfl rfl rfl (qT hb40)) (uM rfl ?_)
    iterate 5 refine uP rfl ?_
    refine uK rfl (uW k39 ?_)
    refine cT rfl (sK fun _ k41 => ?_)
    refine rL (uA rfl ?_)
    refine uW k41 (rR ?_)
    refine tR (bZ ?_)
    refine tR (tR ?_)
    refine bZ (tR ?_)
    refine bR rfl rfl (⟨rfl, ((hv.kp [] 0 5)).weak (((hD16.trans hC1).trans hD21).trans hC2)⟩)
   refine uG (.bool false) rfl (ex_gtr rfl rfl rfl (qF hb40)) (uM rfl ?_)
   refine uM rfl ?_
   refine uM rfl ?_
   refine uG (.pointer (some ⟨fb, fo + i, none⟩)) rfl (ex_index rfl rfl rfl (run_idx1 (k := i) Tryz.underlying22 s9es22 (by omega))) ?_
   refine uL _ rfl (run_load1 h1na9 (hrdx _ _ _ (((hD16.trans hC1).trans hD21).trans hC2) no_res hv 0 _ rfl)) ?_
   by_cases hb42 : x = ([0, 102, 105, 114, 115, 116] : List UInt8)
   ·refine uG (.bool true) rfl (ex_seql rfl rfl rfl (qT hb42)) (uK rfl ?_)
    refine uW k39 (cT rfl ?_)
    refine sK fun _ k43 => rL (uA rfl ?_)
    refine uW k43 (rR ?_)
    refine tR (bZ ?_)
    refine tR (tR ?_)
    refine bZ (tR ?_)
    refine bR rfl rfl (⟨rfl, ((hv.kp [] 0 5)).weak (((hD16.trans hC1).trans hD21).trans hC2)⟩)
   refine uG (.bool false) rfl (ex_seql rfl rfl rfl (qF hb42)) (uK rfl ?_)
   refine uW k39 (cF rfl ?_)
   refine kS (tK k38 ?_)
   refine sK fun _ k44 => rL (uM rfl ?_)
   refine uM rfl (uM rfl ?_)
   refine uG (.pointer (some ⟨fb, fo + i, none⟩)) rfl (ex_index rfl rfl rfl (run_idx1 (k := i) Tryz.underlying22 s9es22 (by omega))) ?_
   refine uL _ rfl (run_load1 h1na9 (hrdx _ _ _ (((hD16.trans hC1).trans hD21).trans hC2) no_res hv 0 _ rfl)) ?_
   refine sl_rowN (pv := #[(0, vS x), (1, vS [120])]) (L := [vS x, vS [120]]) (e := 9) tV (wn rfl) rfl (by simp only [List.map_toArray, List.map_cons, List.map_nil]; rfl) hv (fun w => by kernel_rfl) (fun b45 w46 hv => ?_)
   simp only [zP, po]
   replace hv := hv.front 1 rfl
   simp only [eS, eZ] at hv
   refine sl_append (news := [vS x, vS [120]]) tV (wn rfl) rfl rfl rfl hFel22 hv (ok_full (by omega)) rfl (rd_all (hv.get 1 rfl)) (by intro u hu; simp only [List.mem_cons, List.not_mem_nil, or_false] at hu; rcases hu with rfl | rfl <;> rfl) (by unfold maxLen; omega) (by omega) (fun rv47 w50 hv => ?_)
   obtain ⟨ra48, rc49, rfl⟩ := row_slice hv.head
   refine uA rfl (uW k44 ?_)
   refine rL (uM rfl ?_)
   refine uM rfl (uM rfl ?_)
   refine uG (.pointer (some ⟨fb, fo + i, none⟩)) rfl (ex_index rfl rfl rfl (run_idx1 (k := i) Tryz.underlying22 s9es22 (by omega))) ?_
   refine uL _ rfl (run_load1 h1na9 (hrdx _ _ _ (((hD16.trans hC1).trans hD21).trans hC2) no_res hv 0 _ rfl)) ?_
   refine sl_rowOne (v := vS x) tV (wn rfl) rfl rfl hv hFel22 rfl (fun b51 w52 hv => ?_)
   simp only [zP, po]
   replace hv := hv.front 3 rfl
   simp only [eS, eZ] at hv
   refine sl_append (news := [vS x]) tV (wn rfl) rfl rfl rfl hFel22 hv (ok_full (by omega)) rfl (rd_all (hv.get 1 rfl)) (by intro u hu; simp only [List.mem_cons, List.not_mem_nil, or_false] at hu; rcases hu with rfl <;> rfl) (by unfold maxLen; omega) (by omega) (fun rv53 w56 hv => ?_)
   obtain ⟨ra54, rc55, rfl⟩ := row_slice hv.head
   refine uA rfl (uZ ?_)
   refine bN (tK k37 ?_)
   refine rL (uM rfl ?_)
   refine uG (vI ((i + 1 : Nat) : Int)) rfl (ex_add rfl rfl rfl (by rw [i64_in (by omega)]; omega)) (uA rfl ?_)
   refine uZ (then_normal ?_)
   go_roundw
   case rel => exact ⟨i + 1, _, _, _, _, by rw [show 2 + 2 * (i + 1) = 2 + 2 * i + 2 by omega], by rw [show 2 + (i + 1) = 2 + i + 1 by omega], rfl, by omega, fun y hy => (by rw [take_next hx] at hy; rcases List.mem_append.1 hy with h9 | h9; exact hall y h9; rw [List.mem_singleton.1 h9]; omega), fun y hy => (by rw [take_next hx] at hy; rcases List.mem_append.1 hy with h9 | h9; exact hno y h9; rw [List.mem_singleton.1 h9]; assumption), by rw [show 2 + 2 * (i + 1) = 2 + 2 * i + 2 by omega, show 2 + (i + 1) = 2 + i + 1 by omega, take_next hx, List.flatMap_append, List.flatMap_singleton, ← List.cons_append, ← List.cons_append, ← row_two, ← List.cons_append, ← List.cons_append, ← row_one]; exact (hv.kp [6, 6, 6, 3, 5] 5 2)⟩
   case measure => show fs.length - (((i + 1 : Nat) : Int)).toNat < fs.length - ((i : Int)).toNat; omega
  refine uG (.bool false) rfl (ex_lss rfl rfl rfl (qF hb36)) (uW k35 ?_)
  refine cF rfl (xE ?_)
  refine tX (tX ?_)
  refine bH (tK k31 ?_)
  refine sK fun _ k57 => ?_
  obtain rfl : i = fs.length := by omega
  rw [List.take_length] at hall hno hv
  have hno : fst0 ∉ fs := fun h9 => hno _ h9 rfl
  refine rL (uM rfl ?_)
  refine uM rfl ?_
  obtain ⟨D58, hD58, hv, hrD58, hoD58, -⟩ := hv.rowBy
  have hxl3 : ∀ x ∈ (kH :: fs.flatMap fun f => [f, [120]]), x.length ≤ 1000000 := fun x hx => by
   rcases List.mem_cons.1 hx with rfl | hx
   ·decide
   obtain ⟨f, hf, hx⟩ := List.mem_flatMap.1 hx
   simp only [List.mem_cons, List.not_mem_nil, or_false] at hx
   rcases hx with rfl | rfl
   ·have := hall _ hf; omega
   decide
  have hln3 : (kH :: fs.flatMap fun f => [f, [120]]).length = 2 * fs.length + 1 := by rw [List.length_cons, flat2_len]
  replace hv := hv.front 3 rfl
  simp only [eS, eZ] at hv
  replace hv := hv.front 3 rfl
  simp only [eS, eZ] at hv
  have hcl3 := lawDo D58 _ _ v t m s p wb va vc sv 0 es2 M2 (hM2.more hD58) hO2 sa sc [72, 83, 69, 84] (kH :: fs.flatMap fun f => [f, [120]]) hrD58 (by rw [hln3]; have h9 := hoD58; rw [show 2 + 2 * fs.length = (2 * fs.length + 1) + 1 by omega] at h9; exact h9) (by rw [hln3]; omega) hxl3 (hN.more ((((hD16.trans hC1).trans hD21).trans hC2).trans hD58)) hv
  rw [hln3, show 2 * fs.length + 1 + 1 = 2 + 2 * fs.length by omega] at hcl3
  refine xC hFcallable8 rfl ((hcl3).mono ?_) rfl
  rintro e w59 ⟨C3, es3, M3, r3, cs3, hC3, rfl, hrp3, hM3, hO3, hrel3, hv⟩
  refine ⟨_, rfl, ?_⟩
  obtain ⟨k9, e9, hd9⟩ := (hrel3 (gargs_set _ hfl1)).1 rfl
  cases e9
  rw [show ((kH :: fs.flatMap fun f => [f, ([120] : List UInt8)]).drop 1) = fs.flatMap fun f => [f, [120]] from rfl, prsF_psX] at hd9
  obtain ⟨hF3, rfl⟩ := hb_set hF2 (by omega) hall hd9
  obtain ⟨v3, rfl⟩ := rp_int hrp3
  have hmo := set_more hno hfne
  refine uM rfl (uM rfl ?_)
  replace hv := hv.front 2 rfl
  simp only [eS, eZ] at hv
  obtain ⟨D60, hD60, hv, hrD60, hoD60, -⟩ := hv.rowBy
  have hxl4 : ∀ x ∈ (kH :: fs), x.length ≤ 1000000 := fun x hx => by
   rcases List.mem_cons.1 hx with rfl | hx
   ·decide
   have := hall x hx; omega
  have hln4 : (kH :: fs).length = fs.length + 1 := by rfl
  replace hv := hv.front 1 rfl
  simp only [eS, eZ] at hv
  replace hv := hv.front 1 rfl
  simp only [eS, eZ] at hv
  have hcl4 := lawDo D60 _ _ v t m s p wb va vc sv 0 es3 M3 (hM3.more hD60) hO3 da dc [72, 68, 69, 76] (kH :: fs) hrD60 (by rw [hln4]; have h9 := hoD60; rw [show 2 + fs.length = (fs.length + 1) + 1 by omega] at h9; exact h9) (by rw [hln4]; omega) hxl4 (hN.more ((((((hD16.trans hC1).trans hD21).trans hC2).trans hD58).trans hC3).trans hD60)) hv
  rw [hln4, show fs.length + 1 + 1 = 2 + fs.length by omega] at hcl4
  refine xC hFcallable8 rfl ((hcl4).mono ?_) rfl
  rintro e w61 ⟨C4, es4, M4, r4, cs4, hC4, rfl, hrp4, hM4, hO4, hrel4, hv⟩
  refine ⟨_, rfl, ?_⟩
  obtain ⟨k9, e9, hd9⟩ := (hrel4 (gargs_del _ hfl1)).2.2.1 rfl
  cases e9
  obtain ⟨hF4, rfl⟩ := hb_del hF3 (by omega) hall hno hd9
  obtain ⟨v4, rfl⟩ := rp_int hrp4
  simp only [zP, po]
  refine sl_alloc tV (wn rfl) rfl hv hFal28 (fun b62 w63 hv => ?_)
  simp only [zP, po]
  refine sl_alloc tV (wn rfl) rfl hv hFal28 (fun b64 w65 hv => ?_)
  simp only [zP, po]
  refine xS 1 rfl hv rssz28 rfl (by exact ⟨rfl, rfl, rfl, hrp3.lv.2, trivial⟩) (fun w66 hv => ?_)
  simp only [zS, zO, sp] at hv
  simp only [zP, po]
  refine xS 0 rfl hv rssz28 rfl (by exact ⟨rfl, rfl, rfl, hrp4.lv.2, trivial⟩) (fun w67 hv => ?_)
  simp only [zO, sp] at hv
  refine uW k57 (sK fun _ k68 => ?_)
  refine sK fun _ k69 => rW mixed [12, 13, 15] [0,1,2,3,4,5,6,7,8,9,10,11,14,12,13,15,16,17] 118 rfl (by kernel_rfl) hv ?_
  simp only [qm, opAt]
  refine dG (.pointer (some ⟨b62, 2, none⟩)) rfl (ex_field rfl rfl (l0fa28_2 _ _ _)) (dL _ rfl (fun hv => ex_load rfl rfl (run_load1 s2na3 (hv.load 1 2 rfl rfl))) ?_)
  refine dG (.pointer (some ⟨b64, 2, none⟩)) rfl (ex_field rfl rfl (l0fa28_2 _ _ _)) ?_
  simp only [zP, po]
  refine dL _ rfl (fun hv => ex_load rfl rfl (run_load1 s2na3 (hv.load 0 2 rfl rfl))) (dG (.bool false) rfl (ex_neq rfl rfl rfl (qF (fun h9 => h9 rfl))) ?_)
  refine dM (.bool false) rfl ?_
  simp only [zP, po]
  refine dG (.pointer (some ⟨b62, 2, none⟩)) rfl (ex_field rfl rfl (l0fa28_2 _ _ _)) (dL _ rfl (fun hv => ex_load rfl rfl (run_load1 s2na3 (hv.load 1 2 rfl rfl))) ?_)
  refine dG (.bool false) rfl (ex_lss rfl rfl rfl (qF (by omega))) ?_
  simp only [zP, po]
  refine dK false (.bool false) rfl (dM (.bool false) rfl ?_)
  refine dM (vP v) rfl ?_
  simp only [zP, po]
  refine dF (.agg #[vI 5, vS [], vI 0, .slice a2 2 c2]) rfl (fun hv => ex_load rfl rfl (lM 4 rswd28 hv rfl rfl rfl rfl)) fun f70 hf70 => dS rfl fun w71 hv => mem_row2 (v1 := vS [72, 71, 69, 84, 65, 76, 76]) (v2 := vS [104]) (e := 9) rfl rfl rfl rfl hv (fun w => by kernel_rfl) (fun b72 w73 hv => ?_)
  refine dV hv (fC (fun ww hv => hf70 ww ?_) fN) ?_
  ·exact ex_load rfl rfl (lM 5 rswd28 hv rfl rfl rfl rfl)
  refine dS rfl fun w74 hv => ?_
  obtain ⟨D75, hD75, hv, hrD75, hoD75, -⟩ := (hv.cellRow (n := 2) (c := 2) (size := 1) rfl (by decide) (by decide)).rowBy
  replace hv := hv.front 3 rfl
  simp only [eS, eZ] at hv
  replace hv := hv.front 3 rfl
  simp only [eS, eZ] at hv
  refine mC hFcallable8 rfl ((lawDo D75 _ _ v t m s p wb va vc sv 0 es4 M4 (hM4.more hD75) hO4 _ _ ([72, 71, 69, 84, 65, 76, 76] : List UInt8) [([104] : List UInt8)] hrD75 hoD75 (Nat.le_of_ble_eq_true rfl) (all1 (by decide) all0) (hN.more ((((((((hD16.trans hC1).trans hD21).trans hC2).trans hD58).trans hC3).trans hD60).trans hC4).trans hD75)) hv).mono ?_) rfl
  rintro e w76 ⟨C5, es5, M5, r5, cs5, hC5, rfl, hrp5, hM5, hO5, hrel5, hv⟩
  obtain ⟨k9, e9, hd9⟩ := (hrel5 (by unfold GArgs; decide)).2.1 rfl
  cases e9
  obtain ⟨hMe5, rfl⟩ := HasH.all hF4 hd9
  have hF5 : HasH M5 [(fst0, [49])] := by rw [hMe5]; exact hF4
  obtain ⟨a5, c5, rfl⟩ := rp_strs hrp5
  refine ⟨_, rfl, dV hv (fC (fun ww hv => hf70 ww ?_) fN) ?_⟩
  ·exact ex_load rfl rfl (lM 4 rswd28 hv rfl rfl rfl rfl)
  simp only [zP, po]
  refine dS rfl fun w77 hv => mC l0callable9 rfl (((sameR_strs (B := C5) (l := flatH [(fst0, [49])]) (by decide)) _ _ (rpCells 5 [] 0 (.slice a5 2 c5)) (rpCells 5 [] 0 (.slice a2 2 c2)) (hrp5.more (Base.Le.refl _)) (hrp2.more (((((hD58.trans hC3).trans hD60).trans hC4).trans hD75).trans hC5)) hv).mono ?_) rfl
  rintro e w78 ⟨rfl, hv⟩
  refine ⟨_, rfl, dV hv (fK rfl fN) ?_⟩
  refine dG (.bool false) rfl (ex_not rfl rfl rfl) (dK false (.bool false) rfl ?_)
  refine dE fun w79 hv => ?_
  simp only [zP, po]
  refine tK k69 (cF rfl ?_)
  refine kS (tK k68 ?_)
  refine sK fun _ k80 => rL (uM rfl ?_)
  refine uG (vI (by_.tmod 1000)) rfl (ex_rem (m := by_) (n := 1000) rfl rfl rfl (by decide) rfl) ?_
  refine uG (vI (by_.tmod 1000 + 1000)) rfl (ex_add rfl rfl rfl (by rw [i64_in (by omega)])) ?_
  refine uG (vI kk) rfl (ex_rem (m := (by_.tmod 1000 + 1000)) (n := 1000) rfl rfl rfl (by decide) hkk) (uA rfl ?_)
  refine uW k80 (sK fun _ k81 => ?_)
  obtain ⟨d, hd⟩ : ∃ d, d = kk % 10 := ⟨_, rfl⟩
  have hd9 : d ≤ 9 := by omega
  have hdl : (Lib.itoa (d : Int)).length ≤ 1000000 := by rw [itoa_small d hd9]; exact Nat.le_of_ble_eq_true rfl
  have hd1l : (Lib.itoa (d : Int)).length = 1 := by rw [itoa_small d hd9]; rfl
  have hmd : (kk : Int).tmod 10 = (d : Int) := by rw [mod_d, hd]
  refine rL (uM rfl ?_)
  refine uG (vI d) rfl (ex_rem (m := (kk : Int)) (n := 10) rfl rfl rfl (by decide) hmd) ?_
  refine uG (vI ((48 + d : Nat) : Int)) rfl (ex_add rfl rfl rfl (by rw [i64_in (by omega)]; omega)) ?_
  refine uG (.int .u8 ((UInt8.ofNat (48 + d)).toNat : Int)) rfl (ex_int Tryz.underlying3 Tryz.underlying5 rfl rfl (u8_dig0 d hd9)) ?_
  refine sl_rowOne (v := .int .u8 ((UInt8.ofNat (48 + d)).toNat : Int)) tV (wn rfl) rfl rfl hv hFel31 rfl (fun b82 w83 hv => ?_)
  refine uG (.string ⟨[UInt8.ofNat (48 + d)].toArray⟩) rfl (ex_str Tryz.underlying31 Tryz.underlying5 Tryz.underlying9 rfl rfl (bytes_all (l := [UInt8.ofNat (48 + d)]) (hv.get 0 rfl)) (rfl)) (uA rfl ?_)
  refine uW k81 (sK fun _ k84 => ?_)
  rw [← itoa_small d hd9]
  refine rL (uM rfl ?_)
  refine uM rfl ?_
  refine sl_rowN (pv := #[(0, vS [72, 73, 78, 67, 82, 66, 89]), (1, vS [104]), (2, vS [0, 102, 105, 114, 115, 116]), (3, vS (Lib.itoa (d : Int)))]) (L := [vS [72, 73, 78, 67, 82, 66, 89], vS [104], vS [0, 102, 105, 114, 115, 116], vS (Lib.itoa (d : Int))]) (e := 9) tV (wn rfl) rfl (by simp only [List.map_toArray, List.map_cons, List.map_nil]; rfl) hv (fun w => by kernel_rfl) (fun b85 w86 hv => ?_)
  simp only [zP, po]
  obtain ⟨D87, hD87, hv, hrD87, hoD87, -⟩ := (hv.cellRow (n := 4) (c := 4) (size := 1) rfl (by decide) (by decide)).rowBy
  replace hv := hv.front 2 rfl
  simp only [eS, eZ] at hv
  replace hv := hv.front 2 rfl
  simp only [eS, eZ] at hv
  refine xC hFcallable8 rfl ((lawDo D87 _ _ v t m s p wb va vc sv 0 es5 M5 (hM5.more hD87) hO5 _ _ ([72, 73, 78, 67, 82, 66, 89] : List UInt8) [([104] : List UInt8), ([0, 102, 105, 114, 115, 116] : List UInt8), Lib.itoa (d : Int)] hrD87 hoD87 (Nat.le_of_ble_eq_true rfl) (all1 (by decide) (all1 (by decide) (all1 hdl all0))) (hN.more ((((((((((hD16.trans hC1).trans hD21).trans hC2).trans hD58).trans hC3).trans hD60).trans hC4).trans hD75).trans hC5).trans hD87)) hv).mono ?_) rfl
  rintro e w88 ⟨C6, es6, M6, r6, cs6, hC6, rfl, hrp6, hM6, hO6, hrel6, hv⟩
  refine ⟨_, rfl, ?_⟩
  obtain ⟨k9, f9, b9, e9, e8, e7, hd9⟩ := (hrel6 (show GArgs [72, 73, 78, 67, 82, 66, 89] 3 by unfold GArgs; decide)).2.2.2 rfl
  cases e9; cases e8; cases e7
  have hF5 : HasH M5 [(fst0, Lib.itoa 1)] := by rw [show Lib.itoa 1 = [49] from itoa_small 1 (by decide)]; exact hF5
  obtain ⟨hF6, rfl⟩ := hb_count (a := 1) (b := (d : Int)) (by decide) (by decide) (by omega) (by omega) (by omega) hF5 hd9
  obtain ⟨v6, rfl⟩ := rp_int hrp6
  refine uW k84 (sK fun _ k89 => ?_)
  refine rL (uM rfl ?_)
  refine uM rfl ?_
  refine uG (vS (([45] : List UInt8) ++ (Lib.itoa (d : Int)))) rfl (ex_cat rfl rfl rfl (by have := hdl; simp only [List.length_cons, List.length_nil]; omega)) ?_
  refine sl_rowN (pv := #[(0, vS [72, 73, 78, 67, 82, 66, 89]), (1, vS [104]), (2, vS [0, 102, 105, 114, 115, 116]), (3, vS (([45] : List UInt8) ++ (Lib.itoa (d : Int))))]) (L := [vS [72, 73, 78, 67, 82, 66, 89], vS [104], vS [0, 102, 105, 114, 115, 116], vS (([45] : List UInt8) ++ (Lib.itoa (d : Int)))]) (e := 9) tV (wn rfl) rfl (by simp only [List.map_toArray, List.map_cons, List.map_nil]; rfl) hv (fun w => by kernel_rfl) (fun b90 w91 hv => ?_)
  simp only [zP, po]
  obtain ⟨D92, hD92, hv, hrD92, hoD92, -⟩ := (hv.cellRow (n := 4) (c := 4) (size := 1) rfl (by decide) (by decide)).rowBy
  replace hv := hv.front 1 rfl
  simp only [eS, eZ] at hv
  replace hv := hv.front 1 rfl
  simp only [eS, eZ] at hv
  refine xC hFcallable8 rfl ((lawDo D92 _ _ v t m s p wb va vc sv 0 es6 M6 (hM6.more hD92) hO6 _ _ ([72, 73, 78, 67, 82, 66, 89] : List UInt8) [([104] : List UInt8), ([0, 102, 105, 114, 115, 116] : List UInt8), ([45] : List UInt8) ++ (Lib.itoa (d : Int))] hrD92 hoD92 (Nat.le_of_ble_eq_true rfl) (all1 (by decide) (all1 (by decide) (all1 (by rw [List.length_append, hd1l]; simp only [List.length_cons, List.length_nil]; decide) all0))) (hN.more ((((((((((((hD16.trans hC1).trans hD21).trans hC2).trans hD58).trans hC3).trans hD60).trans hC4).trans hD75).trans hC5).trans hD87).trans hC6).trans hD92)) hv).mono ?_) rfl
  rintro e w93 ⟨C7, es7, M7, r7, cs7, hC7, rfl, hrp7, hM7, hO7, hrel7, hv⟩
  refine ⟨_, rfl, ?_⟩
  obtain ⟨k9, f9, b9, e9, e8, e7, hd9⟩ := (hrel7 (show GArgs [72, 73, 78, 67, 82, 66, 89] 3 by unfold GArgs; decide)).2.2.2 rfl
  cases e9; cases e8; cases e7
  by_cases hd0 : d = 0
  ·obtain ⟨rk7, rs7, rn7, v7, rfl⟩ := rp_parts hrp7
   refine uG (vI rn7) rfl (ex_fieldv rfl rfl (fun w => by kernel_rfl)) ?_
   by_cases hb94 : rn7 = 1
   ·refine uG (.bool true) rfl (ex_eql rfl rfl rfl (qT hb94)) (uM rfl ?_)
    refine uP rfl ?_
    refine uP rfl (uK rfl ?_)
    refine uA rfl (uW k89 ?_)
    refine rR (bR rfl rfl ?_)
    exact ⟨rfl, ((hv.kp [] 0 6)).weak (((((((((((((hD16.trans hC1).trans hD21).trans hC2).trans hD58).trans hC3).trans hD60).trans hC4).trans hD75).trans hC5).trans hD87).trans hC6).trans hD92).trans hC7)⟩
   refine uG (.bool false) rfl (ex_eql rfl rfl rfl (qF hb94)) (uM rfl ?_)
   refine uM rfl ?_
   refine uG (.bool true) rfl (ex_seql rfl rfl rfl (qT (by rw [hd0]; exact itoa_small 0 (by decide)))) (uK rfl ?_)
   refine uA rfl (uW k89 ?_)
   refine rR (bR rfl rfl ?_)
   exact ⟨rfl, ((hv.kp [] 0 6)).weak (((((((((((((hD16.trans hC1).trans hD21).trans hC2).trans hD58).trans hC3).trans hD60).trans hC4).trans hD75).trans hC5).trans hD87).trans hC6).trans hD92).trans hC7)⟩
  rw [List.singleton_append, ← itoa_neg (by omega)] at hd9
  obtain ⟨hF7, rfl⟩ := hb_count (a := 1 + (d : Int)) (b := -(d : Int)) (by omega) (by omega) (by omega) (by omega) (by omega) hF6 hd9
  obtain ⟨v7, rfl⟩ := rp_int hrp7
  refine uG (vI (1 + (d : Int) + -(d : Int))) rfl (ex_fieldv rfl rfl (fun w => by kernel_rfl)) ?_
  refine uG (.bool true) rfl (ex_eql rfl rfl rfl (qT (by omega))) (uM rfl ?_)
  refine uP rfl ?_
  refine uP rfl (uK rfl ?_)
  refine uA rfl (uW k89 ?_)
  refine rR (bR rfl rfl ?_)
  exact ⟨rfl, ((hv.kp [] 0 6)).weak (((((((((((((hD16.trans hC1).trans hD21).trans hC2).trans hD58).trans hC3).trans hD60).trans hC4).trans hD75).trans hC5).trans hD87).trans hC6).trans hD92).trans hC7)⟩
end Go.Proofs.YtffnhfkkochnhaaGreatDoor
namespace Go.Pm
open Go.RowKit
def All2 {α β : Type} (R : α → β → Prop) : List α → List β → Prop
 | [], [] => True
 | a :: k, b :: l => R a b ∧ All2 R k l
 | _, _ => False
theorem rep_rowAux {W : World} {S : Nat → Prop} {t : Ty} {a : Option Addr} : ∀ (l : List t.den) (k : Nat), (∀ i (h : i < l.length), ∃ b off xs, a = some ⟨b, off, none⟩ ∧ S b ∧ xs.length = t.size ∧ (∀ j (h : j < xs.length), W.cell? ⟨b, off + (k + i) * t.size + j, none⟩ = some xs[j]) ∧ Rep W S t xs l[i]) →
  ∃ xss : List (List Value), All2 (fun xs d => xs.length = t.size ∧ Rep W S t xs d) xss l ∧ ∀ j (h : j < xss.flatten.length), ∃ b off, a = some ⟨b, off, none⟩ ∧ W.cell? ⟨b, off + k * t.size + j, none⟩ = some xss.flatten[j]
 | [], k, _ => ⟨[], trivial, fun j h => by simp at h⟩
 | d :: l, k, h => by
  obtain ⟨xss, h1, h2⟩ := rep_rowAux l (k + 1) (fun i hi => by
   obtain ⟨b, off, xs, e1, e2, e3, e4, e5⟩ := h (i + 1) (by simpa using hi)
   refine ⟨b, off, xs, e1, e2, e3, fun j hj => ?_, e5⟩
   rw [show k + 1 + i = k + (i + 1) by omega]
   exact e4 j hj)
  obtain ⟨b, off, xs, e1, e2, e3, e4, e5⟩ := h 0 (by simp)
  refine ⟨xs :: xss, ⟨⟨e3, e5⟩, h1⟩, fun j hj => ?_⟩
  rcases Nat.lt_or_ge j xs.length with hx | hx
  ·refine ⟨b, off, e1, ?_⟩
   have := e4 j hx
   rw [Nat.add_zero] at this
   rw [this]
   simp only [List.flatten_cons]
   rw [List.getElem_append_left hx]
  have hj' : j - xs.length < xss.flatten.length := by
   simp only [List.flatten_cons, List.length_append] at hj
   omega
  obtain ⟨b', off', f1, f2⟩ := h2 (j - xs.length) hj'
  refine ⟨b', off', f1, ?_⟩
  rw [show off' + k * t.size + j = off' + (k + 1) * t.size + (j - xs.length) by rw [Nat.succ_mul]; omega, f2]
  simp only [List.flatten_cons]
  rw [List.getElem_append_right hx]
theorem rep_row {W : World} {S : Nat → Prop} {t : Ty} {cs : List Value} {l : List t.den} (h : Rep W S (.slice t) cs l) :
  ∃ a cap xss, cs = [.slice a l.length cap] ∧ SliceOk a l.length cap ∧ RdV (Base.of W) [] a xss.flatten ∧ All2 (fun xs d => xs.length = t.size ∧ Rep W S t xs d) xss l := by
 obtain ⟨a, cap, h1, h2, h4⟩ := h
 obtain ⟨xss, h5, h6⟩ := rep_rowAux (t := t) l 0 (fun i hi => by
  obtain ⟨b, off, xs, e1, e2, e3, e4, e5⟩ := h4 i hi
  refine ⟨b, off, xs, e1, e2, e3, fun j hj => ?_, e5⟩
  rw [Nat.zero_add]
  exact e4 j hj)
 refine ⟨a, cap, xss, h1, h2, rdV_of W fun j hj => ?_, h5⟩
 obtain ⟨b, off, f1, f2⟩ := h6 j hj
 exact ⟨b, off, f1, by rw [← f2, Nat.zero_mul, Nat.add_zero]⟩
theorem rep_texts {W : World} {S : Nat → Prop} : ∀ {xss : List (List Value)} {l : List (List UInt8)}, All2 (fun xs (d : Ty.str.den) => xs.length = Ty.str.size ∧ Rep W S .str xs d) xss l → xss.flatten = textCells l
 | [], [], _ => rfl
 | xs :: xss, d :: l, ⟨⟨h1, h2⟩, h⟩ => by
  have := rep_texts h
  match xs, h1 with
  | [x0], _ =>
   obtain ⟨k1, _⟩ := h2
   have k1' : [x0] = _ := k1
   simp only [List.cons.injEq, and_true] at k1'
   subst k1'
   simp only [List.flatten_cons, this, textCells, List.map_cons]
   rfl
end Go.Pm
namespace Go.Proofs.YtffnhfkkochnhaaGreatDoor
open Go
theorem tabOf {W : World} {l : List (String × DataW Unit)} (hl : l.filter (fun x => x.1 == "internal/strconv.uint64pow10") = [("internal/strconv.uint64pow10", Lib.tabData .u64 Lib.pow10Tab)]) (hL : laidMetH Tryz.prog l W) : Lib.TabIs Tryz.prog W "internal/strconv.uint64pow10" .u64 Lib.pow10Tab := by
 have h := hL.filter (fun x => x.1 == "internal/strconv.uint64pow10")
 rw [hl] at h
 have h2 := (laidMetH_iff.1 h).1
 have e : ([("internal/strconv.uint64pow10", (Lib.tabData .u64 Lib.pow10Tab : DataW Unit))].filter fun x => x.2.handleName?.isNone) = [("internal/strconv.uint64pow10", Lib.tabData .u64 Lib.pow10Tab)] := by kernel_rfl
 rw [e] at h2
 exact Lib.tabIs_of_head (g := 0) (t := 217) (e := 187) (n := 20) (by kernel_rfl) (by kernel_rfl) Tryz.underlying217 Tryz.underlying187 (by kernel_rfl) (by kernel_rfl) h2
open Go.RowKit Go.Pm
theorem parsesAny (B : Base) (H : List Res) (h1 : HasErr B 1) (h2 : HasErr B 2) : ParsesAny B H := fun w s hs hv => by
 obtain ⟨t1, v1, h1⟩ := h1
 obtain ⟨t2, v2, h2⟩ := h2
 have c1 := h1 B H w (Base.Le.refl _) hv
 have c2 := h2 B H w (Base.Le.refl _) hv
 have hmax : (ByteArray.mk s.toArray).size ≤ 20 := by show s.toArray.size ≤ 20; simpa using hs
 cases hp : Lib.parseIntB 64 s
 case ok n =>
  have hb := Lib.parseIntB_bounds hp
  have h : Calls Tryz.prog 98 #[vS s, vI 10, vI 64] w _ := Any.strconv_ParseInt_10_at64_ok Tryz.laysPI ⟨s.toArray⟩ (by omega) n hp w
  refine h.mono ?_
  rintro e w' ⟨rfl, hw⟩
  refine ⟨n, .nilIface, rfl, .inl rfl, by omega, fun m m0 m1 e9 => ⟨rfl, ?_⟩, ?_⟩
  ·rw [e9, parse_itoa m m0 m1] at hp
   cases hp; rfl
  rcases hw with rfl | ⟨t, rfl⟩
  ·exact hv
  exact hv.ext (bytesWorld_ext w _ t)
 ·skip
  have h : Calls Tryz.prog 98 #[vS s, vI 10, vI 64] w _ := Any.strconv_ParseInt_10_at64_syntax Tryz.laysPI ⟨s.toArray⟩ (by omega) hp _ w c1 (.inr ⟨_, _, rfl⟩)
  refine h.mono ?_
  rintro e w' ⟨N, rfl, -, -, hx⟩
  refine ⟨0, _, rfl, .inr ⟨_, _, rfl⟩, by omega, fun m m0 m1 e9 => ?_, hv.ext hx⟩
  rw [e9, parse_itoa m m0 m1] at hp
  cases hp
 case range =>
  have h : Calls Tryz.prog 98 #[vS s, vI 10, vI 64] w _ := Any.strconv_ParseInt_10_at64_range Tryz.laysPI ⟨s.toArray⟩ (by omega) hp _ w c2 (.inr ⟨_, _, rfl⟩)
  refine h.mono ?_
  rintro e w' ⟨N, rfl, -, -, hx⟩
  refine ⟨_, _, rfl, .inr ⟨_, _, rfl⟩, ?_, fun m m0 m1 e9 => ?_, hv.ext hx⟩
  ·unfold Lib.intSat
   split <;> decide
  rw [e9, parse_itoa m m0 m1] at hp
  cases hp
theorem numB {W : World} {l : List (String × DataW Unit)} (hl0 : l.filter (fun x => x.1 == "internal/strconv.uint64pow10") = [("internal/strconv.uint64pow10", Lib.tabData .u64 Lib.pow10Tab)])
  {n1 n2 : String} {d1 d2 : DataW Unit} (hl1 : l.filter (fun x => x.1 == "strconv.ErrSyntax") = [("strconv.ErrSyntax", .iface n1 d1)]) (he1 : ([("strconv.ErrSyntax", (DataW.iface n1 d1 : DataW Unit))].filter fun x => x.2.handleName?.isNone) = [("strconv.ErrSyntax", .iface n1 d1)])
  (hl2 : l.filter (fun x => x.1 == "strconv.ErrRange") = [("strconv.ErrRange", .iface n2 d2)]) (he2 : ([("strconv.ErrRange", (DataW.iface n2 d2 : DataW Unit))].filter fun x => x.2.handleName?.isNone) = [("strconv.ErrRange", .iface n2 d2)]) (hL : laidMetH Tryz.prog l W) : NumB (Base.of W) := by
 have ht := tabOf hl0 hL
 obtain ⟨u1, v1, h1⟩ := errOf hl1 he1 (g := 1) (t := 194) (by kernel_rfl) (by kernel_rfl) Tryz.underlying194 hL
 obtain ⟨u2, v2, h2⟩ := errOf hl2 he2 (g := 2) (t := 194) (by kernel_rfl) (by kernel_rfl) Tryz.underlying194 hL
 exact fun C H hC => ⟨formatsInt C H W hC ht, parsesAny C H ((hasErr_of h1).more hC) ((hasErr_of h2).more hC)⟩
end Go.Proofs.YtffnhfkkochnhaaGreatDoor
namespace Go.Pm
open Go.RowKit
theorem rep_textsM {W : World} {S : Nat → Prop} {cs : List Value} {l : List (List UInt8)} (h : Rep W S (.slice .str) cs l) : ∃ a c, cs = [.slice a l.length c] ∧ SliceOk a l.length c ∧ RdV (Base.of W) [] a (textCells l) ∧ ∀ x ∈ l, x.length ≤ 9223372036854775807 := by
 have hb : ∀ x ∈ l, x.length ≤ 9223372036854775807 := by
  obtain ⟨a, cap, h1, h2, h4⟩ := h
  intro x hx
  obtain ⟨i, hi, rfl⟩ := List.getElem_of_mem hx
  obtain ⟨b, off, xs, e1, e2, e3, e4, e5⟩ := h4 i hi
  exact e5.2
 obtain ⟨a, c, xss, h1, h2, h3, h4⟩ := rep_row h
 rw [rep_texts h4] at h3
 exact ⟨a, c, h1, h2, h3, hb⟩
end Go.Pm
namespace Go.Proofs.YtffnhfkkochnhaaGreatDoor
open Go.RowKit Go.Pm
def laidAll : List (String × DataW Unit) := [("math/bits.deBruijn32tab", Rows.laid_math_bits_deBruijn32tab), ("math/bits.deBruijn64tab", Rows.laid_math_bits_deBruijn64tab), ("internal/strconv.uint64pow10", Rows.laid_internal_strconv_uint64pow10), ("strconv.ErrRange", Rows.laid_strconv_ErrRange), ("strconv.ErrSyntax", Rows.laid_strconv_ErrSyntax)]
abbrev dSyn : DataW Unit := .ptr (.agg [.lit (.string [105, 110, 118, 97, 108, 105, 100, 32, 115, 121, 110, 116, 97, 120])])
abbrev dRan : DataW Unit := .ptr (.agg [.lit (.string [118, 97, 108, 117, 101, 32, 111, 117, 116, 32, 111, 102, 32, 114, 97, 110, 103, 101])])
theorem numAll {W : World} (hL : laidMetH Tryz.prog laidAll W) : NumB (Base.of W) :=
 numB (l := laidAll) (n1 := "*errors.errorString") (d1 := dSyn) (n2 := "*errors.errorString") (d2 := dRan) (by kernel_rfl) (by kernel_rfl) (by kernel_rfl) (by kernel_rfl) (by kernel_rfl) hL
end Go.Proofs.YtffnhfkkochnhaaGreatDoor
