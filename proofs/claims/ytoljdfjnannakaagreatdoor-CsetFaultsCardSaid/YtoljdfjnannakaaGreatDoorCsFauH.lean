/- cset: common. -/
import Derived.Test.YtoljdfjnannakaaGreatDoorCsFauB
import Derived.Test.YtoljdfjnannakaaGreatDoorCsFauG
import Derived.Test.YtoljdfjnannakaaGreatDoorRows
import Derived.Test.YtoljdfjnannakaaGreatDoorCsFauE
import Derived.Test.YtoljdfjnannakaaGreatDoorCsFauF
import Derived.Test.YtoljdfjnannakaaGreatDoorCsFauC
set_option maxRecDepth 100000
set_option maxHeartbeats 16000000
set_option synthInstance.maxSize 4096
set_option synthInstance.maxHeartbeats 400000
namespace Go.Proofs.YtoljdfjnannakaaGreatDoor
open Go.RowKit Go.Pm
theorem numP_inj {s : List UInt8} {n m : Int} (h : NumP s n true) (h2 : NumP s m true) : n = m := by
 rcases h with ⟨-, h0, h1, h3⟩ | ⟨h, -⟩
 ·rcases h2 with ⟨-, h4, h5, h6⟩ | ⟨h, -⟩
  ·have e1 := parse_itoa n h0 h1
   have e2 := parse_itoa m h4 h5
   rw [← h3] at e1
   rw [← h6, e1] at e2
   cases e2; rfl
  cases h
 cases h
theorem numP_not {s : List UInt8} {n : Int} (h : NumP s n true) (h2 : NumP s 0 false) : False := by
 rcases h with ⟨-, h0, h1, h3⟩ | ⟨h, -⟩
 ·rcases h2 with ⟨h, -⟩ | ⟨-, -, h4⟩
  ·cases h
  exact h4 n h0 h1 h3
 cases h
theorem ints_one {s : List UInt8} {ns : List Int} {ec : Int} (h : IntsR [s] ns ec) : (ec = 0 ∧ ∃ n, ns = [n] ∧ NumP s n true) ∨ (ec = 41 ∧ ns = [] ∧ NumP s 0 false) := by
 rcases h with ⟨h1, h2, h3⟩ | ⟨h1, h2, t, ht, h3⟩
 ·match ns, h2 with
  | [n], _ => exact .inl ⟨h1, n, rfl, h3 0 s n rfl rfl⟩
 rw [List.mem_singleton.1 ht] at h3
 exact .inr ⟨h1, h2, h3⟩
def CommonR (M : List (List UInt8 × Ver)) (clk : Int) (s0 : List UInt8) (xs : List (List UInt8)) (r : Rp) : Prop :=
 ∀ n : Int, NumP s0 n true → n = (xs.length : Int) → 1 ≤ n → ∃ ss ec, SetsR M clk xs ss ec ∧ ((ec ≠ 0 ∧ IsF r) ∨ (ec = 0 ∧ ∃ q, ss[0]? = some q ∧ r = rInt ((interS q (ss.drop 1)).length : Int)))
theorem c4al28 : AL Tryz.prog 28 [vI 0, vS [], vI 0, vN] := fun w => by kernel_rfl
theorem c4mk9 : (Tryz.prog.info? 9).map (fun i => (i.zero, i.size, i.bytes)) = some (some (vS []), 1, 16) := by kernel_rfl
theorem c4el22 : Elem Tryz.prog 22 9 (vS []) 1 16 := elem_of Tryz.underlying22 c4mk9 (by rfl) (by decide)
theorem c4callable74 : Callable Tryz.prog 74 := cb Tryz.func74 (by kernel_rfl)
theorem c4callable75 : Callable Tryz.prog 75 := cb Tryz.func75 (by kernel_rfl)
theorem csetCommon (B : Base) (H : List Res) (w : World) (v t m s p wb : Nat) (va : Option Addr) (vc : Nat) (sv : Value) (clk : Int) (es : List (List UInt8 × Value)) (M : List (List UInt8 × Ver)) (hM : VM B es M) (hO : OkM M) (aa : Option Addr) (ac : Nat) (args : List (List UInt8)) (hra : RdV B [] aa (textCells args)) (hoka : SliceOk aa args.length ac) (_ : args.length ≤ 10000) (key : List UInt8) (hkey : args[0]? = some key) (xa : Option Addr) (xc : Nat) (xs : List (List UInt8)) (hokx : SliceOk xa xs.length xc) (hrx : RdV B [] xa (textCells xs)) (hmx : xs.length ≤ 1000) (hxl : ∀ x ∈ xs, x.length ≤ 9223372036854775807) (hN : NumB B) (hv : Inv B (Res.cell v [.iface 62 (vP t)] 39 :: txR t m s p wb va vc sv clk es :: H) w) :
  Calls Tryz.prog 46 #[.agg #[vP v, .slice aa args.length ac], .slice xa xs.length xc] w fun e w' => ∃ C r cs, B.Le C ∧ e = .returned (.agg cs.toArray) ∧ RpAt C r cs ∧ CommonR M clk key xs r ∧ Inv C (Res.cell v [.iface 62 (vP t)] 39 :: txR t m s p wb va vc sv clk es :: H) w' := by
 refine cW Tryz.func46 rfl Tryz.ntmps46 ?_
 simp only [al]
 refine sK fun _ k1 => ?_
 have hal := (List.getElem?_eq_some_iff.1 hkey).1
 obtain ⟨ab, ao, had, hrdkey⟩ := text_reads hra hkey
 subst had
 refine rL (sl_box (L := [vP v, .slice (some ⟨ab, ao, none⟩) args.length ac]) tV (wn rfl) rfl rfl hv (fun w => by kernel_rfl) (fun b2 w3 hv => ?_))
 refine sl_alloc tV (wn rfl) rfl hv c4al28 (fun b4 w5 hv => ?_)
 refine uW k1 (sK fun _ k6 => ?_)
 refine rL (uF (.pointer (some ⟨b2, 1, none⟩)) rfl (c1fa73_1 _ _ _) ?_)
 refine uL _ rfl (run_load1 s1na22 (hv.load 1 1 rfl rfl)) ?_
 refine uG (.pointer (some ⟨ab, ao + 0, none⟩)) rfl (ex_index rfl rfl rfl (run_idx1 (k := 0) Tryz.underlying22 s9es22 (by omega))) ?_
 refine uL _ rfl (run_load1 s9na9 (hrdkey _ _ _ (Base.Le.refl _) no_res hv 0 _ rfl)) ?_
 refine sl_rowOne (v := vS key) tV (wn rfl) rfl rfl hv c4el22 rfl (fun b7 w8 hv => ?_)
 obtain ⟨D1, hD1, hv, hrkD1, -, -⟩ := (hv.cellRow (n := 1) (c := 1) (size := 1) rfl (by decide) (by decide)).rowBy
 refine xC c4callable74 rfl ((viewInts D1 _ _ _ 1 [key] hrkD1 (by simp) (hN.more hD1) hv).mono ?_) rfl
 rintro e w9 ⟨E1, ia1, ic1, ns1, ei1, hE1, rfl, hri1, hir1, hv⟩
 refine ⟨_, rfl, ?_⟩
 rcases ints_one hir1 with ⟨rfl, n1, rfl, hn1⟩ | ⟨rfl, rfl, hn1⟩
 ·refine uG (.tuple #[.slice ia1 1 ic1, vI 0]) rfl (ex_move rfl rfl) ?_
  refine uG (.slice ia1 1 ic1) rfl (ex_extract rfl rfl rfl) (uE rfl ?_)
  refine uA rfl (uA rfl ?_)
  refine uW k6 (sK fun _ k10 => ?_)
  refine sK fun _ k11 => rL (uM rfl ?_)
  refine uG (.bool false) rfl (ex_neq rfl rfl rfl (by decide)) (uW k11 ?_)
  refine cF rfl (kS ?_)
  refine tK k10 (sK fun _ k12 => ?_)
  obtain ⟨ib1, io1, had, hrdn1⟩ := int_reads hri1 (show [n1][0]? = some n1 from rfl)
  subst had
  have hnr : -9223372036854775808 ≤ n1 ∧ n1 ≤ 9223372036854775807 := hn1.elim (fun h => ⟨h.2.1, h.2.2.1⟩) (fun h => absurd h.1 (by decide))
  refine rL (uG (.slice (some ⟨ib1, io1, none⟩) 1 ic1) rfl (ex_move rfl rfl) ?_)
  refine uG (.pointer (some ⟨ib1, io1 + 0, none⟩)) rfl (ex_index rfl rfl rfl (run_idx1 (k := 0) Tryz.underlying149 s11es149 (by omega))) ?_
  refine uL _ rfl (run_load1 s2na3 (hrdn1 _ _ _ (Base.Le.refl _) no_res hv 0 _ rfl)) (uA rfl ?_)
  refine uA rfl (uW k12 ?_)
  refine sK fun _ k13 => rL (uM rfl ?_)
  by_cases hb14 : n1 ≥ 0
  ·refine uG (.bool true) rfl (ex_geq rfl rfl rfl (qT hb14)) (uM rfl ?_)
   refine uM rfl ?_
   refine uG (vI (xs.length : Int)) rfl (ex_len0 Tryz.underlying22 rfl rfl) ?_
   by_cases hb15 : (xs.length : Int) ≥ 2
   ·refine uG (.bool true) rfl (ex_geq rfl rfl rfl (qT hb15)) (uK rfl ?_)
    refine uM rfl ?_
    refine uM rfl ?_
    refine uM rfl ?_
    refine uG (vI (xs.length : Int)) rfl (ex_len0 Tryz.underlying22 rfl rfl) ?_
    refine uG (vI ((xs.length : Int) - 2)) rfl (ex_sub rfl rfl rfl (i64_in (by omega))) ?_
    by_cases hb16 : n1 = ((xs.length : Int) - 2)
    ·refine uG (.bool true) rfl (ex_eql rfl rfl rfl (qT hb16)) ?_
     obtain rfl : n1 = ((xs.length - 2 : Nat) : Int) := by omega
     obtain ⟨x1, hx1⟩ : ∃ x, xs[(xs.length - 2 : Nat)]? = some x := ⟨_, List.getElem?_eq_getElem (show (xs.length - 2 : Nat) < xs.length by omega)⟩
     obtain ⟨xb, xo, had, hrdx1⟩ := text_reads hrx hx1
     subst had
     refine uK rfl (uM rfl ?_)
     refine uM rfl ?_
     refine uM rfl ?_
     refine uG (.pointer (some ⟨xb, xo + (xs.length - 2 : Nat), none⟩)) rfl (ex_index rfl rfl rfl (run_idx1 (k := (xs.length - 2 : Nat)) Tryz.underlying22 s9es22 (by omega))) ?_
     refine uL _ rfl (run_load1 s9na9 (hrdx1 _ _ _ (hD1.trans hE1) no_res hv 0 _ rfl)) ?_
     refine sl_rowOne (v := vS [76, 73, 77, 73, 84]) tV (wanted_of (j := 14) (d := 42) (b := true) rfl rfl rfl) rfl rfl hv c4el22 rfl (fun b17 w18 hv => ?_)
     obtain ⟨D3, hD3, hv, hrkD3, -, -⟩ := (hv.cellRow (n := 1) (c := 1) (size := 1) rfl (by decide) (by decide)).rowBy
     refine xC c4callable75 rfl ((viewIs D3 _ _ x1 _ 1 [[76, 73, 77, 73, 84]] hrkD3 (by simp) (hxl x1 (List.mem_of_getElem? hx1)) hv).mono ?_) rfl
     rintro e w19 ⟨ri, rfl, -, hv⟩
     refine ⟨_, rfl, ?_⟩
     simp only [zP, po]
     by_cases hb20 : ri = 0
     ·refine uG (.bool true) rfl (ex_eql rfl rfl rfl (qT hb20)) (uK rfl ?_)
      refine uA rfl (uW k13 ?_)
      refine sK fun _ k21 => sK fun _ k22 => rL (uM rfl ?_)
      refine uW k22 (cT rfl ?_)
      refine sK fun _ k23 => sK fun _ k24 => ?_
      obtain ⟨x2, hx2⟩ : ∃ x, xs[(xs.length - 1 : Nat)]? = some x := ⟨_, List.getElem?_eq_getElem (show (xs.length - 1 : Nat) < xs.length by omega)⟩
      obtain ⟨b9, o9, had9, hrdx2⟩ := text_reads hrx hx2
      cases had9
      refine rL (uM rfl ?_)
      refine uM rfl ?_
      refine uG (vI ((xs.length - 1 : Nat) : Int)) rfl (ex_add rfl rfl rfl (by rw [i64_in (by omega)]; omega)) ?_
      refine uG (.pointer (some ⟨xb, xo + (xs.length - 1 : Nat), none⟩)) rfl (ex_index rfl rfl rfl (run_idx1 (k := (xs.length - 1 : Nat)) Tryz.underlying22 s9es22 (by omega))) ?_
      refine uL _ rfl (run_load1 s9na9 (hrdx2 _ _ _ ((hD1.trans hE1).trans hD3) no_res hv 0 _ rfl)) ?_
      refine sl_rowOne (v := vS x2) tV (wn rfl) rfl rfl hv c4el22 rfl (fun b25 w26 hv => ?_)
      simp only [zP, po]
      obtain ⟨D2, hD2, hv, hrkD2, -, -⟩ := (hv.cellRow (n := 1) (c := 1) (size := 1) rfl (by decide) (by decide)).rowBy
      refine xC c4callable74 rfl ((viewInts D2 _ _ _ 1 [x2] hrkD2 (by simp) (hN.more (((hD1.trans hE1).trans hD3).trans hD2)) hv).mono ?_) rfl
      rintro e w27 ⟨E2, ia2, ic2, ns2, ei2, hE2, rfl, hri2, hir2, hv⟩
      refine ⟨_, rfl, ?_⟩
      rcases ints_one hir2 with ⟨rfl, n2, rfl, hn2⟩ | ⟨rfl, rfl, hn2⟩
      ·refine uG (.tuple #[.slice ia2 1 ic2, vI 0]) rfl (ex_move rfl rfl) ?_
       refine uG (.slice ia2 1 ic2) rfl (ex_extract rfl rfl rfl) (uE rfl ?_)
       refine uA rfl (uA rfl ?_)
       refine uW k24 (sK fun _ k28 => ?_)
       refine rL (uM rfl ?_)
       refine uG (.bool false) rfl (ex_neq rfl rfl rfl (by decide)) (uW k28 ?_)
       refine cF rfl (kS ?_)
       refine tK k23 ?_
       obtain ⟨ib2, io2, had, hrdn2⟩ := int_reads hri2 (show [n2][0]? = some n2 from rfl)
       subst had
       refine rL (uG (.slice (some ⟨ib2, io2, none⟩) 1 ic2) rfl (ex_move rfl rfl) ?_)
       refine uG (.pointer (some ⟨ib2, io2 + 0, none⟩)) rfl (ex_index rfl rfl rfl (run_idx1 (k := 0) Tryz.underlying149 s11es149 (by omega))) ?_
       refine uL _ rfl (run_load1 s2na3 (hrdn2 _ _ _ (Base.Le.refl _) no_res hv 0 _ rfl)) (uA rfl ?_)
       refine uW k21 (sK fun _ k29 => ?_)
       refine sK fun _ k30 => rL (uM rfl ?_)
       by_cases hb31 : ((xs.length - 2 : Nat) : Int) < 1
       ·refine uG (.bool true) rfl (ex_lss rfl rfl rfl (qT hb31)) (uM rfl ?_)
        refine uP rfl ?_
        refine uP rfl (uK rfl ?_)
        refine uW k30 (cT rfl ?_)
        refine sK fun _ k32 => rL (xC rscallable24 rfl ((viewWrong E2 _ _ 44 hv).mono ?_) rfl)
        rintro e w34 ⟨s33, rfl, hv⟩
        refine ⟨_, rfl, ?_⟩
        refine xS 0 rfl hv rssz28 rfl (by exact ⟨rfl, rfl, rfl, rfl, trivial⟩) (fun w35 hv => ?_)
        simp only [zO, sp] at hv
        refine uW k32 (rR ?_)
        refine tR (bC 0 rswd28 hv rfl rfl rfl rfl ?_)
        have hrel : CommonR M clk key xs (rFault s33) := fun n9 h9 h10 h11 => by have := numP_inj h9 hn1; omega
        exact ⟨E2, rFault s33, rpCells 1 s33 0 (vN), ((((hD1.trans hE1).trans hD3).trans hD2).trans hE2), rfl, rpAt_leaf, hrel, (hv.kp [3, 3] 2 2)⟩
       refine uG (.bool false) rfl (ex_lss rfl rfl rfl (qF hb31)) (uM rfl ?_)
       refine uM rfl ?_
       by_cases hb36 : n2 < 0
       ·refine uG (.bool true) rfl (ex_lss rfl rfl rfl (qT hb36)) (uK rfl ?_)
        refine uW k30 (cT rfl ?_)
        refine sK fun _ k37 => rL (xC rscallable24 rfl ((viewWrong E2 _ _ 44 hv).mono ?_) rfl)
        rintro e w39 ⟨s38, rfl, hv⟩
        refine ⟨_, rfl, ?_⟩
        refine xS 0 rfl hv rssz28 rfl (by exact ⟨rfl, rfl, rfl, rfl, trivial⟩) (fun w40 hv => ?_)
        simp only [zO, sp] at hv
        refine uW k37 (rR ?_)
        refine tR (bC 0 rswd28 hv rfl rfl rfl rfl ?_)
        have hrel : CommonR M clk key xs (rFault s38) := fun n9 h9 h10 h11 => by have := numP_inj h9 hn1; omega
        exact ⟨E2, rFault s38, rpCells 1 s38 0 (vN), ((((hD1.trans hE1).trans hD3).trans hD2).trans hE2), rfl, rpAt_leaf, hrel, (hv.kp [3, 3] 2 2)⟩
       refine uG (.bool false) rfl (ex_lss rfl rfl rfl (qF hb36)) (uK rfl ?_)
       refine uW k30 (cF rfl ?_)
       refine kS (tK k29 ?_)
       refine sK fun _ k41 => sK fun _ k42 => rL (uM rfl ?_)
       refine uG (.bool false) rfl (ex_not rfl rfl rfl) (uM rfl ?_)
       iterate 4 refine uP rfl ?_
       refine uK rfl (uW k42 ?_)
       refine cF rfl (kS ?_)
       refine tK k41 (sK fun _ k43 => ?_)
       have hml : (xs.take (xs.length - 2 : Nat)).length = (xs.length - 2 : Nat) := by rw [List.length_take]; omega
       obtain ⟨a3, ha3, ok3, hr3⟩ := sliced_hiV 1 hokx hrx (textCells_len xs) (show (xs.length - 2 : Nat) ≤ xs.length by omega)
       rw [Nat.mul_one] at hr3
       have hr4 : RdV B [] a3 (textCells (xs.take (xs.length - 2 : Nat))) := by have h9 := hr3; rw [show (textCells xs).take (xs.length - 2 : Nat) = textCells (xs.take (xs.length - 2 : Nat)) by simp [textCells]] at h9; exact h9
       refine rW mixed [4] [0,1,2,3,4,5,6,7,8,9] 107 rfl (by kernel_rfl) hv ?_
       simp only [qm, opAt]
       refine dL (.agg #[vP v, .slice (some ⟨ab, ao, none⟩) args.length ac]) rfl (fun hv => ex_load rfl rfl (lM 1 c1wd73 hv rfl rfl rfl rfl)) (dM (.slice (some ⟨xb, xo, none⟩) xs.length xc) rfl ?_)
       refine dM (vI ((xs.length - 2 : Nat) : Int)) rfl ?_
       simp only [zP, po]
       refine dG (.slice a3 ((xs.take (xs.length - 2 : Nat)).length) xc) rfl (ex_slice (hi' := some (vI ((xs.length - 2 : Nat) : Int))) rfl rfl rfl (congrArg some rfl) rfl ((run_hiAny (h := (xs.length - 2 : Nat)) Tryz.underlying22 s9es22 (by have := hokx.le; omega)).trans (by rw [ha3, hml]))) (dS rfl fun w44 hv => ?_)
       replace hv := hv.front 3 rfl
       simp only [eS, eZ] at hv
       replace hv := hv.front 3 rfl
       simp only [eS, eZ] at hv
       refine mC c3callable69 rfl ((csetSets E2 _ _ v t m s p wb va vc sv clk es M (hM.more ((((hD1.trans hE1).trans hD3).trans hD2).trans hE2)) hO (some ⟨ab, ao, none⟩) ac args a3 xc (xs.take (xs.length - 2 : Nat)) (hr4.more ((((hD1.trans hE1).trans hD3).trans hD2).trans hE2) (fun _ h => h)) (by omega) hv).mono ?_) rfl
       rintro e w45 ⟨F, oa, oc, ss, txs, e1, hF, rfl, htx, hrs, hoks, hss, hv⟩
       have hrt := hss.right hO
       have hssl : ss.length ≤ 1000 := by
        rcases hss with ⟨-, h9, -⟩ | ⟨-, h9, -⟩
        ·omega
        rw [h9]; exact Nat.zero_le _
       refine ⟨_, rfl, dW hv ?_⟩
       refine dM (.tuple #[.slice oa ss.length oc, vI e1]) rfl ?_
       simp only [zP, po]
       refine dG (.slice oa ss.length oc) rfl (ex_extract rfl rfl rfl) (dG (vI e1) rfl (ex_extract rfl rfl rfl) ?_)
       refine dA (.slice oa ss.length oc) rfl ?_
       simp only [zP, po]
       refine dA (vI e1) rfl (dE fun w46 hv => ?_)
       simp only [zP, po]
       refine tK k43 (sK fun _ k47 => ?_)
       refine sK fun _ k48 => rL (uM rfl ?_)
       by_cases hb49 : e1 ≠ 0
       ·refine uG (.bool true) rfl (ex_neq rfl rfl rfl (qT hb49)) (uW k48 ?_)
        refine cT rfl (sK fun _ k50 => ?_)
        refine rL (uM rfl ?_)
        refine xC rscallable24 rfl ((viewWrong F _ _ e1 hv).mono ?_) rfl
        rintro e w52 ⟨s51, rfl, hv⟩
        refine ⟨_, rfl, ?_⟩
        refine xS 2 rfl hv rssz28 rfl (by exact ⟨rfl, rfl, rfl, rfl, trivial⟩) (fun w53 hv => ?_)
        simp only [zS, zO, sp] at hv
        refine uW k50 (rR ?_)
        refine tR (bC 2 rswd28 hv rfl rfl rfl rfl ?_)
        have hrel : CommonR M clk key xs (rFault s51) := fun n9 h9 h10 h11 => by have := numP_inj h9 hn1; omega
        exact ⟨F, rFault s51, rpCells 1 s51 0 (vN), (((((hD1.trans hE1).trans hD3).trans hD2).trans hE2).trans hF), rfl, rpAt_leaf, hrel, (hv.kp [1, 1] 2 2)⟩
       refine uG (.bool false) rfl (ex_neq rfl rfl rfl (qF hb49)) (uW k48 ?_)
       refine cF rfl (kS ?_)
       refine tK k47 (sK fun _ k54 => ?_)
       refine rL (uM rfl ?_)
       refine xC c3callable71 rfl ((setInter F _ _ oa oc ss txs htx hrs (by omega) (fun s hs => ⟨(setOk_iff.1 (hrt s hs)).2.2, by have := (hrt s hs).1; omega⟩) hoks hv).mono ?_) rfl
       rintro e w55 ⟨G, ra, rc, out, hG, rfl, hoko, hro, hout, hv⟩
       refine ⟨_, rfl, ?_⟩
       have hol : out.length ≤ 512 := by
        rcases hout with ⟨-, rfl⟩ | ⟨q, hq, rfl⟩
        ·simp
        exact Nat.le_trans (List.length_filter_le _ _) (hrt q (List.mem_of_getElem? hq)).1
       refine uG (vI (out.length : Int)) rfl (ex_len0 Tryz.underlying22 rfl rfl) (uA rfl ?_)
       refine uW k54 (sK fun _ k56 => ?_)
       refine sK fun _ k57 => rL (uM rfl ?_)
       by_cases hb58 : n2 > 0
       ·refine uG (.bool true) rfl (ex_gtr rfl rfl rfl (qT hb58)) (uW k57 ?_)
        refine cT rfl (rL ?_)
        refine uM rfl (uM rfl ?_)
        refine uG (vI (if n2 < (out.length : Int) then n2 else (out.length : Int))) rfl (ex_min2 (m := (out.length : Int)) (n := n2) rfl rfl rfl rfl) (uA rfl ?_)
        refine uW k56 (sK fun _ k59 => ?_)
        refine rL (uM rfl ?_)
        refine xC c1callable45 rfl ((respInt G _ _ (if n2 < (out.length : Int) then n2 else (out.length : Int)) hv).mono ?_) rfl
        rintro e w60 ⟨rfl, hv⟩
        refine ⟨_, rfl, ?_⟩
        refine xS 2 rfl hv rssz28 rfl (by exact ⟨rfl, rfl, rfl, rfl, trivial⟩) (fun w61 hv => ?_)
        simp only [zS, zO, sp] at hv
        refine uW k59 (rR ?_)
        refine bC 2 rswd28 hv rfl rfl rfl rfl ?_
        have hrel : CommonR M clk key xs (rInt (if n2 < (out.length : Int) then n2 else (out.length : Int))) := fun n9 h9 h10 h11 => by have := numP_inj h9 hn1; omega
        exact ⟨G, rInt (if n2 < (out.length : Int) then n2 else (out.length : Int)), rpCells 2 [] (if n2 < (out.length : Int) then n2 else (out.length : Int)) (vN), ((((((hD1.trans hE1).trans hD3).trans hD2).trans hE2).trans hF).trans hG), rfl, rpAt_leaf, hrel, (hv.kp [1, 1] 2 2)⟩
       refine uG (.bool false) rfl (ex_gtr rfl rfl rfl (qF hb58)) (uW k57 ?_)
       refine cF rfl (kS ?_)
       refine tK k56 (sK fun _ k62 => ?_)
       refine rL (uM rfl ?_)
       refine xC c1callable45 rfl ((respInt G _ _ (out.length : Int) hv).mono ?_) rfl
       rintro e w63 ⟨rfl, hv⟩
       refine ⟨_, rfl, ?_⟩
       refine xS 2 rfl hv rssz28 rfl (by exact ⟨rfl, rfl, rfl, rfl, trivial⟩) (fun w64 hv => ?_)
       simp only [zS, zO, sp] at hv
       refine uW k62 (rR ?_)
       refine bC 2 rswd28 hv rfl rfl rfl rfl ?_
       have hrel : CommonR M clk key xs (rInt (out.length : Int)) := fun n9 h9 h10 h11 => by have := numP_inj h9 hn1; omega
       exact ⟨G, rInt (out.length : Int), rpCells 2 [] (out.length : Int) (vN), ((((((hD1.trans hE1).trans hD3).trans hD2).trans hE2).trans hF).trans hG), rfl, rpAt_leaf, hrel, (hv.kp [1, 1] 2 2)⟩
      refine uM rfl (uE rfl ?_)
      refine uE rfl (uA rfl ?_)
      refine uA rfl (uW k24 ?_)
      refine sK fun _ k65 => rL (uM rfl ?_)
      refine uG (.bool true) rfl (ex_neq rfl rfl rfl (by decide)) (uW k65 ?_)
      refine cT rfl (sK fun _ k66 => ?_)
      refine rL (uM rfl ?_)
      refine xC rscallable24 rfl ((viewWrong E2 _ _ 41 hv).mono ?_) rfl
      rintro e w68 ⟨s67, rfl, hv⟩
      refine ⟨_, rfl, ?_⟩
      refine xS 0 rfl hv rssz28 rfl (by exact ⟨rfl, rfl, rfl, rfl, trivial⟩) (fun w69 hv => ?_)
      simp only [zO, sp] at hv
      refine uW k66 (rR ?_)
      refine tR (tR ?_)
      refine bC 0 rswd28 hv rfl rfl rfl rfl ?_
      have hrel : CommonR M clk key xs (rFault s67) := fun n9 h9 h10 h11 => by have := numP_inj h9 hn1; omega
      exact ⟨E2, rFault s67, rpCells 1 s67 0 (vN), ((((hD1.trans hE1).trans hD3).trans hD2).trans hE2), rfl, rpAt_leaf, hrel, (hv.kp [3, 3] 2 2)⟩
     refine uG (.bool false) rfl (ex_eql rfl rfl rfl (qF hb20)) (uK rfl ?_)
     refine uA rfl (uW k13 ?_)
     refine sK fun _ k70 => sK fun _ k71 => rL (uM rfl ?_)
     refine uW k71 (cF rfl ?_)
     refine kS (tK k70 ?_)
     refine sK fun _ k72 => sK fun _ k73 => rL (uM rfl ?_)
     by_cases hb74 : ((xs.length - 2 : Nat) : Int) < 1
     ·refine uG (.bool true) rfl (ex_lss rfl rfl rfl (qT hb74)) (uM rfl ?_)
      refine uP rfl ?_
      refine uP rfl (uK rfl ?_)
      refine uW k73 (cT rfl ?_)
      refine sK fun _ k75 => rL (xC rscallable24 rfl ((viewWrong D3 _ _ 44 hv).mono ?_) rfl)
      rintro e w77 ⟨s76, rfl, hv⟩
      refine ⟨_, rfl, ?_⟩
      refine xS 0 rfl hv rssz28 rfl (by exact ⟨rfl, rfl, rfl, rfl, trivial⟩) (fun w78 hv => ?_)
      simp only [zO, sp] at hv
      refine uW k75 (rR ?_)
      refine tR (bC 0 rswd28 hv rfl rfl rfl rfl ?_)
      have hrel : CommonR M clk key xs (rFault s76) := fun n9 h9 h10 h11 => by have := numP_inj h9 hn1; omega
      exact ⟨D3, rFault s76, rpCells 1 s76 0 (vN), ((hD1.trans hE1).trans hD3), rfl, rpAt_leaf, hrel, (hv.kp [3, 3] 2 2)⟩
     refine uG (.bool false) rfl (ex_lss rfl rfl rfl (qF hb74)) (uM rfl ?_)
     refine uM rfl ?_
     refine uG (.bool false) rfl (ex_lss rfl rfl rfl (by decide)) (uK rfl ?_)
     refine uW k73 (cF rfl ?_)
     refine kS (tK k72 ?_)
     refine sK fun _ k79 => sK fun _ k80 => rL (uM rfl ?_)
     refine uG (.bool true) rfl (ex_not rfl rfl rfl) (uM rfl ?_)
     refine uM rfl ?_
     refine uM rfl ?_
     refine uG (vI (xs.length : Int)) rfl (ex_len0 Tryz.underlying22 rfl rfl) ?_
     by_cases hb81 : ((xs.length - 2 : Nat) : Int) ≠ (xs.length : Int)
     ·refine uG (.bool true) rfl (ex_neq rfl rfl rfl (qT hb81)) (uK rfl ?_)
      refine uW k80 (cT rfl ?_)
      refine sK fun _ k82 => rL (xC rscallable24 rfl ((viewWrong D3 _ _ 42 hv).mono ?_) rfl)
      rintro e w84 ⟨s83, rfl, hv⟩
      refine ⟨_, rfl, ?_⟩
      refine xS 0 rfl hv rssz28 rfl (by exact ⟨rfl, rfl, rfl, rfl, trivial⟩) (fun w85 hv => ?_)
      simp only [zO, sp] at hv
      refine uW k82 (rR ?_)
      refine tR (bC 0 rswd28 hv rfl rfl rfl rfl ?_)
      have hrel : CommonR M clk key xs (rFault s83) := fun n9 h9 h10 h11 => by have := numP_inj h9 hn1; omega
      exact ⟨D3, rFault s83, rpCells 1 s83 0 (vN), ((hD1.trans hE1).trans hD3), rfl, rpAt_leaf, hrel, (hv.kp [3, 3] 2 2)⟩
     refine uG (.bool false) rfl (ex_neq rfl rfl rfl (qF hb81)) (uK rfl ?_)
     refine uW k80 (cF rfl ?_)
     refine kS (tK k79 ?_)
     refine sK fun _ k86 => ?_
     have hml : (xs.take (xs.length - 2 : Nat)).length = (xs.length - 2 : Nat) := by rw [List.length_take]; omega
     obtain ⟨a3, ha3, ok3, hr3⟩ := sliced_hiV 1 hokx hrx (textCells_len xs) (show (xs.length - 2 : Nat) ≤ xs.length by omega)
     rw [Nat.mul_one] at hr3
     have hr4 : RdV B [] a3 (textCells (xs.take (xs.length - 2 : Nat))) := by have h9 := hr3; rw [show (textCells xs).take (xs.length - 2 : Nat) = textCells (xs.take (xs.length - 2 : Nat)) by simp [textCells]] at h9; exact h9
     refine rW mixed [4] [0,1,2,3,4,5,6,7,8,9] 107 rfl (by kernel_rfl) hv ?_
     simp only [qm, opAt]
     refine dL (.agg #[vP v, .slice (some ⟨ab, ao, none⟩) args.length ac]) rfl (fun hv => ex_load rfl rfl (lM 1 c1wd73 hv rfl rfl rfl rfl)) (dM (.slice (some ⟨xb, xo, none⟩) xs.length xc) rfl ?_)
     refine dM (vI ((xs.length - 2 : Nat) : Int)) rfl ?_
     simp only [zP, po]
     refine dG (.slice a3 ((xs.take (xs.length - 2 : Nat)).length) xc) rfl (ex_slice (hi' := some (vI ((xs.length - 2 : Nat) : Int))) rfl rfl rfl (congrArg some rfl) rfl ((run_hiAny (h := (xs.length - 2 : Nat)) Tryz.underlying22 s9es22 (by have := hokx.le; omega)).trans (by rw [ha3, hml]))) (dS rfl fun w87 hv => ?_)
     replace hv := hv.front 3 rfl
     simp only [eS, eZ] at hv
     replace hv := hv.front 3 rfl
     simp only [eS, eZ] at hv
     refine mC c3callable69 rfl ((csetSets D3 _ _ v t m s p wb va vc sv clk es M (hM.more ((hD1.trans hE1).trans hD3)) hO (some ⟨ab, ao, none⟩) ac args a3 xc (xs.take (xs.length - 2 : Nat)) (hr4.more ((hD1.trans hE1).trans hD3) (fun _ h => h)) (by omega) hv).mono ?_) rfl
     rintro e w88 ⟨F, oa, oc, ss, txs, e1, hF, rfl, htx, hrs, hoks, hss, hv⟩
     have hrt := hss.right hO
     have hssl : ss.length ≤ 1000 := by
      rcases hss with ⟨-, h9, -⟩ | ⟨-, h9, -⟩
      ·omega
      rw [h9]; exact Nat.zero_le _
     refine ⟨_, rfl, dW hv ?_⟩
     refine dM (.tuple #[.slice oa ss.length oc, vI e1]) rfl ?_
     simp only [zP, po]
     refine dG (.slice oa ss.length oc) rfl (ex_extract rfl rfl rfl) (dG (vI e1) rfl (ex_extract rfl rfl rfl) ?_)
     refine dA (.slice oa ss.length oc) rfl ?_
     simp only [zP, po]
     refine dA (vI e1) rfl (dE fun w89 hv => ?_)
     simp only [zP, po]
     refine tK k86 (sK fun _ k90 => ?_)
     refine sK fun _ k91 => rL (uM rfl ?_)
     by_cases hb92 : e1 ≠ 0
     ·refine uG (.bool true) rfl (ex_neq rfl rfl rfl (qT hb92)) (uW k91 ?_)
      refine cT rfl (sK fun _ k93 => ?_)
      refine rL (uM rfl ?_)
      refine xC rscallable24 rfl ((viewWrong F _ _ e1 hv).mono ?_) rfl
      rintro e w95 ⟨s94, rfl, hv⟩
      refine ⟨_, rfl, ?_⟩
      refine xS 2 rfl hv rssz28 rfl (by exact ⟨rfl, rfl, rfl, rfl, trivial⟩) (fun w96 hv => ?_)
      simp only [zS, zO, sp] at hv
      refine uW k93 (rR ?_)
      refine tR (bC 2 rswd28 hv rfl rfl rfl rfl ?_)
      have hrel : CommonR M clk key xs (rFault s94) := fun n9 h9 h10 h11 => by have := numP_inj h9 hn1; omega
      exact ⟨F, rFault s94, rpCells 1 s94 0 (vN), (((hD1.trans hE1).trans hD3).trans hF), rfl, rpAt_leaf, hrel, (hv.kp [1, 1] 2 2)⟩
     refine uG (.bool false) rfl (ex_neq rfl rfl rfl (qF hb92)) (uW k91 ?_)
     refine cF rfl (kS ?_)
     refine tK k90 (sK fun _ k97 => ?_)
     refine rL (uM rfl ?_)
     refine xC c3callable71 rfl ((setInter F _ _ oa oc ss txs htx hrs (by omega) (fun s hs => ⟨(setOk_iff.1 (hrt s hs)).2.2, by have := (hrt s hs).1; omega⟩) hoks hv).mono ?_) rfl
     rintro e w98 ⟨G, ra, rc, out, hG, rfl, hoko, hro, hout, hv⟩
     refine ⟨_, rfl, ?_⟩
     have hol : out.length ≤ 512 := by
      rcases hout with ⟨-, rfl⟩ | ⟨q, hq, rfl⟩
      ·simp
      exact Nat.le_trans (List.length_filter_le _ _) (hrt q (List.mem_of_getElem? hq)).1
     refine uG (vI (out.length : Int)) rfl (ex_len0 Tryz.underlying22 rfl rfl) (uA rfl ?_)
     refine uW k97 (sK fun _ k99 => ?_)
     refine sK fun _ k100 => rL (uM rfl ?_)
     refine uG (.bool false) rfl (ex_gtr rfl rfl rfl (by decide)) (uW k100 ?_)
     refine cF rfl (kS ?_)
     refine tK k99 (sK fun _ k101 => ?_)
     refine rL (uM rfl ?_)
     refine xC c1callable45 rfl ((respInt G _ _ (out.length : Int) hv).mono ?_) rfl
     rintro e w102 ⟨rfl, hv⟩
     refine ⟨_, rfl, ?_⟩
     refine xS 2 rfl hv rssz28 rfl (by exact ⟨rfl, rfl, rfl, rfl, trivial⟩) (fun w103 hv => ?_)
     simp only [zS, zO, sp] at hv
     refine uW k101 (rR ?_)
     refine bC 2 rswd28 hv rfl rfl rfl rfl ?_
     have hrel : CommonR M clk key xs (rInt (out.length : Int)) := fun n9 h9 h10 h11 => by have := numP_inj h9 hn1; omega
     exact ⟨G, rInt (out.length : Int), rpCells 2 [] (out.length : Int) (vN), ((((hD1.trans hE1).trans hD3).trans hF).trans hG), rfl, rpAt_leaf, hrel, (hv.kp [1, 1] 2 2)⟩
    refine uG (.bool false) rfl (ex_eql rfl rfl rfl (qF hb16)) (uK rfl ?_)
    refine uM rfl ?_
    iterate 7 refine uP rfl ?_
    refine uK rfl (uA rfl ?_)
    refine uW k13 (sK fun _ k104 => ?_)
    refine sK fun _ k105 => rL (uM rfl ?_)
    refine uW k105 (cF rfl ?_)
    refine kS (tK k104 ?_)
    refine sK fun _ k106 => sK fun _ k107 => rL (uM rfl ?_)
    by_cases hb108 : n1 < 1
    ·refine uG (.bool true) rfl (ex_lss rfl rfl rfl (qT hb108)) (uM rfl ?_)
     refine uP rfl ?_
     refine uP rfl (uK rfl ?_)
     refine uW k107 (cT rfl ?_)
     refine sK fun _ k109 => rL (xC rscallable24 rfl ((viewWrong E1 _ _ 44 hv).mono ?_) rfl)
     rintro e w111 ⟨s110, rfl, hv⟩
     refine ⟨_, rfl, ?_⟩
     refine xS 0 rfl hv rssz28 rfl (by exact ⟨rfl, rfl, rfl, rfl, trivial⟩) (fun w112 hv => ?_)
     simp only [zO, sp] at hv
     refine uW k109 (rR ?_)
     refine tR (bC 0 rswd28 hv rfl rfl rfl rfl ?_)
     have hrel : CommonR M clk key xs (rFault s110) := fun n9 h9 h10 h11 => by have := numP_inj h9 hn1; omega
     exact ⟨E1, rFault s110, rpCells 1 s110 0 (vN), (hD1.trans hE1), rfl, rpAt_leaf, hrel, (hv.kp [3, 3] 2 2)⟩
    refine uG (.bool false) rfl (ex_lss rfl rfl rfl (qF hb108)) (uM rfl ?_)
    refine uM rfl ?_
    refine uG (.bool false) rfl (ex_lss rfl rfl rfl (by decide)) (uK rfl ?_)
    refine uW k107 (cF rfl ?_)
    refine kS (tK k106 ?_)
    refine sK fun _ k113 => sK fun _ k114 => rL (uM rfl ?_)
    refine uG (.bool true) rfl (ex_not rfl rfl rfl) (uM rfl ?_)
    refine uM rfl ?_
    refine uM rfl ?_
    refine uG (vI (xs.length : Int)) rfl (ex_len0 Tryz.underlying22 rfl rfl) ?_
    by_cases hb115 : n1 ≠ (xs.length : Int)
    ·refine uG (.bool true) rfl (ex_neq rfl rfl rfl (qT hb115)) (uK rfl ?_)
     refine uW k114 (cT rfl ?_)
     refine sK fun _ k116 => rL (xC rscallable24 rfl ((viewWrong E1 _ _ 42 hv).mono ?_) rfl)
     rintro e w118 ⟨s117, rfl, hv⟩
     refine ⟨_, rfl, ?_⟩
     refine xS 0 rfl hv rssz28 rfl (by exact ⟨rfl, rfl, rfl, rfl, trivial⟩) (fun w119 hv => ?_)
     simp only [zO, sp] at hv
     refine uW k116 (rR ?_)
     refine tR (bC 0 rswd28 hv rfl rfl rfl rfl ?_)
     have hrel : CommonR M clk key xs (rFault s117) := fun n9 h9 h10 h11 => by have := numP_inj h9 hn1; omega
     exact ⟨E1, rFault s117, rpCells 1 s117 0 (vN), (hD1.trans hE1), rfl, rpAt_leaf, hrel, (hv.kp [3, 3] 2 2)⟩
    refine uG (.bool false) rfl (ex_neq rfl rfl rfl (qF hb115)) (uK rfl ?_)
    refine uW k114 (cF rfl ?_)
    refine kS (tK k113 ?_)
    refine sK fun _ k120 => ?_
    obtain ⟨mm, hmm⟩ : ∃ m : Nat, n1 = (m : Int) := ⟨n1.toNat, by omega⟩
    subst hmm
    have hml : (xs.take mm).length = mm := by rw [List.length_take]; omega
    obtain ⟨a3, ha3, ok3, hr3⟩ := sliced_hiV 1 hokx hrx (textCells_len xs) (show mm ≤ xs.length by omega)
    rw [Nat.mul_one] at hr3
    have hr4 : RdV B [] a3 (textCells (xs.take mm)) := by have h9 := hr3; rw [show (textCells xs).take mm = textCells (xs.take mm) by simp [textCells]] at h9; exact h9
    refine rW mixed [4] [0,1,2,3,4,5,6,7,8,9] 107 rfl (by kernel_rfl) hv ?_
    simp only [qm, opAt]
    refine dL (.agg #[vP v, .slice (some ⟨ab, ao, none⟩) args.length ac]) rfl (fun hv => ex_load rfl rfl (lM 1 c1wd73 hv rfl rfl rfl rfl)) (dM (.slice xa xs.length xc) rfl ?_)
    refine dM (vI mm) rfl ?_
    simp only [zP, po]
    refine dG (.slice a3 ((xs.take mm).length) xc) rfl (ex_slice (hi' := some (vI mm)) rfl rfl rfl (congrArg some rfl) rfl ((run_hiAny (h := mm) Tryz.underlying22 s9es22 (by have := hokx.le; omega)).trans (by rw [ha3, hml]))) (dS rfl fun w121 hv => ?_)
    replace hv := hv.front 3 rfl
    simp only [eS, eZ] at hv
    replace hv := hv.front 3 rfl
    simp only [eS, eZ] at hv
    refine mC c3callable69 rfl ((csetSets E1 _ _ v t m s p wb va vc sv clk es M (hM.more (hD1.trans hE1)) hO (some ⟨ab, ao, none⟩) ac args a3 xc (xs.take mm) (hr4.more (hD1.trans hE1) (fun _ h => h)) (by omega) hv).mono ?_) rfl
    rintro e w122 ⟨F, oa, oc, ss, txs, e1, hF, rfl, htx, hrs, hoks, hss, hv⟩
    have hrt := hss.right hO
    have hssl : ss.length ≤ 1000 := by
     rcases hss with ⟨-, h9, -⟩ | ⟨-, h9, -⟩
     ·omega
     rw [h9]; exact Nat.zero_le _
    refine ⟨_, rfl, dW hv ?_⟩
    refine dM (.tuple #[.slice oa ss.length oc, vI e1]) rfl ?_
    simp only [zP, po]
    refine dG (.slice oa ss.length oc) rfl (ex_extract rfl rfl rfl) (dG (vI e1) rfl (ex_extract rfl rfl rfl) ?_)
    refine dA (.slice oa ss.length oc) rfl ?_
    simp only [zP, po]
    refine dA (vI e1) rfl (dE fun w123 hv => ?_)
    simp only [zP, po]
    refine tK k120 (sK fun _ k124 => ?_)
    refine sK fun _ k125 => rL (uM rfl ?_)
    by_cases hb126 : e1 ≠ 0
    ·refine uG (.bool true) rfl (ex_neq rfl rfl rfl (qT hb126)) (uW k125 ?_)
     refine cT rfl (sK fun _ k127 => ?_)
     refine rL (uM rfl ?_)
     refine xC rscallable24 rfl ((viewWrong F _ _ e1 hv).mono ?_) rfl
     rintro e w129 ⟨s128, rfl, hv⟩
     refine ⟨_, rfl, ?_⟩
     refine xS 2 rfl hv rssz28 rfl (by exact ⟨rfl, rfl, rfl, rfl, trivial⟩) (fun w130 hv => ?_)
     simp only [zS, zO, sp] at hv
     refine uW k127 (rR ?_)
     refine tR (bC 2 rswd28 hv rfl rfl rfl rfl ?_)
     have hrel : CommonR M clk key xs (rFault s128) := fun n9 h9 h10 h11 => by
      have hxe : xs.take mm = xs := List.take_of_length_le (by have := numP_inj h9 hn1; omega)
      rw [hxe] at hss
      exact ⟨ss, e1, hss, .inl ⟨by omega, rfl⟩⟩
     exact ⟨F, rFault s128, rpCells 1 s128 0 (vN), ((hD1.trans hE1).trans hF), rfl, rpAt_leaf, hrel, (hv.kp [1, 1] 2 2)⟩
    refine uG (.bool false) rfl (ex_neq rfl rfl rfl (qF hb126)) (uW k125 ?_)
    refine cF rfl (kS ?_)
    refine tK k124 (sK fun _ k131 => ?_)
    refine rL (uM rfl ?_)
    refine xC c3callable71 rfl ((setInter F _ _ oa oc ss txs htx hrs (by omega) (fun s hs => ⟨(setOk_iff.1 (hrt s hs)).2.2, by have := (hrt s hs).1; omega⟩) hoks hv).mono ?_) rfl
    rintro e w132 ⟨G, ra, rc, out, hG, rfl, hoko, hro, hout, hv⟩
    refine ⟨_, rfl, ?_⟩
    have hol : out.length ≤ 512 := by
     rcases hout with ⟨-, rfl⟩ | ⟨q, hq, rfl⟩
     ·simp
     exact Nat.le_trans (List.length_filter_le _ _) (hrt q (List.mem_of_getElem? hq)).1
    refine uG (vI (out.length : Int)) rfl (ex_len0 Tryz.underlying22 rfl rfl) (uA rfl ?_)
    refine uW k131 (sK fun _ k133 => ?_)
    refine sK fun _ k134 => rL (uM rfl ?_)
    refine uG (.bool false) rfl (ex_gtr rfl rfl rfl (by decide)) (uW k134 ?_)
    refine cF rfl (kS ?_)
    refine tK k133 (sK fun _ k135 => ?_)
    refine rL (uM rfl ?_)
    refine xC c1callable45 rfl ((respInt G _ _ (out.length : Int) hv).mono ?_) rfl
    rintro e w136 ⟨rfl, hv⟩
    refine ⟨_, rfl, ?_⟩
    refine xS 2 rfl hv rssz28 rfl (by exact ⟨rfl, rfl, rfl, rfl, trivial⟩) (fun w137 hv => ?_)
    simp only [zS, zO, sp] at hv
    refine uW k135 (rR ?_)
    refine bC 2 rswd28 hv rfl rfl rfl rfl ?_
    have hrel : CommonR M clk key xs (rInt (out.length : Int)) := fun n9 h9 h10 h11 => by
     have he1 : e1 = 0 := by omega
     have hxe : xs.take mm = xs := List.take_of_length_le (by have := numP_inj h9 hn1; omega)
     rw [hxe] at hss
     rcases hout with ⟨rfl, -⟩ | ⟨q, hq, rfl⟩
     ·exfalso
      rcases hss with ⟨-, h12, -⟩ | ⟨h12, -⟩
      ·simp at h12; omega
      exact h12 he1
     exact ⟨ss, e1, hss, .inr ⟨he1, q, hq, rfl⟩⟩
    exact ⟨G, rInt (out.length : Int), rpCells 2 [] (out.length : Int) (vN), (((hD1.trans hE1).trans hF).trans hG), rfl, rpAt_leaf, hrel, (hv.kp [1, 1] 2 2)⟩
   refine uG (.bool false) rfl (ex_geq rfl rfl rfl (qF hb15)) (uK rfl ?_)
   refine uM rfl ?_
   iterate 5 refine uP rfl ?_
   refine uK rfl (uM rfl ?_)
   iterate 7 refine uP rfl ?_
   refine uK rfl (uA rfl ?_)
   refine uW k13 (sK fun _ k138 => ?_)
   refine sK fun _ k139 => rL (uM rfl ?_)
   refine uW k139 (cF rfl ?_)
   refine kS (tK k138 ?_)
   refine sK fun _ k140 => sK fun _ k141 => rL (uM rfl ?_)
   by_cases hb142 : n1 < 1
   ·refine uG (.bool true) rfl (ex_lss rfl rfl rfl (qT hb142)) (uM rfl ?_)
    refine uP rfl ?_
    refine uP rfl (uK rfl ?_)
    refine uW k141 (cT rfl ?_)
    refine sK fun _ k143 => rL (xC rscallable24 rfl ((viewWrong E1 _ _ 44 hv).mono ?_) rfl)
    rintro e w145 ⟨s144, rfl, hv⟩
    refine ⟨_, rfl, ?_⟩
    refine xS 0 rfl hv rssz28 rfl (by exact ⟨rfl, rfl, rfl, rfl, trivial⟩) (fun w146 hv => ?_)
    simp only [zO, sp] at hv
    refine uW k143 (rR ?_)
    refine tR (bC 0 rswd28 hv rfl rfl rfl rfl ?_)
    have hrel : CommonR M clk key xs (rFault s144) := fun n9 h9 h10 h11 => by have := numP_inj h9 hn1; omega
    exact ⟨E1, rFault s144, rpCells 1 s144 0 (vN), (hD1.trans hE1), rfl, rpAt_leaf, hrel, (hv.kp [3, 3] 2 2)⟩
   refine uG (.bool false) rfl (ex_lss rfl rfl rfl (qF hb142)) (uM rfl ?_)
   refine uM rfl ?_
   refine uG (.bool false) rfl (ex_lss rfl rfl rfl (by decide)) (uK rfl ?_)
   refine uW k141 (cF rfl ?_)
   refine kS (tK k140 ?_)
   refine sK fun _ k147 => sK fun _ k148 => rL (uM rfl ?_)
   refine uG (.bool true) rfl (ex_not rfl rfl rfl) (uM rfl ?_)
   refine uM rfl ?_
   refine uM rfl ?_
   refine uG (vI (xs.length : Int)) rfl (ex_len0 Tryz.underlying22 rfl rfl) ?_
   by_cases hb149 : n1 ≠ (xs.length : Int)
   ·refine uG (.bool true) rfl (ex_neq rfl rfl rfl (qT hb149)) (uK rfl ?_)
    refine uW k148 (cT rfl ?_)
    refine sK fun _ k150 => rL (xC rscallable24 rfl ((viewWrong E1 _ _ 42 hv).mono ?_) rfl)
    rintro e w152 ⟨s151, rfl, hv⟩
    refine ⟨_, rfl, ?_⟩
    refine xS 0 rfl hv rssz28 rfl (by exact ⟨rfl, rfl, rfl, rfl, trivial⟩) (fun w153 hv => ?_)
    simp only [zO, sp] at hv
    refine uW k150 (rR ?_)
    refine tR (bC 0 rswd28 hv rfl rfl rfl rfl ?_)
    have hrel : CommonR M clk key xs (rFault s151) := fun n9 h9 h10 h11 => by have := numP_inj h9 hn1; omega
    exact ⟨E1, rFault s151, rpCells 1 s151 0 (vN), (hD1.trans hE1), rfl, rpAt_leaf, hrel, (hv.kp [3, 3] 2 2)⟩
   refine uG (.bool false) rfl (ex_neq rfl rfl rfl (qF hb149)) (uK rfl ?_)
   refine uW k148 (cF rfl ?_)
   refine kS (tK k147 ?_)
   refine sK fun _ k154 => ?_
   obtain ⟨mm, hmm⟩ : ∃ m : Nat, n1 = (m : Int) := ⟨n1.toNat, by omega⟩
   subst hmm
   have hml : (xs.take mm).length = mm := by rw [List.length_take]; omega
   obtain ⟨a3, ha3, ok3, hr3⟩ := sliced_hiV 1 hokx hrx (textCells_len xs) (show mm ≤ xs.length by omega)
   rw [Nat.mul_one] at hr3
   have hr4 : RdV B [] a3 (textCells (xs.take mm)) := by have h9 := hr3; rw [show (textCells xs).take mm = textCells (xs.take mm) by simp [textCells]] at h9; exact h9
   refine rW mixed [4] [0,1,2,3,4,5,6,7,8,9] 107 rfl (by kernel_rfl) hv ?_
   simp only [qm, opAt]
   refine dL (.agg #[vP v, .slice (some ⟨ab, ao, none⟩) args.length ac]) rfl (fun hv => ex_load rfl rfl (lM 1 c1wd73 hv rfl rfl rfl rfl)) (dM (.slice xa xs.length xc) rfl ?_)
   refine dM (vI mm) rfl ?_
   simp only [zP, po]
   refine dG (.slice a3 ((xs.take mm).length) xc) rfl (ex_slice (hi' := some (vI mm)) rfl rfl rfl (congrArg some rfl) rfl ((run_hiAny (h := mm) Tryz.underlying22 s9es22 (by have := hokx.le; omega)).trans (by rw [ha3, hml]))) (dS rfl fun w155 hv => ?_)
   replace hv := hv.front 3 rfl
   simp only [eS, eZ] at hv
   replace hv := hv.front 3 rfl
   simp only [eS, eZ] at hv
   refine mC c3callable69 rfl ((csetSets E1 _ _ v t m s p wb va vc sv clk es M (hM.more (hD1.trans hE1)) hO (some ⟨ab, ao, none⟩) ac args a3 xc (xs.take mm) (hr4.more (hD1.trans hE1) (fun _ h => h)) (by omega) hv).mono ?_) rfl
   rintro e w156 ⟨F, oa, oc, ss, txs, e1, hF, rfl, htx, hrs, hoks, hss, hv⟩
   have hrt := hss.right hO
   have hssl : ss.length ≤ 1000 := by
    rcases hss with ⟨-, h9, -⟩ | ⟨-, h9, -⟩
    ·omega
    rw [h9]; exact Nat.zero_le _
   refine ⟨_, rfl, dW hv ?_⟩
   refine dM (.tuple #[.slice oa ss.length oc, vI e1]) rfl ?_
   simp only [zP, po]
   refine dG (.slice oa ss.length oc) rfl (ex_extract rfl rfl rfl) (dG (vI e1) rfl (ex_extract rfl rfl rfl) ?_)
   refine dA (.slice oa ss.length oc) rfl ?_
   simp only [zP, po]
   refine dA (vI e1) rfl (dE fun w157 hv => ?_)
   simp only [zP, po]
   refine tK k154 (sK fun _ k158 => ?_)
   refine sK fun _ k159 => rL (uM rfl ?_)
   by_cases hb160 : e1 ≠ 0
   ·refine uG (.bool true) rfl (ex_neq rfl rfl rfl (qT hb160)) (uW k159 ?_)
    refine cT rfl (sK fun _ k161 => ?_)
    refine rL (uM rfl ?_)
    refine xC rscallable24 rfl ((viewWrong F _ _ e1 hv).mono ?_) rfl
    rintro e w163 ⟨s162, rfl, hv⟩
    refine ⟨_, rfl, ?_⟩
    refine xS 2 rfl hv rssz28 rfl (by exact ⟨rfl, rfl, rfl, rfl, trivial⟩) (fun w164 hv => ?_)
    simp only [zS, zO, sp] at hv
    refine uW k161 (rR ?_)
    refine tR (bC 2 rswd28 hv rfl rfl rfl rfl ?_)
    have hrel : CommonR M clk key xs (rFault s162) := fun n9 h9 h10 h11 => by
     have hxe : xs.take mm = xs := List.take_of_length_le (by have := numP_inj h9 hn1; omega)
     rw [hxe] at hss
     exact ⟨ss, e1, hss, .inl ⟨by omega, rfl⟩⟩
    exact ⟨F, rFault s162, rpCells 1 s162 0 (vN), ((hD1.trans hE1).trans hF), rfl, rpAt_leaf, hrel, (hv.kp [1, 1] 2 2)⟩
   refine uG (.bool false) rfl (ex_neq rfl rfl rfl (qF hb160)) (uW k159 ?_)
   refine cF rfl (kS ?_)
   refine tK k158 (sK fun _ k165 => ?_)
   refine rL (uM rfl ?_)
   refine xC c3callable71 rfl ((setInter F _ _ oa oc ss txs htx hrs (by omega) (fun s hs => ⟨(setOk_iff.1 (hrt s hs)).2.2, by have := (hrt s hs).1; omega⟩) hoks hv).mono ?_) rfl
   rintro e w166 ⟨G, ra, rc, out, hG, rfl, hoko, hro, hout, hv⟩
   refine ⟨_, rfl, ?_⟩
   have hol : out.length ≤ 512 := by
    rcases hout with ⟨-, rfl⟩ | ⟨q, hq, rfl⟩
    ·simp
    exact Nat.le_trans (List.length_filter_le _ _) (hrt q (List.mem_of_getElem? hq)).1
   refine uG (vI (out.length : Int)) rfl (ex_len0 Tryz.underlying22 rfl rfl) (uA rfl ?_)
   refine uW k165 (sK fun _ k167 => ?_)
   refine sK fun _ k168 => rL (uM rfl ?_)
   refine uG (.bool false) rfl (ex_gtr rfl rfl rfl (by decide)) (uW k168 ?_)
   refine cF rfl (kS ?_)
   refine tK k167 (sK fun _ k169 => ?_)
   refine rL (uM rfl ?_)
   refine xC c1callable45 rfl ((respInt G _ _ (out.length : Int) hv).mono ?_) rfl
   rintro e w170 ⟨rfl, hv⟩
   refine ⟨_, rfl, ?_⟩
   refine xS 2 rfl hv rssz28 rfl (by exact ⟨rfl, rfl, rfl, rfl, trivial⟩) (fun w171 hv => ?_)
   simp only [zS, zO, sp] at hv
   refine uW k169 (rR ?_)
   refine bC 2 rswd28 hv rfl rfl rfl rfl ?_
   have hrel : CommonR M clk key xs (rInt (out.length : Int)) := fun n9 h9 h10 h11 => by
    have he1 : e1 = 0 := by omega
    have hxe : xs.take mm = xs := List.take_of_length_le (by have := numP_inj h9 hn1; omega)
    rw [hxe] at hss
    rcases hout with ⟨rfl, -⟩ | ⟨q, hq, rfl⟩
    ·exfalso
     rcases hss with ⟨-, h12, -⟩ | ⟨h12, -⟩
     ·simp at h12; omega
     exact h12 he1
    exact ⟨ss, e1, hss, .inr ⟨he1, q, hq, rfl⟩⟩
   exact ⟨G, rInt (out.length : Int), rpCells 2 [] (out.length : Int) (vN), (((hD1.trans hE1).trans hF).trans hG), rfl, rpAt_leaf, hrel, (hv.kp [1, 1] 2 2)⟩
  refine uG (.bool false) rfl (ex_geq rfl rfl rfl (qF hb14)) (uM rfl ?_)
  iterate 3 refine uP rfl ?_
  refine uK rfl (uM rfl ?_)
  iterate 5 refine uP rfl ?_
  refine uK rfl (uM rfl ?_)
  iterate 7 refine uP rfl ?_
  refine uK rfl (uA rfl ?_)
  refine uW k13 (sK fun _ k172 => ?_)
  refine sK fun _ k173 => rL (uM rfl ?_)
  refine uW k173 (cF rfl ?_)
  refine kS (tK k172 ?_)
  refine sK fun _ k174 => sK fun _ k175 => rL (uM rfl ?_)
  by_cases hb176 : n1 < 1
  ·refine uG (.bool true) rfl (ex_lss rfl rfl rfl (qT hb176)) (uM rfl ?_)
   refine uP rfl ?_
   refine uP rfl (uK rfl ?_)
   refine uW k175 (cT rfl ?_)
   refine sK fun _ k177 => rL (xC rscallable24 rfl ((viewWrong E1 _ _ 44 hv).mono ?_) rfl)
   rintro e w179 ⟨s178, rfl, hv⟩
   refine ⟨_, rfl, ?_⟩
   refine xS 0 rfl hv rssz28 rfl (by exact ⟨rfl, rfl, rfl, rfl, trivial⟩) (fun w180 hv => ?_)
   simp only [zO, sp] at hv
   refine uW k177 (rR ?_)
   refine tR (bC 0 rswd28 hv rfl rfl rfl rfl ?_)
   have hrel : CommonR M clk key xs (rFault s178) := fun n9 h9 h10 h11 => by have := numP_inj h9 hn1; omega
   exact ⟨E1, rFault s178, rpCells 1 s178 0 (vN), (hD1.trans hE1), rfl, rpAt_leaf, hrel, (hv.kp [3, 3] 2 2)⟩
  refine uG (.bool false) rfl (ex_lss rfl rfl rfl (qF hb176)) (uM rfl ?_)
  refine uM rfl ?_
  refine uG (.bool false) rfl (ex_lss rfl rfl rfl (by decide)) (uK rfl ?_)
  refine uW k175 (cF rfl ?_)
  refine kS (tK k174 ?_)
  refine sK fun _ k181 => sK fun _ k182 => rL (uM rfl ?_)
  refine uG (.bool true) rfl (ex_not rfl rfl rfl) (uM rfl ?_)
  refine uM rfl ?_
  refine uM rfl ?_
  refine uG (vI (xs.length : Int)) rfl (ex_len0 Tryz.underlying22 rfl rfl) ?_
  by_cases hb183 : n1 ≠ (xs.length : Int)
  ·refine uG (.bool true) rfl (ex_neq rfl rfl rfl (qT hb183)) (uK rfl ?_)
   refine uW k182 (cT rfl ?_)
   refine sK fun _ k184 => rL (xC rscallable24 rfl ((viewWrong E1 _ _ 42 hv).mono ?_) rfl)
   rintro e w186 ⟨s185, rfl, hv⟩
   refine ⟨_, rfl, ?_⟩
   refine xS 0 rfl hv rssz28 rfl (by exact ⟨rfl, rfl, rfl, rfl, trivial⟩) (fun w187 hv => ?_)
   simp only [zO, sp] at hv
   refine uW k184 (rR ?_)
   refine tR (bC 0 rswd28 hv rfl rfl rfl rfl ?_)
   have hrel : CommonR M clk key xs (rFault s185) := fun n9 h9 h10 h11 => by have := numP_inj h9 hn1; omega
   exact ⟨E1, rFault s185, rpCells 1 s185 0 (vN), (hD1.trans hE1), rfl, rpAt_leaf, hrel, (hv.kp [3, 3] 2 2)⟩
  refine uG (.bool false) rfl (ex_neq rfl rfl rfl (qF hb183)) (uK rfl ?_)
  refine uW k182 (cF rfl ?_)
  refine kS (tK k181 ?_)
  refine sK fun _ k188 => ?_
  obtain ⟨mm, hmm⟩ : ∃ m : Nat, n1 = (m : Int) := ⟨n1.toNat, by omega⟩
  subst hmm
  have hml : (xs.take mm).length = mm := by rw [List.length_take]; omega
  obtain ⟨a3, ha3, ok3, hr3⟩ := sliced_hiV 1 hokx hrx (textCells_len xs) (show mm ≤ xs.length by omega)
  rw [Nat.mul_one] at hr3
  have hr4 : RdV B [] a3 (textCells (xs.take mm)) := by have h9 := hr3; rw [show (textCells xs).take mm = textCells (xs.take mm) by simp [textCells]] at h9; exact h9
  refine rW mixed [4] [0,1,2,3,4,5,6,7,8,9] 107 rfl (by kernel_rfl) hv ?_
  simp only [qm, opAt]
  refine dL (.agg #[vP v, .slice (some ⟨ab, ao, none⟩) args.length ac]) rfl (fun hv => ex_load rfl rfl (lM 1 c1wd73 hv rfl rfl rfl rfl)) (dM (.slice xa xs.length xc) rfl ?_)
  refine dM (vI mm) rfl ?_
  simp only [zP, po]
  refine dG (.slice a3 ((xs.take mm).length) xc) rfl (ex_slice (hi' := some (vI mm)) rfl rfl rfl (congrArg some rfl) rfl ((run_hiAny (h := mm) Tryz.underlying22 s9es22 (by have := hokx.le; omega)).trans (by rw [ha3, hml]))) (dS rfl fun w189 hv => ?_)
  replace hv := hv.front 3 rfl
  simp only [eS, eZ] at hv
  replace hv := hv.front 3 rfl
  simp only [eS, eZ] at hv
  refine mC c3callable69 rfl ((csetSets E1 _ _ v t m s p wb va vc sv clk es M (hM.more (hD1.trans hE1)) hO (some ⟨ab, ao, none⟩) ac args a3 xc (xs.take mm) (hr4.more (hD1.trans hE1) (fun _ h => h)) (by omega) hv).mono ?_) rfl
  rintro e w190 ⟨F, oa, oc, ss, txs, e1, hF, rfl, htx, hrs, hoks, hss, hv⟩
  have hrt := hss.right hO
  have hssl : ss.length ≤ 1000 := by
   rcases hss with ⟨-, h9, -⟩ | ⟨-, h9, -⟩
   ·omega
   rw [h9]; exact Nat.zero_le _
  refine ⟨_, rfl, dW hv ?_⟩
  refine dM (.tuple #[.slice oa ss.length oc, vI e1]) rfl ?_
  simp only [zP, po]
  refine dG (.slice oa ss.length oc) rfl (ex_extract rfl rfl rfl) (dG (vI e1) rfl (ex_extract rfl rfl rfl) ?_)
  refine dA (.slice oa ss.length oc) rfl ?_
  simp only [zP, po]
  refine dA (vI e1) rfl (dE fun w191 hv => ?_)
  simp only [zP, po]
  refine tK k188 (sK fun _ k192 => ?_)
  refine sK fun _ k193 => rL (uM rfl ?_)
  by_cases hb194 : e1 ≠ 0
  ·refine uG (.bool true) rfl (ex_neq rfl rfl rfl (qT hb194)) (uW k193 ?_)
   refine cT rfl (sK fun _ k195 => ?_)
   refine rL (uM rfl ?_)
   refine xC rscallable24 rfl ((viewWrong F _ _ e1 hv).mono ?_) rfl
   rintro e w197 ⟨s196, rfl, hv⟩
   refine ⟨_, rfl, ?_⟩
   refine xS 2 rfl hv rssz28 rfl (by exact ⟨rfl, rfl, rfl, rfl, trivial⟩) (fun w198 hv => ?_)
   simp only [zS, zO, sp] at hv
   refine uW k195 (rR ?_)
   refine tR (bC 2 rswd28 hv rfl rfl rfl rfl ?_)
   have hrel : CommonR M clk key xs (rFault s196) := fun n9 h9 h10 h11 => by
    have hxe : xs.take mm = xs := List.take_of_length_le (by have := numP_inj h9 hn1; omega)
    rw [hxe] at hss
    exact ⟨ss, e1, hss, .inl ⟨by omega, rfl⟩⟩
   exact ⟨F, rFault s196, rpCells 1 s196 0 (vN), ((hD1.trans hE1).trans hF), rfl, rpAt_leaf, hrel, (hv.kp [1, 1] 2 2)⟩
  refine uG (.bool false) rfl (ex_neq rfl rfl rfl (qF hb194)) (uW k193 ?_)
  refine cF rfl (kS ?_)
  refine tK k192 (sK fun _ k199 => ?_)
  refine rL (uM rfl ?_)
  refine xC c3callable71 rfl ((setInter F _ _ oa oc ss txs htx hrs (by omega) (fun s hs => ⟨(setOk_iff.1 (hrt s hs)).2.2, by have := (hrt s hs).1; omega⟩) hoks hv).mono ?_) rfl
  rintro e w200 ⟨G, ra, rc, out, hG, rfl, hoko, hro, hout, hv⟩
  refine ⟨_, rfl, ?_⟩
  have hol : out.length ≤ 512 := by
   rcases hout with ⟨-, rfl⟩ | ⟨q, hq, rfl⟩
   ·simp
   exact Nat.le_trans (List.length_filter_le _ _) (hrt q (List.mem_of_getElem? hq)).1
  refine uG (vI (out.length : Int)) rfl (ex_len0 Tryz.underlying22 rfl rfl) (uA rfl ?_)
  refine uW k199 (sK fun _ k201 => ?_)
  refine sK fun _ k202 => rL (uM rfl ?_)
  refine uG (.bool false) rfl (ex_gtr rfl rfl rfl (by decide)) (uW k202 ?_)
  refine cF rfl (kS ?_)
  refine tK k201 (sK fun _ k203 => ?_)
  refine rL (uM rfl ?_)
  refine xC c1callable45 rfl ((respInt G _ _ (out.length : Int) hv).mono ?_) rfl
  rintro e w204 ⟨rfl, hv⟩
  refine ⟨_, rfl, ?_⟩
  refine xS 2 rfl hv rssz28 rfl (by exact ⟨rfl, rfl, rfl, rfl, trivial⟩) (fun w205 hv => ?_)
  simp only [zS, zO, sp] at hv
  refine uW k203 (rR ?_)
  refine bC 2 rswd28 hv rfl rfl rfl rfl ?_
  have hrel : CommonR M clk key xs (rInt (out.length : Int)) := fun n9 h9 h10 h11 => by
   have he1 : e1 = 0 := by omega
   have hxe : xs.take mm = xs := List.take_of_length_le (by have := numP_inj h9 hn1; omega)
   rw [hxe] at hss
   rcases hout with ⟨rfl, -⟩ | ⟨q, hq, rfl⟩
   ·exfalso
    rcases hss with ⟨-, h12, -⟩ | ⟨h12, -⟩
    ·simp at h12; omega
    exact h12 he1
   exact ⟨ss, e1, hss, .inr ⟨he1, q, hq, rfl⟩⟩
  exact ⟨G, rInt (out.length : Int), rpCells 2 [] (out.length : Int) (vN), (((hD1.trans hE1).trans hF).trans hG), rfl, rpAt_leaf, hrel, (hv.kp [1, 1] 2 2)⟩
 refine uM rfl (uE rfl ?_)
 refine uE rfl (uA rfl ?_)
 refine uA rfl (uW k6 ?_)
 refine sK fun _ k206 => sK fun _ k207 => rL (uM rfl ?_)
 refine uG (.bool true) rfl (ex_neq rfl rfl rfl (by decide)) (uW k207 ?_)
 refine cT rfl (sK fun _ k208 => ?_)
 refine rL (uM rfl ?_)
 refine xC rscallable24 rfl ((viewWrong E1 _ _ 41 hv).mono ?_) rfl
 rintro e w210 ⟨s209, rfl, hv⟩
 refine ⟨_, rfl, ?_⟩
 refine xS 0 rfl hv rssz28 rfl (by exact ⟨rfl, rfl, rfl, rfl, trivial⟩) (fun w211 hv => ?_)
 simp only [zO, sp] at hv
 refine uW k208 (rR ?_)
 refine tR (bC 0 rswd28 hv rfl rfl rfl rfl ?_)
 have hrel : CommonR M clk key xs (rFault s209) := fun n9 h9 h10 h11 => (numP_not h9 hn1).elim
 exact ⟨E1, rFault s209, rpCells 1 s209 0 (vN), (hD1.trans hE1), rfl, rpAt_leaf, hrel, (hv.kp [3, 3] 2 2)⟩
theorem run_sshT {P : Program} {t : TypeId} {l : List UInt8} (ht : P.underlying t = some .string) {j : Nat} (hj : j ≤ l.length) (w : World) : (Instr.sliceAt t (vS l) none (some (vI j)) none).run P w = .ok (vS (l.take j)) w := by
 have hs : (⟨l.toArray⟩ : ByteArray).size = l.length := rfl
 rw [run_sliceAt_string w t _ _ _ _ ht, run_slice_string_h w t ⟨l.toArray⟩ ht .i64 (j : Int) (by omega) (by rw [hs]; omega), ByteArray.extract_mk]
 simp
theorem rp_parts {B : Base} {r : Rp} {cs : List Value} (h : RpAt B r cs) : ∃ k s n v, cs = rpCells k s n v := by
 cases r; simp only [RpAt] at h
 obtain ⟨v, xs, h1, -⟩ := h
 exact ⟨_, _, _, v, h1⟩
theorem CombR.len {M : List (List UInt8 × Ver)} {clk ec : Int} {name : List UInt8} {keys out : List (List UInt8)} (hO : OkM M) (h : CombR M clk name keys out ec) : out.length ≤ 512 := by
 obtain ⟨ss, e1, hs, ⟨-, -, rfl⟩ | ⟨-, ⟨-, -, q, hq, rfl⟩ | ⟨-, -, -, ⟨-, rfl⟩ | ⟨q, hq, rfl⟩⟩ | ⟨-, -, j, -, ⟨-, rfl, -⟩ | ⟨-, h1, rfl⟩⟩⟩⟩ := h
 ·simp
 ·exact Nat.le_trans (List.length_filter_le _ _) (hs.right hO q (List.mem_of_getElem? hq)).1
 ·simp
 ·exact Nat.le_trans (List.length_filter_le _ _) (hs.right hO q (List.mem_of_getElem? hq)).1
 ·simp
 exact h1
end Go.Proofs.YtoljdfjnannakaaGreatDoor
namespace Go.Pm
open Go.RowKit
structure Leaf where
 k : Int
 s : List UInt8
 n : Int
abbrev nilS : Value := .slice none 0 0
abbrev leafC (x : Leaf) (v : Value) : List Value := rpCells x.k x.s x.n v
def leafR (x : Leaf) : Rp := .mk x.k x.s x.n []
abbrev leafN (x : Leaf) : List Value := leafC x nilS
def lvC (pre : List Leaf) : Option (Leaf × Value) → List Value
 | none => pre.flatMap leafN
 | some (x, v) => pre.flatMap leafN ++ leafC x v
theorem leafs_len (l : List Leaf) : (l.flatMap leafN).length = l.length * 4 := rowk_len (k := 4) (fun _ => rfl) l
theorem lvC_len0 (l : List Leaf) : (lvC l none).length = l.length * 4 := leafs_len l
theorem lvC_len1 (l : List Leaf) (x : Leaf) (v : Value) : (lvC l (some (x, v))).length = (l.length + 1) * 4 := by
 show (l.flatMap leafN ++ leafC x v).length = _
 rw [List.length_append, leafs_len, Nat.succ_mul]; rfl
theorem lvC_pre {l : List Leaf} {o : Option (Leaf × Value)} {i j : Nat} {x : Leaf} (hx : l[i]? = some x) (hj : j < 4) : (lvC l o)[i * 4 + j]? = (leafN x)[j]? := by
 have h := rowk_get (f := leafN) (k := 4) (fun _ => rfl) hx hj
 cases o with
 | none => exact h
 | some p =>
  show (l.flatMap leafN ++ _)[_]? = _
  have hi := (List.getElem?_eq_some_iff.1 hx).1
  have := Nat.mul_le_mul_right 4 (show i + 1 ≤ l.length by omega)
  rw [Nat.succ_mul] at this
  rw [List.getElem?_append_left (by rw [leafs_len]; omega)]
  exact h
theorem lvC_last {l : List Leaf} {x : Leaf} {v : Value} {j : Nat} : (lvC l (some (x, v)))[l.length * 4 + j]? = (leafC x v)[j]? := by
 show (l.flatMap leafN ++ _)[_]? = _
 rw [List.getElem?_append_right (by rw [leafs_len]; omega), leafs_len, Nat.add_sub_cancel_left]
theorem lvSet_same {α : Type} {l : List α} {i : Nat} {v : α} (h : l[i]? = some v) : l.set i v = l := by
 refine List.ext_getElem? fun j => ?_
 rw [List.getElem?_set]
 split
 ·rename_i e; subst e
  have := (List.getElem?_eq_some_iff.1 h).1
  rw [if_pos this, h]
 rfl
theorem lvC_set {l : List Leaf} {o : Option (Leaf × Value)} {i : Nat} {x : Leaf} (hx : l[i]? = some x) : (lvC l o).set (i * 4 + 3) nilS = lvC l o := lvSet_same (by rw [lvC_pre hx (by decide)]; rfl)
theorem lvC_setl {l : List Leaf} {x : Leaf} {v u : Value} : (lvC l (some (x, v))).set (l.length * 4 + 3) u = lvC l (some (x, u)) := by
 show (l.flatMap leafN ++ _).set _ _ = l.flatMap leafN ++ _
 rw [List.set_append_right _ _ (by rw [leafs_len]; omega), leafs_len, Nat.add_sub_cancel_left]; rfl
theorem lvC_one {l : List Leaf} {o : Option (Leaf × Value)} (ho : ∀ p, o = some p → p.2.oneCell' = true) : ∀ u ∈ lvC l o, u.oneCell' = true := by
 have h0 : ∀ u ∈ l.flatMap leafN, u.oneCell' = true := by
  intro u hu
  obtain ⟨x, -, hu⟩ := List.mem_flatMap.1 hu
  simp only [List.mem_cons, List.not_mem_nil, or_false] at hu
  rcases hu with rfl | rfl | rfl | rfl <;> rfl
 cases o with
 | none => exact h0
 | some p =>
  intro u hu
  rcases List.mem_append.1 (show u ∈ l.flatMap leafN ++ leafC p.1 p.2 from hu) with hu | hu
  ·exact h0 u hu
  simp only [List.mem_cons, List.not_mem_nil, or_false] at hu
  rcases hu with rfl | rfl | rfl | rfl
  ·rfl
  ·rfl
  ·rfl
  exact ho p rfl
theorem lvC_at0 {B : Base} : ∀ (l : List Leaf), RpsAt B (l.map leafR) (l.flatMap leafN)
 | [] => RpsAt.nil
 | x :: l => RpsAt.cons (rpAt_leaf (k := x.k) (s := x.s) (n := x.n)) (lvC_at0 l)
theorem lvC_at1 {B : Base} {pre l : List Leaf} {x : Leaf} {v : Value} (h : RowB B v l.length (l.flatMap leafN)) : RpsAt B (pre.map leafR ++ [.mk x.k x.s x.n (l.map leafR)]) (lvC pre (some (x, v))) :=
 RpsAt.append (RpsAt.single (rpAt_of (l := l.map leafR) (by rw [List.length_map]; exact h) (lvC_at0 l))) (lvC_at0 pre)
theorem row_loads {w : World} {e : TypeId} {size n c b k off : Nat} {xs cs : List Value} (h : w.ownsRow 0 e size (.slice (some ⟨b, 0, none⟩) n c) n xs) (ho : off = k) (hcs : ∀ j, j < cs.length → cs[j]? = xs[k + j]?) : ∀ j v, cs[j]? = some v → w.cell? ⟨b, off + j, none⟩ = some v := by
 subst ho
 intro j v hj
 have := row_load h (j := off + j) (v := v) (by rw [← hcs j (List.getElem?_eq_some_iff.1 hj).1, hj])
 rw [Nat.zero_add] at this
 exact this
theorem Inv.rowLess {B : Base} {n m c size b : Nat} {e : TypeId} {xs : List Value} {H : List Res} {w : World} (hv : Inv B (Res.row e size (.slice (some ⟨b, 0, none⟩) n c) n xs :: H) w) (hm : m ≤ n) : Inv B (Res.row e size (.slice (some ⟨b, 0, none⟩) m c) m (xs.take (m * size)) :: H) w := by
 obtain ⟨L, h1, h2, h3, h4, hc⟩ := hv.rowCell
 have h9 := hc.cellRow (n := m) (c := c) (size := size) h1 (by omega) h4
 have hle : m * size ≤ n * size := Nat.mul_le_mul_right _ hm
 rw [← h2, List.take_take, Nat.min_eq_left hle]
 exact h9
def ListIn (B : Base) (m : Nat) (xs : List Value) (r : Rp) : Prop :=
 (∃ ls : List Leaf, m = ls.length ∧ xs = lvC ls none ∧ r = rList (ls.map leafR)) ∨
 (∃ (pre l : List Leaf) (x : Leaf) (la : Option Addr) (lc : Nat), m = pre.length + 1 ∧ xs = lvC pre (some (x, .slice la l.length lc)) ∧ SliceOk la l.length lc ∧ RdV B [] la (lvC l none) ∧ l.length ≤ 1000000 ∧ r = rList (pre.map leafR ++ [.mk x.k x.s x.n (l.map leafR)]))
theorem ListIn.len {B : Base} {m : Nat} {xs : List Value} {r : Rp} (h : ListIn B m xs r) : xs.length = m * 4 := by
 rcases h with ⟨ls, rfl, rfl, -⟩ | ⟨pre, l, x, la, lc, rfl, rfl, -⟩
 ·exact lvC_len0 ls
 exact lvC_len1 pre x _
theorem ListIn.one {B : Base} {m : Nat} {xs : List Value} {r : Rp} (h : ListIn B m xs r) : ∀ u ∈ xs, u.oneCell' = true := by
 rcases h with ⟨ls, rfl, rfl, -⟩ | ⟨pre, l, x, la, lc, rfl, rfl, -⟩
 ·exact lvC_one fun p h => by cases h
 exact lvC_one fun p h => by cases h; rfl
theorem rlist_at {B : Base} {l : List Rp} {v : Value} {xs : List Value} (h1 : RowB B v l.length xs) (h2 : RpsAt B l xs) : RpAt B (rList l) (rpCells 5 [] 0 v) := rpAt_of h1 h2
end Go.Pm
namespace Go.Proofs.YtoljdfjnannakaaGreatDoor
open Go.RowKit Go.Pm
theorem cloneRps0 (B : Base) (H : List Res) (w : World) (hv : Inv B H w) :
  Calls Tryz.prog 90 #[vN] w fun e w' => e = .returned (vN) ∧ Inv B H w' := by
 refine cW Tryz.func90 rfl Tryz.ntmps90 ?_
 simp only [al]
 refine sK fun _ k1 => rL (uA rfl ?_)
 refine uW k1 (sK fun _ k2 => ?_)
 refine sK fun _ k3 => rL (uM rfl ?_)
 refine uG (.bool true) rfl (ex_slnil Tryz.underlying26 rfl rfl rfl rfl) (uW k3 ?_)
 refine cT rfl (sK fun _ k4 => ?_)
 refine rL (uA rfl ?_)
 refine uW k4 (rR ?_)
 refine tR (bR rfl rfl ?_)
 exact ⟨rfl, hv⟩
theorem rlmk28 : (Tryz.prog.info? 28).map (fun i => (i.zero, i.size, i.bytes)) = some (some (.agg #[vI 0, vS [], vI 0, vN]), 4, 56) := by kernel_rfl
theorem rlel26 : Elem Tryz.prog 26 28 (.agg #[vI 0, vS [], vI 0, vN]) 4 56 := elem_of Tryz.underlying26 rlmk28 (by rfl) (by decide)
theorem cloneRps1 (B : Base) (H : List Res) (w : World) (a : Addr) (n c : Nat) (xs : List Value) (hok : SliceOk (some a) n c) (hl : xs.length = n * 4) (h1 : ∀ u ∈ xs, u.oneCell' = true) (hn : n ≤ 1000000) (hr : RdV B [] (some a) xs) (hv : Inv B H w) :
  Calls Tryz.prog 90 #[.slice (some a) n c] w fun e w' => ∃ v, e = .returned v ∧ Inv B (Res.row 28 4 v n xs :: H) w' := by
 refine cW Tryz.func90 rfl Tryz.ntmps90 ?_
 simp only [al]
 refine sK fun _ k1 => rL (uA rfl ?_)
 refine uW k1 (sK fun _ k2 => ?_)
 refine sK fun _ k3 => rL (uM rfl ?_)
 refine uG (.bool false) rfl (ex_slnil Tryz.underlying26 rfl rfl rfl rfl) (uW k3 ?_)
 refine cF rfl (kS ?_)
 refine tK k2 (sK fun _ k4 => ?_)
 refine rL (sl_row0 (size := 4) tV (wn rfl) rfl hv (e := 28) (fun w => by kernel_rfl) (fun b5 w6 hv => ?_))
 refine uM rfl ?_
 refine sl_append (news := xs) tV (wn rfl) rfl rfl rfl rlel26 hv hok hl ((hr.more (Base.Le.refl _) (fun _ h => by cases h)).src hv) (h1) (by unfold maxLen; omega) (by omega) (fun rv7 w10 hv => ?_)
 obtain ⟨ra8, rc9, rfl⟩ := row_slice hv.head
 refine uA rfl (uW k4 ?_)
 refine rR (bR rfl rfl ?_)
 rw [Nat.zero_add, List.nil_append] at hv
 exact ⟨_, by rw [Nat.zero_add]; rfl, hv⟩
theorem cloneRps (B : Base) (H : List Res) (w : World) (ad : Option Addr) (n c : Nat) (xs : List Value) (hok : SliceOk ad n c) (hl : xs.length = n * 4) (h1 : ∀ u ∈ xs, u.oneCell' = true) (hn : n ≤ 1000000) (hr : RdV B [] ad xs) (hv : Inv B H w) :
  Calls Tryz.prog 90 #[.slice ad n c] w fun e w' => ∃ va vc, e = .returned (.slice va n vc) ∧ Inv B (Res.row 28 4 (.slice va n vc) n xs :: H) w' := by
 cases ad with
 | none =>
  have hc0 : c = 0 := hok.nil rfl
  have hn0 : n = 0 := by have := hok.le; omega
  subst hc0 hn0
  have hx : xs = [] := List.eq_nil_of_length_eq_zero (by simpa using hl)
  subst hx
  refine (cloneRps0 B H w hv).mono ?_
  rintro e w' ⟨rfl, hv⟩
  exact ⟨_, _, rfl, hv.rowNil _ _⟩
 | some a =>
  refine (cloneRps1 B H w a n c xs hok hl h1 hn hr hv).mono ?_
  rintro e w' ⟨v, rfl, hv⟩
  obtain ⟨va, vc, rfl⟩ := row_slice hv.head
  exact ⟨_, _, rfl, hv⟩
theorem respOne0 (B : Base) (H : List Res) (w : World) (la : Option Addr) (n lc : Nat) (h0 : 0 < n) (hv : Inv B H w) :
  Calls Tryz.prog 105 #[.slice la n lc, vN] w fun e w' => e = .returned (.bool false) ∧ Inv B H w' := by
 refine cW Tryz.func105 rfl Tryz.ntmps105 ?_
 simp only [al]
 refine sK fun _ k1 => rL (uA rfl ?_)
 refine uW k1 (sK fun _ k2 => ?_)
 refine rW mixed [] [0,1,2,3,4,5,6,7,8,9,10,11,12,13,14,15,16,17] 22 rfl (by kernel_rfl) hv ?_
 simp only [qm, opAt]
 refine dM (.slice la n lc) rfl (dG (vI n) rfl (ex_len0 Tryz.underlying26 rfl rfl) ?_)
 refine dG (.bool true) rfl (ex_gtr rfl rfl rfl (qT (by omega))) ?_
 simp only [zP, po]
 refine dM (.bool true) rfl (dM (.slice la n lc) rfl ?_)
 refine dG (vI n) rfl (ex_len0 Tryz.underlying26 rfl rfl) ?_
 simp only [zP, po]
 refine dM (vN) rfl (dG (vI 0) rfl (ex_len0 Tryz.underlying26 rfl rfl) ?_)
 refine dG (.bool false) rfl (ex_eql rfl rfl rfl (qF (by omega))) ?_
 simp only [zP, po]
 refine dK true (.bool false) rfl (dM (.bool false) rfl ?_)
 iterate 5 refine dN rfl ?_
 refine dK false (.bool false) rfl ?_
 simp only [zP, po]
 refine dA (.bool false) rfl (dE fun w3 hv => ?_)
 simp only [zP, po]
 refine tK k2 (rR ?_)
 refine bR rfl rfl (⟨rfl, hv⟩)
theorem rlal170 : AL Tryz.prog 170 [vI 0, vI 0, vN, vN] := fun w => by kernel_rfl
theorem rlwd170 : Wide Tryz.prog 170 4 := wide_of (fun w => by kernel_rfl) (by kernel_rfl)
theorem rlsz170 : (Tryz.prog.info? 170).map (·.size) = some 4 := by kernel_rfl
theorem trailLeaf (B : Base) (H : List Res) (w : World) (n1 n2 : Int) (va vb : Value) (_ : va.cells = #[va]) (h1b : va.oneCell' = true) (_ : vb.cells = #[vb]) (h2b : vb.oneCell' = true) (aa : Option Addr) (ac : Nat) (hv : Inv B H w) :
  Calls Tryz.prog 91 #[.agg #[vI n1, vI n2, va, vb], .slice aa 0 ac, .slice aa 0 ac] w fun e w' => e = .returned (.tuple #[.agg #[vI n1, vI n2, va, vb], .bool false]) ∧ Inv B H w' := by
 refine cW Tryz.func91 rfl Tryz.ntmps91 ?_
 simp only [al]
 refine sK fun _ k1 => rL (sl_box (L := [vI n1, vI n2, va, vb]) tV (wn rfl) rfl rfl hv (fun w => by kernel_rfl) (fun b2 w3 hv => ?_))
 refine sl_alloc tV (wn rfl) rfl hv rlal170 (fun b4 w5 hv => ?_)
 refine uA rfl (uW k1 ?_)
 refine sK fun _ k6 => sK fun _ k7 => rL (uM rfl ?_)
 refine uG (vI 0) rfl (ex_len0 Tryz.underlying26 rfl rfl) ?_
 refine uG (.bool true) rfl (ex_eql rfl rfl rfl (by decide)) (uM rfl ?_)
 iterate 10 refine uP rfl ?_
 refine uK rfl (uW k7 ?_)
 refine cT rfl (sK fun _ k8 => ?_)
 refine rL (uL (.agg #[vI n1, vI n2, va, vb]) rfl (lM 1 rlwd170 hv rfl rfl rfl rfl) ?_)
 refine xS 0 rfl hv rlsz170 rfl (by exact ⟨rfl, rfl, h1b, h2b, trivial⟩) (fun w9 hv => ?_)
 simp only [zO, sp] at hv
 refine uA rfl (uW k8 ?_)
 refine rR (tR ?_)
 refine bodyPost_ret (res_cell2 rfl rfl (lM 0 rlwd170 hv rfl rfl rfl rfl)) rfl (⟨rfl, (hv.kp [] 0 2)⟩)
theorem rlfa170_2 : FA Tryz.prog 170 2 2 := fun w b o => by kernel_rfl
theorem rlcallable105 : Callable Tryz.prog 105 := cb Tryz.func105 (by kernel_rfl)
theorem rlfa170_0 : FA Tryz.prog 170 0 0 := fun w b o => by kernel_rfl
theorem rlna3 (w : World) : (isAgg 3).run Tryz.prog w = .ok false w := by kernel_rfl
theorem rlsz3 : (Tryz.prog.info? 3).map (·.size) = some 1 := by kernel_rfl
theorem rlfa170_1 : FA Tryz.prog 170 1 1 := fun w b o => by kernel_rfl
theorem rlfa170_3 : FA Tryz.prog 170 3 3 := fun w b o => by kernel_rfl
theorem trailNew (B : Base) (H : List Res) (w : World) (la : Option Addr) (n lc : Nat) (h0 : 0 < n) (hv : Inv B H w) :
  Calls Tryz.prog 91 #[.agg #[vI 0, vI 0, vN, vN], .slice la n lc, .slice la n lc] w fun e w' => e = .returned (.tuple #[.agg #[vI 1, vI 2, .slice la n lc, .slice la n lc], .bool true]) ∧ Inv B H w' := by
 refine cW Tryz.func91 rfl Tryz.ntmps91 ?_
 simp only [al]
 refine sK fun _ k1 => rL (sl_box (L := [vI 0, vI 0, vN, vN]) tV (wn rfl) rfl rfl hv (fun w => by kernel_rfl) (fun b2 w3 hv => ?_))
 refine sl_alloc tV (wn rfl) rfl hv rlal170 (fun b4 w5 hv => ?_)
 refine uA rfl (uW k1 ?_)
 refine sK fun _ k6 => sK fun _ k7 => rL (uM rfl ?_)
 refine uG (vI n) rfl (ex_len0 Tryz.underlying26 rfl rfl) ?_
 refine uG (.bool false) rfl (ex_eql rfl rfl rfl (qF (by omega))) (uM rfl ?_)
 refine uM rfl ?_
 refine uF (.pointer (some ⟨b2, 2, none⟩)) rfl (rlfa170_2 _ _ _) ?_
 refine uL _ rfl (run_load1 rtna26 (hv.load 1 2 rfl rfl)) ?_
 refine xC rlcallable105 rfl ((respOne0 B _ _ la n lc h0 hv).mono ?_) rfl
 rintro e w8 ⟨rfl, hv⟩
 refine ⟨_, rfl, ?_⟩
 refine uM rfl ?_
 iterate 4 refine uP rfl ?_
 refine uK rfl (uK rfl ?_)
 refine uW k7 (cF rfl ?_)
 refine kS (tK k6 ?_)
 refine sK fun _ k9 => rL (uF (vP b2) rfl (rlfa170_0 _ _ _) ?_)
 refine uL _ rfl (run_load1 rlna3 (hv.load 1 0 rfl rfl)) ?_
 refine uG (vI 1) rfl (ex_add rfl rfl rfl (i64_in (by omega))) ?_
 refine uF (vP b2) rfl (rlfa170_0 _ _ _) ?_
 refine xV 1 (vI 1) rfl hv rlsz3 rfl rfl (fun w10 hv => ?_)
 simp only [zS, zO, sp] at hv
 refine uW k9 (sK fun _ k11 => ?_)
 refine sK fun _ k12 => rL (uF (vP b2) rfl (rlfa170_0 _ _ _) ?_)
 refine uL _ rfl (run_load1 rlna3 (hv.load 1 0 rfl rfl)) ?_
 refine uF (.pointer (some ⟨b2, 1, none⟩)) rfl (rlfa170_1 _ _ _) ?_
 refine uL _ rfl (run_load1 rlna3 (hv.load 1 1 rfl rfl)) ?_
 refine uG (.bool true) rfl (ex_geq rfl rfl rfl (by decide)) (uW k12 ?_)
 refine cT rfl (rL ?_)
 refine uF (vP b2) rfl (rlfa170_0 _ _ _) ?_
 refine uL _ rfl (run_load1 rlna3 (hv.load 1 0 rfl rfl)) ?_
 refine uG (vI 2) rfl (ex_mul rfl rfl rfl (i64_in (by omega))) (uM rfl ?_)
 refine uM rfl ?_
 refine uF (.pointer (some ⟨b2, 1, none⟩)) rfl (rlfa170_1 _ _ _) ?_
 refine xV 1 (vI 2) rfl hv rlsz3 rfl rfl (fun w13 hv => ?_)
 simp only [zS, zO, sp] at hv
 refine uF (.pointer (some ⟨b2, 2, none⟩)) rfl (rlfa170_2 _ _ _) ?_
 refine xV 1 (.slice la n lc) rfl hv rtsz26 rfl rfl (fun w14 hv => ?_)
 simp only [zS, zO, sp] at hv
 refine uF (.pointer (some ⟨b2, 3, none⟩)) rfl (rlfa170_3 _ _ _) ?_
 refine xV 1 (.slice la n lc) rfl hv rtsz26 rfl rfl (fun w15 hv => ?_)
 simp only [zS, zO, sp] at hv
 refine uW k11 (sK fun _ k16 => ?_)
 refine rL (uL (.agg #[vI 1, vI 2, .slice la n lc, .slice la n lc]) rfl (lM 1 rlwd170 hv rfl rfl rfl rfl) ?_)
 refine xS 0 rfl hv rlsz170 rfl (by exact ⟨rfl, rfl, rfl, rfl, trivial⟩) (fun w17 hv => ?_)
 simp only [zO, sp] at hv
 refine uA rfl (uW k16 ?_)
 refine rR (bodyPost_ret (res_cell2 rfl rfl (lM 0 rlwd170 hv rfl rfl rfl rfl)) rfl ?_)
 exact ⟨rfl, (hv.kp [] 0 2)⟩
open Classical in
noncomputable def lvMu (x : Value) (w : World) : Nat := match x with
 | .slice (some ⟨b, _, _⟩) (_ + 1) _ => if w.cell? ⟨b, 1, none⟩ = some (vI 0) then 2 else 1
 | _ => 0
open Classical in
theorem lvMu2 {b c : Nat} {w : World} (h : w.cell? ⟨b, 0 + 1, none⟩ = some (vI 0)) : lvMu (.slice (some ⟨b, 0, none⟩) 1 c) w = 2 := if_pos h
open Classical in
theorem lvMu1 {b c : Nat} {w : World} : 1 ≤ lvMu (.slice (some ⟨b, 0, none⟩) 1 c) w := by
 show 1 ≤ if _ then 2 else 1
 split <;> omega
open Classical in
theorem lvMu3 {b c : Nat} {w : World} (h : w.cell? ⟨b, 0 + 1, none⟩ = some (vI 1)) : lvMu (.slice (some ⟨b, 0, none⟩) 1 c) w < 2 := by
 show (if _ then 2 else 1) < 2
 rw [if_neg (by rw [Nat.zero_add] at h; rw [h]; simp)]; omega
theorem lvMu0 {a : Option Addr} {c : Nat} {w : World} : lvMu (.slice a 0 c) w = 0 := by cases a <;> rfl
theorem rlal28 : AL Tryz.prog 28 [vI 0, vS [], vI 0, vN] := fun w => by kernel_rfl
theorem rlcallable90 : Callable Tryz.prog 90 := cb Tryz.func90 (by kernel_rfl)
theorem rlmk172 : (Tryz.prog.info? 172).map (fun i => (i.zero, i.size, i.bytes)) = some (some (.agg #[vN, vI 0, vI 0, vN, vN]), 5, 88) := by kernel_rfl
theorem rlel173 : Elem Tryz.prog 173 172 (.agg #[vN, vI 0, vI 0, vN, vN]) 5 88 := elem_of Tryz.underlying173 rlmk172 (by rfl) (by decide)
theorem rles173 (w : World) : (sizeOf (Tryz.prog.elem 173)).run Tryz.prog w = .ok 5 w := by kernel_rfl
theorem rlwd172 : Wide Tryz.prog 172 5 := wide_of (fun w => by kernel_rfl) (by kernel_rfl)
theorem rlal172 : AL Tryz.prog 172 [vN, vI 0, vI 0, vN, vN] := fun w => by kernel_rfl
theorem rlsz172 : (Tryz.prog.info? 172).map (·.size) = some 5 := by kernel_rfl
theorem rlfa172_0 : FA Tryz.prog 172 0 0 := fun w b o => by kernel_rfl
theorem rles26 (w : World) : (sizeOf (Tryz.prog.elem 26)).run Tryz.prog w = .ok 4 w := by kernel_rfl
theorem rlfa172_1 : FA Tryz.prog 172 1 1 := fun w b o => by kernel_rfl
theorem rlcallable91 : Callable Tryz.prog 91 := cb Tryz.func91 (by kernel_rfl)
theorem respList (B : Base) (H : List Res) (w : World) (ra : Option Addr) (m rc : Nat) (xs : List Value) (r : Rp) (hok : SliceOk ra m rc) (hr : RdV B [] ra xs) (hin : ListIn B m xs r) (hm : m ≤ 1000000) (hv : Inv B H w) :
  Calls Tryz.prog 68 #[.slice ra m rc] w fun e w' => ∃ C v, B.Le C ∧ e = .returned (.agg (rpCells 5 [] 0 v).toArray) ∧ RpAt C r (rpCells 5 [] 0 v) ∧ Inv C H w' := by
 refine cW Tryz.func68 rfl Tryz.ntmps68 ?_
 simp only [al]
 refine sK fun _ k1 => rL (sl_alloc tV (wn rfl) rfl hv rlal28 (fun b2 w3 hv => ?_))
 refine uW k1 (sK fun _ k4 => ?_)
 refine rL (uM rfl ?_)
 refine xC rlcallable90 rfl ((cloneRps B _ _ ra m rc xs hok hin.len hin.one hm hr hv).mono ?_) rfl
 rintro e w5 ⟨oa, oc, rfl, hv⟩
 refine ⟨_, rfl, uG (.agg #[vI 5, vS [], vI 0, .slice oa m oc]) rfl (ex_buildN (vs := #[(0, vI 5), (3, .slice oa m oc)]) rfl (by simp only [List.map_toArray, List.map_cons, List.map_nil]; rfl) (by kernel_rfl)) ?_⟩
 refine sl_alloc tV (wn rfl) rfl hv rlal28 (fun b6 w7 hv => ?_)
 refine xS 0 rfl hv rssz28 rfl (by exact ⟨rfl, rfl, rfl, rfl, trivial⟩) (fun w8 hv => ?_)
 simp only [zO, sp] at hv
 refine uW k4 (sK fun _ k9 => ?_)
 refine rL (uF (.pointer (some ⟨b6, 3, none⟩)) rfl (rtfa28_3 _ _ _) ?_)
 refine uL _ rfl (run_load1 rtna26 (hv.load 0 3 rfl rfl)) ?_
 refine uG (.agg #[.slice oa m oc, vI 0, vI 0, vN, vN]) rfl (ex_buildN (vs := #[(0, .slice oa m oc)]) rfl (by simp only [List.map_toArray, List.map_cons, List.map_nil]; rfl) (by kernel_rfl)) ?_
 refine sl_rowAgg (L := [.slice oa m oc, vI 0, vI 0, vN, vN]) tV (wn rfl) rfl rfl hv rlel173 rfl (by decide) (fun b10 w11 hv => ?_)
 refine uA rfl (uW k9 ?_)
 refine sK fun _ k12 => bB ?_
 gi_loopw [4] (fun x4 wr => ∃ (v0 : Option Addr) (vc : Nat), ((∃ (C : Base) (ls : List Leaf) (oa : Option Addr) (oc tb tc : Nat) (n1 n2 : Int) (va vb : Value), x4 = .slice (some ⟨tb, 0, none⟩) 1 tc ∧ B.Le C ∧ (ls.length ≤ 1000000 ∧ va.cells = #[va] ∧ va.oneCell' = true ∧ vb.cells = #[vb] ∧ vb.oneCell' = true) ∧ (∀ D, C.Le D → RowB D (.slice oa ls.length oc) ls.length (lvC ls none) → RpAt D r (rpCells 5 [] 0 (.slice v0 m vc))) ∧ Inv C (Res.row 172 5 (.slice (some ⟨tb, 0, none⟩) 1 tc) 1 [.slice oa ls.length oc, vI n1, vI n2, va, vb] :: Res.row 28 4 (.slice oa ls.length oc) ls.length (lvC ls none) :: Res.cell b6 [vI 5, vS [], vI 0, .slice v0 m vc] 28 :: Res.cell b2 [vI 0, vS [], vI 0, vN] 28 :: H) wr) ∨ (∃ (C : Base) (pre l : List Leaf) (x : Leaf) (la : Option Addr) (lc : Nat) (oa : Option Addr) (oc tb tc : Nat), x4 = .slice (some ⟨tb, 0, none⟩) 1 tc ∧ B.Le C ∧ (pre.length ≤ 1000000 ∧ l.length ≤ 1000000 ∧ SliceOk la l.length lc ∧ RdV C [] la (lvC l none)) ∧ (∀ D, C.Le D → ∀ u, RowB D u l.length (lvC l none) → RowB D (.slice oa (pre.length + 1) oc) (pre.length + 1) (lvC pre (some (x, u))) → RpAt D r (rpCells 5 [] 0 (.slice v0 m vc))) ∧ Inv C (Res.row 172 5 (.slice (some ⟨tb, 0, none⟩) 1 tc) 1 [.slice oa (pre.length + 1) oc, vI 0, vI 0, vN, vN] :: Res.row 28 4 (.slice oa (pre.length + 1) oc) (pre.length + 1) (lvC pre (some (x, .slice la l.length lc))) :: Res.cell b6 [vI 5, vS [], vI 0, .slice v0 m vc] 28 :: Res.cell b2 [vI 0, vS [], vI 0, vN] 28 :: H) wr) ∨ (∃ (C : Base) (ta : Option Addr) (tc : Nat), x4 = .slice ta 0 tc ∧ B.Le C ∧ RpAt C r (rpCells 5 [] 0 (.slice v0 m vc)) ∧ Inv C (Res.cell b6 [vI 5, vS [], vI 0, .slice v0 m vc] 28 :: Res.cell b2 [vI 0, vS [], vI 0, vN] 28 :: H) wr))) (fun x4 wr => lvMu x4 wr)
 case atStart => exact (by
   have hv := (((((hv.front 3 rfl).front 2 rfl).front 3 rfl).front 3 rfl)).cellRow (n := 1) (c := 1) (size := 5) rfl (by decide) (by decide)
   rcases hin with ⟨ls, rfl, rfl, rfl⟩ | ⟨pre, l, x, la, lc, rfl, rfl, hla, hrl, hml, rfl⟩
   ·refine ⟨oa, oc, .inl ⟨B, ls, oa, oc, _, _, 0, 0, _, _, rfl, Base.Le.refl _, ⟨hm, rfl, rfl, rfl, rfl⟩, fun D hD h => rlist_at (by rw [List.length_map]; exact h) (lvC_at0 ls), hv⟩⟩
   refine ⟨oa, oc, .inr (.inl ⟨B, pre, l, x, la, lc, oa, oc, _, _, rfl, Base.Le.refl _, ⟨by omega, hml, hla, hrl⟩, fun D hD u hu h => rlist_at (by rw [List.length_append, List.length_map]; exact h) (lvC_at1 hu), hv⟩)⟩)
 case round =>
  rcases hrel with ⟨v0, vc, ⟨C, ls, oa, oc, tb, tc, n1, n2, va, vb, rfl, hC, ⟨hls, h1a, h1b, h2a, h2b⟩, hfin, hv⟩ | ⟨C, pre, l, x, la, lc, oa, oc, tb, tc, rfl, hC, ⟨hpm, hlm, hla, hrl⟩, hfin, hv⟩ | ⟨C, ta, tc, rfl, hC, hat, hv⟩⟩
  ·have hmu := @lvMu1 tb tc wr
   refine sK fun _ k14 => sK fun _ k15 => rL (uG (.slice (some ⟨tb, 0, none⟩) 1 tc) rfl (ex_move rfl rfl) ?_)
   refine uG (vI 1) rfl (ex_len0 Tryz.underlying173 rfl rfl) ?_
   refine uG (.bool true) rfl (ex_gtr rfl rfl rfl (by decide)) (uW k15 ?_)
   refine cT rfl (kS ?_)
   refine tK k14 (bB ?_)
   refine sK fun _ k16 => rL (uG (.slice (some ⟨tb, 0, none⟩) 1 tc) rfl (ex_move rfl rfl) ?_)
   refine uG (.slice (some ⟨tb, 0, none⟩) 1 tc) rfl (ex_move rfl rfl) ?_
   refine uG (vI 1) rfl (ex_len0 Tryz.underlying173 rfl rfl) ?_
   refine uG (vI 0) rfl (ex_sub rfl rfl rfl (i64_in (by omega))) ?_
   refine uG (.pointer (some ⟨tb, 0 + 0 * 5, none⟩)) rfl (ex_index rfl rfl rfl (run_idx (k := 0) Tryz.underlying173 rles173 (by omega))) ?_
   refine uL (.agg #[.slice oa ls.length oc, vI n1, vI n2, va, vb]) rfl (run_loadR (cs := [.slice oa ls.length oc, vI n1, vI n2, va, vb]) rlwd172 (row_loads (hv.get 0 rfl) (k := 0) (by omega) (fun j hj => (by rw [Nat.zero_add])))) ?_
   refine sl_alloc tV (wn rfl) rfl hv rlal172 (fun b17 w18 hv => ?_)
   refine xS 0 rfl hv rlsz172 rfl (by exact ⟨rfl, rfl, rfl, h1b, h2b, trivial⟩) (fun w19 hv => ?_)
   simp only [zO, sp] at hv
   refine uW k16 (sK fun _ k20 => ?_)
   refine rL (uG (.slice (some ⟨tb, 0, none⟩) 1 tc) rfl (ex_move rfl rfl) ?_)
   refine uG (.slice (some ⟨tb, 0, none⟩) 1 tc) rfl (ex_move rfl rfl) ?_
   refine uG (vI 1) rfl (ex_len0 Tryz.underlying173 rfl rfl) ?_
   refine uG (vI 0) rfl (ex_sub rfl rfl rfl (i64_in (by omega))) ?_
   refine uG (.slice (some ⟨tb, 0, none⟩) 0 tc) rfl (ex_slice (hi' := some (vI 0)) rfl rfl rfl (congrArg some rfl) rfl (run_hi Tryz.underlying173 rles173 (Nat.zero_le _))) (uA rfl ?_)
   refine uW k20 (sK fun _ k21 => ?_)
   replace hv := hv.front 1 rfl
   simp only [eS, eZ] at hv
   replace hv := hv.rowLess (m := 0) (Nat.zero_le _)
   rw [Nat.zero_mul, List.take_zero] at hv
   refine rL (uF (vP b17) rfl (rlfa172_0 _ _ _) ?_)
   refine uL _ rfl (run_load1 rtna26 (hv.load 1 0 rfl rfl)) ?_
   refine uG (vI (ls.length : Int)) rfl (ex_len0 Tryz.underlying26 rfl rfl) (uM rfl ?_)
   refine uW k21 (bB ?_)
   gi_loopw [34, 4] (fun x34 x4 wr => ∃ (i : Nat), x34 = vI i ∧ x4 = .slice (some ⟨tb, 0, none⟩) 0 tc ∧ i ≤ ls.length ∧ Inv C (Res.row 172 5 (.slice (some ⟨tb, 0, none⟩) 0 tc) 0 ([] : List Value) :: Res.row 28 4 (.slice oa ls.length oc) ls.length (lvC ls none) :: Res.cell b17 [.slice oa ls.length oc, vI n1, vI n2, va, vb] 172 :: Res.cell b6 [vI 5, vS [], vI 0, .slice v0 m vc] 28 :: Res.cell b2 [vI 0, vS [], vI 0, vN] 28 :: H) wr) (fun x34 x4 _ => ls.length - (intOf x34).toNat)
   case atStart => exact ⟨0, rfl, rfl, Nat.zero_le _, (((((hv.front 4 rfl).front 4 rfl).front 3 rfl).front 4 rfl).front 4 rfl)⟩
   case round =>
    obtain ⟨i, rfl, rfl, hi, hv⟩ := hrel
    refine sK fun _ k23 => rL ?_
    by_cases hb24 : (i : Int) < (ls.length : Int)
    ·refine uG (.bool true) rfl (ex_lss rfl rfl rfl (qT hb24)) (uW k23 ?_)
     refine sK fun _ k25 => cT rfl (kS ?_)
     refine tK k25 (sK fun _ k26 => ?_)
     refine bB (sK fun _ k27 => ?_)
     obtain ⟨q, hq⟩ : ∃ q, ls[i]? = some q := ⟨_, List.getElem?_eq_getElem (by omega)⟩
     have hv8 := hv
     clear hv
     obtain ⟨ob, h9⟩ := row_some (hv8.get 1 rfl) (by omega)
     subst h9
     have hv := hv8
     clear hv8
     refine rL (uM rfl ?_)
     refine uG (.pointer (some ⟨ob, 0 + i * 4, none⟩)) rfl (ex_index rfl rfl rfl (run_idx (k := i) Tryz.underlying26 rles26 (by omega))) ?_
     refine uL (.agg #[vI q.k, vS q.s, vI q.n, vN]) rfl (run_loadR (cs := [vI q.k, vS q.s, vI q.n, vN]) rswd28 (row_loads (hv.get 1 rfl) (k := i * 4) (Nat.zero_add _) (fun j hj => (lvC_pre hq hj).symm))) ?_
     refine sl_alloc tV (wn rfl) rfl hv rlal28 (fun b28 w29 hv => ?_)
     refine uA rfl ?_
     refine xS 0 rfl hv rssz28 rfl (by exact ⟨rfl, rfl, rfl, rfl, trivial⟩) (fun w30 hv => ?_)
     simp only [zO, sp] at hv
     refine uW k27 (sK fun _ k31 => ?_)
     refine rL (uF (vP b17) rfl (rlfa172_0 _ _ _) ?_)
     refine uL _ rfl (run_load1 rtna26 (hv.load 3 0 rfl rfl)) (uM rfl ?_)
     refine uG (.pointer (some ⟨ob, 0 + i * 4, none⟩)) rfl (ex_index rfl rfl rfl (run_idx (k := i) Tryz.underlying26 rles26 (by omega))) ?_
     refine uF (.pointer (some ⟨ob, 0 + i * 4 + 3, none⟩)) rfl (rtfa28_3 _ _ _) ?_
     replace hv := hv.front 2 rfl
     simp only [eS, eZ] at hv
     refine sl_storeRow (v := vN) tV (wn rfl) rfl rfl rfl hv rtsz26 (by rw [lvC_len0]; omega) rfl rfl (fun w32 hv => ?_)
     rw [show 0 + i * 4 + 3 = i * 4 + 3 by omega, lvC_set hq] at hv
     refine uW k31 (sK fun _ k33 => ?_)
     refine rL (uF (.pointer (some ⟨b17, 1, none⟩)) rfl (rlfa172_1 _ _ _) ?_)
     refine uL (.agg #[vI n1, vI n2, va, vb]) rfl (lM 3 rlwd170 hv rfl rfl rfl rfl) ?_
     refine uF (.pointer (some ⟨b28, 3, none⟩)) rfl (rtfa28_3 _ _ _) ?_
     refine uL _ rfl (run_load1 rtna26 (hv.load 1 3 rfl rfl)) ?_
     refine uF (.pointer (some ⟨b28, 3, none⟩)) rfl (rtfa28_3 _ _ _) ?_
     refine uL _ rfl (run_load1 rtna26 (hv.load 1 3 rfl rfl)) ?_
     refine xC rlcallable91 rfl ((trailLeaf C _ _ n1 n2 va vb h1a h1b h2a h2b none 0 hv).mono ?_) rfl
     rintro e w34 ⟨rfl, hv⟩
     refine ⟨_, rfl, uM rfl ?_⟩
     refine uE rfl (uE rfl ?_)
     refine sl_alloc tV (wn rfl) rfl hv rlal170 (fun b35 w36 hv => ?_)
     refine xS 0 rfl hv rlsz170 rfl (by exact ⟨rfl, rfl, h1b, h2b, trivial⟩) (fun w37 hv => ?_)
     simp only [zO, sp] at hv
     refine uA rfl (uW k33 ?_)
     refine sK fun _ k38 => rL (uM rfl ?_)
     refine uW k38 (cF rfl ?_)
     refine kS (bN ?_)
     refine tK k26 (rL ?_)
     refine uG (vI ((i + 1 : Nat) : Int)) rfl (ex_add rfl rfl rfl (by rw [i64_in (by omega)]; omega)) (uM rfl ?_)
     refine uZ (then_normal ?_)
     go_roundw
     case rel => exact ⟨i + 1, rfl, rfl, by omega, (hv.kp [6, 6, 6, 4, 6] 5 2)⟩
     case measure => show ls.length - (((i + 1 : Nat) : Int)).toNat < ls.length - ((i : Int)).toNat; omega
    refine uG (.bool false) rfl (ex_lss rfl rfl rfl (qF hb24)) (uW k23 ?_)
    refine sK fun _ k39 => cF rfl (xE ?_)
    refine tX (tX ?_)
    refine bH (bN ?_)
    refine then_normal ?_
    go_roundw
    case rel => (obtain ⟨D, hD, hv, hro, hoko, -⟩ := ((hv.kp [4, 4, 3] 3 2)).rowBy; exact ⟨v0, vc, .inr (.inr ⟨D, _, _, rfl, hC.trans hD, hfin D hD ⟨oa, oc, rfl, hoko, hro⟩, hv⟩)⟩)
    case measure => (rw [lvMu0]; omega)
  ·have hmu : lvMu (.slice (some ⟨tb, 0, none⟩) 1 tc) wr = 2 := lvMu2 (row_load (hv.get 0 rfl) rfl)
   refine sK fun _ k40 => sK fun _ k41 => rL (uG (.slice (some ⟨tb, 0, none⟩) 1 tc) rfl (ex_move rfl rfl) ?_)
   refine uG (vI 1) rfl (ex_len0 Tryz.underlying173 rfl rfl) ?_
   refine uG (.bool true) rfl (ex_gtr rfl rfl rfl (by decide)) (uW k41 ?_)
   refine cT rfl (kS ?_)
   refine tK k40 (bB ?_)
   refine sK fun _ k42 => rL (uG (.slice (some ⟨tb, 0, none⟩) 1 tc) rfl (ex_move rfl rfl) ?_)
   refine uG (.slice (some ⟨tb, 0, none⟩) 1 tc) rfl (ex_move rfl rfl) ?_
   refine uG (vI 1) rfl (ex_len0 Tryz.underlying173 rfl rfl) ?_
   refine uG (vI 0) rfl (ex_sub rfl rfl rfl (i64_in (by omega))) ?_
   refine uG (.pointer (some ⟨tb, 0 + 0 * 5, none⟩)) rfl (ex_index rfl rfl rfl (run_idx (k := 0) Tryz.underlying173 rles173 (by omega))) ?_
   refine uL (.agg #[.slice oa (pre.length + 1) oc, vI 0, vI 0, vN, vN]) rfl (run_loadR (cs := [.slice oa (pre.length + 1) oc, vI 0, vI 0, vN, vN]) rlwd172 (row_loads (hv.get 0 rfl) (k := 0) (by omega) (fun j hj => (by rw [Nat.zero_add])))) ?_
   refine sl_alloc tV (wn rfl) rfl hv rlal172 (fun b43 w44 hv => ?_)
   refine xS 0 rfl hv rlsz172 rfl (by exact ⟨rfl, rfl, rfl, rfl, rfl, trivial⟩) (fun w45 hv => ?_)
   simp only [zO, sp] at hv
   refine uW k42 (sK fun _ k46 => ?_)
   refine rL (uG (.slice (some ⟨tb, 0, none⟩) 1 tc) rfl (ex_move rfl rfl) ?_)
   refine uG (.slice (some ⟨tb, 0, none⟩) 1 tc) rfl (ex_move rfl rfl) ?_
   refine uG (vI 1) rfl (ex_len0 Tryz.underlying173 rfl rfl) ?_
   refine uG (vI 0) rfl (ex_sub rfl rfl rfl (i64_in (by omega))) ?_
   refine uG (.slice (some ⟨tb, 0, none⟩) 0 tc) rfl (ex_slice (hi' := some (vI 0)) rfl rfl rfl (congrArg some rfl) rfl (run_hi Tryz.underlying173 rles173 (Nat.zero_le _))) (uA rfl ?_)
   refine uW k46 (sK fun _ k47 => ?_)
   replace hv := hv.front 1 rfl
   simp only [eS, eZ] at hv
   replace hv := hv.rowLess (m := 0) (Nat.zero_le _)
   rw [Nat.zero_mul, List.take_zero] at hv
   refine rL (uF (vP b43) rfl (rlfa172_0 _ _ _) ?_)
   refine uL _ rfl (run_load1 rtna26 (hv.load 1 0 rfl rfl)) ?_
   refine uG (vI ((pre.length + 1) : Int)) rfl (ex_len0 Tryz.underlying26 rfl rfl) (uM rfl ?_)
   refine uW k47 (bB ?_)
   gi_loopw [34, 4] (fun x34 x4 wr => (∃ (i : Nat), x34 = vI i ∧ x4 = .slice (some ⟨tb, 0, none⟩) 0 tc ∧ i ≤ pre.length ∧ Inv C (Res.row 172 5 (.slice (some ⟨tb, 0, none⟩) 0 tc) 0 ([] : List Value) :: Res.row 28 4 (.slice oa (pre.length + 1) oc) (pre.length + 1) (lvC pre (some (x, .slice la l.length lc))) :: Res.cell b43 [.slice oa (pre.length + 1) oc, vI 0, vI 0, vN, vN] 172 :: Res.cell b6 [vI 5, vS [], vI 0, .slice v0 m vc] 28 :: Res.cell b2 [vI 0, vS [], vI 0, vN] 28 :: H) wr) ∨ (x34 = vI ((pre.length + 1 : Nat) : Int) ∧ x4 = .slice (some ⟨tb, 0, none⟩) 0 tc ∧ l = [] ∧ Inv C (Res.row 172 5 (.slice (some ⟨tb, 0, none⟩) 0 tc) 0 ([] : List Value) :: Res.row 28 4 (.slice oa (pre.length + 1) oc) (pre.length + 1) (lvC pre (some (x, nilS))) :: Res.cell b43 [.slice oa (pre.length + 1) oc, vI 0, vI 0, vN, vN] 172 :: Res.cell b6 [vI 5, vS [], vI 0, .slice v0 m vc] 28 :: Res.cell b2 [vI 0, vS [], vI 0, vN] 28 :: H) wr) ∨ (∃ (ca : Option Addr) (cc tb2 tc2 : Nat), x34 = vI ((pre.length + 1 : Nat) : Int) ∧ x4 = .slice (some ⟨tb2, 0, none⟩) 1 tc2 ∧ 0 < l.length ∧ Inv C (Res.row 172 5 (.slice (some ⟨tb2, 0, none⟩) 1 tc2) 1 [.slice ca l.length cc, vI 1, vI 2, .slice la l.length lc, .slice la l.length lc] :: Res.row 28 4 (.slice ca l.length cc) l.length (lvC l none) :: Res.row 28 4 (.slice oa (pre.length + 1) oc) (pre.length + 1) (lvC pre (some (x, .slice ca l.length cc))) :: Res.cell b43 [.slice oa (pre.length + 1) oc, vI 0, vI 0, vN, vN] 172 :: Res.cell b6 [vI 5, vS [], vI 0, .slice v0 m vc] 28 :: Res.cell b2 [vI 0, vS [], vI 0, vN] 28 :: H) wr)) (fun x34 x4 _ => (pre.length + 1) - (intOf x34).toNat)
   case atStart => exact .inl ⟨0, rfl, rfl, Nat.zero_le _, (((((hv.front 4 rfl).front 4 rfl).front 3 rfl).front 4 rfl).front 4 rfl)⟩
   case round =>
    rcases hrel with ⟨i, rfl, rfl, hi, hv⟩ | ⟨rfl, rfl, hl0, hv⟩ | ⟨ca, cc, tb2, tc2, rfl, rfl, h0, hv⟩
    ·refine sK fun _ k49 => rL (uG (.bool true) rfl (ex_lss rfl rfl rfl (qT (by omega))) ?_)
     refine uW k49 (sK fun _ k50 => ?_)
     refine cT rfl (kS ?_)
     refine tK k50 (sK fun _ k51 => ?_)
     refine bB (sK fun _ k52 => ?_)
     rcases (show i < pre.length ∨ i = pre.length by omega) with hip | rfl
     ·obtain ⟨q, hq⟩ : ∃ q, pre[i]? = some q := ⟨_, List.getElem?_eq_getElem (by omega)⟩
      have hv8 := hv
      clear hv
      obtain ⟨ob, h9⟩ := row_some (hv8.get 1 rfl) (by omega)
      subst h9
      have hv := hv8
      clear hv8
      refine rL (uM rfl ?_)
      refine uG (.pointer (some ⟨ob, 0 + i * 4, none⟩)) rfl (ex_index rfl rfl rfl (run_idx (k := i) Tryz.underlying26 rles26 (by omega))) ?_
      refine uL (.agg #[vI q.k, vS q.s, vI q.n, vN]) rfl (run_loadR (cs := [vI q.k, vS q.s, vI q.n, vN]) rswd28 (row_loads (hv.get 1 rfl) (k := i * 4) (Nat.zero_add _) (fun j hj => (lvC_pre hq hj).symm))) ?_
      refine sl_alloc tV (wn rfl) rfl hv rlal28 (fun b53 w54 hv => ?_)
      refine uA rfl ?_
      refine xS 0 rfl hv rssz28 rfl (by exact ⟨rfl, rfl, rfl, rfl, trivial⟩) (fun w55 hv => ?_)
      simp only [zO, sp] at hv
      refine uW k52 (sK fun _ k56 => ?_)
      refine rL (uF (vP b43) rfl (rlfa172_0 _ _ _) ?_)
      refine uL _ rfl (run_load1 rtna26 (hv.load 3 0 rfl rfl)) (uM rfl ?_)
      refine uG (.pointer (some ⟨ob, 0 + i * 4, none⟩)) rfl (ex_index rfl rfl rfl (run_idx (k := i) Tryz.underlying26 rles26 (by omega))) ?_
      refine uF (.pointer (some ⟨ob, 0 + i * 4 + 3, none⟩)) rfl (rtfa28_3 _ _ _) ?_
      replace hv := hv.front 2 rfl
      simp only [eS, eZ] at hv
      refine sl_storeRow (v := vN) tV (wn rfl) rfl rfl rfl hv rtsz26 (by rw [lvC_len1]; omega) rfl rfl (fun w57 hv => ?_)
      rw [show 0 + i * 4 + 3 = i * 4 + 3 by omega, lvC_set hq] at hv
      refine uW k56 (sK fun _ k58 => ?_)
      refine rL (uF (.pointer (some ⟨b43, 1, none⟩)) rfl (rlfa172_1 _ _ _) ?_)
      refine uL (.agg #[vI 0, vI 0, vN, vN]) rfl (lM 3 rlwd170 hv rfl rfl rfl rfl) ?_
      refine uF (.pointer (some ⟨b53, 3, none⟩)) rfl (rtfa28_3 _ _ _) ?_
      refine uL _ rfl (run_load1 rtna26 (hv.load 1 3 rfl rfl)) ?_
      refine uF (.pointer (some ⟨b53, 3, none⟩)) rfl (rtfa28_3 _ _ _) ?_
      refine uL _ rfl (run_load1 rtna26 (hv.load 1 3 rfl rfl)) ?_
      refine xC rlcallable91 rfl ((trailLeaf C _ _ 0 0 (vN) (vN) rfl rfl rfl rfl none 0 hv).mono ?_) rfl
      rintro e w59 ⟨rfl, hv⟩
      refine ⟨_, rfl, uM rfl ?_⟩
      refine uE rfl (uE rfl ?_)
      refine sl_alloc tV (wn rfl) rfl hv rlal170 (fun b60 w61 hv => ?_)
      refine xS 0 rfl hv rlsz170 rfl (by exact ⟨rfl, rfl, rfl, rfl, trivial⟩) (fun w62 hv => ?_)
      simp only [zO, sp] at hv
      refine uA rfl (uW k58 ?_)
      refine sK fun _ k63 => rL (uM rfl ?_)
      refine uW k63 (cF rfl ?_)
      refine kS (bN ?_)
      refine tK k51 (rL ?_)
      refine uG (vI ((i + 1 : Nat) : Int)) rfl (ex_add rfl rfl rfl (by rw [i64_in (by omega)]; omega)) (uM rfl ?_)
      refine uZ (then_normal ?_)
      go_roundw
      case rel => exact .inl ⟨i + 1, rfl, rfl, by omega, (hv.kp [6, 6, 6, 4, 6] 5 2)⟩
      case measure => show (pre.length + 1) - (((i + 1 : Nat) : Int)).toNat < (pre.length + 1) - ((i : Int)).toNat; omega
     rcases Nat.eq_zero_or_pos l.length with h0 | h0
     ·obtain rfl : l = [] := List.eq_nil_of_length_eq_zero h0
      have hv8 := hv
      clear hv
      obtain ⟨ob, h9⟩ := row_some (hv8.get 1 rfl) (by omega)
      subst h9
      have hv := hv8
      clear hv8
      refine rL (uM rfl ?_)
      refine uG (.pointer (some ⟨ob, 0 + pre.length * 4, none⟩)) rfl (ex_index rfl rfl rfl (run_idx (k := pre.length) Tryz.underlying26 rles26 (by omega))) ?_
      refine uL (.agg #[vI x.k, vS x.s, vI x.n, .slice la 0 lc]) rfl (run_loadR (cs := [vI x.k, vS x.s, vI x.n, .slice la 0 lc]) rswd28 (row_loads (hv.get 1 rfl) (k := pre.length * 4) (Nat.zero_add _) (fun j hj => lvC_last.symm))) ?_
      refine sl_alloc tV (wn rfl) rfl hv rlal28 (fun b64 w65 hv => ?_)
      refine uA rfl ?_
      refine xS 0 rfl hv rssz28 rfl (by exact ⟨rfl, rfl, rfl, rfl, trivial⟩) (fun w66 hv => ?_)
      simp only [zO, sp] at hv
      refine uW k52 (sK fun _ k67 => ?_)
      refine rL (uF (vP b43) rfl (rlfa172_0 _ _ _) ?_)
      refine uL _ rfl (run_load1 rtna26 (hv.load 3 0 rfl rfl)) (uM rfl ?_)
      refine uG (.pointer (some ⟨ob, 0 + pre.length * 4, none⟩)) rfl (ex_index rfl rfl rfl (run_idx (k := pre.length) Tryz.underlying26 rles26 (by omega))) ?_
      refine uF (.pointer (some ⟨ob, 0 + pre.length * 4 + 3, none⟩)) rfl (rtfa28_3 _ _ _) ?_
      replace hv := hv.front 2 rfl
      simp only [eS, eZ] at hv
      refine sl_storeRow (v := vN) tV (wn rfl) rfl rfl rfl hv rtsz26 (by rw [lvC_len1]; omega) rfl rfl (fun w68 hv => ?_)
      rw [show 0 + pre.length * 4 + 3 = pre.length * 4 + 3 by omega, lvC_setl] at hv
      refine uW k67 (sK fun _ k69 => ?_)
      refine rL (uF (.pointer (some ⟨b43, 1, none⟩)) rfl (rlfa172_1 _ _ _) ?_)
      refine uL (.agg #[vI 0, vI 0, vN, vN]) rfl (lM 3 rlwd170 hv rfl rfl rfl rfl) ?_
      refine uF (.pointer (some ⟨b64, 3, none⟩)) rfl (rtfa28_3 _ _ _) ?_
      refine uL _ rfl (run_load1 rtna26 (hv.load 1 3 rfl rfl)) ?_
      refine uF (.pointer (some ⟨b64, 3, none⟩)) rfl (rtfa28_3 _ _ _) ?_
      refine uL _ rfl (run_load1 rtna26 (hv.load 1 3 rfl rfl)) ?_
      refine xC rlcallable91 rfl ((trailLeaf C _ _ 0 0 (vN) (vN) rfl rfl rfl rfl la lc hv).mono ?_) rfl
      rintro e w70 ⟨rfl, hv⟩
      refine ⟨_, rfl, uM rfl ?_⟩
      refine uE rfl (uE rfl ?_)
      refine sl_alloc tV (wn rfl) rfl hv rlal170 (fun b71 w72 hv => ?_)
      refine xS 0 rfl hv rlsz170 rfl (by exact ⟨rfl, rfl, rfl, rfl, trivial⟩) (fun w73 hv => ?_)
      simp only [zO, sp] at hv
      refine uA rfl (uW k69 ?_)
      refine sK fun _ k74 => rL (uM rfl ?_)
      refine uW k74 (cF rfl ?_)
      refine kS (bN ?_)
      refine tK k51 (rL ?_)
      refine uG (vI ((pre.length + 1 : Nat) : Int)) rfl (ex_add rfl rfl rfl (by rw [i64_in (by omega)]; omega)) (uM rfl ?_)
      refine uZ (then_normal ?_)
      go_roundw
      case rel => exact .inr (.inl ⟨rfl, rfl, (by first | rfl | trivial), (hv.kp [6, 6, 6, 4, 6] 5 2)⟩)
      case measure => show (pre.length + 1) - (((pre.length + 1 : Nat) : Int)).toNat < (pre.length + 1) - ((pre.length : Int)).toNat; omega
     have hv8 := hv
     clear hv
     obtain ⟨ob, h9⟩ := row_some (hv8.get 1 rfl) (by omega)
     subst h9
     have hv := hv8
     clear hv8
     refine rL (uM rfl ?_)
     refine uG (.pointer (some ⟨ob, 0 + pre.length * 4, none⟩)) rfl (ex_index rfl rfl rfl (run_idx (k := pre.length) Tryz.underlying26 rles26 (by omega))) ?_
     refine uL (.agg #[vI x.k, vS x.s, vI x.n, .slice la l.length lc]) rfl (run_loadR (cs := [vI x.k, vS x.s, vI x.n, .slice la l.length lc]) rswd28 (row_loads (hv.get 1 rfl) (k := pre.length * 4) (Nat.zero_add _) (fun j hj => lvC_last.symm))) ?_
     refine sl_alloc tV (wn rfl) rfl hv rlal28 (fun b75 w76 hv => ?_)
     refine uA rfl ?_
     refine xS 0 rfl hv rssz28 rfl (by exact ⟨rfl, rfl, rfl, rfl, trivial⟩) (fun w77 hv => ?_)
     simp only [zO, sp] at hv
     refine uW k52 (sK fun _ k78 => ?_)
     refine rL (uF (vP b43) rfl (rlfa172_0 _ _ _) ?_)
     refine uL _ rfl (run_load1 rtna26 (hv.load 3 0 rfl rfl)) (uM rfl ?_)
     refine uG (.pointer (some ⟨ob, 0 + pre.length * 4, none⟩)) rfl (ex_index rfl rfl rfl (run_idx (k := pre.length) Tryz.underlying26 rles26 (by omega))) ?_
     refine uF (.pointer (some ⟨ob, 0 + pre.length * 4 + 3, none⟩)) rfl (rtfa28_3 _ _ _) ?_
     replace hv := hv.front 2 rfl
     simp only [eS, eZ] at hv
     refine sl_storeRow (v := vN) tV (wn rfl) rfl rfl rfl hv rtsz26 (by rw [lvC_len1]; omega) rfl rfl (fun w79 hv => ?_)
     rw [show 0 + pre.length * 4 + 3 = pre.length * 4 + 3 by omega, lvC_setl] at hv
     refine uW k78 (sK fun _ k80 => ?_)
     refine rL (uF (.pointer (some ⟨b43, 1, none⟩)) rfl (rlfa172_1 _ _ _) ?_)
     refine uL (.agg #[vI 0, vI 0, vN, vN]) rfl (lM 3 rlwd170 hv rfl rfl rfl rfl) ?_
     refine uF (.pointer (some ⟨b75, 3, none⟩)) rfl (rtfa28_3 _ _ _) ?_
     refine uL _ rfl (run_load1 rtna26 (hv.load 1 3 rfl rfl)) ?_
     refine uF (.pointer (some ⟨b75, 3, none⟩)) rfl (rtfa28_3 _ _ _) ?_
     refine uL _ rfl (run_load1 rtna26 (hv.load 1 3 rfl rfl)) ?_
     refine xC rlcallable91 rfl ((trailNew C _ _ la l.length lc h0 hv).mono ?_) rfl
     rintro e w81 ⟨rfl, hv⟩
     refine ⟨_, rfl, uM rfl ?_⟩
     refine uE rfl (uE rfl ?_)
     refine sl_alloc tV (wn rfl) rfl hv rlal170 (fun b82 w83 hv => ?_)
     refine xS 0 rfl hv rlsz170 rfl (by exact ⟨rfl, rfl, rfl, rfl, trivial⟩) (fun w84 hv => ?_)
     simp only [zO, sp] at hv
     refine uA rfl (uW k80 ?_)
     refine sK fun _ k85 => rL (uM rfl ?_)
     refine uW k85 (cT rfl ?_)
     refine sK fun _ k86 => rW mixed [5, 8] [0,1,2,3,4,5,6,7,8] 76 rfl (by kernel_rfl) hv ?_
     simp only [qm, opAt]
     refine dG (vP b43) rfl (ex_field rfl rfl (rlfa172_0 _ _ _)) (dF _ rfl (fun hv => ex_load rfl rfl (run_load1 rtna26 (hv.load 4 0 rfl rfl))) fun f87 hf87 => ?_)
     refine dM (vI (pre.length : Int)) rfl ?_
     simp only [zP, po]
     refine dG (.pointer (some ⟨b75, 3, none⟩)) rfl (ex_field rfl rfl (rtfa28_3 _ _ _)) (dL _ rfl (fun hv => ex_load rfl rfl (run_load1 rtna26 (hv.load 2 3 rfl rfl))) ?_)
     refine dS rfl fun w88 hv => mC rlcallable90 rfl ((cloneRps C _ _ la l.length lc (lvC l none) hla (lvC_len0 l) (lvC_one fun p h => by cases h) hlm hrl hv).mono ?_) rfl
     rintro e w89 ⟨ca, cc, rfl, hv⟩
     refine ⟨_, rfl, dV hv (fC (fun ww hv => hf87 ww (ex_load rfl rfl (run_load1 rtna26 (hv.load 5 0 rfl rfl)))) fN) ?_⟩
     simp only [zP, po]
     refine dG (.pointer (some ⟨ob, 0 + pre.length * 4, none⟩)) rfl (ex_index rfl rfl rfl (run_idx (k := pre.length) Tryz.underlying26 rles26 (by omega))) (dG (.pointer (some ⟨ob, 0 + pre.length * 4 + 3, none⟩)) rfl (ex_field rfl rfl (rtfa28_3 _ _ _)) ?_)
     refine dS rfl fun w90 hv => ?_
     replace hv := hv.front 2 rfl
     simp only [eS, eZ] at hv
     refine mem_storeRow (v := .slice ca l.length cc) rfl rfl rfl rfl hv rtsz26 (by rw [lvC_len1]; omega) rfl rfl (fun w91 hv => ?_)
     rw [show 0 + pre.length * 4 + 3 = pre.length * 4 + 3 by omega, lvC_setl] at hv
     refine dV hv (fK rfl fN) (dE fun w92 hv => ?_)
     simp only [zP, po]
     refine tK k86 (rW mixed [9, 10] [0,1,2,3,4,5,6,7,8,9,10,11] 76 rfl (by kernel_rfl) hv ?_)
     simp only [qm, opAt]
     refine dM (.slice (some ⟨tb, 0, none⟩) 0 tc) rfl (dG (vP b43) rfl (ex_field rfl rfl (rlfa172_0 _ _ _)) ?_)
     refine dL _ rfl (fun hv => ex_load rfl rfl (run_load1 rtna26 (hv.load 5 0 rfl rfl))) ?_
     simp only [zP, po]
     refine dM (vI (pre.length : Int)) rfl (dG (.pointer (some ⟨ob, 0 + pre.length * 4, none⟩)) rfl (ex_index rfl rfl rfl (run_idx (k := pre.length) Tryz.underlying26 rles26 (by omega))) ?_)
     refine dG (.pointer (some ⟨ob, 0 + pre.length * 4 + 3, none⟩)) rfl (ex_field rfl rfl (rtfa28_3 _ _ _)) ?_
     simp only [zP, po]
     refine dL (.slice ca l.length cc) rfl (fun hv => ex_load rfl rfl (run_load1 rtna26 (by rw [Nat.add_assoc]; exact row_load (hv.get 0 rfl) lvC_last))) (dL (.agg #[vI 1, vI 2, .slice la l.length lc, .slice la l.length lc]) rfl (fun hv => ex_load rfl rfl (lM 2 rlwd170 hv rfl rfl rfl rfl)) ?_)
     refine dG (.agg #[.slice ca l.length cc, vI 1, vI 2, .slice la l.length lc, .slice la l.length lc]) rfl (ex_buildN (vs := #[(0, .slice ca l.length cc), (1, .agg #[vI 1, vI 2, .slice la l.length lc, .slice la l.length lc])]) rfl (by simp only [List.map_toArray, List.map_cons, List.map_nil]; rfl) (by kernel_rfl)) ?_
     simp only [zP, po]
     refine dS rfl fun w93 hv => mem_rowAgg (L := [.slice ca l.length cc, vI 1, vI 2, .slice la l.length lc, .slice la l.length lc]) rfl rfl rfl hv rlel173 rfl (by decide) (fun b94 w95 hv => ?_)
     refine dW hv (dS rfl fun w96 hv => ?_)
     replace hv := hv.front 5 rfl
     simp only [eS, eZ] at hv
     refine mem_append (news := [.slice ca l.length cc, vI 1, vI 2, .slice la l.length lc, .slice la l.length lc]) rfl rfl rfl rfl rlel173 hv (ok_full (by omega)) rfl (rd_all (hv.get 1 rfl)) (by intro u hu; simp only [List.mem_cons, List.not_mem_nil, or_false] at hu; rcases hu with rfl | rfl | rfl | rfl | rfl <;> rfl) (by unfold maxLen; omega) (by omega) (fun rv97 w100 hv => ?_)
     obtain ⟨ra98, rc99, rfl⟩ := row_slice hv.head
     refine dW hv (dA (.slice ra98 (0 + 1) rc99) rfl ?_)
     refine dE fun w101 hv => ?_
     simp only [zP, po]
     refine bN (tK k51 ?_)
     refine rL (uG (vI ((pre.length + 1 : Nat) : Int)) rfl (ex_add rfl rfl rfl (by rw [i64_in (by omega)]; omega)) ?_)
     refine uM rfl (uZ ?_)
     refine then_normal ?_
     go_roundw
     case rel => (obtain ⟨tb9, h9⟩ := row_some (hv.get 0 rfl) (by omega); subst h9; exact .inr (.inr ⟨ca, cc, tb9, _, rfl, rfl, h0, (hv.kp [8, 8, 8, 5, 6, 5] 6 3)⟩))
     case measure => show (pre.length + 1) - (((pre.length + 1 : Nat) : Int)).toNat < (pre.length + 1) - ((pre.length : Int)).toNat; omega
    ·refine sK fun _ k102 => rL (uG (.bool false) rfl (ex_lss rfl rfl rfl (qF (by omega))) ?_)
     refine uW k102 (sK fun _ k103 => ?_)
     refine cF rfl (xE ?_)
     refine tX (tX ?_)
     refine bH (bN ?_)
     refine then_normal ?_
     go_roundw
     case rel => (obtain ⟨D, hD, hv, hro, hoko, -⟩ := ((hv.kp [4, 4, 3] 3 2)).rowBy; exact ⟨v0, vc, .inr (.inr ⟨D, _, _, rfl, hC.trans hD, hfin D hD nilS (by rw [hl0]; exact ⟨none, 0, rfl, ⟨Nat.le_refl _, Nat.zero_le _, fun _ => rfl⟩, rdV_nil⟩) ⟨oa, oc, rfl, hoko, hro⟩, hv⟩)⟩)
     case measure => (rw [lvMu0]; omega)
    refine sK fun _ k104 => rL (uG (.bool false) rfl (ex_lss rfl rfl rfl (qF (by omega))) ?_)
    refine uW k104 (sK fun _ k105 => ?_)
    refine cF rfl (xE ?_)
    refine tX (tX ?_)
    refine bH (bN ?_)
    refine then_normal ?_
    go_roundw
    case rel => (obtain ⟨D, hD, hv, hro, hoko, -⟩ := ((hv.kp [5, 5, 3, 3, 4] 5 1)).rowBy; exact ⟨v0, vc, .inl ⟨D, l, ca, cc, tb2, tc2, 1, 2, _, _, rfl, hC.trans hD, ⟨hlm, rfl, rfl, rfl, rfl⟩, fun E hE h9 => hfin E (hD.trans hE) (.slice ca l.length cc) h9 ⟨oa, oc, rfl, hoko, hro.more hE (fun _ h => h)⟩, hv⟩⟩)
    case measure => (rw [hmu]; exact lvMu3 (row_load (hv.get 0 rfl) rfl))
  refine sK fun _ k106 => sK fun _ k107 => rL (uM rfl ?_)
  refine uG (vI 0) rfl (ex_len0 Tryz.underlying173 rfl rfl) ?_
  refine uG (.bool false) rfl (ex_gtr rfl rfl rfl (by decide)) (uW k107 ?_)
  refine cF rfl (xE ?_)
  refine tX (tX ?_)
  refine bH (tK k12 ?_)
  refine sK fun _ k108 => rL (uL (.agg #[vI 5, vS [], vI 0, .slice v0 m vc]) rfl (lM 0 rswd28 hv rfl rfl rfl rfl) ?_)
  refine xS 1 rfl hv rssz28 rfl (by exact ⟨rfl, rfl, rfl, rfl, trivial⟩) (fun w109 hv => ?_)
  simp only [zS, zO, sp] at hv
  refine uW k108 (rR ?_)
  refine bC 1 rswd28 hv rfl rfl rfl rfl (⟨C, _, hC, rfl, hat, (hv.kp [] 0 2)⟩)
end Go.Proofs.YtoljdfjnannakaaGreatDoor
