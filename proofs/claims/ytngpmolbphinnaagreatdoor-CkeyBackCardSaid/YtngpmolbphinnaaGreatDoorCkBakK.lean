/- ckey: COPY. -/
import Derived.Test.YtngpmolbphinnaaGreatDoorCkBakB
import Derived.Test.YtngpmolbphinnaaGreatDoorCkBakJ
import Derived.Test.YtngpmolbphinnaaGreatDoorRows
import Derived.Test.YtngpmolbphinnaaGreatDoorCkBakH
import Derived.Test.YtngpmolbphinnaaGreatDoorCkBakI
set_option maxRecDepth 100000
set_option maxHeartbeats 16000000
set_option synthInstance.maxSize 4096
set_option synthInstance.maxHeartbeats 400000
namespace Go.Proofs.YtngpmolbphinnaaGreatDoor
open Go.RowKit Go.Pm
theorem k7al34 : AL Tryz.prog 34 [vI 0, vS [], vI 0, vN] := fun w => by kernel_rfl
theorem k7mk9 : (Tryz.prog.info? 9).map (fun i => (i.zero, i.size, i.bytes)) = some (some (vS []), 1, 16) := by kernel_rfl
theorem k7el26 : Elem Tryz.prog 26 9 (vS []) 1 16 := elem_of Tryz.underlying26 k7mk9 (by rfl) (by decide)
theorem k7al50 : AL Tryz.prog 50 [vI 0, .bool false, vI 0, vI 0, vS [], vN, vN, vN] := fun w => by kernel_rfl
theorem ckCopy (B : Base) (H : List Res) (w : World) (v t m s p wb : Nat) (va : Option Addr) (vc : Nat) (sv : Value) (clk : Int) (es : List (List UInt8 × Value)) (M : List (List UInt8 × Ver)) (hM : VM B es M) (aa : Option Addr) (an ac : Nat) (k l : List UInt8) (xa : Option Addr) (xc : Nat) (xs : List (List UInt8)) (hrx : RdV B [] xa (textCells xs)) (hxl : ∀ x ∈ xs, x.length ≤ 9223372036854775807) (hv : Inv B (Res.cell v [.iface 100 (vP t)] 56 :: txR t m s p wb va vc sv clk es :: H) w) :
  Calls Tryz.prog 53 #[.agg #[vP v, .slice aa an ac], vS k, vS l, .slice xa xs.length xc] w fun e w' => ∃ C es' M' r cs, B.Le C ∧ e = .returned (.agg cs.toArray) ∧ RpAt C r cs ∧ VM C es' M' ∧ CopyR M clk k l xs M' r ∧ Inv C (Res.cell v [.iface 100 (vP t)] 56 :: txR t m s p wb va vc sv clk es' :: H) w' := by
 refine cW Tryz.func53 rfl Tryz.ntmps53 ?_
 simp only [al]
 refine sK fun _ k1 => rL (sl_box (L := [vP v, .slice aa an ac]) tV (wn rfl) rfl rfl hv (fun w => by kernel_rfl) (fun b2 w3 hv => ?_))
 refine sl_alloc tV (wn rfl) rfl hv k7al34 (fun b4 w5 hv => ?_)
 refine uW k1 (sK fun _ k6 => ?_)
 refine sK fun _ k7 => rL (uM rfl ?_)
 refine uG (vI (xs.length : Int)) rfl (ex_len0 Tryz.underlying26 rfl rfl) ?_
 by_cases hb8 : (xs.length : Int) > 1
 ·refine uG (.bool true) rfl (ex_gtr rfl rfl rfl (qT hb8)) (uM rfl ?_)
  iterate 11 refine uP rfl ?_
  refine uK rfl (uW k7 ?_)
  refine cT rfl (sK fun _ k9 => ?_)
  refine rL (xC rscallable29 rfl ((viewWrong B _ _ 42 hv).mono ?_) rfl)
  rintro e w11 ⟨s10, rfl, hv⟩
  refine ⟨_, rfl, ?_⟩
  refine xS 0 rfl hv rssz34 rfl (by exact ⟨rfl, rfl, rfl, rfl, trivial⟩) (fun w12 hv => ?_)
  simp only [zO, sp] at hv
  refine uW k9 (rR ?_)
  refine tR (bC 0 rswd34 hv rfl rfl rfl rfl ?_)
  exact ⟨B, es, M, (.mk 1 s10 0 []), _, (Base.Le.refl _), rfl, rpAt_leaf, hM.more (Base.Le.refl _), .inl ⟨fun h9 => (by subst h9; simp only [List.length_nil] at *; omega), rfl, rfl⟩, (hv.kp [3, 3] 2 2)⟩
 refine uG (.bool false) rfl (ex_gtr rfl rfl rfl (qF hb8)) (uM rfl ?_)
 refine uM rfl ?_
 refine uG (vI (xs.length : Int)) rfl (ex_len0 Tryz.underlying26 rfl rfl) ?_
 by_cases hb13 : (xs.length : Int) = 1
 ·refine uG (.bool true) rfl (ex_eql rfl rfl rfl (qT hb13)) ?_
  refine uM rfl ?_
  refine uM rfl ?_
  obtain ⟨x, hx⟩ : ∃ x, xs[0]? = some x := ⟨_, List.getElem?_eq_getElem (show 0 < xs.length by omega)⟩
  obtain ⟨xb, xo, had, hrdx⟩ := text_reads hrx hx
  subst had
  refine uG (.pointer (some ⟨xb, xo + 0, none⟩)) rfl (ex_index rfl rfl rfl (run_idx1 (k := 0) Tryz.underlying26 s9es26 (by omega))) ?_
  refine uL _ rfl (run_load1 s9na9 (hrdx _ _ _ (Base.Le.refl _) no_res hv 0 _ rfl)) ?_
  refine sl_rowOne (v := vS [82, 69, 80, 76, 65, 67, 69]) tV (wanted_of (j := 7) (d := 18) (b := true) rfl rfl rfl) rfl rfl hv k7el26 rfl (fun b14 w15 hv => ?_)
  simp only [zP, po]
  obtain ⟨K16, hK16, hv, hrkK16, hokK16, -⟩ := (hv.cellRow (n := 1) (c := 1) (size := 1) rfl (by decide) (by decide)).rowBy
  refine xC v8callable75 rfl ((viewIs K16 _ _ x _ 1 [([82, 69, 80, 76, 65, 67, 69] : List UInt8)] hrkK16 (by simp) (hxl x (List.mem_of_getElem? hx)) hv).mono ?_) rfl
  rintro e w17 ⟨ri, rfl, -, hv⟩
  refine ⟨_, rfl, ?_⟩
  by_cases hb18 : ri < 0
  ·refine uG (.bool true) rfl (ex_lss rfl rfl rfl (qT hb18)) ?_
   refine uK rfl (uK rfl ?_)
   refine uW k7 (cT rfl ?_)
   refine sK fun _ k19 => rL (xC rscallable29 rfl ((viewWrong K16 _ _ 42 hv).mono ?_) rfl)
   rintro e w21 ⟨s20, rfl, hv⟩
   refine ⟨_, rfl, ?_⟩
   refine xS 0 rfl hv rssz34 rfl (by exact ⟨rfl, rfl, rfl, rfl, trivial⟩) (fun w22 hv => ?_)
   simp only [zO, sp] at hv
   refine uW k19 (rR ?_)
   refine tR (bC 0 rswd34 hv rfl rfl rfl rfl ?_)
   exact ⟨K16, es, M, (.mk 1 s20 0 []), _, hK16, rfl, rpAt_leaf, hM.more hK16, .inl ⟨fun h9 => (by subst h9; simp only [List.length_nil] at *; omega), rfl, rfl⟩, (hv.kp [3, 3] 2 2)⟩
  refine uG (.bool false) rfl (ex_lss rfl rfl rfl (qF hb18)) ?_
  refine uK rfl (uK rfl ?_)
  refine uW k7 (cF rfl ?_)
  refine kS (tK k6 ?_)
  refine sK fun _ k23 => rL (uF (vP b2) rfl (k6fa80_0 _ _ _) ?_)
  refine uL _ rfl (run_load1 k6na24 (hv.load 1 0 rfl rfl)) ?_
  refine uG (vP v) rfl (ex_nil rfl rfl) ?_
  refine uF (vP v) rfl (v1fa56_0 _ _ _) ?_
  refine uL _ rfl (run_load1 v1na54 (hv.load 2 0 rfl rfl)) (uM rfl ?_)
  replace hv := hv.front 3 rfl
  simp only [eS, eZ] at hv
  refine wpi_callI v1callable215 tV wideC rfl (wn rfl) rfl rfl (r := vP t) (fun w => by kernel_rfl) (args := #[vS k]) (by simp only [List.map_toArray, List.map_cons, List.map_nil]; rfl) ((txnGet K16 _ _ t m s p wb va vc sv clk es M k (hM.more hK16) hv).mono ?_)
  rintro e w24 ⟨G, y, yp, yt, yz, oky, hG, rfl, hgot, hyv, hv⟩
  refine ⟨_, rfl, ?_⟩
  rcases got_of hgot with ⟨rfl, hg⟩ | ⟨rfl, rfl, hg⟩
  ·refine uM rfl (uE rfl ?_)
   refine uE rfl ?_
   refine sl_alloc tV (wn rfl) rfl hv k7al50 (fun b25 w26 hv => ?_)
   refine xS 0 rfl hv x0sz50 rfl (by exact ⟨rfl, rfl, rfl, rfl, rfl, hyv.p.one, hyv.t.one, hyv.z.one, trivial⟩) (fun w27 hv => ?_)
   simp only [zO, sp] at hv
   refine uA rfl (uW k23 ?_)
   refine sK fun _ k28 => sK fun _ k29 => rL (uM rfl ?_)
   refine uG (.bool false) rfl (ex_not rfl rfl rfl) (uM rfl ?_)
   refine uM rfl ?_
   refine uM rfl ?_
   by_cases hb30 : k = l
   ·refine uG (.bool true) rfl (ex_seql rfl rfl rfl (qT hb30)) (uK rfl ?_)
    refine uM rfl ?_
    iterate 8 refine uP rfl ?_
    refine uK rfl (uW k29 ?_)
    refine cT rfl (sK fun _ k31 => ?_)
    refine rL (xC k6callable54 rfl ((respInt G _ _ 0 hv).mono ?_) rfl)
    rintro e w32 ⟨rfl, hv⟩
    refine ⟨_, rfl, ?_⟩
    refine xS 2 rfl hv rssz34 rfl (by exact ⟨rfl, rfl, rfl, rfl, trivial⟩) (fun w33 hv => ?_)
    simp only [zS, zO, sp] at hv
    refine uW k31 (rR ?_)
    refine tR (bC 2 rswd34 hv rfl rfl rfl rfl ?_)
    exact ⟨G, es, M, (.mk 2 ([] : List UInt8) 0 []), _, (hK16.trans hG), rfl, rpAt_leaf, hM.more (hK16.trans hG), .inr (.inl ⟨.inr (.inl hb30), rfl, rfl⟩), (hv.kp [1, 4] 2 3)⟩
   refine uG (.bool false) rfl (ex_seql rfl rfl rfl (qF hb30)) (uK rfl ?_)
   refine uM rfl ?_
   refine uM rfl ?_
   refine uG (vI (xs.length : Int)) rfl (ex_len0 Tryz.underlying26 rfl rfl) ?_
   by_cases hb34 : (xs.length : Int) = 0
   ·refine uG (.bool true) rfl (ex_eql rfl rfl rfl (qT hb34)) ?_
    refine uM rfl ?_
    refine uL (.agg #[vP v, .slice aa an ac]) rfl (lM 3 k6wd80 hv rfl rfl rfl rfl) ?_
    refine uM rfl ?_
    replace hv := hv.front 1 rfl
    simp only [eS, eZ] at hv
    replace hv := hv.front 4 rfl
    simp only [eS, eZ] at hv
    refine xC k6callable76 rfl ((ckHas G _ _ v t m s p wb va vc sv clk es M (hM.more (hK16.trans hG)) aa an ac l hv).mono ?_) rfl
    rintro e w35 ⟨P1, b1, hP1, rfl, hh1, hv⟩
    refine ⟨_, rfl, ?_⟩
    rcases hh1 with ⟨rfl, hg1⟩ | ⟨rfl, hg1⟩
    ·refine uK rfl (uK rfl ?_)
     refine uW k29 (cT rfl ?_)
     refine sK fun _ k36 => rL (xC k6callable54 rfl ((respInt P1 _ _ 0 hv).mono ?_) rfl)
     rintro e w37 ⟨rfl, hv⟩
     refine ⟨_, rfl, ?_⟩
     refine xS 3 rfl hv rssz34 rfl (by exact ⟨rfl, rfl, rfl, rfl, trivial⟩) (fun w38 hv => ?_)
     simp only [zS, zO, sp] at hv
     refine uW k36 (rR ?_)
     refine tR (bC 3 rswd34 hv rfl rfl rfl rfl ?_)
     exact ⟨P1, es, M, (.mk 2 ([] : List UInt8) 0 []), _, ((hK16.trans hG).trans hP1), rfl, rpAt_leaf, hM.more ((hK16.trans hG).trans hP1), .inr (.inl ⟨.inr (.inr ⟨List.eq_nil_of_length_eq_zero (by omega), hg1⟩), rfl, rfl⟩), (hv.kp [1, 1] 2 3)⟩
    refine uK rfl (uK rfl ?_)
    refine uW k29 (cF rfl ?_)
    refine kS (tK k28 ?_)
    refine sK fun _ k39 => rL (uF (vP b2) rfl (k6fa80_0 _ _ _) ?_)
    refine uL _ rfl (run_load1 k6na24 (hv.load 4 0 rfl rfl)) (uM rfl ?_)
    refine uF (.pointer (some ⟨b25, 3, none⟩)) rfl (x2fa50_3 _ _ _) ?_
    refine uL (.agg #[vI y.val.kind, vS y.val.text, yp, yt, yz]) rfl (lM 2 s1wd43 hv rfl rfl rfl rfl) ?_
    refine uF (.pointer (some ⟨b25, 2, none⟩)) rfl (s2fa50_2 _ _ _) ?_
    refine uL _ rfl (run_load1 s2na3 (hv.load 2 2 rfl rfl)) ?_
    replace hv := hv.front 1 rfl
    simp only [eS, eZ] at hv
    replace hv := hv.front 1 rfl
    simp only [eS, eZ] at hv
    refine xC k6callable16 rfl ((viewKeep P1 _ _ v t m s p wb va vc sv clk es M l y.val yp yt yz y.expire (hM.more ((hK16.trans hG).trans hP1)) (hyv.more hP1) hv).mono ?_) rfl
    rintro e w40 ⟨D, es1, M1, e1, hD, rfl, hM1, hkp, hv⟩
    refine ⟨_, rfl, ?_⟩
    refine xC k6callable54 rfl ((respInt D _ _ 1 hv).mono ?_) rfl
    rintro e w41 ⟨rfl, hv⟩
    refine ⟨_, rfl, ?_⟩
    simp only [zP, po]
    refine xC k6callable56 rfl ((viewDone D _ _ e1 2 1 ([] : List UInt8) (vN) rfl rfl hv).mono ?_) rfl
    rintro e w42 ⟨xr, hxr, rfl, hv⟩
    refine ⟨_, rfl, ?_⟩
    rcases hxr with ⟨hec0, rfl⟩ | ⟨hec0, s43, rfl⟩
    ·refine xS 3 rfl hv rssz34 rfl (by exact ⟨rfl, rfl, rfl, rfl, trivial⟩) (fun w44 hv => ?_)
     simp only [zS, zO, sp] at hv
     refine uW k39 (rR ?_)
     refine bC 3 rswd34 hv rfl rfl rfl rfl (⟨D, es1, M1, (.mk 2 ([] : List UInt8) 1 []), _, (((hK16.trans hG).trans hP1).trans hD), rfl, rpAt_leaf, hM1.more (Base.Le.refl _), .inr (.inr ⟨y, hg, hb30, fun _ => hg1, e1, hkp, .inl ⟨by omega, rfl⟩⟩), (hv.kp [1, 1] 2 3)⟩)
    refine xS 3 rfl hv rssz34 rfl (by exact ⟨rfl, rfl, rfl, rfl, trivial⟩) (fun w45 hv => ?_)
    simp only [zS, zO, sp] at hv
    refine uW k39 (rR ?_)
    refine bC 3 rswd34 hv rfl rfl rfl rfl (⟨D, es1, M1, (.mk 1 s43 0 []), _, (((hK16.trans hG).trans hP1).trans hD), rfl, rpAt_leaf, hM1.more (Base.Le.refl _), .inr (.inr ⟨y, hg, hb30, fun _ => hg1, e1, hkp, .inr ⟨by omega, rfl⟩⟩), (hv.kp [1, 1] 2 3)⟩)
   refine uG (.bool false) rfl (ex_eql rfl rfl rfl (qF hb34)) ?_
   refine uM rfl ?_
   iterate 3 refine uP rfl ?_
   refine uK rfl (uK rfl ?_)
   refine uW k29 (cF rfl ?_)
   refine kS (tK k28 ?_)
   refine sK fun _ k46 => rL (uF (vP b2) rfl (k6fa80_0 _ _ _) ?_)
   refine uL _ rfl (run_load1 k6na24 (hv.load 3 0 rfl rfl)) (uM rfl ?_)
   refine uF (.pointer (some ⟨b25, 3, none⟩)) rfl (x2fa50_3 _ _ _) ?_
   refine uL (.agg #[vI y.val.kind, vS y.val.text, yp, yt, yz]) rfl (lM 0 s1wd43 hv rfl rfl rfl rfl) ?_
   refine uF (.pointer (some ⟨b25, 2, none⟩)) rfl (s2fa50_2 _ _ _) ?_
   refine uL _ rfl (run_load1 s2na3 (hv.load 0 2 rfl rfl)) ?_
   replace hv := hv.front 1 rfl
   simp only [eS, eZ] at hv
   replace hv := hv.front 4 rfl
   simp only [eS, eZ] at hv
   refine xC k6callable16 rfl ((viewKeep G _ _ v t m s p wb va vc sv clk es M l y.val yp yt yz y.expire (hM.more (hK16.trans hG)) (hyv.more (Base.Le.refl _)) hv).mono ?_) rfl
   rintro e w47 ⟨D, es1, M1, e1, hD, rfl, hM1, hkp, hv⟩
   refine ⟨_, rfl, ?_⟩
   refine xC k6callable54 rfl ((respInt D _ _ 1 hv).mono ?_) rfl
   rintro e w48 ⟨rfl, hv⟩
   refine ⟨_, rfl, ?_⟩
   simp only [zP, po]
   refine xC k6callable56 rfl ((viewDone D _ _ e1 2 1 ([] : List UInt8) (vN) rfl rfl hv).mono ?_) rfl
   rintro e w49 ⟨xr, hxr, rfl, hv⟩
   refine ⟨_, rfl, ?_⟩
   rcases hxr with ⟨hec0, rfl⟩ | ⟨hec0, s50, rfl⟩
   ·refine xS 3 rfl hv rssz34 rfl (by exact ⟨rfl, rfl, rfl, rfl, trivial⟩) (fun w51 hv => ?_)
    simp only [zS, zO, sp] at hv
    refine uW k46 (rR ?_)
    refine bC 3 rswd34 hv rfl rfl rfl rfl (⟨D, es1, M1, (.mk 2 ([] : List UInt8) 1 []), _, ((hK16.trans hG).trans hD), rfl, rpAt_leaf, hM1.more (Base.Le.refl _), .inr (.inr ⟨y, hg, hb30, fun h9 => (by subst h9; exact absurd (show (([] : List (List UInt8)).length : Int) = 0 from rfl) (by omega)), e1, hkp, .inl ⟨by omega, rfl⟩⟩), (hv.kp [1, 1] 2 3)⟩)
   refine xS 3 rfl hv rssz34 rfl (by exact ⟨rfl, rfl, rfl, rfl, trivial⟩) (fun w52 hv => ?_)
   simp only [zS, zO, sp] at hv
   refine uW k46 (rR ?_)
   refine bC 3 rswd34 hv rfl rfl rfl rfl (⟨D, es1, M1, (.mk 1 s50 0 []), _, ((hK16.trans hG).trans hD), rfl, rpAt_leaf, hM1.more (Base.Le.refl _), .inr (.inr ⟨y, hg, hb30, fun h9 => (by subst h9; exact absurd (show (([] : List (List UInt8)).length : Int) = 0 from rfl) (by omega)), e1, hkp, .inr ⟨by omega, rfl⟩⟩), (hv.kp [1, 1] 2 3)⟩)
  refine uM rfl (uE rfl ?_)
  refine uE rfl ?_
  refine sl_alloc tV (wn rfl) rfl hv k7al50 (fun b53 w54 hv => ?_)
  refine xS 0 rfl hv x0sz50 rfl (by exact ⟨rfl, rfl, rfl, rfl, rfl, hyv.p.one, hyv.t.one, hyv.z.one, trivial⟩) (fun w55 hv => ?_)
  simp only [zO, sp] at hv
  refine uA rfl (uW k23 ?_)
  refine sK fun _ k56 => sK fun _ k57 => rL (uM rfl ?_)
  refine uG (.bool true) rfl (ex_not rfl rfl rfl) (uM rfl ?_)
  iterate 3 refine uP rfl ?_
  refine uK rfl (uM rfl ?_)
  iterate 8 refine uP rfl ?_
  refine uK rfl (uW k57 ?_)
  refine cT rfl (sK fun _ k58 => ?_)
  refine rL (xC k6callable54 rfl ((respInt G _ _ 0 hv).mono ?_) rfl)
  rintro e w59 ⟨rfl, hv⟩
  refine ⟨_, rfl, ?_⟩
  refine xS 2 rfl hv rssz34 rfl (by exact ⟨rfl, rfl, rfl, rfl, trivial⟩) (fun w60 hv => ?_)
  simp only [zS, zO, sp] at hv
  refine uW k58 (rR ?_)
  refine tR (bC 2 rswd34 hv rfl rfl rfl rfl ?_)
  exact ⟨G, es, M, (.mk 2 ([] : List UInt8) 0 []), _, (hK16.trans hG), rfl, rpAt_leaf, hM.more (hK16.trans hG), .inr (.inl ⟨.inl hg, rfl, rfl⟩), (hv.kp [1, 4] 2 3)⟩
 refine uG (.bool false) rfl (ex_eql rfl rfl rfl (qF hb13)) ?_
 refine uM rfl ?_
 iterate 6 refine uP rfl ?_
 refine uK rfl (uK rfl ?_)
 refine uW k7 (cF rfl ?_)
 refine kS (tK k6 ?_)
 refine sK fun _ k61 => rL (uF (vP b2) rfl (k6fa80_0 _ _ _) ?_)
 refine uL _ rfl (run_load1 k6na24 (hv.load 1 0 rfl rfl)) ?_
 refine uG (vP v) rfl (ex_nil rfl rfl) ?_
 refine uF (vP v) rfl (v1fa56_0 _ _ _) ?_
 refine uL _ rfl (run_load1 v1na54 (hv.load 2 0 rfl rfl)) (uM rfl ?_)
 replace hv := hv.front 3 rfl
 simp only [eS, eZ] at hv
 refine wpi_callI v1callable215 tV wideC rfl (wn rfl) rfl rfl (r := vP t) (fun w => by kernel_rfl) (args := #[vS k]) (by simp only [List.map_toArray, List.map_cons, List.map_nil]; rfl) ((txnGet B _ _ t m s p wb va vc sv clk es M k (hM.more (Base.Le.refl _)) hv).mono ?_)
 rintro e w62 ⟨G, y, yp, yt, yz, oky, hG, rfl, hgot, hyv, hv⟩
 refine ⟨_, rfl, ?_⟩
 rcases got_of hgot with ⟨rfl, hg⟩ | ⟨rfl, rfl, hg⟩
 ·refine uM rfl (uE rfl ?_)
  refine uE rfl ?_
  refine sl_alloc tV (wn rfl) rfl hv k7al50 (fun b63 w64 hv => ?_)
  refine xS 0 rfl hv x0sz50 rfl (by exact ⟨rfl, rfl, rfl, rfl, rfl, hyv.p.one, hyv.t.one, hyv.z.one, trivial⟩) (fun w65 hv => ?_)
  simp only [zO, sp] at hv
  refine uA rfl (uW k61 ?_)
  refine sK fun _ k66 => sK fun _ k67 => rL (uM rfl ?_)
  refine uG (.bool false) rfl (ex_not rfl rfl rfl) (uM rfl ?_)
  refine uM rfl ?_
  refine uM rfl ?_
  by_cases hb68 : k = l
  ·refine uG (.bool true) rfl (ex_seql rfl rfl rfl (qT hb68)) (uK rfl ?_)
   refine uM rfl ?_
   iterate 8 refine uP rfl ?_
   refine uK rfl (uW k67 ?_)
   refine cT rfl (sK fun _ k69 => ?_)
   refine rL (xC k6callable54 rfl ((respInt G _ _ 0 hv).mono ?_) rfl)
   rintro e w70 ⟨rfl, hv⟩
   refine ⟨_, rfl, ?_⟩
   refine xS 2 rfl hv rssz34 rfl (by exact ⟨rfl, rfl, rfl, rfl, trivial⟩) (fun w71 hv => ?_)
   simp only [zS, zO, sp] at hv
   refine uW k69 (rR ?_)
   refine tR (bC 2 rswd34 hv rfl rfl rfl rfl ?_)
   exact ⟨G, es, M, (.mk 2 ([] : List UInt8) 0 []), _, hG, rfl, rpAt_leaf, hM.more hG, .inr (.inl ⟨.inr (.inl hb68), rfl, rfl⟩), (hv.kp [1, 4] 2 3)⟩
  refine uG (.bool false) rfl (ex_seql rfl rfl rfl (qF hb68)) (uK rfl ?_)
  refine uM rfl ?_
  refine uM rfl ?_
  refine uG (vI (xs.length : Int)) rfl (ex_len0 Tryz.underlying26 rfl rfl) ?_
  by_cases hb72 : (xs.length : Int) = 0
  ·refine uG (.bool true) rfl (ex_eql rfl rfl rfl (qT hb72)) ?_
   refine uM rfl ?_
   refine uL (.agg #[vP v, .slice aa an ac]) rfl (lM 3 k6wd80 hv rfl rfl rfl rfl) ?_
   refine uM rfl ?_
   replace hv := hv.front 1 rfl
   simp only [eS, eZ] at hv
   replace hv := hv.front 4 rfl
   simp only [eS, eZ] at hv
   refine xC k6callable76 rfl ((ckHas G _ _ v t m s p wb va vc sv clk es M (hM.more hG) aa an ac l hv).mono ?_) rfl
   rintro e w73 ⟨P1, b1, hP1, rfl, hh1, hv⟩
   refine ⟨_, rfl, ?_⟩
   rcases hh1 with ⟨rfl, hg1⟩ | ⟨rfl, hg1⟩
   ·refine uK rfl (uK rfl ?_)
    refine uW k67 (cT rfl ?_)
    refine sK fun _ k74 => rL (xC k6callable54 rfl ((respInt P1 _ _ 0 hv).mono ?_) rfl)
    rintro e w75 ⟨rfl, hv⟩
    refine ⟨_, rfl, ?_⟩
    refine xS 3 rfl hv rssz34 rfl (by exact ⟨rfl, rfl, rfl, rfl, trivial⟩) (fun w76 hv => ?_)
    simp only [zS, zO, sp] at hv
    refine uW k74 (rR ?_)
    refine tR (bC 3 rswd34 hv rfl rfl rfl rfl ?_)
    exact ⟨P1, es, M, (.mk 2 ([] : List UInt8) 0 []), _, (hG.trans hP1), rfl, rpAt_leaf, hM.more (hG.trans hP1), .inr (.inl ⟨.inr (.inr ⟨List.eq_nil_of_length_eq_zero (by omega), hg1⟩), rfl, rfl⟩), (hv.kp [1, 1] 2 3)⟩
   refine uK rfl (uK rfl ?_)
   refine uW k67 (cF rfl ?_)
   refine kS (tK k66 ?_)
   refine sK fun _ k77 => rL (uF (vP b2) rfl (k6fa80_0 _ _ _) ?_)
   refine uL _ rfl (run_load1 k6na24 (hv.load 4 0 rfl rfl)) (uM rfl ?_)
   refine uF (.pointer (some ⟨b63, 3, none⟩)) rfl (x2fa50_3 _ _ _) ?_
   refine uL (.agg #[vI y.val.kind, vS y.val.text, yp, yt, yz]) rfl (lM 2 s1wd43 hv rfl rfl rfl rfl) ?_
   refine uF (.pointer (some ⟨b63, 2, none⟩)) rfl (s2fa50_2 _ _ _) ?_
   refine uL _ rfl (run_load1 s2na3 (hv.load 2 2 rfl rfl)) ?_
   replace hv := hv.front 1 rfl
   simp only [eS, eZ] at hv
   replace hv := hv.front 1 rfl
   simp only [eS, eZ] at hv
   refine xC k6callable16 rfl ((viewKeep P1 _ _ v t m s p wb va vc sv clk es M l y.val yp yt yz y.expire (hM.more (hG.trans hP1)) (hyv.more hP1) hv).mono ?_) rfl
   rintro e w78 ⟨D, es1, M1, e1, hD, rfl, hM1, hkp, hv⟩
   refine ⟨_, rfl, ?_⟩
   refine xC k6callable54 rfl ((respInt D _ _ 1 hv).mono ?_) rfl
   rintro e w79 ⟨rfl, hv⟩
   refine ⟨_, rfl, ?_⟩
   simp only [zP, po]
   refine xC k6callable56 rfl ((viewDone D _ _ e1 2 1 ([] : List UInt8) (vN) rfl rfl hv).mono ?_) rfl
   rintro e w80 ⟨xr, hxr, rfl, hv⟩
   refine ⟨_, rfl, ?_⟩
   rcases hxr with ⟨hec0, rfl⟩ | ⟨hec0, s81, rfl⟩
   ·refine xS 3 rfl hv rssz34 rfl (by exact ⟨rfl, rfl, rfl, rfl, trivial⟩) (fun w82 hv => ?_)
    simp only [zS, zO, sp] at hv
    refine uW k77 (rR ?_)
    refine bC 3 rswd34 hv rfl rfl rfl rfl (⟨D, es1, M1, (.mk 2 ([] : List UInt8) 1 []), _, ((hG.trans hP1).trans hD), rfl, rpAt_leaf, hM1.more (Base.Le.refl _), .inr (.inr ⟨y, hg, hb68, fun _ => hg1, e1, hkp, .inl ⟨by omega, rfl⟩⟩), (hv.kp [1, 1] 2 3)⟩)
   refine xS 3 rfl hv rssz34 rfl (by exact ⟨rfl, rfl, rfl, rfl, trivial⟩) (fun w83 hv => ?_)
   simp only [zS, zO, sp] at hv
   refine uW k77 (rR ?_)
   refine bC 3 rswd34 hv rfl rfl rfl rfl (⟨D, es1, M1, (.mk 1 s81 0 []), _, ((hG.trans hP1).trans hD), rfl, rpAt_leaf, hM1.more (Base.Le.refl _), .inr (.inr ⟨y, hg, hb68, fun _ => hg1, e1, hkp, .inr ⟨by omega, rfl⟩⟩), (hv.kp [1, 1] 2 3)⟩)
  refine uG (.bool false) rfl (ex_eql rfl rfl rfl (qF hb72)) ?_
  refine uM rfl ?_
  iterate 3 refine uP rfl ?_
  refine uK rfl (uK rfl ?_)
  refine uW k67 (cF rfl ?_)
  refine kS (tK k66 ?_)
  refine sK fun _ k84 => rL (uF (vP b2) rfl (k6fa80_0 _ _ _) ?_)
  refine uL _ rfl (run_load1 k6na24 (hv.load 3 0 rfl rfl)) (uM rfl ?_)
  refine uF (.pointer (some ⟨b63, 3, none⟩)) rfl (x2fa50_3 _ _ _) ?_
  refine uL (.agg #[vI y.val.kind, vS y.val.text, yp, yt, yz]) rfl (lM 0 s1wd43 hv rfl rfl rfl rfl) ?_
  refine uF (.pointer (some ⟨b63, 2, none⟩)) rfl (s2fa50_2 _ _ _) ?_
  refine uL _ rfl (run_load1 s2na3 (hv.load 0 2 rfl rfl)) ?_
  replace hv := hv.front 1 rfl
  simp only [eS, eZ] at hv
  replace hv := hv.front 4 rfl
  simp only [eS, eZ] at hv
  refine xC k6callable16 rfl ((viewKeep G _ _ v t m s p wb va vc sv clk es M l y.val yp yt yz y.expire (hM.more hG) (hyv.more (Base.Le.refl _)) hv).mono ?_) rfl
  rintro e w85 ⟨D, es1, M1, e1, hD, rfl, hM1, hkp, hv⟩
  refine ⟨_, rfl, ?_⟩
  refine xC k6callable54 rfl ((respInt D _ _ 1 hv).mono ?_) rfl
  rintro e w86 ⟨rfl, hv⟩
  refine ⟨_, rfl, ?_⟩
  simp only [zP, po]
  refine xC k6callable56 rfl ((viewDone D _ _ e1 2 1 ([] : List UInt8) (vN) rfl rfl hv).mono ?_) rfl
  rintro e w87 ⟨xr, hxr, rfl, hv⟩
  refine ⟨_, rfl, ?_⟩
  rcases hxr with ⟨hec0, rfl⟩ | ⟨hec0, s88, rfl⟩
  ·refine xS 3 rfl hv rssz34 rfl (by exact ⟨rfl, rfl, rfl, rfl, trivial⟩) (fun w89 hv => ?_)
   simp only [zS, zO, sp] at hv
   refine uW k84 (rR ?_)
   refine bC 3 rswd34 hv rfl rfl rfl rfl (⟨D, es1, M1, (.mk 2 ([] : List UInt8) 1 []), _, (hG.trans hD), rfl, rpAt_leaf, hM1.more (Base.Le.refl _), .inr (.inr ⟨y, hg, hb68, fun h9 => (by subst h9; exact absurd (show (([] : List (List UInt8)).length : Int) = 0 from rfl) (by omega)), e1, hkp, .inl ⟨by omega, rfl⟩⟩), (hv.kp [1, 1] 2 3)⟩)
  refine xS 3 rfl hv rssz34 rfl (by exact ⟨rfl, rfl, rfl, rfl, trivial⟩) (fun w90 hv => ?_)
  simp only [zS, zO, sp] at hv
  refine uW k84 (rR ?_)
  refine bC 3 rswd34 hv rfl rfl rfl rfl (⟨D, es1, M1, (.mk 1 s88 0 []), _, (hG.trans hD), rfl, rpAt_leaf, hM1.more (Base.Le.refl _), .inr (.inr ⟨y, hg, hb68, fun h9 => (by subst h9; exact absurd (show (([] : List (List UInt8)).length : Int) = 0 from rfl) (by omega)), e1, hkp, .inr ⟨by omega, rfl⟩⟩), (hv.kp [1, 1] 2 3)⟩)
 refine uM rfl (uE rfl ?_)
 refine uE rfl ?_
 refine sl_alloc tV (wn rfl) rfl hv k7al50 (fun b91 w92 hv => ?_)
 refine xS 0 rfl hv x0sz50 rfl (by exact ⟨rfl, rfl, rfl, rfl, rfl, hyv.p.one, hyv.t.one, hyv.z.one, trivial⟩) (fun w93 hv => ?_)
 simp only [zO, sp] at hv
 refine uA rfl (uW k61 ?_)
 refine sK fun _ k94 => sK fun _ k95 => rL (uM rfl ?_)
 refine uG (.bool true) rfl (ex_not rfl rfl rfl) (uM rfl ?_)
 iterate 3 refine uP rfl ?_
 refine uK rfl (uM rfl ?_)
 iterate 8 refine uP rfl ?_
 refine uK rfl (uW k95 ?_)
 refine cT rfl (sK fun _ k96 => ?_)
 refine rL (xC k6callable54 rfl ((respInt G _ _ 0 hv).mono ?_) rfl)
 rintro e w97 ⟨rfl, hv⟩
 refine ⟨_, rfl, ?_⟩
 refine xS 2 rfl hv rssz34 rfl (by exact ⟨rfl, rfl, rfl, rfl, trivial⟩) (fun w98 hv => ?_)
 simp only [zS, zO, sp] at hv
 refine uW k96 (rR ?_)
 refine tR (bC 2 rswd34 hv rfl rfl rfl rfl ?_)
 exact ⟨G, es, M, (.mk 2 ([] : List UInt8) 0 []), _, hG, rfl, rpAt_leaf, hM.more hG, .inr (.inl ⟨.inl hg, rfl, rfl⟩), (hv.kp [1, 4] 2 3)⟩
theorem k8al97 : AL Tryz.prog 97 [] := fun w => by kernel_rfl
theorem k8sz97 : (Tryz.prog.info? 97).map (·.size) = some 0 := by kernel_rfl
theorem k8mk9 : (Tryz.prog.info? 9).map (fun i => (i.zero, i.size, i.bytes)) = some (some (vS []), 1, 16) := by kernel_rfl
theorem k8el26 : Elem Tryz.prog 26 9 (vS []) 1 16 := elem_of Tryz.underlying26 k8mk9 (by rfl) (by decide)
theorem ckDrop (B : Base) (H : List Res) (w : World) (v t m s p wb : Nat) (va : Option Addr) (vc : Nat) (sv : Value) (clk : Int) (es : List (List UInt8 × Value)) (M : List (List UInt8 × Ver)) (hM : VM B es M) (aa : Option Addr) (an ac : Nat) (ka : Option Addr) (kc : Nat) (ks : List (List UInt8)) (hrk : RdV B [] ka (textCells ks)) (hmk : ks.length ≤ 1000000) (hv : Inv B (Res.cell v [.iface 100 (vP t)] 56 :: txR t m s p wb va vc sv clk es :: H) w) :
  Calls Tryz.prog 55 #[.agg #[vP v, .slice aa an ac], .slice ka ks.length kc] w fun e w' => ∃ C es' M' ec, B.Le C ∧ e = .returned (.tuple #[vI ((dropK M clk ks).length : Int), vI ec]) ∧ VM C es' M' ∧ DelI M (dropK M clk ks) ec M' ∧ Inv C (Res.cell v [.iface 100 (vP t)] 56 :: txR t m s p wb va vc sv clk es' :: H) w' := by
 refine cW Tryz.func55 rfl Tryz.ntmps55 ?_
 simp only [al]
 refine sK fun _ k1 => rL (sl_box (L := [vP v, .slice aa an ac]) tV (wn rfl) rfl rfl hv (fun w => by kernel_rfl) (fun b2 w3 hv => ?_))
 refine uA rfl (uA rfl ?_)
 refine uW k1 (sK fun _ k4 => ?_)
 refine rL (sl_newMapV tV (wn rfl) rfl hv (fun mp5 w6 hv => ?_))
 refine uA rfl (uW k4 ?_)
 refine sK fun _ k7 => rL (uA rfl ?_)
 refine uW k7 (sK fun _ k8 => ?_)
 refine sK fun _ k9 => rL (uM rfl ?_)
 refine uG (vI (ks.length : Int)) rfl (ex_len0 Tryz.underlying26 rfl rfl) (uM rfl ?_)
 refine uW k9 (bB ?_)
 gi_loopw [7, 15] (fun x7 x15 wr => ∃ (i : Nat) (gn : List (List UInt8)) (ga : Option Addr) (gc : Nat) (es9 : List (List UInt8 × Value)) (D : Base), x7 = .slice ga gn.length gc ∧ x15 = vI i ∧ i ≤ ks.length ∧ B.Le D ∧ gn = dropK M clk (ks.take i) ∧ SeenK es9 gn ∧ Inv D (Res.row 9 1 (.slice ga gn.length gc) gn.length (textCells gn) :: Res.vmap mp5 es9 :: Res.cell v [.iface 100 (vP t)] 56 :: txR t m s p wb va vc sv clk es :: Res.cell b2 [vP v, .slice aa an ac] 80 :: H) wr) (fun x7 x15 _ => ks.length - (intOf x15).toNat)
 case atStart => exact ⟨0, [], none, 0, [], B, rfl, rfl, Nat.zero_le _, Base.Le.refl _, rfl, SeenK.nil, (((((hv.front 1 rfl).front 3 rfl).front 3 rfl).front 3 rfl)).rowNil 9 1⟩
 case round =>
  obtain ⟨i, gn, ga, gc, es9, D, rfl, rfl, hi, hBD, hgn, hsn, hv⟩ := hrel
  have hgl : gn.length ≤ i := by rw [hgn]; exact dropK_le i hi
  refine sK fun _ k11 => rL ?_
  by_cases hb12 : (i : Int) < (ks.length : Int)
  ·refine uG (.bool true) rfl (ex_lss rfl rfl rfl (qT hb12)) (uW k11 ?_)
   refine sK fun _ k13 => cT rfl (kS ?_)
   refine tK k13 (sK fun _ k14 => ?_)
   refine bB (sK fun _ k15 => ?_)
   obtain ⟨x, hx⟩ : ∃ x, ks[i]? = some x := ⟨_, List.getElem?_eq_getElem (show i < ks.length by omega)⟩
   obtain ⟨kb, ko, had, hrdx⟩ := text_reads hrk hx
   subst had
   refine rL (uG (.pointer (some ⟨kb, ko + i, none⟩)) rfl (ex_index rfl rfl rfl (run_idx1 (k := i) Tryz.underlying26 s9es26 (by omega))) ?_)
   refine uL _ rfl (run_load1 s9na9 (hrdx _ _ _ hBD no_res hv 0 _ rfl)) (uA rfl ?_)
   refine uW k15 (sK fun _ k16 => ?_)
   refine sK fun _ k17 => rL (uM rfl ?_)
   refine uM rfl ?_
   rcases hsn x with ⟨hl, hsk⟩ | ⟨hl, hsk⟩
   ·refine uG (.tuple #[.agg #[], .bool false]) rfl (ex_lookN (z := .agg #[]) 1 rfl rfl rfl Tryz.underlying142 Tryz.underlying9 (fun w => by kernel_rfl) hv rfl hl) (uM rfl ?_)
    refine uE rfl (uE rfl ?_)
    refine sl_alloc tV (wn rfl) rfl hv k8al97 (fun b18 w19 hv => ?_)
    refine xS 0 rfl hv k8sz97 rfl (by exact trivial) (fun w20 hv => ?_)
    simp only [zO, sp] at hv
    refine uA rfl (uW k17 ?_)
    refine sK fun _ k21 => rL (uM rfl ?_)
    refine uM rfl ?_
    refine uL (.agg #[vP v, .slice aa an ac]) rfl (lM 5 k6wd80 hv rfl rfl rfl rfl) ?_
    refine uM rfl ?_
    replace hv := hv.front 4 rfl
    simp only [eS, eZ] at hv
    replace hv := hv.front 4 rfl
    simp only [eS, eZ] at hv
    refine xC k6callable76 rfl ((ckHas D _ _ v t m s p wb va vc sv clk es M (hM.more hBD) aa an ac x hv).mono ?_) rfl
    rintro e w22 ⟨P, b1, hP, rfl, hh, hv⟩
    refine ⟨_, rfl, ?_⟩
    rcases hh with ⟨rfl, hg⟩ | ⟨rfl, hg⟩
    ·refine uG (.bool false) rfl (ex_not rfl rfl rfl) (uK rfl ?_)
     refine uW k21 (cF rfl ?_)
     refine kS (tK k16 ?_)
     refine sK fun _ k23 => rL (uM rfl ?_)
     refine uM rfl ?_
     refine uG (.agg #[]) rfl (ex_buildN (vs := #[]) rfl (by simp only [List.map_toArray, List.map_nil]) (by kernel_rfl)) ?_
     replace hv := hv.front 4 rfl
     simp only [eS, eZ] at hv
     refine sl_updV (k := x) (v := .agg #[]) tV (wn rfl) rfl rfl rfl rfl Tryz.underlying142 Tryz.underlying9 hv (fun w24 hv => ?_)
     refine uW k23 (rL ?_)
     refine uM rfl (uM rfl ?_)
     refine sl_rowOne (v := vS x) tV (wn rfl) rfl rfl hv k8el26 rfl (fun b25 w26 hv => ?_)
     simp only [zP, po]
     replace hv := hv.front 5 rfl
     simp only [eS, eZ] at hv
     refine sl_append (news := [vS x]) tV (wn rfl) rfl rfl rfl k8el26 hv (ok_full (by omega)) rfl (rd_all (hv.get 1 rfl)) (by intro u hu; simp only [List.mem_cons, List.not_mem_nil, or_false] at hu; rcases hu with rfl <;> rfl) (by unfold maxLen; omega) (by omega) (fun rv27 w30 hv => ?_)
     obtain ⟨ra28, rc29, rfl⟩ := row_slice hv.head
     refine uA rfl (uZ ?_)
     refine bN (tK k14 ?_)
     refine rL (uG (vI ((i + 1 : Nat) : Int)) rfl (ex_add rfl rfl rfl (by rw [i64_in (by omega)]; omega)) ?_)
     refine uM rfl (uZ ?_)
     refine then_normal ?_
     go_roundw
     case rel => exact ⟨i + 1, gn ++ [x], _, _, _, P, by rw [List.length_append, List.length_singleton], rfl, by omega, (hBD.trans hP), by rw [dropK_next hx, ← hgn, stepK_add hsk hg], hsn.upd, by rw [List.length_append, List.length_singleton, ← text_snoc]; exact (hv.kp [6, 5, 5, 5, 4] 5 2)⟩
     case measure => show ks.length - (((i + 1 : Nat) : Int)).toNat < ks.length - ((i : Int)).toNat; omega
    refine uG (.bool true) rfl (ex_not rfl rfl rfl) (uK rfl ?_)
    refine uW k21 (cT rfl ?_)
    refine xE (tX ?_)
    refine bH (tK k14 ?_)
    refine rL (uG (vI ((i + 1 : Nat) : Int)) rfl (ex_add rfl rfl rfl (by rw [i64_in (by omega)]; omega)) ?_)
    refine uM rfl (uZ ?_)
    refine then_normal ?_
    go_roundw
    case rel => exact ⟨i + 1, gn, ga, gc, es9, P, rfl, rfl, by omega, (hBD.trans hP), by rw [dropK_next hx, ← hgn, stepK_no hg], hsn, (hv.kp [5, 2, 2, 5, 5] 5 1)⟩
    case measure => show ks.length - (((i + 1 : Nat) : Int)).toNat < ks.length - ((i : Int)).toNat; omega
   refine uG (.tuple #[.agg #[], .bool true]) rfl (ex_lookS (z := .agg #[]) 1 rfl rfl rfl Tryz.underlying142 Tryz.underlying9 (fun w => by kernel_rfl) hv rfl hl) (uM rfl ?_)
   refine uE rfl (uE rfl ?_)
   refine sl_alloc tV (wn rfl) rfl hv k8al97 (fun b31 w32 hv => ?_)
   refine xS 0 rfl hv k8sz97 rfl (by exact trivial) (fun w33 hv => ?_)
   simp only [zO, sp] at hv
   refine uA rfl (uW k17 ?_)
   refine sK fun _ k34 => rL (uM rfl ?_)
   refine uM rfl ?_
   iterate 4 refine uP rfl ?_
   refine uK rfl (uW k34 ?_)
   refine cT rfl (xE ?_)
   refine tX (bH ?_)
   refine tK k14 (rL ?_)
   refine uG (vI ((i + 1 : Nat) : Int)) rfl (ex_add rfl rfl rfl (by rw [i64_in (by omega)]; omega)) (uM rfl ?_)
   refine uZ (then_normal ?_)
   go_roundw
   case rel => exact ⟨i + 1, gn, ga, gc, es9, D, rfl, rfl, by omega, hBD, by rw [dropK_next hx, ← hgn, stepK_in hsk], hsn, (hv.kp [5, 5, 5, 5, 5] 5 1)⟩
   case measure => show ks.length - (((i + 1 : Nat) : Int)).toNat < ks.length - ((i : Int)).toNat; omega
  refine uG (.bool false) rfl (ex_lss rfl rfl rfl (qF hb12)) (uW k11 ?_)
  refine sK fun _ k35 => cF rfl (xE ?_)
  refine tX (tX ?_)
  refine bH (tK k8 ?_)
  refine sK fun _ k36 => rL (uM rfl ?_)
  refine uG (vI (gn.length : Int)) rfl (ex_len0 Tryz.underlying26 rfl rfl) ?_
  refine uF (vP b2) rfl (k1fa80_0 _ _ _) ?_
  refine uL _ rfl (run_load1 k1na24 (hv.load 4 0 rfl rfl)) ?_
  refine uG (vP v) rfl (ex_nil rfl rfl) ?_
  refine uF (vP v) rfl (v1fa56_0 _ _ _) ?_
  refine uL _ rfl (run_load1 v1na54 (hv.load 2 0 rfl rfl)) (uM rfl ?_)
  obtain ⟨E, hE, hv, hrg, -, -⟩ := hv.rowBy
  replace hv := hv.front 2 rfl
  simp only [eS, eZ] at hv
  refine wpi_callI v1callable214 tV wideC rfl (wn rfl) rfl rfl (r := vP t) (fun w => by kernel_rfl) (args := #[.slice ga gn.length gc]) (by simp only [List.map_toArray, List.map_cons, List.map_nil]; rfl) ((txnDel E _ _ t m s p wb va vc sv clk es M ga gc gn hrg (by omega) (hM.more (hBD.trans hE)) hv).mono ?_)
  rintro e w37 ⟨es2, e2, rfl, hdel, hv⟩
  refine ⟨_, rfl, ?_⟩
  obtain ⟨M2, hM2, hdl⟩ := delI_of (hM.more (hBD.trans hE)) hdel
  refine uA rfl (uA rfl ?_)
  refine uW k36 (rR ?_)
  refine bodyPost_ret (results_tmp2 rfl _ _ _) rfl ?_
  obtain rfl : i = ks.length := by omega
  rw [List.take_length] at hgn
  exact ⟨E, es2, M2, e2, (hBD.trans hE), by rw [hgn]; rfl, hM2, by rw [← hgn]; exact hdl, (hv.kp [2] 2 2)⟩
theorem k9al34 : AL Tryz.prog 34 [vI 0, vS [], vI 0, vN] := fun w => by kernel_rfl
theorem ckDoRename (B : Base) (H : List Res) (w : World) (v t m s p wb : Nat) (va : Option Addr) (vc : Nat) (sv : Value) (clk : Int) (es : List (List UInt8 × Value)) (M : List (List UInt8 × Ver)) (hM : VM B es M) (aa : Option Addr) (ac : Nat) (args : List (List UInt8)) (hra : RdV B [] aa (textCells args)) (hoka : SliceOk aa args.length ac) (hma : args.length ≤ 1000) (k l : List UInt8) (hk : args[0]? = some k) (hl : args[1]? = some l) (hv : Inv B (Res.cell v [.iface 100 (vP t)] 56 :: txR t m s p wb va vc sv clk es :: H) w) :
  Calls Tryz.prog 31 #[.agg #[vP v, .slice aa args.length ac], vS [82, 69, 78, 65, 77, 69]] w fun e w' => ∃ C es' M' r cs, B.Le C ∧ e = .returned (.agg cs.toArray) ∧ RpAt C r cs ∧ VM C es' M' ∧ RenameR M clk k l M' r ∧ Inv C (Res.cell v [.iface 100 (vP t)] 56 :: txR t m s p wb va vc sv clk es' :: H) w' := by
 refine cW Tryz.func31 rfl Tryz.ntmps31 ?_
 simp only [al]
 refine sK fun _ k1 => rL (sl_box (L := [vP v, .slice aa args.length ac]) tV (wn rfl) rfl rfl hv (fun w => by kernel_rfl) (fun b2 w3 hv => ?_))
 simp only [zP, po]
 refine sl_alloc tV (wn rfl) rfl hv k9al34 (fun b4 w5 hv => ?_)
 refine uW k1 (sK fun _ k6 => ?_)
 refine rL (uF (.pointer (some ⟨b2, 1, none⟩)) rfl (k2fa80_1 _ _ _) ?_)
 refine uL _ rfl (run_load1 s1na26 (hv.load 1 1 rfl rfl)) (uA rfl ?_)
 refine uW k6 (sK fun _ k7 => ?_)
 refine sK fun _ k8 => rL (uM rfl ?_)
 refine uW k8 (bB ?_)
 refine sK fun _ k9 => rL (uG (.bool false) rfl (ex_seql rfl rfl rfl (qF (by decide))) ?_)
 refine uA rfl (uW k9 ?_)
 refine cF rfl (sK fun _ k10 => ?_)
 refine rL (uG (.bool false) rfl (ex_seql rfl rfl rfl (qF (by decide))) ?_)
 refine uA rfl (uW k10 ?_)
 refine cF rfl (sK fun _ k11 => ?_)
 refine rL (uG (.bool false) rfl (ex_seql rfl rfl rfl (qF (by decide))) ?_)
 refine uA rfl (uW k11 ?_)
 refine cF rfl (sK fun _ k12 => ?_)
 refine rL (uG (.bool false) rfl (ex_seql rfl rfl rfl (qF (by decide))) ?_)
 refine uA rfl (uW k12 ?_)
 refine cF rfl (sK fun _ k13 => ?_)
 refine sK fun _ k14 => rL (uG (.bool false) rfl (ex_seql rfl rfl rfl (qF (by decide))) ?_)
 refine uA rfl (uW k14 ?_)
 refine cF rfl (rL ?_)
 refine uG (.bool false) rfl (ex_seql rfl rfl rfl (qF (by decide))) (uA rfl ?_)
 refine uW k13 (cF rfl ?_)
 refine sK fun _ k15 => rL (uG (.bool false) rfl (ex_seql rfl rfl rfl (qF (by decide))) ?_)
 refine uA rfl (uW k15 ?_)
 refine cF rfl (sK fun _ k16 => ?_)
 refine rL (uG (.bool false) rfl (ex_seql rfl rfl rfl (qF (by decide))) ?_)
 refine uA rfl (uW k16 ?_)
 refine cF rfl (sK fun _ k17 => ?_)
 refine rL (uG (.bool true) rfl (ex_seql rfl rfl rfl (qT (by decide))) ?_)
 refine uA rfl (uW k17 ?_)
 refine cT rfl (sK fun _ k18 => ?_)
 have hal := (List.getElem?_eq_some_iff.1 hl).1
 obtain ⟨ab, ao, had, hrdk⟩ := text_reads hra hk
 obtain ⟨ab9, ao9, had9, hrdl⟩ := text_reads hra hl
 subst had
 cases had9
 refine rW mixed [7, 8] [0,1,2,3,4,5,6,7,8] 178 rfl (by kernel_rfl) hv ?_
 simp only [qm, opAt]
 refine dL (.agg #[vP v, .slice (some ⟨ab, ao, none⟩) args.length ac]) rfl (fun hv => ex_load rfl rfl (lM 1 k2wd80 hv rfl rfl rfl rfl)) (dM (.slice (some ⟨ab, ao, none⟩) args.length ac) rfl ?_)
 refine dG (.pointer (some ⟨ab, ao + 0, none⟩)) rfl (ex_index rfl rfl rfl (run_idx1 (k := 0) Tryz.underlying26 s9es26 (by omega))) ?_
 simp only [zP, po]
 refine dL _ rfl (fun hv => ex_load rfl rfl (run_load1 s9na9 (hrdk _ _ _ (Base.Le.refl _) no_res hv 0 _ rfl))) (dM (.slice (some ⟨ab, ao, none⟩) args.length ac) rfl ?_)
 refine dG (.pointer (some ⟨ab, ao + 1, none⟩)) rfl (ex_index rfl rfl rfl (run_idx1 (k := 1) Tryz.underlying26 s9es26 (by omega))) ?_
 simp only [zP, po]
 refine dL _ rfl (fun hv => ex_load rfl rfl (run_load1 s9na9 (hrdl _ _ _ (Base.Le.refl _) no_res hv 0 _ rfl))) (dS rfl fun w19 hv => ?_)
 replace hv := hv.front 3 rfl
 simp only [eS, eZ] at hv
 replace hv := hv.front 3 rfl
 simp only [eS, eZ] at hv
 refine mC k6callable61 rfl ((ckRename B _ _ v t m s p wb va vc sv clk es M (hM.more (Base.Le.refl _)) (some ⟨ab, ao, none⟩) args.length ac k l hv).mono ?_) rfl
 rintro e w20 ⟨D, es1, M1, r1, cs, hD, rfl, hrp, hM1, hrel, hv⟩
 obtain ⟨rk, rs, rn, rv, rfl⟩ := rp_parts hrp
 refine ⟨_, rfl, dW hv ?_⟩
 refine dS rfl fun w21 hv => mS 2 rfl hv rssz34 rfl (by exact ⟨rfl, rfl, rfl, hrp.lv.2, trivial⟩) (fun w22 hv => ?_)
 simp only [zS, zO, sp] at hv
 refine dW hv (dE fun w23 hv => ?_)
 simp only [zP, po]
 refine tK k18 (rR ?_)
 refine bZ (tR ?_)
 refine bC 2 rswd34 hv rfl rfl rfl rfl (⟨D, es1, M1, r1, _, hD, rfl, (hrp.more (Base.Le.refl _)), hM1.more (Base.Le.refl _), hrel, (hv.kp [1, 1] 2 2)⟩)
theorem k9callable62 : Callable Tryz.prog 62 := cb Tryz.func62 (by kernel_rfl)
theorem ckDoRenamenx (B : Base) (H : List Res) (w : World) (v t m s p wb : Nat) (va : Option Addr) (vc : Nat) (sv : Value) (clk : Int) (es : List (List UInt8 × Value)) (M : List (List UInt8 × Ver)) (hM : VM B es M) (aa : Option Addr) (ac : Nat) (args : List (List UInt8)) (hra : RdV B [] aa (textCells args)) (hoka : SliceOk aa args.length ac) (hma : args.length ≤ 1000) (k l : List UInt8) (hk : args[0]? = some k) (hl : args[1]? = some l) (hv : Inv B (Res.cell v [.iface 100 (vP t)] 56 :: txR t m s p wb va vc sv clk es :: H) w) :
  Calls Tryz.prog 31 #[.agg #[vP v, .slice aa args.length ac], vS [82, 69, 78, 65, 77, 69, 78, 88]] w fun e w' => ∃ C es' M' r cs, B.Le C ∧ e = .returned (.agg cs.toArray) ∧ RpAt C r cs ∧ VM C es' M' ∧ RenamenxR M clk k l M' r ∧ Inv C (Res.cell v [.iface 100 (vP t)] 56 :: txR t m s p wb va vc sv clk es' :: H) w' := by
 refine cW Tryz.func31 rfl Tryz.ntmps31 ?_
 simp only [al]
 refine sK fun _ k1 => rL (sl_box (L := [vP v, .slice aa args.length ac]) tV (wn rfl) rfl rfl hv (fun w => by kernel_rfl) (fun b2 w3 hv => ?_))
 simp only [zP, po]
 refine sl_alloc tV (wn rfl) rfl hv k9al34 (fun b4 w5 hv => ?_)
 refine uW k1 (sK fun _ k6 => ?_)
 refine rL (uF (.pointer (some ⟨b2, 1, none⟩)) rfl (k2fa80_1 _ _ _) ?_)
 refine uL _ rfl (run_load1 s1na26 (hv.load 1 1 rfl rfl)) (uA rfl ?_)
 refine uW k6 (sK fun _ k7 => ?_)
 refine sK fun _ k8 => rL (uM rfl ?_)
 refine uW k8 (bB ?_)
 refine sK fun _ k9 => rL (uG (.bool false) rfl (ex_seql rfl rfl rfl (qF (by decide))) ?_)
 refine uA rfl (uW k9 ?_)
 refine cF rfl (sK fun _ k10 => ?_)
 refine rL (uG (.bool false) rfl (ex_seql rfl rfl rfl (qF (by decide))) ?_)
 refine uA rfl (uW k10 ?_)
 refine cF rfl (sK fun _ k11 => ?_)
 refine rL (uG (.bool false) rfl (ex_seql rfl rfl rfl (qF (by decide))) ?_)
 refine uA rfl (uW k11 ?_)
 refine cF rfl (sK fun _ k12 => ?_)
 refine rL (uG (.bool false) rfl (ex_seql rfl rfl rfl (qF (by decide))) ?_)
 refine uA rfl (uW k12 ?_)
 refine cF rfl (sK fun _ k13 => ?_)
 refine sK fun _ k14 => rL (uG (.bool false) rfl (ex_seql rfl rfl rfl (qF (by decide))) ?_)
 refine uA rfl (uW k14 ?_)
 refine cF rfl (rL ?_)
 refine uG (.bool false) rfl (ex_seql rfl rfl rfl (qF (by decide))) (uA rfl ?_)
 refine uW k13 (cF rfl ?_)
 refine sK fun _ k15 => rL (uG (.bool false) rfl (ex_seql rfl rfl rfl (qF (by decide))) ?_)
 refine uA rfl (uW k15 ?_)
 refine cF rfl (sK fun _ k16 => ?_)
 refine rL (uG (.bool false) rfl (ex_seql rfl rfl rfl (qF (by decide))) ?_)
 refine uA rfl (uW k16 ?_)
 refine cF rfl (sK fun _ k17 => ?_)
 refine rL (uG (.bool false) rfl (ex_seql rfl rfl rfl (qF (by decide))) ?_)
 refine uA rfl (uW k17 ?_)
 refine cF rfl (sK fun _ k18 => ?_)
 refine rL (uG (.bool true) rfl (ex_seql rfl rfl rfl (qT (by decide))) ?_)
 refine uA rfl (uW k18 ?_)
 refine cT rfl (sK fun _ k19 => ?_)
 have hal := (List.getElem?_eq_some_iff.1 hl).1
 obtain ⟨ab, ao, had, hrdk⟩ := text_reads hra hk
 obtain ⟨ab9, ao9, had9, hrdl⟩ := text_reads hra hl
 subst had
 cases had9
 refine rW mixed [7, 8] [0,1,2,3,4,5,6,7,8] 178 rfl (by kernel_rfl) hv ?_
 simp only [qm, opAt]
 refine dL (.agg #[vP v, .slice (some ⟨ab, ao, none⟩) args.length ac]) rfl (fun hv => ex_load rfl rfl (lM 1 k2wd80 hv rfl rfl rfl rfl)) (dM (.slice (some ⟨ab, ao, none⟩) args.length ac) rfl ?_)
 refine dG (.pointer (some ⟨ab, ao + 0, none⟩)) rfl (ex_index rfl rfl rfl (run_idx1 (k := 0) Tryz.underlying26 s9es26 (by omega))) ?_
 simp only [zP, po]
 refine dL _ rfl (fun hv => ex_load rfl rfl (run_load1 s9na9 (hrdk _ _ _ (Base.Le.refl _) no_res hv 0 _ rfl))) (dM (.slice (some ⟨ab, ao, none⟩) args.length ac) rfl ?_)
 refine dG (.pointer (some ⟨ab, ao + 1, none⟩)) rfl (ex_index rfl rfl rfl (run_idx1 (k := 1) Tryz.underlying26 s9es26 (by omega))) ?_
 simp only [zP, po]
 refine dL _ rfl (fun hv => ex_load rfl rfl (run_load1 s9na9 (hrdl _ _ _ (Base.Le.refl _) no_res hv 0 _ rfl))) (dS rfl fun w20 hv => ?_)
 replace hv := hv.front 3 rfl
 simp only [eS, eZ] at hv
 replace hv := hv.front 3 rfl
 simp only [eS, eZ] at hv
 refine mC k9callable62 rfl ((ckRenamenx B _ _ v t m s p wb va vc sv clk es M (hM.more (Base.Le.refl _)) (some ⟨ab, ao, none⟩) args.length ac k l hv).mono ?_) rfl
 rintro e w21 ⟨D, es1, M1, r1, cs, hD, rfl, hrp, hM1, hrel, hv⟩
 obtain ⟨rk, rs, rn, rv, rfl⟩ := rp_parts hrp
 refine ⟨_, rfl, dW hv ?_⟩
 refine dS rfl fun w22 hv => mS 2 rfl hv rssz34 rfl (by exact ⟨rfl, rfl, rfl, hrp.lv.2, trivial⟩) (fun w23 hv => ?_)
 simp only [zS, zO, sp] at hv
 refine dW hv (dE fun w24 hv => ?_)
 simp only [zP, po]
 refine tK k19 (rR ?_)
 refine bZ (tR ?_)
 refine bC 2 rswd34 hv rfl rfl rfl rfl (⟨D, es1, M1, r1, _, hD, rfl, (hrp.more (Base.Le.refl _)), hM1.more (Base.Le.refl _), hrel, (hv.kp [1, 1] 2 2)⟩)
theorem kAal34 : AL Tryz.prog 34 [vI 0, vS [], vI 0, vN] := fun w => by kernel_rfl
theorem kAcallable53 : Callable Tryz.prog 53 := cb Tryz.func53 (by kernel_rfl)
theorem ckDoCopy (B : Base) (H : List Res) (w : World) (v t m s p wb : Nat) (va : Option Addr) (vc : Nat) (sv : Value) (clk : Int) (es : List (List UInt8 × Value)) (M : List (List UInt8 × Ver)) (hM : VM B es M) (aa : Option Addr) (ac : Nat) (args : List (List UInt8)) (hra : RdV B [] aa (textCells args)) (hoka : SliceOk aa args.length ac) (hma : args.length ≤ 1000) (k l : List UInt8) (hk : args[0]? = some k) (hl : args[1]? = some l) (hxl : ∀ x ∈ args, x.length ≤ 9223372036854775807) (hv : Inv B (Res.cell v [.iface 100 (vP t)] 56 :: txR t m s p wb va vc sv clk es :: H) w) :
  Calls Tryz.prog 31 #[.agg #[vP v, .slice aa args.length ac], vS [67, 79, 80, 89]] w fun e w' => ∃ C es' M' r cs, B.Le C ∧ e = .returned (.agg cs.toArray) ∧ RpAt C r cs ∧ VM C es' M' ∧ CopyR M clk k l (args.drop 2) M' r ∧ Inv C (Res.cell v [.iface 100 (vP t)] 56 :: txR t m s p wb va vc sv clk es' :: H) w' := by
 refine cW Tryz.func31 rfl Tryz.ntmps31 ?_
 simp only [al]
 refine sK fun _ k1 => rL (sl_box (L := [vP v, .slice aa args.length ac]) tV (wn rfl) rfl rfl hv (fun w => by kernel_rfl) (fun b2 w3 hv => ?_))
 simp only [zP, po]
 refine sl_alloc tV (wn rfl) rfl hv kAal34 (fun b4 w5 hv => ?_)
 refine uW k1 (sK fun _ k6 => ?_)
 refine rL (uF (.pointer (some ⟨b2, 1, none⟩)) rfl (k2fa80_1 _ _ _) ?_)
 refine uL _ rfl (run_load1 s1na26 (hv.load 1 1 rfl rfl)) (uA rfl ?_)
 refine uW k6 (sK fun _ k7 => ?_)
 refine sK fun _ k8 => rL (uM rfl ?_)
 refine uW k8 (bB ?_)
 refine sK fun _ k9 => rL (uG (.bool true) rfl (ex_seql rfl rfl rfl (qT (by decide))) ?_)
 refine uA rfl (uW k9 ?_)
 refine cT rfl (sK fun _ k10 => ?_)
 have hal2 := (List.getElem?_eq_some_iff.1 hl).1
 have hd2 : (args.drop 2).length = args.length - 2 := List.length_drop
 obtain ⟨a3, c3, ha3, ok3, hr3⟩ := sliced_fromV 1 hoka hra (textCells_len args) (show 2 ≤ args.length by omega) (by decide)
 rw [Nat.mul_one, tx_drop] at hr3
 rw [← hd2] at ok3
 have hal := (List.getElem?_eq_some_iff.1 hl).1
 obtain ⟨ab, ao, had, hrdk⟩ := text_reads hra hk
 obtain ⟨ab9, ao9, had9, hrdl⟩ := text_reads hra hl
 subst had
 cases had9
 refine rW mixed [9, 10] [0,1,2,3,4,5,6,7,8,9,10] 178 rfl (by kernel_rfl) hv ?_
 simp only [qm, opAt]
 refine dL (.agg #[vP v, .slice (some ⟨ab, ao, none⟩) args.length ac]) rfl (fun hv => ex_load rfl rfl (lM 1 k2wd80 hv rfl rfl rfl rfl)) (dM (.slice (some ⟨ab, ao, none⟩) args.length ac) rfl ?_)
 refine dG (.pointer (some ⟨ab, ao + 0, none⟩)) rfl (ex_index rfl rfl rfl (run_idx1 (k := 0) Tryz.underlying26 s9es26 (by omega))) ?_
 simp only [zP, po]
 refine dL _ rfl (fun hv => ex_load rfl rfl (run_load1 s9na9 (hrdk _ _ _ (Base.Le.refl _) no_res hv 0 _ rfl))) (dM (.slice (some ⟨ab, ao, none⟩) args.length ac) rfl ?_)
 refine dG (.pointer (some ⟨ab, ao + 1, none⟩)) rfl (ex_index rfl rfl rfl (run_idx1 (k := 1) Tryz.underlying26 s9es26 (by omega))) ?_
 simp only [zP, po]
 refine dL _ rfl (fun hv => ex_load rfl rfl (run_load1 s9na9 (hrdl _ _ _ (Base.Le.refl _) no_res hv 0 _ rfl))) (dM (.slice (some ⟨ab, ao, none⟩) args.length ac) rfl ?_)
 refine dG (.slice a3 ((args.drop 2).length) c3) rfl (ex_slice (lo' := some (vI ((2 : Nat) : Int))) rfl rfl (congrArg some rfl) rfl rfl ((run_fromAny Tryz.underlying26 s9es26 (by omega)).trans (by rw [ha3, hd2]))) ?_
 simp only [zP, po]
 refine dS rfl fun w11 hv => ?_
 replace hv := hv.front 3 rfl
 simp only [eS, eZ] at hv
 replace hv := hv.front 3 rfl
 simp only [eS, eZ] at hv
 refine mC kAcallable53 rfl ((ckCopy B _ _ v t m s p wb va vc sv clk es M (hM.more (Base.Le.refl _)) (some ⟨ab, ao, none⟩) args.length ac k l a3 c3 (args.drop 2) hr3 (fun x hx => hxl x (List.mem_of_mem_drop hx)) hv).mono ?_) rfl
 rintro e w12 ⟨D, es1, M1, r1, cs, hD, rfl, hrp, hM1, hrel, hv⟩
 obtain ⟨rk, rs, rn, rv, rfl⟩ := rp_parts hrp
 refine ⟨_, rfl, dW hv ?_⟩
 refine dS rfl fun w13 hv => mS 2 rfl hv rssz34 rfl (by exact ⟨rfl, rfl, rfl, hrp.lv.2, trivial⟩) (fun w14 hv => ?_)
 simp only [zS, zO, sp] at hv
 refine dW hv (dE fun w15 hv => ?_)
 simp only [zP, po]
 refine tK k10 (rR ?_)
 refine bZ (tR ?_)
 refine bC 2 rswd34 hv rfl rfl rfl rfl (⟨D, es1, M1, r1, _, hD, rfl, (hrp.more (Base.Le.refl _)), hM1.more (Base.Le.refl _), hrel, (hv.kp [1, 1] 2 2)⟩)
theorem kAcallable55 : Callable Tryz.prog 55 := cb Tryz.func55 (by kernel_rfl)
theorem ckDoDel (B : Base) (H : List Res) (w : World) (v t m s p wb : Nat) (va : Option Addr) (vc : Nat) (sv : Value) (clk : Int) (es : List (List UInt8 × Value)) (M : List (List UInt8 × Ver)) (hM : VM B es M) (aa : Option Addr) (ac : Nat) (args : List (List UInt8)) (hra : RdV B [] aa (textCells args)) (_ : SliceOk aa args.length ac) (hma : args.length ≤ 1000) (hv : Inv B (Res.cell v [.iface 100 (vP t)] 56 :: txR t m s p wb va vc sv clk es :: H) w) :
  Calls Tryz.prog 31 #[.agg #[vP v, .slice aa args.length ac], vS [68, 69, 76]] w fun e w' => ∃ C es' M' r cs, B.Le C ∧ e = .returned (.agg cs.toArray) ∧ RpAt C r cs ∧ VM C es' M' ∧ (∃ e1, DelI M (dropK M clk args) e1 M' ∧ DoneR e1 (rInt ((dropK M clk args).length : Int)) r) ∧ Inv C (Res.cell v [.iface 100 (vP t)] 56 :: txR t m s p wb va vc sv clk es' :: H) w' := by
 refine cW Tryz.func31 rfl Tryz.ntmps31 ?_
 simp only [al]
 refine sK fun _ k1 => rL (sl_box (L := [vP v, .slice aa args.length ac]) tV (wn rfl) rfl rfl hv (fun w => by kernel_rfl) (fun b2 w3 hv => ?_))
 simp only [zP, po]
 refine sl_alloc tV (wn rfl) rfl hv kAal34 (fun b4 w5 hv => ?_)
 refine uW k1 (sK fun _ k6 => ?_)
 refine rL (uF (.pointer (some ⟨b2, 1, none⟩)) rfl (k2fa80_1 _ _ _) ?_)
 refine uL _ rfl (run_load1 s1na26 (hv.load 1 1 rfl rfl)) (uA rfl ?_)
 refine uW k6 (sK fun _ k7 => ?_)
 refine sK fun _ k8 => rL (uM rfl ?_)
 refine uW k8 (bB ?_)
 refine sK fun _ k9 => rL (uG (.bool false) rfl (ex_seql rfl rfl rfl (qF (by decide))) ?_)
 refine uA rfl (uW k9 ?_)
 refine cF rfl (sK fun _ k10 => ?_)
 refine rL (uG (.bool false) rfl (ex_seql rfl rfl rfl (qF (by decide))) ?_)
 refine uA rfl (uW k10 ?_)
 refine cF rfl (sK fun _ k11 => ?_)
 refine rL (uG (.bool true) rfl (ex_seql rfl rfl rfl (qT (by decide))) ?_)
 refine uA rfl (uW k11 ?_)
 refine cT rfl (sK fun _ k12 => ?_)
 refine rL (uL (.agg #[vP v, .slice aa args.length ac]) rfl (lM 1 k2wd80 hv rfl rfl rfl rfl) ?_)
 refine uM rfl ?_
 replace hv := hv.front 3 rfl
 simp only [eS, eZ] at hv
 replace hv := hv.front 3 rfl
 simp only [eS, eZ] at hv
 refine xC kAcallable55 rfl ((ckDrop B _ _ v t m s p wb va vc sv clk es M hM aa args.length ac aa ac args hra (by omega) hv).mono ?_) rfl
 rintro e w13 ⟨D, es1, M1, e1, hD, rfl, hM1, hdl, hv⟩
 refine ⟨_, rfl, uM rfl ?_⟩
 refine uE rfl (uE rfl ?_)
 refine uA rfl (uA rfl ?_)
 refine uW k12 (sK fun _ k14 => ?_)
 refine rL (uM rfl ?_)
 refine uM rfl ?_
 refine xC k6callable54 rfl ((respInt D _ _ ((dropK M clk args).length : Int) hv).mono ?_) rfl
 rintro e w15 ⟨rfl, hv⟩
 refine ⟨_, rfl, ?_⟩
 simp only [zP, po]
 refine xC k6callable56 rfl ((viewDone D _ _ e1 2 ((dropK M clk args).length : Int) ([] : List UInt8) (vN) rfl rfl hv).mono ?_) rfl
 rintro e w16 ⟨xr, hxr, rfl, hv⟩
 refine ⟨_, rfl, ?_⟩
 rcases hxr with ⟨hec0, rfl⟩ | ⟨hec0, s17, rfl⟩
 ·simp only [zP, po]
  refine xS 2 rfl hv rssz34 rfl (by exact ⟨rfl, rfl, rfl, rfl, trivial⟩) (fun w18 hv => ?_)
  simp only [zS, zO, sp] at hv
  refine uW k14 (rR ?_)
  refine bZ (tR ?_)
  refine bC 2 rswd34 hv rfl rfl rfl rfl (⟨D, es1, M1, (.mk 2 ([] : List UInt8) ((dropK M clk args).length : Int) []), _, hD, rfl, rpAt_leaf, hM1.more (Base.Le.refl _), ⟨e1, hdl, .inl ⟨by omega, rfl⟩⟩, (hv.kp [1, 1] 2 2)⟩)
 simp only [zP, po]
 refine xS 2 rfl hv rssz34 rfl (by exact ⟨rfl, rfl, rfl, rfl, trivial⟩) (fun w19 hv => ?_)
 simp only [zS, zO, sp] at hv
 refine uW k14 (rR ?_)
 refine bZ (tR ?_)
 refine bC 2 rswd34 hv rfl rfl rfl rfl (⟨D, es1, M1, (.mk 1 s17 0 []), _, hD, rfl, rpAt_leaf, hM1.more (Base.Le.refl _), ⟨e1, hdl, .inr ⟨by omega, rfl⟩⟩, (hv.kp [1, 1] 2 2)⟩)
theorem ckDoSize (B : Base) (H : List Res) (w : World) (v t m s p wb : Nat) (va : Option Addr) (vc : Nat) (sv : Value) (clk : Int) (es : List (List UInt8 × Value)) (M : List (List UInt8 × Ver)) (hM : VM B es M) (aa : Option Addr) (ac : Nat) (args : List (List UInt8)) (_ : RdV B [] aa (textCells args)) (_ : SliceOk aa args.length ac) (_ : args.length ≤ 1000) (hkl : ∀ k ∈ M.map (·.1), k.length ≤ 256) (hMl : M.length ≤ 1000000) (hv : Inv B (Res.cell v [.iface 100 (vP t)] 56 :: txR t m s p wb va vc sv clk es :: H) w) :
  Calls Tryz.prog 31 #[.agg #[vP v, .slice aa args.length ac], vS [68, 66, 83, 73, 90, 69]] w fun e w' => ∃ C es' M' r cs, B.Le C ∧ e = .returned (.agg cs.toArray) ∧ RpAt C r cs ∧ VM C es' M' ∧ (M' = M ∧ r = rInt ((namesT M clk).length : Int)) ∧ Inv C (Res.cell v [.iface 100 (vP t)] 56 :: txR t m s p wb va vc sv clk es' :: H) w' := by
 refine cW Tryz.func31 rfl Tryz.ntmps31 ?_
 simp only [al]
 refine sK fun _ k1 => rL (sl_box (L := [vP v, .slice aa args.length ac]) tV (wn rfl) rfl rfl hv (fun w => by kernel_rfl) (fun b2 w3 hv => ?_))
 simp only [zP, po]
 refine sl_alloc tV (wn rfl) rfl hv kAal34 (fun b4 w5 hv => ?_)
 refine uW k1 (sK fun _ k6 => ?_)
 refine rL (uF (.pointer (some ⟨b2, 1, none⟩)) rfl (k2fa80_1 _ _ _) ?_)
 refine uL _ rfl (run_load1 s1na26 (hv.load 1 1 rfl rfl)) (uA rfl ?_)
 refine uW k6 (sK fun _ k7 => ?_)
 refine sK fun _ k8 => rL (uM rfl ?_)
 refine uW k8 (bB ?_)
 refine sK fun _ k9 => rL (uG (.bool false) rfl (ex_seql rfl rfl rfl (qF (by decide))) ?_)
 refine uA rfl (uW k9 ?_)
 refine cF rfl (sK fun _ k10 => ?_)
 refine rL (uG (.bool true) rfl (ex_seql rfl rfl rfl (qT (by decide))) ?_)
 refine uA rfl (uW k10 ?_)
 refine cT rfl (sK fun _ k11 => ?_)
 refine rL (uF (vP b2) rfl (k1fa80_0 _ _ _) ?_)
 refine uL _ rfl (run_load1 k1na24 (hv.load 1 0 rfl rfl)) ?_
 refine uG (vP v) rfl (ex_nil rfl rfl) ?_
 refine uF (vP v) rfl (v1fa56_0 _ _ _) ?_
 refine uL _ rfl (run_load1 v1na54 (hv.load 2 0 rfl rfl)) ?_
 replace hv := hv.front 3 rfl
 simp only [eS, eZ] at hv
 refine wpi_callI k1callable216 tV wideC rfl (wn rfl) rfl rfl (r := vP t) (fun w => by kernel_rfl) (args := #[]) (by simp only [List.map_toArray, List.map_nil]) ((txnNamesC B _ _ t m s p wb va vc sv clk es M (hM.more (Base.Le.refl _)) hkl hMl hv).mono ?_)
 rintro e w12 ⟨C, na, nc, hC, rfl, hnr, hokn, hv⟩
 refine ⟨_, rfl, uG (vI (((namesT M clk).length) : Int)) rfl (ex_len0 Tryz.underlying26 rfl rfl) ?_⟩
 refine xC k6callable54 rfl ((respInt C _ _ (((namesT M clk).length) : Int) hv).mono ?_) rfl
 rintro e w13 ⟨rfl, hv⟩
 refine ⟨_, rfl, ?_⟩
 simp only [zP, po]
 refine xS 1 rfl hv rssz34 rfl (by exact ⟨rfl, rfl, rfl, rfl, trivial⟩) (fun w14 hv => ?_)
 simp only [zS, zO, sp] at hv
 refine uW k11 (rR ?_)
 refine bZ (tR ?_)
 refine bC 1 rswd34 hv rfl rfl rfl rfl (⟨C, es, M, (.mk 2 ([] : List UInt8) (((namesT M clk).length) : Int) []), _, hC, rfl, rpAt_leaf, hM.more hC, ⟨rfl, rfl⟩, (hv.kp [3] 2 2)⟩)
theorem kBal34 : AL Tryz.prog 34 [vI 0, vS [], vI 0, vN] := fun w => by kernel_rfl
theorem kBal50 : AL Tryz.prog 50 [vI 0, .bool false, vI 0, vI 0, vS [], vN, vN, vN] := fun w => by kernel_rfl
theorem ckDoExists (B : Base) (H : List Res) (w : World) (v t m s p wb : Nat) (va : Option Addr) (vc : Nat) (sv : Value) (clk : Int) (es : List (List UInt8 × Value)) (M : List (List UInt8 × Ver)) (hM : VM B es M) (aa : Option Addr) (ac : Nat) (args : List (List UInt8)) (hra : RdV B [] aa (textCells args)) (hoka : SliceOk aa args.length ac) (hma : args.length ≤ 1000) (hv : Inv B (Res.cell v [.iface 100 (vP t)] 56 :: txR t m s p wb va vc sv clk es :: H) w) :
  Calls Tryz.prog 31 #[.agg #[vP v, .slice aa args.length ac], vS [69, 88, 73, 83, 84, 83]] w fun e w' => ∃ C es' M' r cs, B.Le C ∧ e = .returned (.agg cs.toArray) ∧ RpAt C r cs ∧ VM C es' M' ∧ (M' = M ∧ r = rInt (manyK M clk args : Int)) ∧ Inv C (Res.cell v [.iface 100 (vP t)] 56 :: txR t m s p wb va vc sv clk es' :: H) w' := by
 refine cW Tryz.func31 rfl Tryz.ntmps31 ?_
 simp only [al]
 refine sK fun _ k1 => rL (sl_box (L := [vP v, .slice aa args.length ac]) tV (wn rfl) rfl rfl hv (fun w => by kernel_rfl) (fun b2 w3 hv => ?_))
 simp only [zP, po]
 refine sl_alloc tV (wn rfl) rfl hv kBal34 (fun b4 w5 hv => ?_)
 refine uW k1 (sK fun _ k6 => ?_)
 refine rL (uF (.pointer (some ⟨b2, 1, none⟩)) rfl (k2fa80_1 _ _ _) ?_)
 refine uL _ rfl (run_load1 s1na26 (hv.load 1 1 rfl rfl)) (uA rfl ?_)
 refine uW k6 (sK fun _ k7 => ?_)
 refine sK fun _ k8 => rL (uM rfl ?_)
 refine uW k8 (bB ?_)
 refine sK fun _ k9 => rL (uG (.bool false) rfl (ex_seql rfl rfl rfl (qF (by decide))) ?_)
 refine uA rfl (uW k9 ?_)
 refine cF rfl (sK fun _ k10 => ?_)
 refine rL (uG (.bool false) rfl (ex_seql rfl rfl rfl (qF (by decide))) ?_)
 refine uA rfl (uW k10 ?_)
 refine cF rfl (sK fun _ k11 => ?_)
 refine rL (uG (.bool false) rfl (ex_seql rfl rfl rfl (qF (by decide))) ?_)
 refine uA rfl (uW k11 ?_)
 refine cF rfl (sK fun _ k12 => ?_)
 refine rL (uG (.bool true) rfl (ex_seql rfl rfl rfl (qT (by decide))) ?_)
 refine uA rfl (uW k12 ?_)
 refine cT rfl (sK fun _ k13 => ?_)
 refine rL (uA rfl ?_)
 refine uW k13 (sK fun _ k14 => ?_)
 refine sK fun _ k15 => rL (uM rfl ?_)
 refine uG (vI (args.length : Int)) rfl (ex_len0 Tryz.underlying26 rfl rfl) (uM rfl ?_)
 refine uW k15 (bB ?_)
 gi_loopw [8, 58] (fun x8 x58 wr => ∃ (i n1 : Nat) (D : Base), x8 = vI n1 ∧ x58 = vI i ∧ i ≤ args.length ∧ B.Le D ∧ n1 = manyK M clk (args.take i) ∧ Inv D (Res.cell b4 [vI 0, vS [], vI 0, vN] 34 :: Res.cell b2 [vP v, .slice aa args.length ac] 80 :: Res.cell v [.iface 100 (vP t)] 56 :: txR t m s p wb va vc sv clk es :: H) wr) (fun x8 x58 _ => args.length - (intOf x58).toNat)
 case atStart => exact ⟨0, 0, B, rfl, rfl, Nat.zero_le _, Base.Le.refl _, rfl, hv⟩
 case round =>
  obtain ⟨i, n1, D, rfl, rfl, hi, hBD, hn1, hv⟩ := hrel
  have hnl : n1 ≤ i := by rw [hn1]; refine Nat.le_trans (List.length_filter_le _ _) ?_; rw [List.length_take]; omega
  refine sK fun _ k17 => rL ?_
  by_cases hb18 : (i : Int) < (args.length : Int)
  ·refine uG (.bool true) rfl (ex_lss rfl rfl rfl (qT hb18)) (uW k17 ?_)
   refine sK fun _ k19 => cT rfl (kS ?_)
   refine tK k19 (sK fun _ k20 => ?_)
   refine bB (sK fun _ k21 => ?_)
   obtain ⟨x, hx⟩ : ∃ x, args[i]? = some x := ⟨_, List.getElem?_eq_getElem (show i < args.length by omega)⟩
   obtain ⟨ab, ao, had, hrdx⟩ := text_reads hra hx
   subst had
   refine rL (uG (.pointer (some ⟨ab, ao + i, none⟩)) rfl (ex_index rfl rfl rfl (run_idx1 (k := i) Tryz.underlying26 s9es26 (by omega))) ?_)
   refine uL _ rfl (run_load1 s9na9 (hrdx _ _ _ hBD no_res hv 0 _ rfl)) (uA rfl ?_)
   refine uW k21 (sK fun _ k22 => ?_)
   refine rL (uF (vP b2) rfl (k1fa80_0 _ _ _) ?_)
   refine uL _ rfl (run_load1 k1na24 (hv.load 1 0 rfl rfl)) ?_
   refine uG (vP v) rfl (ex_nil rfl rfl) ?_
   refine uF (vP v) rfl (v1fa56_0 _ _ _) ?_
   refine uL _ rfl (run_load1 v1na54 (hv.load 2 0 rfl rfl)) (uM rfl ?_)
   replace hv := hv.front 3 rfl
   simp only [eS, eZ] at hv
   refine wpi_callI v1callable215 tV wideC rfl (wn rfl) rfl rfl (r := vP t) (fun w => by kernel_rfl) (args := #[vS x]) (by simp only [List.map_toArray, List.map_cons, List.map_nil]; rfl) ((txnGet D _ _ t m s p wb va vc sv clk es M x (hM.more hBD) hv).mono ?_)
   rintro e w23 ⟨G, y, yp, yt, yz, oky, hG, rfl, hgot, hyv, hv⟩
   refine ⟨_, rfl, ?_⟩
   rcases got_of hgot with ⟨rfl, hg⟩ | ⟨rfl, rfl, hg⟩
   ·refine uM rfl (uE rfl ?_)
    refine uE rfl ?_
    refine sl_alloc tV (wn rfl) rfl hv kBal50 (fun b24 w25 hv => ?_)
    simp only [zP, po]
    refine xS 0 rfl hv x0sz50 rfl (by exact ⟨rfl, rfl, rfl, rfl, rfl, hyv.p.one, hyv.t.one, hyv.z.one, trivial⟩) (fun w26 hv => ?_)
    simp only [zO, sp] at hv
    refine uA rfl (uW k22 ?_)
    refine sK fun _ k27 => rL (uM rfl ?_)
    refine uW k27 (cT rfl ?_)
    refine rL (uM rfl ?_)
    refine uG (vI ((n1 + 1 : Nat) : Int)) rfl (ex_add rfl rfl rfl (by rw [i64_in (by omega)]; omega)) (uA rfl ?_)
    refine uZ (bN ?_)
    refine tK k20 (rL ?_)
    refine uG (vI ((i + 1 : Nat) : Int)) rfl (ex_add rfl rfl rfl (by rw [i64_in (by omega)]; omega)) (uM rfl ?_)
    refine uZ (then_normal ?_)
    go_roundw
    case rel => exact ⟨i + 1, n1 + 1, G, rfl, rfl, by omega, (hBD.trans hG), by rw [manyK_yes hx hg, ← hn1], (hv.kp [1, 4, 4, 4] 4 1)⟩
    case measure => show args.length - (((i + 1 : Nat) : Int)).toNat < args.length - ((i : Int)).toNat; omega
   refine uM rfl (uE rfl ?_)
   refine uE rfl ?_
   refine sl_alloc tV (wn rfl) rfl hv kBal50 (fun b28 w29 hv => ?_)
   simp only [zP, po]
   refine xS 0 rfl hv x0sz50 rfl (by exact ⟨rfl, rfl, rfl, rfl, rfl, hyv.p.one, hyv.t.one, hyv.z.one, trivial⟩) (fun w30 hv => ?_)
   simp only [zO, sp] at hv
   refine uA rfl (uW k22 ?_)
   refine sK fun _ k31 => rL (uM rfl ?_)
   refine uW k31 (cF rfl ?_)
   refine kS (bN ?_)
   refine tK k20 (rL ?_)
   refine uG (vI ((i + 1 : Nat) : Int)) rfl (ex_add rfl rfl rfl (by rw [i64_in (by omega)]; omega)) (uM rfl ?_)
   refine uZ (then_normal ?_)
   go_roundw
   case rel => exact ⟨i + 1, n1, G, rfl, rfl, by omega, (hBD.trans hG), by rw [manyK_no hx hg, ← hn1], (hv.kp [1, 4, 4, 4] 4 1)⟩
   case measure => show args.length - (((i + 1 : Nat) : Int)).toNat < args.length - ((i : Int)).toNat; omega
  refine uG (.bool false) rfl (ex_lss rfl rfl rfl (qF hb18)) (uW k17 ?_)
  refine sK fun _ k32 => cF rfl (xE ?_)
  refine tX (tX ?_)
  refine bH (tK k14 ?_)
  refine sK fun _ k33 => rL (uM rfl ?_)
  refine xC k6callable54 rfl ((respInt D _ _ (n1 : Int) hv).mono ?_) rfl
  rintro e w34 ⟨rfl, hv⟩
  refine ⟨_, rfl, ?_⟩
  simp only [zP, po]
  refine xS 0 rfl hv rssz34 rfl (by exact ⟨rfl, rfl, rfl, rfl, trivial⟩) (fun w35 hv => ?_)
  simp only [zO, sp] at hv
  refine uW k33 (rR ?_)
  refine bZ (tR ?_)
  refine bC 0 rswd34 hv rfl rfl rfl rfl ?_
  obtain rfl : i = args.length := by omega
  rw [List.take_length] at hn1
  exact ⟨D, es, M, (.mk 2 ([] : List UInt8) (n1 : Int) []), _, hBD, rfl, rpAt_leaf, hM.more hBD, ⟨rfl, by rw [← hn1]; rfl⟩, (hv.kp [3, 3] 2 2)⟩
theorem kCal34 : AL Tryz.prog 34 [vI 0, vS [], vI 0, vN] := fun w => by kernel_rfl
theorem kCal4 : AL Tryz.prog 4 [.bool false] := fun w => by kernel_rfl
theorem kCal78 : AL Tryz.prog 78 [vS [], vI 0, vI 0] := fun w => by kernel_rfl
theorem kCrec28 (n : Nat) (x0 x1 : Value) (w : World) : CallsDIn Fence.wide n Tryz.prog 28 #[x0, x1] .returning w fun e u' w' => e = .returned (.tuple #[]) ∧ u' = .returning ∧ w' = w := by
 refine callsDIn_of_wpSIn Tryz.func28 rfl trivial fun c₀ cs hu => ?_
 apply wpSIn_seq
 apply wpSIn_region
 simp [wpOpsSIn, go_sem, recoverD, hu, Tryz.ntmps28, Exit.thenS]
 refine wpSIn_cond (t := false) (by simp [Act.eval, Array.replicate]) ?_
 simp only [Bool.false_eq_true, if_false]
 refine wpSIn_of_wpIn rfl (wpIn_skip ?_)
 cases c₀
 simp_all [bodyPostS, results, Tryz.results28]
theorem ckDoAny (B : Base) (H : List Res) (w : World) (v t m s p wb : Nat) (va : Option Addr) (vc : Nat) (sv : Value) (clk : Int) (es : List (List UInt8 × Value)) (M : List (List UInt8 × Ver)) (_ : VM B es M) (aa : Option Addr) (ac : Nat) (args : List (List UInt8)) (_ : RdV B [] aa (textCells args)) (_ : SliceOk aa args.length ac) (_ : args.length ≤ 1000) (name : List UInt8) (x0 : GRow) (hx0 : x0 ∈ gRows) (hx0n : x0.1 = name) (hx01 : x0.2.1 ≤ (args.length : Int)) (hx02 : x0.2.2 < 0 ∨ (args.length : Int) ≤ x0.2.2) (Q : List (List UInt8 × Ver) → Rp → Prop) (hdo : ∀ (C : Base) (H2 : List Res) (w2 : World), B.Le C → Inv C (Res.cell v [.iface 100 (vP t)] 56 :: txR t m s p wb va vc sv clk es :: H2) w2 → Calls Tryz.prog 31 #[.agg #[vP v, .slice aa args.length ac], strV name] w2 fun e w' => ∃ D es' M' r cs, C.Le D ∧ e = .returned (.agg cs.toArray) ∧ RpAt D r cs ∧ VM D es' M' ∧ Q M' r ∧ Inv D (Res.cell v [.iface 100 (vP t)] 56 :: txR t m s p wb va vc sv clk es' :: H2) w') (hv : Inv B (Res.cell v [.iface 100 (vP t)] 56 :: txR t m s p wb va vc sv clk es :: H) w) :
  Calls Tryz.prog 10 #[vP v, vS name, .slice aa args.length ac] w fun e w' => ∃ D es' M' r cs, B.Le D ∧ e = .returned (.tuple #[.agg cs.toArray, .bool true]) ∧ RpAt D r cs ∧ VM D es' M' ∧ Q M' r ∧ Inv D (Res.cell v [.iface 100 (vP t)] 56 :: txR t m s p wb va vc sv clk es' :: H) w' := by
 refine (callsIn_wide (n := 5)).1 (callsIn_of_wp_defers Tryz.func10 rfl trivial ?_)
 simp only [Tryz.ntmps10, List.size_toArray, List.length_cons, List.length_nil, Nat.reduceAdd, Nat.reduceSub, Array.replicate_succ, Array.replicate_zero, List.push_toArray, List.append_toArray, List.nil_append, List.cons_append]
 refine sK fun _ k1 => rL (sl_alloc tV (wn rfl) rfl hv kCal34 (fun b2 w3 hv => ?_))
 refine sl_alloc tV (wn rfl) rfl hv kCal4 (fun b4 w5 hv => ?_)
 refine uW k1 (sK fun _ k6 => ?_)
 refine rL (uG (.func (.func 28) #[] #[vP b2, vP b4]) rfl (ex_makeFunc (c' := #[vP b2, vP b4]) rfl (by simp only [List.map_toArray, List.map_nil]) (by simp only [List.map_toArray, List.map_cons, List.map_nil]; rfl)) ?_)
 refine wpi_defer tV rfl (wn rfl) rfl rfl (uW k6 ?_)
 refine sK fun _ k7 => sK fun _ k8 => rL (xC k2callable30 rfl ((gRowsC B _ _ hv).mono ?_) rfl)
 rintro e w9 ⟨C, ra, rc, hC, rfl, hrr, hv⟩
 refine ⟨_, rfl, uG (vI (gRows.length : Int)) rfl (ex_len0 Tryz.underlying75 rfl rfl) ?_⟩
 refine uM rfl (uW k8 ?_)
 refine bB ?_
 gi_loopw [14] (fun x14 wr => ∃ (i : Nat), x14 = vI i ∧ i ≤ gRows.length ∧ (∀ (j : Nat) y, j < i → gRows[j]? = some y → y.1 ≠ name) ∧ Inv C (Res.cell b4 [.bool false] 4 :: Res.cell b2 [vI 0, vS [], vI 0, vN] 34 :: Res.cell v [.iface 100 (vP t)] 56 :: txR t m s p wb va vc sv clk es :: H) wr) (fun x14 _ => gRows.length - (intOf x14).toNat)
 case atStart => exact ⟨0, rfl, Nat.zero_le _, fun j y h => by omega, hv⟩
 case round =>
  obtain ⟨i, rfl, hi, hno, hv⟩ := hrel
  have hrl := gRows_len
  refine sK fun _ k11 => rL ?_
  by_cases hb12 : (i : Int) < (gRows.length : Int)
  ·refine uG (.bool true) rfl (ex_lss rfl rfl rfl (qT hb12)) (uW k11 ?_)
   refine sK fun _ k13 => cT rfl (kS ?_)
   refine tK k13 (sK fun _ k14 => ?_)
   refine bB (sK fun _ k15 => ?_)
   have hrl := gRows_len
   obtain ⟨x, hx⟩ : ∃ x, gRows[i]? = some x := ⟨_, List.getElem?_eq_getElem (show i < gRows.length by omega)⟩
   have hxm := List.mem_of_getElem? hx
   obtain ⟨rb, ro, had, hrdx⟩ := gRow_reads hrr hx
   subst had
   refine rL (uG (.pointer (some ⟨rb, ro + i * 3, none⟩)) rfl (ex_index rfl rfl rfl (run_idx (k := i) Tryz.underlying75 k2es75 (by omega))) ?_)
   refine uL (.agg #[vS x.1, vI x.2.1, vI x.2.2]) rfl (run_loadR (cs := [vS x.1, vI x.2.1, vI x.2.2]) k2wd78 (Reads.mid (pre := []) (mid := [vS x.1, vI x.2.1, vI x.2.2]) (post := []) hrdx _ _ _ (Base.Le.refl _) no_res hv)) ?_
   refine sl_alloc tV (wn rfl) rfl hv kCal78 (fun b16 w17 hv => ?_)
   simp only [zP, po]
   refine xS 0 rfl hv k2sz78 rfl (by exact ⟨rfl, rfl, rfl, trivial⟩) (fun w18 hv => ?_)
   simp only [zO, sp] at hv
   refine uW k15 (sK fun _ k19 => ?_)
   refine sK fun _ k20 => rL (uF (vP b16) rfl (k2fa78_0 _ _ _) ?_)
   refine uL _ rfl (run_load1 s9na9 (hv.load 0 0 rfl rfl)) (uM rfl ?_)
   by_cases hb21 : x.1 ≠ name
   ·refine uG (.bool true) rfl (ex_sneq rfl rfl rfl (qT hb21)) (uW k20 ?_)
    refine cT rfl (xE ?_)
    refine tX (bH ?_)
    refine tK k14 (rL ?_)
    refine uG (vI ((i + 1 : Nat) : Int)) rfl (ex_add rfl rfl rfl (by rw [i64_in (by omega)]; omega)) (uM rfl ?_)
    refine uZ (then_normal ?_)
    go_roundw
    case rel => exact ⟨i + 1, rfl, by omega, fun j y hj hy => (by
       rcases Nat.lt_or_ge j i with h | h
       ·exact hno j y h hy
       obtain rfl : j = i := by omega
       rw [hx] at hy; cases hy; exact hb21), (hv.kp [4, 4, 4, 4] 4 1)⟩
    case measure => show gRows.length - (((i + 1 : Nat) : Int)).toNat < gRows.length - ((i : Int)).toNat; omega
   refine uG (.bool false) rfl (ex_sneq rfl rfl rfl (qF hb21)) (uW k20 ?_)
   refine cF rfl (kS ?_)
   refine tK k19 (sK fun _ k22 => ?_)
   refine sK fun _ k23 => ?_
   have hxn : x.1 = name := Classical.byContradiction fun h9 => hb21 h9
   obtain rfl := gRows_inj x hxm x0 hx0 (hxn.trans hx0n.symm)
   refine rL (uM rfl ?_)
   refine uG (vI (args.length : Int)) rfl (ex_len0 Tryz.underlying26 rfl rfl) (uA rfl ?_)
   refine uW k23 (sK fun _ k24 => ?_)
   refine rL (uM rfl ?_)
   refine uF (.pointer (some ⟨b16, 1, none⟩)) rfl (k2fa78_1 _ _ _) ?_
   refine uL _ rfl (run_load1 s2na3 (hv.load 0 1 rfl rfl)) ?_
   by_cases hb25 : (args.length : Int) < x.2.1
   ·refine uG (.bool true) rfl (ex_lss rfl rfl rfl (qT hb25)) (uM rfl ?_)
    iterate 9 refine uP rfl ?_
    refine uK rfl (uW k24 ?_)
    refine cT rfl (sK fun _ k26 => ?_)
    refine rL (xC rscallable29 rfl ((viewWrong C _ _ 43 hv).mono ?_) rfl)
    rintro e w28 ⟨s27, rfl, hv⟩
    refine ⟨_, rfl, ?_⟩
    refine xS 2 rfl hv rssz34 rfl (by exact ⟨rfl, rfl, rfl, rfl, trivial⟩) (fun w29 hv => ?_)
    simp only [zS, zO, sp] at hv
    refine xV 1 (.bool true) rfl hv v8sz4 rfl rfl (fun w30 hv => ?_)
    simp only [zS, zO, sp] at hv
    refine uW k26 (rR ?_)
    refine tR (bZ ?_)
    refine tR (tR ?_)
    refine bZ (tR ?_)
    refine leave_rec k2callable28 (kCrec28 _ _ _ _) (res_cells2 rfl rfl (lM 2 rswd34 hv rfl rfl rfl rfl) rfl (run_load1 s2na4 (hv.load 1 0 rfl rfl))) ?_
    exfalso; omega
   refine uG (.bool false) rfl (ex_lss rfl rfl rfl (qF hb25)) (uM rfl ?_)
   refine uF (.pointer (some ⟨b16, 2, none⟩)) rfl (k2fa78_2 _ _ _) ?_
   refine uL _ rfl (run_load1 s2na3 (hv.load 0 2 rfl rfl)) ?_
   by_cases hb31 : x.2.2 ≥ 0
   ·refine uG (.bool true) rfl (ex_geq rfl rfl rfl (qT hb31)) ?_
    refine uM rfl ?_
    refine uM rfl ?_
    refine uF (.pointer (some ⟨b16, 2, none⟩)) rfl (k2fa78_2 _ _ _) ?_
    refine uL _ rfl (run_load1 s2na3 (hv.load 0 2 rfl rfl)) ?_
    by_cases hb32 : (args.length : Int) > x.2.2
    ·refine uG (.bool true) rfl (ex_gtr rfl rfl rfl (qT hb32)) ?_
     refine uK rfl (uK rfl ?_)
     refine uW k24 (cT rfl ?_)
     refine sK fun _ k33 => rL (xC rscallable29 rfl ((viewWrong C _ _ 43 hv).mono ?_) rfl)
     rintro e w35 ⟨s34, rfl, hv⟩
     refine ⟨_, rfl, ?_⟩
     refine xS 2 rfl hv rssz34 rfl (by exact ⟨rfl, rfl, rfl, rfl, trivial⟩) (fun w36 hv => ?_)
     simp only [zS, zO, sp] at hv
     refine xV 1 (.bool true) rfl hv v8sz4 rfl rfl (fun w37 hv => ?_)
     simp only [zS, zO, sp] at hv
     refine uW k33 (rR ?_)
     refine tR (bZ ?_)
     refine tR (tR ?_)
     refine bZ (tR ?_)
     refine leave_rec k2callable28 (kCrec28 _ _ _ _) (res_cells2 rfl rfl (lM 2 rswd34 hv rfl rfl rfl rfl) rfl (run_load1 s2na4 (hv.load 1 0 rfl rfl))) ?_
     exfalso; omega
    refine uG (.bool false) rfl (ex_gtr rfl rfl rfl (qF hb32)) ?_
    refine uK rfl (uK rfl ?_)
    refine uW k24 (cF rfl ?_)
    refine kS (tK k22 ?_)
    refine sK fun _ k38 => rL (uM rfl ?_)
    refine uM rfl ?_
    refine uG (.agg #[vP v, .slice aa args.length ac]) rfl (ex_buildN (vs := #[(0, vP v), (1, .slice aa args.length ac)]) rfl (by simp only [List.map_toArray, List.map_cons, List.map_nil]; rfl) (by kernel_rfl)) (uM rfl ?_)
    replace hv := hv.front 4 rfl
    simp only [eS, eZ] at hv
    replace hv := hv.front 4 rfl
    simp only [eS, eZ] at hv
    refine xC k2callable31 rfl ((hdo C _ _ hC hv).mono ?_) rfl
    rintro e w39 ⟨D, es', M', r, cs, hD, rfl, hrp, hM', hq, hv⟩
    refine ⟨_, rfl, ?_⟩
    obtain ⟨rk, rs, rn, rv, rfl⟩ := rp_parts hrp
    refine xS 4 rfl hv rssz34 rfl (by exact ⟨rfl, rfl, rfl, hrp.lv.2, trivial⟩) (fun w40 hv => ?_)
    simp only [zS, zO, sp] at hv
    simp only [zP, po]
    refine xV 3 (.bool true) rfl hv v8sz4 rfl rfl (fun w41 hv => ?_)
    simp only [zS, zO, sp] at hv
    refine uW k38 (rR ?_)
    refine bZ (tR ?_)
    refine tR (bZ ?_)
    refine tR (leave_rec k2callable28 (kCrec28 _ _ _ _) (res_cells2 rfl rfl (lM 4 rswd34 hv rfl rfl rfl rfl) rfl (run_load1 s2na4 (hv.load 3 0 rfl rfl))) ?_)
    exact ⟨D, es', M', r, _, (hC.trans hD), rfl, hrp, hM', hq, (hv.kp [1, 1] 2 3)⟩
   refine uG (.bool false) rfl (ex_geq rfl rfl rfl (qF hb31)) ?_
   refine uM rfl ?_
   iterate 4 refine uP rfl ?_
   refine uK rfl (uK rfl ?_)
   refine uW k24 (cF rfl ?_)
   refine kS (tK k22 ?_)
   refine sK fun _ k42 => rL (uM rfl ?_)
   refine uM rfl ?_
   refine uG (.agg #[vP v, .slice aa args.length ac]) rfl (ex_buildN (vs := #[(0, vP v), (1, .slice aa args.length ac)]) rfl (by simp only [List.map_toArray, List.map_cons, List.map_nil]; rfl) (by kernel_rfl)) (uM rfl ?_)
   replace hv := hv.front 4 rfl
   simp only [eS, eZ] at hv
   replace hv := hv.front 4 rfl
   simp only [eS, eZ] at hv
   refine xC k2callable31 rfl ((hdo C _ _ hC hv).mono ?_) rfl
   rintro e w43 ⟨D, es', M', r, cs, hD, rfl, hrp, hM', hq, hv⟩
   refine ⟨_, rfl, ?_⟩
   obtain ⟨rk, rs, rn, rv, rfl⟩ := rp_parts hrp
   refine xS 4 rfl hv rssz34 rfl (by exact ⟨rfl, rfl, rfl, hrp.lv.2, trivial⟩) (fun w44 hv => ?_)
   simp only [zS, zO, sp] at hv
   simp only [zP, po]
   refine xV 3 (.bool true) rfl hv v8sz4 rfl rfl (fun w45 hv => ?_)
   simp only [zS, zO, sp] at hv
   refine uW k42 (rR ?_)
   refine bZ (tR ?_)
   refine tR (bZ ?_)
   refine tR (leave_rec k2callable28 (kCrec28 _ _ _ _) (res_cells2 rfl rfl (lM 4 rswd34 hv rfl rfl rfl rfl) rfl (run_load1 s2na4 (hv.load 3 0 rfl rfl))) ?_)
   exact ⟨D, es', M', r, _, (hC.trans hD), rfl, hrp, hM', hq, (hv.kp [1, 1] 2 3)⟩
  refine uG (.bool false) rfl (ex_lss rfl rfl rfl (qF hb12)) (uW k11 ?_)
  refine sK fun _ k46 => cF rfl (xE ?_)
  refine tX (tX ?_)
  refine bH (tK k7 ?_)
  refine sK fun _ k47 => rL (uG (.agg #[vI 0, vS [], vI 0, vN]) rfl (ex_buildN (vs := #[]) rfl (by simp only [List.map_toArray, List.map_nil]) (by kernel_rfl)) ?_)
  refine xS 1 rfl hv rssz34 rfl (by exact ⟨rfl, rfl, rfl, rfl, trivial⟩) (fun w48 hv => ?_)
  simp only [zS, zO, sp] at hv
  refine xV 0 (.bool false) rfl hv v8sz4 rfl rfl (fun w49 hv => ?_)
  simp only [zO, sp] at hv
  refine uW k47 (rR ?_)
  refine leave_rec k2callable28 (kCrec28 _ _ _ _) (res_cells2 rfl rfl (lM 1 rswd34 hv rfl rfl rfl rfl) rfl (run_load1 s2na4 (hv.load 0 0 rfl rfl))) ?_
  exfalso
  obtain ⟨j, hj⟩ := List.mem_iff_getElem?.1 hx0
  exact hno j x0 (by have := (List.getElem?_eq_some_iff.1 hj).1; omega) hj hx0n
theorem kDal34 : AL Tryz.prog 34 [vI 0, vS [], vI 0, vN] := fun w => by kernel_rfl
theorem kDcallable10 : Callable Tryz.prog 10 := cb Tryz.func10 (by kernel_rfl)
theorem lawDo26 (B : Base) (H : List Res) (w : World) (v t m s p wb : Nat) (va : Option Addr) (vc : Nat) (sv : Value) (clk : Int) (es : List (List UInt8 × Value)) (M : List (List UInt8 × Ver)) (hM : VM B es M) (wa2 : Option Addr) (wc2 : Nat) (name : List UInt8) (args : List (List UInt8)) (hrw : RdV B [] wa2 (textCells (name :: args))) (hokw : SliceOk wa2 (args.length + 1) wc2) (hma : args.length ≤ 900) (x0 : GRow) (hx0 : x0 ∈ gRows) (hx0n : x0.1 = name) (hx01 : x0.2.1 ≤ (args.length : Int)) (hx02 : x0.2.2 < 0 ∨ (args.length : Int) ≤ x0.2.2) (Q : List (List UInt8 × Ver) → Rp → Prop) (hdo : ∀ (aa : Option Addr) (ac : Nat) (C : Base) (H2 : List Res) (w2 : World), SliceOk aa args.length ac → RdV C [] aa (textCells args) → B.Le C → Inv C (Res.cell v [.iface 100 (vP t)] 56 :: txR t m s p wb va vc sv clk es :: H2) w2 → Calls Tryz.prog 31 #[.agg #[vP v, .slice aa args.length ac], strV name] w2 fun e w' => ∃ D es' M' r cs, C.Le D ∧ e = .returned (.agg cs.toArray) ∧ RpAt D r cs ∧ VM D es' M' ∧ Q M' r ∧ Inv D (Res.cell v [.iface 100 (vP t)] 56 :: txR t m s p wb va vc sv clk es' :: H2) w') (hv : Inv B (Res.cell v [.iface 100 (vP t)] 56 :: txR t m s p wb va vc sv clk es :: H) w) :
  Calls Tryz.prog 17 #[vP v, .slice wa2 (args.length + 1) wc2] w fun e w' => ∃ D es' M' r cs, B.Le D ∧ e = .returned (.agg cs.toArray) ∧ RpAt D r cs ∧ VM D es' M' ∧ Q M' r ∧ Inv D (Res.cell v [.iface 100 (vP t)] 56 :: txR t m s p wb va vc sv clk es' :: H) w' := by
 refine cW Tryz.func17 rfl Tryz.ntmps17 ?_
 simp only [al]
 refine sK fun _ k1 => ?_
 obtain ⟨a3, c3, ha3, ok3, hr3⟩ := sliced_fromV 1 hokw hrw (textCells_len _) (show 1 ≤ args.length + 1 by omega) (by decide)
 rw [Nat.mul_one, tx_drop] at hr3
 have hr3 : RdV B [] a3 (textCells args) := hr3
 have ok3 : SliceOk a3 args.length c3 := ok3
 obtain ⟨wb0, wo, had, hrdn⟩ := text_reads hrw (show (name :: args)[0]? = some name from rfl)
 subst had
 refine rL (sl_alloc tV (wn rfl) rfl hv kDal34 (fun b2 w3 hv => ?_))
 refine uW k1 (sK fun _ k4 => ?_)
 refine rT mixed (fun az wz => ∃ (C : Base) (es' : List (List UInt8 × Value)) (M' : List (List UInt8 × Ver)) (r : Rp) (rk : Int) (rs : List UInt8) (rn : Int) (rv : Value) (b9 : Nat), (B.Le C) ∧ (RpAt C r (rpCells rk rs rn rv)) ∧ (VM C es' M') ∧ (Q M' r) ∧ az = { tmps := #[vP v, .slice (some ⟨wb0, wo, none⟩) (args.length + 1) wc2, undef, undef, vP b2, vP b9, .bool true, .tuple #[.agg #[vI rk, vS rs, vI rn, rv], .bool true], vP v, .slice (some ⟨wb0, wo, none⟩) (args.length + 1) wc2, .pointer (some ⟨wb0, wo + 0, none⟩), vS name, .slice (some ⟨wb0, wo, none⟩) (args.length + 1) wc2, .slice a3 args.length c3, .tuple #[.agg #[vI rk, vS rs, vI rn, rv], .bool true], .agg #[vI rk, vS rs, vI rn, rv], .bool true, undef], defers := [] } ∧ Inv C (Res.cell b9 [vI rk, vS rs, vI rn, rv] 34 :: Res.cell v [.iface 100 (vP t)] 56 :: txR t m s p wb va vc sv clk es' :: Res.cell b2 [vI 0, vS [], vI 0, vN] 34 :: H) wz) [6, 10, 11] [0,1,2,3,4,5] [7,8,9,10,11,12] [6,7,8,9,11,12] 6 10 18 rfl (by kernel_rfl) hv ?_ ?_
 ·intro R2 l1 l2 hR2 hl1 hl2
  simp only [qm, opAt]
  refine tG (vP v) rfl (ex_move rfl rfl) (tG (.slice (some ⟨wb0, wo, none⟩) (args.length + 1) wc2) rfl (ex_move rfl rfl) ?_)
  simp only [zP, po]
  refine tG (.pointer (some ⟨wb0, wo + 0, none⟩)) rfl (ex_index rfl rfl rfl (run_idx1 (k := 0) Tryz.underlying26 s9es26 (by omega))) (tF (vS name) rfl (fun hv => ex_load rfl rfl (run_load1 s9na9 (hrdn _ _ _ (Base.Le.refl _) no_res hv 0 _ rfl))) fun f5 hf5 => ?_)
  simp only [zP, po]
  refine tG (.slice (some ⟨wb0, wo, none⟩) (args.length + 1) wc2) rfl (ex_move rfl rfl) (tG (.slice a3 args.length c3) rfl (ex_slice (lo' := some (vI ((1 : Nat) : Int))) rfl rfl (congrArg some rfl) rfl rfl ((run_fromAny Tryz.underlying26 s9es26 (by omega)).trans (by rw [ha3]; rfl))) ?_)
  simp only [zP, po]
  refine tB ?_ ?_
  ·rw [hl1]; clear hl1 hl2
   simp only [qm, opAt]
   refine dS rfl fun w6 hv => ?_
   replace hv := hv.front 2 rfl
   simp only [eS, eZ] at hv
   replace hv := hv.front 2 rfl
   simp only [eS, eZ] at hv
   refine mC kDcallable10 rfl ((ckDoAny B _ _ v t m s p wb va vc sv clk es M hM a3 c3 args hr3 ok3 (by omega) name x0 hx0 hx0n hx01 hx02 Q (fun C H2 w2 h1 h2 => hdo a3 c3 C H2 w2 ok3 (hr3.more h1 (fun _ h => h)) h1 h2) hv).mono ?_) rfl
   rintro e w7 ⟨C, es', M', r, cs, hC, rfl, hrp, hM', hq, hv⟩
   obtain ⟨rk, rs, rn, rv, rfl⟩ := rp_parts hrp
   refine ⟨_, rfl, dV hv (fK rfl fN) ?_⟩
   refine dM (.tuple #[.agg #[vI rk, vS rs, vI rn, rv], .bool true]) rfl (dG (.agg #[vI rk, vS rs, vI rn, rv]) rfl (ex_extract rfl rfl rfl) ?_)
   simp only [zP, po]
   refine dG (.bool true) rfl (ex_extract rfl rfl rfl) (dS rfl fun w8 hv => ?_)
   refine mem_alloc rfl rfl hv kDal34 (fun b9 w10 hv => ?_)
   refine dV hv (fC (fun ww hv => hf5 ww (ex_load rfl rfl (run_load1 s9na9 (hrdn _ _ _ hC no_res hv 0 _ rfl)))) fN) (dS rfl fun w11 hv => ?_)
   refine mS 0 rfl hv rssz34 rfl (by exact ⟨rfl, rfl, rfl, hrp.lv.2, trivial⟩) (fun w12 hv => ?_)
   simp only [zO, sp] at hv
   refine dV hv (fK rfl fN) ?_
   simp only [zP, po]
   refine dA (.bool true) rfl (dE fun wz hv => ?_)
   simp only [zP, po]
   exact hR2 _ _ ⟨C, es', M', r, rk, rs, rn, rv, b9, hC, hrp, hM', hq, rfl, ((((hv.front 3 rfl).front 3 rfl).front 3 rfl).front 3 rfl)⟩
  rw [hl2]; clear hl1 hl2
  simp only [qm, opAt]
  refine dS rfl fun w13 hv => mem_alloc rfl rfl hv kDal34 (fun b14 w15 hv => ?_)
  refine dV hv (fC (fun ww hv => hf5 ww (ex_load rfl rfl (run_load1 s9na9 (hrdn _ _ _ (Base.Le.refl _) no_res hv 0 _ rfl)))) fN) (dS rfl fun w16 hv => ?_)
  replace hv := hv.front 3 rfl
  simp only [eS, eZ] at hv
  replace hv := hv.front 3 rfl
  simp only [eS, eZ] at hv
  refine mC kDcallable10 rfl ((ckDoAny B _ _ v t m s p wb va vc sv clk es M hM a3 c3 args hr3 ok3 (by omega) name x0 hx0 hx0n hx01 hx02 Q (fun C H2 w2 h1 h2 => hdo a3 c3 C H2 w2 ok3 (hr3.more h1 (fun _ h => h)) h1 h2) hv).mono ?_) rfl
  rintro e w17 ⟨C, es', M', r, cs, hC, rfl, hrp, hM', hq, hv⟩
  obtain ⟨rk, rs, rn, rv, rfl⟩ := rp_parts hrp
  refine ⟨_, rfl, dV hv (fK rfl fN) ?_⟩
  refine dM (.tuple #[.agg #[vI rk, vS rs, vI rn, rv], .bool true]) rfl ?_
  simp only [zP, po]
  refine dG (.agg #[vI rk, vS rs, vI rn, rv]) rfl (ex_extract rfl rfl rfl) (dG (.bool true) rfl (ex_extract rfl rfl rfl) ?_)
  refine dS rfl fun w18 hv => mS 2 rfl hv rssz34 rfl (by exact ⟨rfl, rfl, rfl, hrp.lv.2, trivial⟩) (fun w19 hv => ?_)
  simp only [zS, zO, sp] at hv
  refine dV hv (fK rfl fN) ?_
  simp only [zP, po]
  refine dA (.bool true) rfl (dE fun wz hv => ?_)
  simp only [zP, po]
  exact hR2 _ _ ⟨C, es', M', r, rk, rs, rn, rv, b14, hC, hrp, hM', hq, rfl, ((((hv.front 3 rfl).front 2 rfl).front 2 rfl).front 3 rfl)⟩
 rintro _ w20 ⟨C, es', M', r, rk, rs, rn, rv, b9, hC, hrp, hM', hq, rfl, hv⟩
 refine tK k4 (sK fun _ k21 => ?_)
 refine rL (uL (.agg #[vI rk, vS rs, vI rn, rv]) rfl (lM 0 rswd34 hv rfl rfl rfl rfl) ?_)
 refine xS 3 rfl hv rssz34 rfl (by exact ⟨rfl, rfl, rfl, hrp.lv.2, trivial⟩) (fun w22 hv => ?_)
 simp only [zS, zO, sp] at hv
 refine uW k21 (rR ?_)
 refine bC 3 rswd34 hv rfl rfl rfl rfl (⟨C, es', M', r, _, hC, rfl, hrp, hM', hq, (hv.kp [2, 2] 2 2)⟩)
section
variable {x : Val} {now till e : Int} {M M' : List (List UInt8 × Ver)} {r : Rp} {k : List UInt8}
theorem keep_is (hf : FullV x) (hp : ∀ k : List UInt8, k.length ≤ 256 → PutOk k x till) (hk : k.length ≤ 256) (h : KeepI M now k x till e M') : e = 0 ∧ M' = updA M k ⟨0, false, till, x⟩ := by
 obtain ⟨h1, ⟨-, h2⟩ | ⟨h2, -⟩ | ⟨h2, -⟩⟩ := keep_ok hk (fun _ => hp k hk) h
 ·exact ⟨h1, h2⟩
 ·exact absurd hf h2
 exact absurd hf h2
theorem del_is (hk : k.length ≤ 256) (h : DelI M [k] e M') : e = 0 ∧ M' = updA M k gver := by
 rcases h with ⟨h1, -, h2⟩ | ⟨-, ⟨q, h1, h2⟩, -⟩
 ·exact ⟨h1, h2⟩
 rw [List.mem_singleton.1 h1] at h2; omega
theorem done_is {r0 : Rp} (he : e = 0) (h : DoneR e r0 r) : r = r0 := by
 rcases h with ⟨-, h⟩ | ⟨h, -⟩
 ·exact h
 exact absurd he h
theorem got_is {y : Ver} (hl : lookA M k = some y) (ha : aliveB y now = true) : gotM M now k = some y := by
 unfold gotM; rw [hl]; exact if_pos ha
theorem got_gone {y : Ver} (hl : lookA M k = some y) (ha : aliveB y now = false) : gotM M now k = none := by
 unfold gotM; rw [hl]; exact if_neg (by rw [ha]; decide)
theorem got_not (hl : lookA M k = none) : gotM M now k = none := by
 unfold gotM; rw [hl]
theorem got_pin {y Y : Ver} {ok : Bool} (hg : gotM M now k = some Y) (h : (ok = true ∧ lookA M k = some y ∧ aliveB y now = true) ∨ (ok = false ∧ y = zver0 ∧ ∀ y9, lookA M k = some y9 → aliveB y9 now = false)) : ok = true ∧ y = Y := by
 rcases got_of h with ⟨h1, h2⟩ | ⟨-, -, h2⟩
 ·rw [hg] at h2; cases h2; exact ⟨h1, rfl⟩
 rw [hg] at h2; cases h2
theorem rp_mk {B : Base} {k n : Int} {s : List UInt8} {l : List Rp} {cs : List Value} (h : RpAt B (.mk k s n l) cs) : ∃ v, cs = rpCells k s n v := by
 simp only [RpAt] at h
 obtain ⟨v, xs, h1, -⟩ := h
 exact ⟨v, h1⟩
theorem wrap1000 (z : Int) : ∃ (r : Int) (n : Nat), z.tmod 1000 = r ∧ -1000 < r ∧ r < 1000 ∧ (r + 1000).tmod 1000 = (n : Int) ∧ n ≤ 999 := by
 have h1 := Int.tmod_lt_of_pos z (show (0 : Int) < 1000 by decide)
 have h2 : -1000 < z.tmod 1000 := by
  have := Int.tmod_lt_of_pos (-z) (show (0 : Int) < 1000 by decide)
  rw [Int.neg_tmod] at this
  omega
 refine ⟨_, ((z.tmod 1000 + 1000) % 1000).toNat, rfl, h2, h1, ?_, by omega⟩
 rw [Int.tmod_eq_emod_of_nonneg (by omega)]
 omega
theorem valOk_full (h : ValOk x) : FullV x := by
 rcases h with ⟨h1, -⟩ | ⟨h1, h2, -⟩ | ⟨h1, h2, -⟩ | ⟨h1, h2, -⟩ | ⟨h1, h2, -⟩
 ·exact .inl h1
 all_goals exact .inr (by omega)
theorem bk_alive (h : till = 0 ∨ now < till) : aliveB ⟨0, false, till, x⟩ now = true := by
 unfold aliveB
 rcases h with rfl | h
 ·rfl
 simp [h]
abbrev bkY (x : Val) (till : Int) : Ver := ⟨0, false, till, x⟩
theorem back1 (hf : FullV x) (hp : ∀ k : List UInt8, k.length ≤ 256 → PutOk k x till) (h : KeepI [] now [97] x till e M') : M' = [([97], bkY x till)] := (keep_is hf hp (by decide) h).2
theorem back2 (hf : FullV x) (hp : ∀ k : List UInt8, k.length ≤ 256 → PutOk k x till) (ha : aliveB (bkY x till) now = true) (h : RenameR [([97], bkY x till)] now [97] [98] M' r) : M' = [([97], gver), ([98], bkY x till)] ∧ r = rText [79, 75] := by
 have g1 : gotM [([97], bkY x till)] now [97] = some (bkY x till) := got_is rfl ha
 rcases h with ⟨h1, -⟩ | ⟨y, h1, ⟨h2, -⟩ | ⟨-, e1, M1, h2, h3⟩⟩
 ·rw [g1] at h1; cases h1
 ·cases h2
 rw [g1] at h1; cases h1
 obtain ⟨h4, rfl⟩ := keep_is hf hp (by decide) h2
 rcases h3 with ⟨h3, -⟩ | ⟨-, e2, h3, h5⟩
 ·exact absurd h4 h3
 obtain ⟨h6, rfl⟩ := del_is (by decide) h3
 exact ⟨rfl, done_is h6 h5⟩
theorem back3 : manyK [([97], gver), ([98], bkY x till)] now [[97]] = 0 := by
 unfold manyK
 rw [List.filter_cons, show gotM [([97], gver), ([98], bkY x till)] now [97] = none from got_gone rfl rfl]
 rfl
theorem back4 (hf : FullV x) (hp : ∀ k : List UInt8, k.length ≤ 256 → PutOk k x till) (ha : aliveB (bkY x till) now = true) (h : RenamenxR [([97], gver), ([98], bkY x till)] now [98] [97] M' r) : M' = [([97], bkY x till), ([98], gver)] ∧ r = rInt 1 := by
 have g1 : gotM [([97], gver), ([98], bkY x till)] now [98] = some (bkY x till) := got_is rfl ha
 have g2 : gotM [([97], gver), ([98], bkY x till)] now [97] = none := got_gone rfl rfl
 rcases h with ⟨h1, -⟩ | ⟨-, ⟨h1, -⟩ | ⟨-, r1, h1, h2⟩⟩
 ·rw [g1] at h1; cases h1
 ·exact absurd g2 h1
 rcases h1 with ⟨h1, -⟩ | ⟨y, h1, ⟨h3, -⟩ | ⟨-, e1, M1, h3, h4⟩⟩
 ·rw [g1] at h1; cases h1
 ·cases h3
 rw [g1] at h1; cases h1
 obtain ⟨h5, rfl⟩ := keep_is hf hp (by decide) h3
 rcases h4 with ⟨h4, -⟩ | ⟨-, e2, h4, h6⟩
 ·exact absurd h5 h4
 obtain ⟨h7, rfl⟩ := del_is (by decide) h4
 obtain rfl := done_is h7 h6
 rcases h2 with ⟨h2, -⟩ | ⟨-, rfl⟩
 ·exact absurd (show (0 : Int) = 1 from h2) (by decide)
 exact ⟨rfl, rfl⟩
theorem back5 (hf : FullV x) (hp : ∀ k : List UInt8, k.length ≤ 256 → PutOk k x till) (ha : aliveB (bkY x till) now = true) (h : CopyR [([97], bkY x till), ([98], gver)] now [97] [99] [] M' r) : M' = [([97], bkY x till), ([98], gver), ([99], bkY x till)] ∧ r = rInt 1 := by
 have g1 : gotM [([97], bkY x till), ([98], gver)] now [97] = some (bkY x till) := got_is rfl ha
 have g2 : gotM [([97], bkY x till), ([98], gver)] now [99] = none := got_not rfl
 rcases h with ⟨h1, -⟩ | ⟨h1 | h1 | ⟨-, h1⟩, -⟩ | ⟨y, h1, -, -, e1, h2, h3⟩
 ·exact absurd rfl h1
 ·rw [g1] at h1; cases h1
 ·cases h1
 ·exact absurd g2 h1
 rw [g1] at h1; cases h1
 obtain ⟨h4, rfl⟩ := keep_is hf hp (by decide) h2
 exact ⟨rfl, done_is h4 h3⟩
theorem back6 (ha : aliveB (bkY x till) now = true) : gotM [([97], bkY x till), ([98], gver), ([99], bkY x till)] now [97] = some (bkY x till) := got_is rfl ha
theorem back7 (ha : aliveB (bkY x till) now = true) : dropK [([97], bkY x till), ([98], gver), ([99], bkY x till)] now [[97], [97]] = [[97]] := by
 have g1 : gotM [([97], bkY x till), ([98], gver), ([99], bkY x till)] now [97] = some (bkY x till) := got_is rfl ha
 show stepK _ now (stepK _ now [] [97]) [97] = [[97]]
 rw [stepK_add List.not_mem_nil (by rw [g1]; exact Option.some_ne_none _), stepK_in (by simp)]
 rfl
theorem back8 (ha : aliveB (bkY x till) now = true) (h : ∃ e1, DelI [([97], bkY x till), ([98], gver), ([99], bkY x till)] (dropK [([97], bkY x till), ([98], gver), ([99], bkY x till)] now [[97], [97]]) e1 M' ∧ DoneR e1 (rInt ((dropK [([97], bkY x till), ([98], gver), ([99], bkY x till)] now [[97], [97]]).length : Int)) r) : M' = [([97], gver), ([98], gver), ([99], bkY x till)] ∧ r = rInt 1 := by
 rw [back7 ha] at h
 obtain ⟨e1, h1, h2⟩ := h
 obtain ⟨h3, rfl⟩ := del_is (by decide) h1
 exact ⟨rfl, done_is h3 h2⟩
theorem back9 (ha : aliveB (bkY x till) now = true) : gotM [([97], gver), ([98], gver), ([99], bkY x till)] now [99] = some (bkY x till) := got_is rfl ha
theorem back10 (ha : aliveB (bkY x till) now = true) : (namesT [([97], gver), ([98], gver), ([99], bkY x till)] now).length = 1 := by
 have hR : RelVK [([97], gver), ([98], gver), ([99], bkY x till)] [⟨[99], x, till⟩] := by
  refine ⟨List.pairwise_singleton _ _, fun z hz => ?_, fun k y hl hg => ?_⟩
  ·rw [List.mem_singleton.1 hz]; rfl
  by_cases h1 : ([97] : List UInt8) = k
  ·subst h1; cases hl; cases hg
  by_cases h2 : ([98] : List UInt8) = k
  ·subst h2; cases hl; cases hg
  by_cases h3 : ([99] : List UInt8) = k
  ·exact ⟨_, List.mem_singleton.2 rfl, h3⟩
  simp [lookA, h1, h2, h3] at hl
 rw [hR.names (show ([[97], [98], [99]] : List (List UInt8)).Nodup by decide)]
 show (([⟨[99], x, till⟩] : List KeyR).filter (liveK now) |>.map (·.name)).length = 1
 rw [alive_live ⟨[99], x, till⟩ now] at ha
 rw [List.filter_cons, if_pos ha]
 rfl
end
theorem kEcallable8 : Callable Tryz.prog 8 := cb Tryz.func8 (by kernel_rfl)
theorem kEcallable13 : Callable Tryz.prog 13 := cb Tryz.func13 (by kernel_rfl)
theorem kEcallable14 : Callable Tryz.prog 14 := cb Tryz.func14 (by kernel_rfl)
theorem kEcallable17 : Callable Tryz.prog 17 := cb Tryz.func17 (by kernel_rfl)
theorem kEal50 : AL Tryz.prog 50 [vI 0, .bool false, vI 0, vI 0, vS [], vN, vN, vN] := fun w => by kernel_rfl
theorem kEcallable18 : Callable Tryz.prog 18 := cb Tryz.func18 (by kernel_rfl)
theorem kEmk9 : (Tryz.prog.info? 9).map (fun i => (i.zero, i.size, i.bytes)) = some (some (vS []), 1, 16) := by kernel_rfl
theorem kEel26 : Elem Tryz.prog 26 9 (vS []) 1 16 := elem_of Tryz.underlying26 kEmk9 (by rfl) (by decide)
theorem ckBackMain (B : Base) (H : List Res) (w : World) (x : Val) (xp xt xz : Value) (hrdv : ValRd B x xp xt xz) (expire clock : Int) (hN : NumB B) (hv : Inv B H w) :
  Calls Tryz.prog 4 #[.agg #[vI x.kind, vS x.text, xp, xt, xz], vI expire, vI clock] w fun e w' => e = .returned (.bool true) ∧ Inv B H w' := by
 obtain ⟨r1, n1, hr1, hr11, hr12, hrn1, hn1⟩ := wrap1000 clock
 obtain ⟨r2, n2, hr2, hr21, hr22, hrn2, hn2⟩ := wrap1000 expire
 refine cW Tryz.func4 rfl Tryz.ntmps4 ?_
 simp only [al]
 refine sK fun _ k1 => rL (sl_box (L := [vI x.kind, vS x.text, xp, xt, xz]) tV (wn rfl) rfl rfl hv (fun w => by kernel_rfl) (fun b2 w3 hv => ?_))
 refine uA rfl (uW k1 ?_)
 refine sK fun _ k4 => sK fun _ k5 => rL (xC kEcallable8 rfl ((lawAwake26 B _ _ (hN.more (Base.Le.refl _)) hv).mono ?_) rfl)
 rintro e w6 ⟨rfl, hv⟩
 refine ⟨_, rfl, uG (.bool false) rfl (ex_not rfl rfl rfl) ?_⟩
 refine uM rfl ?_
 refine uL (.agg #[vI x.kind, vS x.text, xp, xt, xz]) rfl (lM 0 s1wd43 hv rfl rfl rfl rfl) ?_
 refine xC kEcallable13 rfl ((refSmall B _ _ x xp xt xz (hrdv.more (Base.Le.refl _)) hv).mono ?_) rfl
 rintro e w8 ⟨bl7, rfl, hbl7, hv⟩
 refine ⟨_, rfl, ?_⟩
 cases bl7
 ·refine uG (.bool true) rfl (ex_not rfl rfl rfl) (uK rfl ?_)
  refine uM rfl ?_
  iterate 3 refine uP rfl ?_
  refine uK rfl (uW k5 ?_)
  refine cT rfl (sK fun _ k9 => ?_)
  refine rL (xC kEcallable8 rfl ((lawAwake26 B _ _ (hN.more (Base.Le.refl _)) hv).mono ?_) rfl)
  rintro e w10 ⟨rfl, hv⟩
  refine ⟨_, rfl, uA rfl ?_⟩
  refine uW k9 (rR ?_)
  refine tR (bR rfl rfl ?_)
  exact ⟨rfl, ((hv.kp [] 0 1)).weak (Base.Le.refl _)⟩
 have hva := valRd_at2 hrdv (hbl7 rfl)
 refine uG (.bool false) rfl (ex_not rfl rfl rfl) (uK rfl ?_)
 refine uM rfl ?_
 refine uL (.agg #[vI x.kind, vS x.text, xp, xt, xz]) rfl (lM 0 s1wd43 hv rfl rfl rfl rfl) ?_
 refine xC kEcallable14 rfl ((refRightV B _ _ x xp xt xz (hva.more (Base.Le.refl _)) hv).mono ?_) rfl
 rintro e w12 ⟨bl11, rfl, hbl11, hv⟩
 refine ⟨_, rfl, ?_⟩
 cases bl11
 ·refine uG (.bool true) rfl (ex_not rfl rfl rfl) (uK rfl ?_)
  refine uW k5 (cT rfl ?_)
  refine sK fun _ k13 => rL (xC kEcallable8 rfl ((lawAwake26 B _ _ (hN.more (Base.Le.refl _)) hv).mono ?_) rfl)
  rintro e w14 ⟨rfl, hv⟩
  refine ⟨_, rfl, uA rfl ?_⟩
  refine uW k13 (rR ?_)
  refine tR (bR rfl rfl ?_)
  exact ⟨rfl, ((hv.kp [] 0 1)).weak (Base.Le.refl _)⟩
 refine uG (.bool false) rfl (ex_not rfl rfl rfl) (uK rfl ?_)
 refine uW k5 (cF rfl ?_)
 refine kS (tK k4 ?_)
 refine sK fun _ k15 => rL (uM rfl ?_)
 refine uG (vI r1) rfl (ex_rem (m := clock) (n := 1000) rfl rfl rfl (by decide) hr1) ?_
 refine uG (vI (r1 + 1000)) rfl (ex_add rfl rfl rfl (i64_in (by omega))) ?_
 refine uG (vI n1) rfl (ex_rem (m := (r1 + 1000)) (n := 1000) rfl rfl rfl (by decide) hrn1) (uA rfl ?_)
 refine uW k15 (sK fun _ k16 => ?_)
 refine rL (uM rfl ?_)
 refine xC k3callable15 rfl ((lawOpened26 B _ _ (n1 : Int) (by omega) (by omega) hv).mono ?_) rfl
 rintro e w17 ⟨v, t, m, s, p, wb, va, vc, sv, rfl, hv⟩
 refine ⟨_, rfl, uA rfl ?_⟩
 refine uW k16 (sK fun _ k18 => ?_)
 refine rL (uA rfl ?_)
 refine uW k18 (sK fun K19 k19 => ?_)
 have hJ19 : ∀ (till : Int) (j33 j34 j35 j36 j37 j38 j39 j40 j41 j42 : Value) (w20 : World), (0 ≤ till) → (till ≤ 1099511627776) → (till = 0 ∨ (n1 : Int) < till) → Inv B (Res.cell v [.iface 100 (vP t)] 56 :: txR t m s p wb va vc sv (n1 : Int) [] :: Res.cell b2 [vI x.kind, vS x.text, xp, xt, xz] 43 :: H) w20 → K19 { tmps := List.toArray (.agg #[vI x.kind, vS x.text, xp, xt, xz] :: vI expire :: vI clock :: vP b2 :: undef :: undef :: .bool false :: vI n1 :: vP v :: vI till :: undef :: undef :: undef :: undef :: .bool true :: .bool false :: .bool false :: .agg #[vI x.kind, vS x.text, xp, xt, xz] :: .bool true :: .bool false :: .bool false :: .bool false :: .agg #[vI x.kind, vS x.text, xp, xt, xz] :: .bool true :: .bool false :: .bool false :: undef :: vI clock :: vI r1 :: vI (r1 + 1000) :: vI n1 :: vI n1 :: vP v :: j33 :: j34 :: j35 :: j36 :: j37 :: j38 :: j39 :: j40 :: j41 :: j42 :: undef :: undef :: undef :: undef :: undef :: undef :: undef :: undef :: undef :: undef :: undef :: undef :: undef :: undef :: undef :: undef :: undef :: undef :: undef :: undef :: undef :: undef :: undef :: undef :: undef :: undef :: undef :: undef :: undef :: undef :: undef :: undef :: undef :: undef :: undef :: undef :: undef :: undef :: undef :: undef :: undef :: undef :: undef :: undef :: undef :: undef :: undef :: undef :: undef :: undef :: undef :: undef :: undef :: undef :: undef :: undef :: undef :: undef :: undef :: undef :: undef :: undef :: undef :: undef :: undef :: undef :: undef :: undef :: undef :: undef :: undef :: undef :: undef :: undef :: undef :: undef :: undef :: undef :: undef :: undef :: undef :: undef :: undef :: undef :: undef :: undef :: undef :: undef :: []), defers := [] } w20 := by
  intro till j33 j34 j35 j36 j37 j38 j39 j40 j41 j42 w20 htl hth hta hv
  refine k19 _ _ (sK fun _ k21 => ?_)
  refine rL (uM rfl ?_)
  refine uL (.agg #[vI x.kind, vS x.text, xp, xt, xz]) rfl (lM 2 s1wd43 hv rfl rfl rfl rfl) (uM rfl ?_)
  replace hv := hv.front 1 rfl
  simp only [eS, eZ] at hv
  replace hv := hv.front 1 rfl
  simp only [eS, eZ] at hv
  have hok : ValOk x := hbl11.1 rfl
  have hf := valOk_full hok
  have hp : ∀ k : List UInt8, k.length ≤ 256 → PutOk k x till := fun k hk => ⟨hk, hok, htl, hth⟩
  have ha : aliveB (bkY x till) (n1 : Int) = true := bk_alive hta
  refine xC k3callable16 rfl ((viewKeep B _ _ v t m s p wb va vc sv (n1 : Int) [] [] [97] x xp xt xz till (show VM B [] [] from trivial) (hva.more (Base.Le.refl _)) hv).mono ?_) rfl
  rintro e w22 ⟨D, es1, M1, e1, hD, rfl, hM1, hkp, hv⟩
  refine ⟨_, rfl, ?_⟩
  obtain rfl := back1 hf hp hkp
  refine uW k21 (sK fun _ k23 => ?_)
  refine sK fun _ k24 => rL (uM rfl ?_)
  refine sl_rowN (pv := #[(0, vS [82, 69, 78, 65, 77, 69]), (1, vS [97]), (2, vS [98])]) (L := [vS [82, 69, 78, 65, 77, 69], vS [97], vS [98]]) (e := 9) tV (wn rfl) rfl (by simp only [List.map_toArray, List.map_cons, List.map_nil]; rfl) hv (fun w => by kernel_rfl) (fun b25 w26 hv => ?_)
  simp only [zP, po]
  obtain ⟨D27, hD27, hv, hrD27, hoD27, -⟩ := (hv.cellRow (n := 3) (c := 3) (size := 1) rfl (by decide) (by decide)).rowBy
  replace hv := hv.front 1 rfl
  simp only [eS, eZ] at hv
  replace hv := hv.front 1 rfl
  simp only [eS, eZ] at hv
  refine xC kEcallable17 rfl ((lawDo26 D27 _ _ v t m s p wb va vc sv (n1 : Int) es1 [([97], bkY x till)] (hM1.more hD27) _ _ ([82, 69, 78, 65, 77, 69] : List UInt8) [([97] : List UInt8), ([98] : List UInt8)] hrD27 hoD27 (Nat.le_of_ble_eq_true rfl) (([82, 69, 78, 65, 77, 69] : List UInt8), 2, 2) (by decide) rfl (by decide) (by decide) (fun M' r => RenameR [([97], bkY x till)] (n1 : Int) [97] [98] M' r) (fun aa ac C H2 w2 hok9 hr9 hC9 hv9 => ckDoRename C H2 w2 v t m s p wb va vc sv (n1 : Int) es1 [([97], bkY x till)] ((hM1.more hD27).more hC9) aa ac [([97] : List UInt8), ([98] : List UInt8)] hr9 hok9 (Nat.le_of_ble_eq_true rfl) [97] [98] rfl rfl hv9) hv).mono ?_) rfl
  rintro e w28 ⟨F1, es2, M2, r1, cs1, hF1, rfl, hrp1, hM2, hq, hv⟩
  refine ⟨_, rfl, ?_⟩
  obtain ⟨rfl, rfl⟩ := back2 hf hp ha hq
  obtain ⟨u1, rfl⟩ := rp_mk hrp1
  refine uG (vS [79, 75]) rfl (ex_fieldv rfl rfl (fun w => by kernel_rfl)) ?_
  refine uG (.bool false) rfl (ex_sneq rfl rfl rfl (qF (by decide))) (uM rfl ?_)
  refine uM rfl ?_
  refine sl_rowN (pv := #[(0, vS [69, 88, 73, 83, 84, 83]), (1, vS [97])]) (L := [vS [69, 88, 73, 83, 84, 83], vS [97]]) (e := 9) tV (wanted_of (j := 5) (d := 52) (b := false) rfl rfl rfl) rfl (by simp only [List.map_toArray, List.map_cons, List.map_nil]; rfl) hv (fun w => by kernel_rfl) (fun b29 w30 hv => ?_)
  simp only [zP, po]
  obtain ⟨D31, hD31, hv, hrD31, hoD31, -⟩ := (hv.cellRow (n := 2) (c := 2) (size := 1) rfl (by decide) (by decide)).rowBy
  replace hv := hv.front 1 rfl
  simp only [eS, eZ] at hv
  replace hv := hv.front 1 rfl
  simp only [eS, eZ] at hv
  refine xC kEcallable17 rfl ((lawDo26 D31 _ _ v t m s p wb va vc sv (n1 : Int) es2 [([97], gver), ([98], bkY x till)] (hM2.more hD31) _ _ ([69, 88, 73, 83, 84, 83] : List UInt8) [([97] : List UInt8)] hrD31 hoD31 (Nat.le_of_ble_eq_true rfl) (([69, 88, 73, 83, 84, 83] : List UInt8), 1, -1) (by decide) rfl (by decide) (by decide) (fun M' r => M' = [([97], gver), ([98], bkY x till)] ∧ r = rInt (manyK [([97], gver), ([98], bkY x till)] (n1 : Int) [([97] : List UInt8)] : Int)) (fun aa ac C H2 w2 hok9 hr9 hC9 hv9 => ckDoExists C H2 w2 v t m s p wb va vc sv (n1 : Int) es2 [([97], gver), ([98], bkY x till)] ((hM2.more hD31).more hC9) aa ac [([97] : List UInt8)] hr9 hok9 (Nat.le_of_ble_eq_true rfl)  hv9) hv).mono ?_) rfl
  rintro e w32 ⟨F2, es3, M3, r2, cs2, hF2, rfl, hrp2, hM3, hq, hv⟩
  refine ⟨_, rfl, ?_⟩
  obtain ⟨rfl, rfl⟩ : M3 = [([97], gver), ([98], bkY x till)] ∧ r2 = rInt 0 := ⟨hq.1, by rw [hq.2, back3]; rfl⟩
  obtain ⟨u2, rfl⟩ := rp_mk hrp2
  refine uG (vI 0) rfl (ex_fieldv rfl rfl (fun w => by kernel_rfl)) ?_
  refine uG (.bool false) rfl (ex_neq rfl rfl rfl (by decide)) (uK rfl ?_)
  refine uM rfl ?_
  refine uM rfl ?_
  refine sl_rowN (pv := #[(0, vS [82, 69, 78, 65, 77, 69, 78, 88]), (1, vS [98]), (2, vS [97])]) (L := [vS [82, 69, 78, 65, 77, 69, 78, 88], vS [98], vS [97]]) (e := 9) tV (wanted_of (j := 12) (d := 59) (b := false) rfl rfl rfl) rfl (by simp only [List.map_toArray, List.map_cons, List.map_nil]; rfl) hv (fun w => by kernel_rfl) (fun b33 w34 hv => ?_)
  simp only [zP, po]
  obtain ⟨D35, hD35, hv, hrD35, hoD35, -⟩ := (hv.cellRow (n := 3) (c := 3) (size := 1) rfl (by decide) (by decide)).rowBy
  replace hv := hv.front 1 rfl
  simp only [eS, eZ] at hv
  replace hv := hv.front 1 rfl
  simp only [eS, eZ] at hv
  refine xC kEcallable17 rfl ((lawDo26 D35 _ _ v t m s p wb va vc sv (n1 : Int) es3 [([97], gver), ([98], bkY x till)] (hM3.more hD35) _ _ ([82, 69, 78, 65, 77, 69, 78, 88] : List UInt8) [([98] : List UInt8), ([97] : List UInt8)] hrD35 hoD35 (Nat.le_of_ble_eq_true rfl) (([82, 69, 78, 65, 77, 69, 78, 88] : List UInt8), 2, 2) (by decide) rfl (by decide) (by decide) (fun M' r => RenamenxR [([97], gver), ([98], bkY x till)] (n1 : Int) [98] [97] M' r) (fun aa ac C H2 w2 hok9 hr9 hC9 hv9 => ckDoRenamenx C H2 w2 v t m s p wb va vc sv (n1 : Int) es3 [([97], gver), ([98], bkY x till)] ((hM3.more hD35).more hC9) aa ac [([98] : List UInt8), ([97] : List UInt8)] hr9 hok9 (Nat.le_of_ble_eq_true rfl) [98] [97] rfl rfl hv9) hv).mono ?_) rfl
  rintro e w36 ⟨F3, es4, M4, r3, cs3, hF3, rfl, hrp3, hM4, hq, hv⟩
  refine ⟨_, rfl, ?_⟩
  obtain ⟨rfl, rfl⟩ := back4 hf hp ha hq
  obtain ⟨u3, rfl⟩ := rp_mk hrp3
  refine uG (vI 1) rfl (ex_fieldv rfl rfl (fun w => by kernel_rfl)) ?_
  refine uG (.bool false) rfl (ex_neq rfl rfl rfl (by decide)) (uK rfl ?_)
  refine uM rfl ?_
  refine uM rfl ?_
  refine sl_rowN (pv := #[(0, vS [67, 79, 80, 89]), (1, vS [97]), (2, vS [99])]) (L := [vS [67, 79, 80, 89], vS [97], vS [99]]) (e := 9) tV (wanted_of (j := 19) (d := 66) (b := false) rfl rfl rfl) rfl (by simp only [List.map_toArray, List.map_cons, List.map_nil]; rfl) hv (fun w => by kernel_rfl) (fun b37 w38 hv => ?_)
  simp only [zP, po]
  obtain ⟨D39, hD39, hv, hrD39, hoD39, -⟩ := (hv.cellRow (n := 3) (c := 3) (size := 1) rfl (by decide) (by decide)).rowBy
  replace hv := hv.front 1 rfl
  simp only [eS, eZ] at hv
  replace hv := hv.front 1 rfl
  simp only [eS, eZ] at hv
  refine xC kEcallable17 rfl ((lawDo26 D39 _ _ v t m s p wb va vc sv (n1 : Int) es4 [([97], bkY x till), ([98], gver)] (hM4.more hD39) _ _ ([67, 79, 80, 89] : List UInt8) [([97] : List UInt8), ([99] : List UInt8)] hrD39 hoD39 (Nat.le_of_ble_eq_true rfl) (([67, 79, 80, 89] : List UInt8), 2, -1) (by decide) rfl (by decide) (by decide) (fun M' r => CopyR [([97], bkY x till), ([98], gver)] (n1 : Int) [97] [99] [] M' r) (fun aa ac C H2 w2 hok9 hr9 hC9 hv9 => ckDoCopy C H2 w2 v t m s p wb va vc sv (n1 : Int) es4 [([97], bkY x till), ([98], gver)] ((hM4.more hD39).more hC9) aa ac [([97] : List UInt8), ([99] : List UInt8)] hr9 hok9 (Nat.le_of_ble_eq_true rfl) [97] [99] rfl rfl (fun q hq => by simp only [List.mem_cons, List.not_mem_nil, or_false] at hq; rcases hq with rfl | rfl <;> decide) hv9) hv).mono ?_) rfl
  rintro e w40 ⟨F4, es5, M5, r4, cs4, hF4, rfl, hrp4, hM5, hq, hv⟩
  refine ⟨_, rfl, ?_⟩
  obtain ⟨rfl, rfl⟩ := back5 hf hp ha hq
  obtain ⟨u4, rfl⟩ := rp_mk hrp4
  refine uG (vI 1) rfl (ex_fieldv rfl rfl (fun w => by kernel_rfl)) ?_
  refine uG (.bool false) rfl (ex_neq rfl rfl rfl (by decide)) (uK rfl ?_)
  refine uW k24 (cF rfl ?_)
  refine kS (tK k23 ?_)
  refine sK fun _ k41 => rL (uM rfl ?_)
  refine uG (vP v) rfl (ex_nil rfl rfl) ?_
  refine uF (vP v) rfl (v1fa56_0 _ _ _) ?_
  refine uL _ rfl (run_load1 v1na54 (hv.load 0 0 rfl rfl)) ?_
  replace hv := hv.front 1 rfl
  simp only [eS, eZ] at hv
  refine wpi_callI v1callable215 tV wideC rfl (wn rfl) rfl rfl (r := vP t) (fun w => by kernel_rfl) (args := #[vS [97]]) (by simp only [List.map_toArray, List.map_cons, List.map_nil]; rfl) ((txnGet F4 _ _ t m s p wb va vc sv (n1 : Int) es5 [([97], bkY x till), ([98], gver), ([99], bkY x till)] [97] (hM5.more (Base.Le.refl _)) hv).mono ?_)
  rintro e w42 ⟨G1, y, yp, yt, yz, ok1, hG1, rfl, hgot, hyv, hv⟩
  refine ⟨_, rfl, ?_⟩
  obtain ⟨rfl, rfl⟩ := got_pin (back6 ha) hgot
  refine uM rfl (uE rfl ?_)
  refine uE rfl ?_
  refine sl_alloc tV (wn rfl) rfl hv kEal50 (fun b43 w44 hv => ?_)
  simp only [zP, po]
  refine xS 0 rfl hv x0sz50 rfl (by exact ⟨rfl, rfl, rfl, rfl, rfl, hyv.p.one, hyv.t.one, hyv.z.one, trivial⟩) (fun w45 hv => ?_)
  simp only [zO, sp] at hv
  refine uA rfl (uW k41 ?_)
  refine sK fun _ k46 => sK fun _ k47 => rL (uM rfl ?_)
  refine uG (.bool false) rfl (ex_not rfl rfl rfl) (uM rfl ?_)
  refine uF (.pointer (some ⟨b43, 3, none⟩)) rfl (x2fa50_3 _ _ _) ?_
  refine uL (.agg #[vI x.kind, vS x.text, yp, yt, yz]) rfl (lM 0 s1wd43 hv rfl rfl rfl rfl) ?_
  refine uL (.agg #[vI x.kind, vS x.text, xp, xt, xz]) rfl (lM 3 s1wd43 hv rfl rfl rfl rfl) ?_
  refine xC kEcallable18 rfl ((refSameV G1 _ _ x yp yt yz xp xt xz (hyv.more (Base.Le.refl _)).rd (hva.more (((((((((hD.trans hD27).trans hF1).trans hD31).trans hF2).trans hD35).trans hF3).trans hD39).trans hF4).trans hG1)).rd hva.pm hva.tm hva.zm hv).mono ?_) rfl
  rintro e w48 ⟨rfl, hv⟩
  refine ⟨_, rfl, uG (.bool false) rfl (ex_not rfl rfl rfl) ?_⟩
  refine uK rfl (uM rfl ?_)
  refine uF (.pointer (some ⟨b43, 2, none⟩)) rfl (s2fa50_2 _ _ _) ?_
  refine uL _ rfl (run_load1 s2na3 (hv.load 0 2 rfl rfl)) ?_
  refine uM rfl ?_
  by_cases hb49 : till ≠ till
  ·refine uG (.bool true) rfl (ex_neq rfl rfl rfl (qT hb49)) (uK rfl ?_)
   refine uM rfl ?_
   iterate 5 refine uP rfl ?_
   refine uK rfl (uW k47 ?_)
   refine cT rfl (sK fun _ k50 => ?_)
   refine rL (uA rfl ?_)
   refine uW k50 (rR ?_)
   refine tR (bR rfl rfl ?_)
   exfalso; omega
  refine uG (.bool false) rfl (ex_neq rfl rfl rfl (qF hb49)) (uK rfl ?_)
  refine uM rfl ?_
  refine uM rfl ?_
  refine sl_rowN (pv := #[(0, vS [68, 69, 76]), (1, vS [97]), (2, vS [97])]) (L := [vS [68, 69, 76], vS [97], vS [97]]) (e := 9) tV (wanted_of (j := 15) (d := 96) (b := false) rfl rfl rfl) rfl (by simp only [List.map_toArray, List.map_cons, List.map_nil]; rfl) hv (fun w => by kernel_rfl) (fun b51 w52 hv => ?_)
  simp only [zP, po]
  obtain ⟨D53, hD53, hv, hrD53, hoD53, -⟩ := (hv.cellRow (n := 3) (c := 3) (size := 1) rfl (by decide) (by decide)).rowBy
  replace hv := hv.front 1 rfl
  simp only [eS, eZ] at hv
  replace hv := hv.front 2 rfl
  simp only [eS, eZ] at hv
  refine xC kEcallable17 rfl ((lawDo26 D53 _ _ v t m s p wb va vc sv (n1 : Int) es5 [([97], bkY x till), ([98], gver), ([99], bkY x till)] (hM5.more (hG1.trans hD53)) _ _ ([68, 69, 76] : List UInt8) [([97] : List UInt8), ([97] : List UInt8)] hrD53 hoD53 (Nat.le_of_ble_eq_true rfl) (([68, 69, 76] : List UInt8), 1, -1) (by decide) rfl (by decide) (by decide) (fun M' r => ∃ e1, DelI [([97], bkY x till), ([98], gver), ([99], bkY x till)] (dropK [([97], bkY x till), ([98], gver), ([99], bkY x till)] (n1 : Int) [([97] : List UInt8), ([97] : List UInt8)]) e1 M' ∧ DoneR e1 (rInt ((dropK [([97], bkY x till), ([98], gver), ([99], bkY x till)] (n1 : Int) [([97] : List UInt8), ([97] : List UInt8)]).length : Int)) r) (fun aa ac C H2 w2 hok9 hr9 hC9 hv9 => ckDoDel C H2 w2 v t m s p wb va vc sv (n1 : Int) es5 [([97], bkY x till), ([98], gver), ([99], bkY x till)] ((hM5.more (hG1.trans hD53)).more hC9) aa ac [([97] : List UInt8), ([97] : List UInt8)] hr9 hok9 (Nat.le_of_ble_eq_true rfl)  hv9) hv).mono ?_) rfl
  rintro e w54 ⟨F5, es6, M6, r5, cs5, hF5, rfl, hrp5, hM6, hq, hv⟩
  refine ⟨_, rfl, ?_⟩
  obtain ⟨rfl, rfl⟩ := back8 ha hq
  obtain ⟨u5, rfl⟩ := rp_mk hrp5
  refine uG (vI 1) rfl (ex_fieldv rfl rfl (fun w => by kernel_rfl)) ?_
  refine uG (.bool false) rfl (ex_neq rfl rfl rfl (by decide)) (uK rfl ?_)
  refine uW k47 (cF rfl ?_)
  refine kS (tK k46 ?_)
  refine sK fun _ k55 => rL (uM rfl ?_)
  refine uG (vP v) rfl (ex_nil rfl rfl) ?_
  refine uF (vP v) rfl (v1fa56_0 _ _ _) ?_
  refine uL _ rfl (run_load1 v1na54 (hv.load 0 0 rfl rfl)) ?_
  replace hv := hv.front 1 rfl
  simp only [eS, eZ] at hv
  refine wpi_callI v1callable215 tV wideC rfl (wn rfl) rfl rfl (r := vP t) (fun w => by kernel_rfl) (args := #[vS [99]]) (by simp only [List.map_toArray, List.map_cons, List.map_nil]; rfl) ((txnGet F5 _ _ t m s p wb va vc sv (n1 : Int) es6 [([97], gver), ([98], gver), ([99], bkY x till)] [99] (hM6.more (Base.Le.refl _)) hv).mono ?_)
  rintro e w56 ⟨G2, z, zp, zt, zz, ok2, hG2, rfl, hgot, hzv, hv⟩
  refine ⟨_, rfl, ?_⟩
  obtain ⟨rfl, rfl⟩ := got_pin (back9 ha) hgot
  refine uM rfl (uE rfl ?_)
  refine uE rfl ?_
  refine sl_alloc tV (wn rfl) rfl hv kEal50 (fun b57 w58 hv => ?_)
  simp only [zP, po]
  refine xS 0 rfl hv x0sz50 rfl (by exact ⟨rfl, rfl, rfl, rfl, rfl, hzv.p.one, hzv.t.one, hzv.z.one, trivial⟩) (fun w59 hv => ?_)
  simp only [zO, sp] at hv
  refine uA rfl (uW k55 ?_)
  refine sK fun _ k60 => rL (uM rfl ?_)
  refine uM rfl ?_
  refine uF (.pointer (some ⟨b57, 3, none⟩)) rfl (x2fa50_3 _ _ _) ?_
  refine uL (.agg #[vI x.kind, vS x.text, zp, zt, zz]) rfl (lM 0 s1wd43 hv rfl rfl rfl rfl) ?_
  refine uL (.agg #[vI x.kind, vS x.text, xp, xt, xz]) rfl (lM 4 s1wd43 hv rfl rfl rfl rfl) ?_
  refine xC kEcallable18 rfl ((refSameV G2 _ _ x zp zt zz xp xt xz (hzv.more (Base.Le.refl _)).rd (hva.more ((((((((((((hD.trans hD27).trans hF1).trans hD31).trans hF2).trans hD35).trans hF3).trans hD39).trans hF4).trans hG1).trans hD53).trans hF5).trans hG2)).rd hva.pm hva.tm hva.zm hv).mono ?_) rfl
  rintro e w61 ⟨rfl, hv⟩
  refine ⟨_, rfl, uK rfl ?_⟩
  refine uM rfl ?_
  refine uF (.pointer (some ⟨b57, 2, none⟩)) rfl (s2fa50_2 _ _ _) ?_
  refine uL _ rfl (run_load1 s2na3 (hv.load 0 2 rfl rfl)) ?_
  refine uM rfl ?_
  by_cases hb62 : till = till
  ·refine uG (.bool true) rfl (ex_eql rfl rfl rfl (qT hb62)) (uK rfl ?_)
   refine uM rfl ?_
   refine uM rfl ?_
   refine sl_rowOne (v := vS [68, 66, 83, 73, 90, 69]) tV (wanted_of (j := 13) (d := 124) (b := true) rfl rfl rfl) rfl rfl hv kEel26 rfl (fun b63 w64 hv => ?_)
   simp only [zP, po]
   obtain ⟨D65, hD65, hv, hrD65, hoD65, -⟩ := (hv.cellRow (n := 1) (c := 1) (size := 1) rfl (by decide) (by decide)).rowBy
   replace hv := hv.front 1 rfl
   simp only [eS, eZ] at hv
   replace hv := hv.front 2 rfl
   simp only [eS, eZ] at hv
   refine xC kEcallable17 rfl ((lawDo26 D65 _ _ v t m s p wb va vc sv (n1 : Int) es6 [([97], gver), ([98], gver), ([99], bkY x till)] (hM6.more (hG2.trans hD65)) _ _ ([68, 66, 83, 73, 90, 69] : List UInt8) ([] : List (List UInt8)) hrD65 hoD65 (Nat.le_of_ble_eq_true rfl) (([68, 66, 83, 73, 90, 69] : List UInt8), 0, 0) (by decide) rfl (by decide) (by decide) (fun M' r => M' = [([97], gver), ([98], gver), ([99], bkY x till)] ∧ r = rInt ((namesT [([97], gver), ([98], gver), ([99], bkY x till)] (n1 : Int)).length : Int)) (fun aa ac C H2 w2 hok9 hr9 hC9 hv9 => ckDoSize C H2 w2 v t m s p wb va vc sv (n1 : Int) es6 [([97], gver), ([98], gver), ([99], bkY x till)] ((hM6.more (hG2.trans hD65)).more hC9) aa ac ([] : List (List UInt8)) hr9 hok9 (Nat.le_of_ble_eq_true rfl) (fun q hq => by simp only [List.map_cons, List.map_nil, List.mem_cons, List.not_mem_nil, or_false] at hq; rcases hq with rfl | rfl | rfl <;> decide) (Nat.le_of_ble_eq_true rfl) hv9) hv).mono ?_) rfl
   rintro e w66 ⟨F6, es7, M7, r6, cs6, hF6, rfl, hrp6, hM7, hq, hv⟩
   refine ⟨_, rfl, ?_⟩
   obtain ⟨rfl, rfl⟩ : M7 = [([97], gver), ([98], gver), ([99], bkY x till)] ∧ r6 = rInt 1 := ⟨hq.1, by rw [hq.2, back10 ha]; rfl⟩
   obtain ⟨u6, rfl⟩ := rp_mk hrp6
   refine uG (vI 1) rfl (ex_fieldv rfl rfl (fun w => by kernel_rfl)) ?_
   refine uG (.bool true) rfl (ex_eql rfl rfl rfl (by decide)) (uK rfl ?_)
   refine uA rfl (uW k60 ?_)
   refine rR (bR rfl rfl ?_)
   exact ⟨rfl, ((hv.kp [] 0 5)).weak ((((((((((((((hD.trans hD27).trans hF1).trans hD31).trans hF2).trans hD35).trans hF3).trans hD39).trans hF4).trans hG1).trans hD53).trans hF5).trans hG2).trans hD65).trans hF6)⟩
  refine uG (.bool false) rfl (ex_eql rfl rfl rfl (qF hb62)) (uK rfl ?_)
  refine uM rfl ?_
  iterate 5 refine uP rfl ?_
  refine uK rfl (uA rfl ?_)
  refine uW k60 (rR ?_)
  refine bR rfl rfl ?_
  exfalso; omega
 refine sK fun _ k67 => rL (uM rfl ?_)
 refine uG (vI (expire.tmod 2)) rfl (ex_rem (m := expire) (n := 2) rfl rfl rfl (by decide) rfl) ?_
 by_cases hb68 : (expire.tmod 2) = 0
 ·refine uG (.bool true) rfl (ex_eql rfl rfl rfl (qT hb68)) (uW k67 ?_)
  refine cT rfl (rL ?_)
  refine uM rfl ?_
  refine uG (vI ((n1 : Int) + 1)) rfl (ex_add rfl rfl rfl (i64_in (by omega))) (uM rfl ?_)
  refine uG (vI r2) rfl (ex_rem (m := expire) (n := 1000) rfl rfl rfl (by decide) hr2) ?_
  refine uG (vI (r2 + 1000)) rfl (ex_add rfl rfl rfl (i64_in (by omega))) ?_
  refine uG (vI n2) rfl (ex_rem (m := (r2 + 1000)) (n := 1000) rfl rfl rfl (by decide) hrn2) ?_
  refine uG (vI (((n1 : Int) + 1) + (n2 : Int))) rfl (ex_add rfl rfl rfl (i64_in (by omega))) (uA rfl ?_)
  refine uZ (then_normal (hJ19 (((n1 : Int) + 1) + (n2 : Int)) _ _ _ _ _ _ _ _ _ _ _ (by omega) (by omega) (by omega) hv))
 refine uG (.bool false) rfl (ex_eql rfl rfl rfl (qF hb68)) (uW k67 ?_)
 refine cF rfl (kS ?_)
 exact then_normal (hJ19 0 _ _ _ _ _ _ _ _ _ _ _ (by omega) (by omega) (by omega) hv)
end Go.Proofs.YtngpmolbphinnaaGreatDoor
