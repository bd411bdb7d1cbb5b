/- cset: keep, truth, change. -/
import Derived.Test.YtoljdfjnannakaaGreatDoorCsFauB
import Derived.Test.YtoljdfjnannakaaGreatDoorCsFauE
import Derived.Test.YtoljdfjnannakaaGreatDoorCsFauF
import Derived.Test.YtoljdfjnannakaaGreatDoorRows
import Derived.Laws.Strings2
import Derived.Laws.IdiomStrings
import Derived.Test.YtoljdfjnannakaaGreatDoorCsFauD
set_option maxRecDepth 100000
set_option maxHeartbeats 16000000
set_option synthInstance.maxSize 4096
set_option synthInstance.maxHeartbeats 400000
namespace Go.Proofs.YtoljdfjnannakaaGreatDoor
open Go.RowKit Go.Pm
theorem c1al28 : AL Tryz.prog 28 [vI 0, vS [], vI 0, vN] := fun w => by kernel_rfl
theorem c1callable45 : Callable Tryz.prog 45 := cb Tryz.func45 (by kernel_rfl)
theorem csetTruth (B : Base) (H : List Res) (w : World) (b : Bool) (hv : Inv B H w) :
  Calls Tryz.prog 66 #[.bool b] w fun e w' => e = .returned (.agg #[vI 2, vS (([] : List UInt8)), vI (if b then 1 else 0), vN]) ∧ Inv B H w' := by
 refine cW Tryz.func66 rfl Tryz.ntmps66 ?_
 simp only [al]
 refine sK fun _ k1 => rL (sl_alloc tV (wn rfl) rfl hv c1al28 (fun b2 w3 hv => ?_))
 refine uW k1 (sK fun _ k4 => ?_)
 refine sK fun _ k5 => rL (uM rfl ?_)
 refine uW k5 (wpIn_cond_split (t := b) rfl (fun hc6 => ?_) (fun hc6 => ?_))
 ·refine sK fun _ k7 => rL (xC c1callable45 rfl ((respInt B _ _ 1 hv).mono ?_) rfl)
  rintro e w8 ⟨rfl, hv⟩
  refine ⟨_, rfl, ?_⟩
  refine xS 0 rfl hv rssz28 rfl (by exact ⟨rfl, rfl, rfl, rfl, trivial⟩) (fun w9 hv => ?_)
  simp only [zO, sp] at hv
  refine uW k7 (rR ?_)
  refine tR (bC 0 rswd28 hv rfl rfl rfl rfl ?_)
  exact ⟨by rw [hc6]; rfl, (hv.kp [] 0 1)⟩
 refine kS (tK k4 ?_)
 refine sK fun _ k10 => rL (xC c1callable45 rfl ((respInt B _ _ 0 hv).mono ?_) rfl)
 rintro e w11 ⟨rfl, hv⟩
 refine ⟨_, rfl, ?_⟩
 refine xS 0 rfl hv rssz28 rfl (by exact ⟨rfl, rfl, rfl, rfl, trivial⟩) (fun w12 hv => ?_)
 simp only [zO, sp] at hv
 refine uW k10 (rR ?_)
 refine bC 0 rswd28 hv rfl rfl rfl rfl (⟨by rw [hc6]; rfl, (hv.kp [] 0 1)⟩)
theorem setV_at {B : Base} {l : List (List UInt8)} {la : Option Addr} {lc : Nat} (hr : RdV B [] la (textCells l)) (hok : SliceOk la l.length lc) (hm : l.length ≤ 1000000) : ValAt B (setV l) (vN) (.slice la l.length lc) (vN) :=
 ⟨⟨none, 0, rfl, ok_nil, rdV_nil⟩, ⟨la, lc, rfl, hok, hr⟩, ⟨none, 0, rfl, ok_nil, rdV_nil⟩, Nat.zero_le _, hm, Nat.zero_le _⟩
theorem c1fa73_0 : FA Tryz.prog 73 0 0 := fun w b o => by kernel_rfl
theorem c1na24 (w : World) : (isAgg 24).run Tryz.prog w = .ok false w := by kernel_rfl
theorem c1callable29 : Callable Tryz.prog 29 := cb Tryz.func29 (by kernel_rfl)
theorem csetKeep (B : Base) (H : List Res) (w : World) (v t m s p wb : Nat) (va : Option Addr) (vc : Nat) (sv : Value) (clk : Int) (es : List (List UInt8 × Value)) (M : List (List UInt8 × Ver)) (hM : VM B es M) (_ : OkM M) (aa : Option Addr) (ac n : Nat) (key : List UInt8) (y : Ver) (yp yt yz : Value) (_ : ValAt B y.val yp yt yz) (la : Option Addr) (lc : Nat) (l : List (List UInt8)) (hrl : RdV B [] la (textCells l)) (hokl : SliceOk la l.length lc) (hml : l.length ≤ 1000000) (hv : Inv B (Res.cell v [.iface 62 (vP t)] 39 :: txR t m s p wb va vc sv clk es :: H) w) :
  Calls Tryz.prog 44 #[.agg #[vP v, .slice aa n ac], vS key, .agg #[vI y.stamp, .bool y.gone, vI y.expire, vI y.val.kind, vS y.val.text, yp, yt, yz], .slice la l.length lc] w fun e w' => ∃ C es' M' ec, B.Le C ∧ e = .returned (vI ec) ∧ VM C es' M' ∧ KeepI M clk key (setV l) y.expire ec M' ∧ Inv C (Res.cell v [.iface 62 (vP t)] 39 :: txR t m s p wb va vc sv clk es' :: H) w' := by
 refine cW Tryz.func44 rfl Tryz.ntmps44 ?_
 simp only [al]
 refine sK fun _ k1 => rL (sl_box (L := [vP v, .slice aa n ac]) tV (wn rfl) rfl rfl hv (fun w => by kernel_rfl) (fun b2 w3 hv => ?_))
 refine sl_box (L := [vI y.stamp, .bool y.gone, vI y.expire, vI y.val.kind, vS y.val.text, yp, yt, yz]) tV (wn rfl) rfl rfl hv (fun w => by kernel_rfl) (fun b4 w5 hv => ?_)
 refine uA rfl (uW k1 ?_)
 refine sK fun _ k6 => rL (uF (vP b2) rfl (c1fa73_0 _ _ _) ?_)
 refine uL _ rfl (run_load1 c1na24 (hv.load 1 0 rfl rfl)) (uM rfl ?_)
 refine uM rfl ?_
 refine uG (.agg #[vI 4, vS [], vN, .slice la l.length lc, vN]) rfl (ex_buildN (vs := #[(0, vI 4), (3, .slice la l.length lc)]) rfl (by simp only [List.map_toArray, List.map_cons, List.map_nil]; rfl) (by kernel_rfl)) ?_
 refine uF (.pointer (some ⟨b4, 2, none⟩)) rfl (s2fa85_2 _ _ _) ?_
 refine uL _ rfl (run_load1 s2na3 (hv.load 0 2 rfl rfl)) ?_
 replace hv := hv.front 3 rfl
 simp only [eS, eZ] at hv
 replace hv := hv.front 3 rfl
 simp only [eS, eZ] at hv
 refine xC c1callable29 rfl ((viewKeep B _ _ v t m s p wb va vc sv clk es M key (setV l) _ _ _ y.expire hM (setV_at hrl hokl hml) hv).mono ?_) rfl
 rintro e w7 ⟨C, es', M', ec, hC, rfl, hM', hk, hv⟩
 refine ⟨_, rfl, uA rfl ?_⟩
 refine uW k6 (rR ?_)
 refine bR rfl rfl (⟨C, es', M', ec, hC, rfl, hM', hk, (hv.kp [1, 1] 2 2)⟩)
theorem c1fa73_1 : FA Tryz.prog 73 1 1 := fun w b o => by kernel_rfl
theorem c1callable63 : Callable Tryz.prog 63 := cb Tryz.func63 (by kernel_rfl)
theorem c1al85 : AL Tryz.prog 85 [vI 0, .bool false, vI 0, vI 0, vS [], vN, vN, vN] := fun w => by kernel_rfl
theorem c1callable64 : Callable Tryz.prog 64 := cb Tryz.func64 (by kernel_rfl)
theorem c1wd73 : Wide Tryz.prog 73 2 := wide_of (fun w => by kernel_rfl) (by kernel_rfl)
theorem c1callable44 : Callable Tryz.prog 44 := cb Tryz.func44 (by kernel_rfl)
theorem c1callable42 : Callable Tryz.prog 42 := cb Tryz.func42 (by kernel_rfl)
theorem c1callable65 : Callable Tryz.prog 65 := cb Tryz.func65 (by kernel_rfl)
theorem csetChange (B : Base) (H : List Res) (w : World) (v t m s p wb : Nat) (va : Option Addr) (vc : Nat) (sv : Value) (clk : Int) (es : List (List UInt8 × Value)) (M : List (List UInt8 × Ver)) (hM : VM B es M) (hO : OkM M) (aa : Option Addr) (ac : Nat) (args : List (List UInt8)) (hra : RdV B [] aa (textCells args)) (hoka : SliceOk aa args.length ac) (_ : args.length ≤ 10000) (key : List UInt8) (hkey : args[0]? = some key) (b : Bool) (xa : Option Addr) (xc : Nat) (xs : List (List UInt8)) (hokx : SliceOk xa xs.length xc) (hrx : RdV B [] xa (textCells xs)) (hmx : xs.length ≤ 10000) (hv : Inv B (Res.cell v [.iface 62 (vP t)] 39 :: txR t m s p wb va vc sv clk es :: H) w) :
  Calls Tryz.prog 39 #[.agg #[vP v, .slice aa args.length ac], .bool b, .slice xa xs.length xc] w fun e w' => ∃ C es' M' r cs, B.Le C ∧ e = .returned (.agg cs.toArray) ∧ RpAt C r cs ∧ VM C es' M' ∧ OkM M' ∧ ChangeR M clk key b xs M' r ∧ Inv C (Res.cell v [.iface 62 (vP t)] 39 :: txR t m s p wb va vc sv clk es' :: H) w' := by
 refine cW Tryz.func39 rfl Tryz.ntmps39 ?_
 simp only [al]
 refine sK fun _ k1 => ?_
 have hal := (List.getElem?_eq_some_iff.1 hkey).1
 obtain ⟨ab, ao, had, hrdkey⟩ := text_reads hra hkey
 subst had
 refine rL (sl_box (L := [vP v, .slice (some ⟨ab, ao, none⟩) args.length ac]) tV (wn rfl) rfl rfl hv (fun w => by kernel_rfl) (fun b2 w3 hv => ?_))
 refine sl_alloc tV (wn rfl) rfl hv c1al28 (fun b4 w5 hv => ?_)
 refine uW k1 (sK fun _ k6 => ?_)
 refine rT mixed (fun az wz => ∃ (C : Base) (y : Ver) (yp yt yz : Value) (ec : Int) (b13 : Nat), (B.Le C) ∧ (ValAt C y.val yp yt yz) ∧ (OfI M clk key 4 y ec) ∧ az = { tmps := #[.agg #[vP v, .slice (some ⟨ab, ao, none⟩) args.length ac], .bool b, .slice xa xs.length xc, vP b2, undef, undef, vP b4, vP b13, vI ec, undef, undef, .tuple #[.agg #[vI y.stamp, .bool y.gone, vI y.expire, vI y.val.kind, vS y.val.text, yp, yt, yz], vI ec], vP b2, vP v, .pointer (some ⟨b2, 1, none⟩), .slice (some ⟨ab, ao, none⟩) args.length ac, .pointer (some ⟨ab, ao + 0, none⟩), vS key, .tuple #[.agg #[vI y.stamp, .bool y.gone, vI y.expire, vI y.val.kind, vS y.val.text, yp, yt, yz], vI ec], .agg #[vI y.stamp, .bool y.gone, vI y.expire, vI y.val.kind, vS y.val.text, yp, yt, yz], vI ec, undef, undef, undef, undef, undef, undef, undef, undef, undef, undef, undef, undef, undef, undef, undef, undef, undef, undef, undef, undef, undef, undef, undef, undef, undef, undef, undef, undef, undef, undef, undef, undef, undef, undef, undef, undef, undef, undef, undef], defers := [] } ∧ Inv C (Res.cell b13 [vI y.stamp, .bool y.gone, vI y.expire, vI y.val.kind, vS y.val.text, yp, yt, yz] 85 :: Res.cell v [.iface 62 (vP t)] 39 :: txR t m s p wb va vc sv clk es :: Res.cell b4 [vI 0, vS [], vI 0, vN] 28 :: Res.cell b2 [vP v, .slice (some ⟨ab, ao, none⟩) args.length ac] 73 :: H) wz) [6, 10, 11] [0,1,2,3,4,5] [7,8,9,10,11,12] [6,7,8,9,11,12] 6 10 60 rfl (by kernel_rfl) hv ?_ ?_
 ·intro R2 l1 l2 hR2 hl1 hl2
  simp only [qm, opAt]
  refine tG (vP b2) rfl (ex_field rfl rfl (c1fa73_0 _ _ _)) (tF (vP v) rfl (fun hv => ex_load rfl rfl (run_load1 c1na24 (hv.load 1 0 rfl rfl))) fun f7 hf7 => ?_)
  simp only [zP, po]
  refine tG (.pointer (some ⟨b2, 1, none⟩)) rfl (ex_field rfl rfl (c1fa73_1 _ _ _)) (tF (.slice (some ⟨ab, ao, none⟩) args.length ac) rfl (fun hv => ex_load rfl rfl (run_load1 s1na22 (hv.load 1 1 rfl rfl))) fun f8 hf8 => ?_)
  simp only [zP, po]
  refine tG (.pointer (some ⟨ab, ao + 0, none⟩)) rfl (ex_index rfl rfl rfl (run_idx1 (k := 0) Tryz.underlying22 s9es22 (by omega))) (tF (vS key) rfl (fun hv => ex_load rfl rfl (run_load1 s9na9 (hrdkey _ _ _ (Base.Le.refl _) no_res hv 0 _ rfl))) fun f9 hf9 => ?_)
  simp only [zP, po]
  refine tB ?_ ?_
  ·rw [hl1]; clear hl1 hl2
   simp only [qm, opAt]
   refine dS rfl fun w10 hv => ?_
   replace hv := hv.front 3 rfl
   simp only [eS, eZ] at hv
   replace hv := hv.front 3 rfl
   simp only [eS, eZ] at hv
   refine mC c1callable63 rfl ((viewOf B _ _ v t m s p wb va vc sv clk es M key 4 hM hv).mono ?_) rfl
   rintro e w11 ⟨C, y, yp, yt, yz, ec, hC, rfl, hyv, hof, hv⟩
   refine ⟨_, rfl, dV hv (fK rfl (fK rfl (fK rfl fN))) ?_⟩
   refine dM (.tuple #[.agg #[vI y.stamp, .bool y.gone, vI y.expire, vI y.val.kind, vS y.val.text, yp, yt, yz], vI ec]) rfl (dG (.agg #[vI y.stamp, .bool y.gone, vI y.expire, vI y.val.kind, vS y.val.text, yp, yt, yz]) rfl (ex_extract rfl rfl rfl) ?_)
   simp only [zP, po]
   refine dG (vI ec) rfl (ex_extract rfl rfl rfl) (dS rfl fun w12 hv => ?_)
   refine mem_alloc rfl rfl hv c1al85 (fun b13 w14 hv => ?_)
   refine dV hv (fC (fun ww hv => hf9 ww (ex_load rfl rfl (run_load1 s9na9 (hrdkey _ _ _ hC no_res hv 0 _ rfl)))) (fC (fun ww hv => hf8 ww (ex_load rfl rfl (run_load1 s1na22 (hv.load 4 1 rfl rfl)))) (fC (fun ww hv => hf7 ww (ex_load rfl rfl (run_load1 c1na24 (hv.load 4 0 rfl rfl)))) fN))) (dS rfl fun w15 hv => ?_)
   refine mS 0 rfl hv x0sz85 rfl (by exact ⟨rfl, rfl, rfl, rfl, rfl, hyv.p.one, hyv.t.one, hyv.z.one, trivial⟩) (fun w16 hv => ?_)
   simp only [zO, sp] at hv
   refine dV hv (fK rfl (fK rfl (fK rfl fN))) ?_
   simp only [zP, po]
   refine dA (vI ec) rfl (dE fun wz hv => ?_)
   simp only [zP, po]
   exact hR2 _ _ ⟨C, y, yp, yt, yz, ec, b13, hC, hyv, hof, rfl, (((((hv.front 4 rfl).front 4 rfl).front 4 rfl).front 4 rfl).front 4 rfl)⟩
  rw [hl2]; clear hl1 hl2
  simp only [qm, opAt]
  refine dS rfl fun w17 hv => mem_alloc rfl rfl hv c1al85 (fun b18 w19 hv => ?_)
  refine dV hv (fC (fun ww hv => hf9 ww (ex_load rfl rfl (run_load1 s9na9 (hrdkey _ _ _ (Base.Le.refl _) no_res hv 0 _ rfl)))) (fC (fun ww hv => hf8 ww (ex_load rfl rfl (run_load1 s1na22 (hv.load 2 1 rfl rfl)))) (fC (fun ww hv => hf7 ww (ex_load rfl rfl (run_load1 c1na24 (hv.load 2 0 rfl rfl)))) fN))) (dS rfl fun w20 hv => ?_)
  replace hv := hv.front 4 rfl
  simp only [eS, eZ] at hv
  replace hv := hv.front 4 rfl
  simp only [eS, eZ] at hv
  refine mC c1callable63 rfl ((viewOf B _ _ v t m s p wb va vc sv clk es M key 4 hM hv).mono ?_) rfl
  rintro e w21 ⟨C, y, yp, yt, yz, ec, hC, rfl, hyv, hof, hv⟩
  refine ⟨_, rfl, dV hv (fK rfl (fK rfl (fK rfl fN))) ?_⟩
  refine dM (.tuple #[.agg #[vI y.stamp, .bool y.gone, vI y.expire, vI y.val.kind, vS y.val.text, yp, yt, yz], vI ec]) rfl ?_
  simp only [zP, po]
  refine dG (.agg #[vI y.stamp, .bool y.gone, vI y.expire, vI y.val.kind, vS y.val.text, yp, yt, yz]) rfl (ex_extract rfl rfl rfl) (dG (vI ec) rfl (ex_extract rfl rfl rfl) ?_)
  refine dS rfl fun w22 hv => mS 2 rfl hv x0sz85 rfl (by exact ⟨rfl, rfl, rfl, rfl, rfl, hyv.p.one, hyv.t.one, hyv.z.one, trivial⟩) (fun w23 hv => ?_)
  simp only [zS, zO, sp] at hv
  refine dV hv (fK rfl (fK rfl (fK rfl fN))) ?_
  simp only [zP, po]
  refine dA (vI ec) rfl (dE fun wz hv => ?_)
  simp only [zP, po]
  exact hR2 _ _ ⟨C, y, yp, yt, yz, ec, b18, hC, hyv, hof, rfl, (((((hv.front 4 rfl).front 4 rfl).front 3 rfl).front 3 rfl).front 4 rfl)⟩
 rintro _ w24 ⟨C, y, yp, yt, yz, ec, b13, hC, hyv, hof, rfl, hv⟩
 obtain ⟨pa, pc, za, zc, pn, zn, sa, sc, rfl, rfl, rfl, hoks, hrs⟩ : ∃ pa pc za zc pn zn sa sc, yp = .slice pa pn pc ∧ yz = .slice za zn zc ∧ yt = .slice sa y.val.texts.length sc ∧ SliceOk sa y.val.texts.length sc ∧ RdV C [] sa (textCells y.val.texts) := by
  obtain ⟨⟨a1, c1, h1, -⟩, ⟨a2, c2, h2, h3, h4⟩, ⟨a3, c3, h5, -⟩, -⟩ := hyv
  exact ⟨_, _, _, _, _, _, _, _, h1, h5, h2, h3, h4⟩
 refine tK k6 (sK fun _ k25 => ?_)
 refine sK fun _ k26 => rL (uM rfl ?_)
 by_cases hb27 : ec ≠ 0
 ·refine uG (.bool true) rfl (ex_neq rfl rfl rfl (qT hb27)) (uW k26 ?_)
  refine cT rfl (sK fun _ k28 => ?_)
  refine rL (uM rfl ?_)
  refine xC rscallable24 rfl ((viewWrong C _ _ ec hv).mono ?_) rfl
  rintro e w30 ⟨s29, rfl, hv⟩
  refine ⟨_, rfl, ?_⟩
  refine xS 3 rfl hv rssz28 rfl (by exact ⟨rfl, rfl, rfl, rfl, trivial⟩) (fun w31 hv => ?_)
  simp only [zS, zO, sp] at hv
  refine uW k28 (rR ?_)
  refine tR (bC 3 rswd28 hv rfl rfl rfl rfl ?_)
  exact ⟨C, es, M, rFault s29, rpCells 1 s29 0 (vN), hC, rfl, rpAt_leaf, hM.more hC, hO, ⟨y, ec, hof, .inl ⟨by omega, rfl, rfl⟩⟩, (hv.kp [2, 2] 2 3)⟩
 refine uG (.bool false) rfl (ex_neq rfl rfl rfl (qF hb27)) (uW k26 ?_)
 refine cF rfl (kS ?_)
 refine tK k25 (sK fun _ k32 => ?_)
 have hec00 : ec = 0 := by omega
 refine rL (uF (.pointer (some ⟨b13, 3, none⟩)) rfl (x2fa85_3 _ _ _) ?_)
 refine uF (.pointer (some ⟨b13, 6, none⟩)) rfl (s1fa78_3 _ _ _) ?_
 refine uL _ rfl (run_load1 s1na22 (hv.load 0 6 rfl rfl)) (uA rfl ?_)
 refine uA rfl (uW k32 ?_)
 refine sK fun _ k33 => sK fun _ k34 => rL (uM rfl ?_)
 refine uW k34 (wpIn_cond_split (t := b) rfl (fun hc35 => ?_) (fun hc35 => ?_))
 ·refine rL (uM rfl ?_)
  refine uM rfl ?_
  have hso := hO.set hof
  have hsor := hO.sorted hof
  have hsl := hso.1
  refine xC c1callable64 rfl ((setAdd C _ _ sa xa sc xc y.val.texts xs hoks hrs hsor (by omega) hokx (hrx.more hC (fun _ h => h)) hmx hv).mono ?_) rfl
  rintro e w36 ⟨D, oa, oc, out, n, ec2, hD, rfl, hoko, hro, hadd, hv⟩
  refine ⟨_, rfl, uM rfl ?_⟩
  refine uE rfl (uE rfl ?_)
  refine uE rfl (uA rfl ?_)
  refine uA rfl (uA rfl ?_)
  refine uW k33 (sK fun _ k37 => ?_)
  refine sK fun _ k38 => rL (uM rfl ?_)
  by_cases hb39 : ec2 = 0
  ·refine uG (.bool true) rfl (ex_eql rfl rfl rfl (qT hb39)) (uM rfl ?_)
   refine uM rfl ?_
   by_cases hb40 : n > 0
   ·refine uG (.bool true) rfl (ex_gtr rfl rfl rfl (qT hb40)) (uK rfl ?_)
    refine uW k38 (cT rfl ?_)
    refine rW mixed [7] [0,1,2,3,4,5,6,7,8] 60 rfl (by kernel_rfl) hv ?_
    simp only [qm, opAt]
    refine dL (.agg #[vP v, .slice (some ⟨ab, ao, none⟩) args.length ac]) rfl (fun hv => ex_load rfl rfl (lM 4 c1wd73 hv rfl rfl rfl rfl)) (dG (.pointer (some ⟨b2, 1, none⟩)) rfl (ex_field rfl rfl (c1fa73_1 _ _ _)) ?_)
    refine dL _ rfl (fun hv => ex_load rfl rfl (run_load1 s1na22 (hv.load 4 1 rfl rfl))) ?_
    simp only [zP, po]
    refine dG (.pointer (some ⟨ab, ao + 0, none⟩)) rfl (ex_index rfl rfl rfl (run_idx1 (k := 0) Tryz.underlying22 s9es22 (by omega))) (dL _ rfl (fun hv => ex_load rfl rfl (run_load1 s9na9 (hrdkey _ _ _ (hC.trans hD) no_res hv 0 _ rfl))) ?_)
    refine dL (.agg #[vI y.stamp, .bool y.gone, vI y.expire, vI y.val.kind, vS y.val.text, .slice pa pn pc, .slice sa y.val.texts.length sc, .slice za zn zc]) rfl (fun hv => ex_load rfl rfl (lM 0 x0wd85 hv rfl rfl rfl rfl)) ?_
    simp only [zP, po]
    refine dM (.slice oa out.length oc) rfl (dS rfl fun w41 hv => ?_)
    replace hv := hv.front 2 rfl
    simp only [eS, eZ] at hv
    replace hv := hv.front 2 rfl
    simp only [eS, eZ] at hv
    refine mC c1callable44 rfl ((csetKeep D _ _ v t m s p wb va vc sv clk es M (hM.more (hC.trans hD)) hO (some ⟨ab, ao, none⟩) ac args.length key y _ _ _ (hyv.more hD) oa oc out hro hoko (by have h9 := hadd; rcases h9 with ⟨-, -, rfl, -⟩ | ⟨-, j, -, ⟨-, -, rfl, -⟩ | ⟨-, h9, rfl, -⟩⟩ <;> simp <;> omega) hv).mono ?_) rfl
    rintro e w42 ⟨E, es', M', ec3, hE, rfl, hM', hkp, hv⟩
    refine ⟨_, rfl, dW hv ?_⟩
    refine dA (vI ec3) rfl (dE fun w43 hv => ?_)
    simp only [zP, po]
    refine tK k37 (sK fun _ k44 => ?_)
    refine rL (uM rfl ?_)
    refine uM rfl ?_
    refine xC c1callable45 rfl ((respInt E _ _ n hv).mono ?_) rfl
    rintro e w45 ⟨rfl, hv⟩
    refine ⟨_, rfl, ?_⟩
    simp only [zP, po]
    refine xC c1callable42 rfl ((viewDone E _ _ ec3 2 n ([] : List UInt8) (vN) rfl rfl hv).mono ?_) rfl
    rintro e w46 ⟨xr, hxr, rfl, hv⟩
    refine ⟨_, rfl, ?_⟩
    rcases hxr with ⟨hec0, rfl⟩ | ⟨hec0, s47, rfl⟩
    ·refine xS 3 rfl hv rssz28 rfl (by exact ⟨rfl, rfl, rfl, rfl, trivial⟩) (fun w48 hv => ?_)
     simp only [zS, zO, sp] at hv
     refine uW k44 (rR ?_)
     refine bC 3 rswd28 hv rfl rfl rfl rfl (⟨E, es', M', rInt n, rpCells 2 [] n (vN), ((hC.trans hD).trans hE), rfl, rpAt_leaf, hM'.more (Base.Le.refl _), hO.keep hkp, ⟨y, 0, by rw [← hec00]; exact hof, .inr ⟨rfl, out, n, ec2, by rw [if_pos hc35]; exact hadd, .inl ⟨hb39, by omega, ec3, hkp, .inl ⟨by omega, rfl⟩⟩⟩⟩, (hv.kp [1, 1] 2 3)⟩)
    refine xS 3 rfl hv rssz28 rfl (by exact ⟨rfl, rfl, rfl, rfl, trivial⟩) (fun w49 hv => ?_)
    simp only [zS, zO, sp] at hv
    refine uW k44 (rR ?_)
    refine bC 3 rswd28 hv rfl rfl rfl rfl (⟨E, es', M', rFault s47, rpCells 1 s47 0 (vN), ((hC.trans hD).trans hE), rfl, rpAt_leaf, hM'.more (Base.Le.refl _), hO.keep hkp, ⟨y, 0, by rw [← hec00]; exact hof, .inr ⟨rfl, out, n, ec2, by rw [if_pos hc35]; exact hadd, .inl ⟨hb39, by omega, ec3, hkp, .inr ⟨by omega, rfl⟩⟩⟩⟩, (hv.kp [1, 1] 2 3)⟩)
   refine uG (.bool false) rfl (ex_gtr rfl rfl rfl (qF hb40)) (uK rfl ?_)
   refine uW k38 (cF rfl ?_)
   refine kS (tK k37 ?_)
   refine sK fun _ k50 => rL (uM rfl ?_)
   refine uM rfl ?_
   refine xC c1callable45 rfl ((respInt D _ _ n hv).mono ?_) rfl
   rintro e w51 ⟨rfl, hv⟩
   refine ⟨_, rfl, ?_⟩
   simp only [zP, po]
   refine xC c1callable42 rfl ((viewDone D _ _ ec2 2 n ([] : List UInt8) (vN) rfl rfl hv).mono ?_) rfl
   rintro e w52 ⟨xr, hxr, rfl, hv⟩
   refine ⟨_, rfl, ?_⟩
   rcases hxr with ⟨hec0, rfl⟩ | ⟨hec0, s53, rfl⟩
   ·refine xS 3 rfl hv rssz28 rfl (by exact ⟨rfl, rfl, rfl, rfl, trivial⟩) (fun w54 hv => ?_)
    simp only [zS, zO, sp] at hv
    refine uW k50 (rR ?_)
    refine bC 3 rswd28 hv rfl rfl rfl rfl (⟨D, es, M, rInt n, rpCells 2 [] n (vN), (hC.trans hD), rfl, rpAt_leaf, hM.more (hC.trans hD), hO, ⟨y, 0, by rw [← hec00]; exact hof, .inr ⟨rfl, out, n, ec2, by rw [if_pos hc35]; exact hadd, .inr ⟨by omega, rfl, .inl ⟨by omega, rfl⟩⟩⟩⟩, (hv.kp [2, 2] 2 3)⟩)
   refine xS 3 rfl hv rssz28 rfl (by exact ⟨rfl, rfl, rfl, rfl, trivial⟩) (fun w55 hv => ?_)
   simp only [zS, zO, sp] at hv
   refine uW k50 (rR ?_)
   refine bC 3 rswd28 hv rfl rfl rfl rfl (⟨D, es, M, rFault s53, rpCells 1 s53 0 (vN), (hC.trans hD), rfl, rpAt_leaf, hM.more (hC.trans hD), hO, ⟨y, 0, by rw [← hec00]; exact hof, .inr ⟨rfl, out, n, ec2, by rw [if_pos hc35]; exact hadd, .inr ⟨by omega, rfl, .inr ⟨by omega, rfl⟩⟩⟩⟩, (hv.kp [2, 2] 2 3)⟩)
  refine uG (.bool false) rfl (ex_eql rfl rfl rfl (qF hb39)) (uM rfl ?_)
  refine uP rfl ?_
  refine uP rfl (uK rfl ?_)
  refine uW k38 (cF rfl ?_)
  refine kS (tK k37 ?_)
  refine sK fun _ k56 => rL (uM rfl ?_)
  refine uM rfl ?_
  refine xC c1callable45 rfl ((respInt D _ _ n hv).mono ?_) rfl
  rintro e w57 ⟨rfl, hv⟩
  refine ⟨_, rfl, ?_⟩
  simp only [zP, po]
  refine xC c1callable42 rfl ((viewDone D _ _ ec2 2 n ([] : List UInt8) (vN) rfl rfl hv).mono ?_) rfl
  rintro e w58 ⟨xr, hxr, rfl, hv⟩
  refine ⟨_, rfl, ?_⟩
  rcases hxr with ⟨hec0, rfl⟩ | ⟨hec0, s59, rfl⟩
  ·refine xS 3 rfl hv rssz28 rfl (by exact ⟨rfl, rfl, rfl, rfl, trivial⟩) (fun w60 hv => ?_)
   simp only [zS, zO, sp] at hv
   refine uW k56 (rR ?_)
   refine bC 3 rswd28 hv rfl rfl rfl rfl (⟨D, es, M, rInt n, rpCells 2 [] n (vN), (hC.trans hD), rfl, rpAt_leaf, hM.more (hC.trans hD), hO, ⟨y, 0, by rw [← hec00]; exact hof, .inr ⟨rfl, out, n, ec2, by rw [if_pos hc35]; exact hadd, .inr ⟨by omega, rfl, .inl ⟨by omega, rfl⟩⟩⟩⟩, (hv.kp [2, 2] 2 3)⟩)
  refine xS 3 rfl hv rssz28 rfl (by exact ⟨rfl, rfl, rfl, rfl, trivial⟩) (fun w61 hv => ?_)
  simp only [zS, zO, sp] at hv
  refine uW k56 (rR ?_)
  refine bC 3 rswd28 hv rfl rfl rfl rfl (⟨D, es, M, rFault s59, rpCells 1 s59 0 (vN), (hC.trans hD), rfl, rpAt_leaf, hM.more (hC.trans hD), hO, ⟨y, 0, by rw [← hec00]; exact hof, .inr ⟨rfl, out, n, ec2, by rw [if_pos hc35]; exact hadd, .inr ⟨by omega, rfl, .inr ⟨by omega, rfl⟩⟩⟩⟩, (hv.kp [2, 2] 2 3)⟩)
 refine rL (uM rfl ?_)
 refine uM rfl ?_
 have hso := hO.set hof
 have hsl := hso.1
 refine xC c1callable65 rfl ((setDel C _ _ sa sc y.val.texts hrs (by omega) xa xc xs hokx (hrx.more hC (fun _ h => h)) (by omega) hv).mono ?_) rfl
 rintro e w62 ⟨D, oa, oc, out, hD, rfl, hoko, hro, hdel, hv⟩
 refine ⟨_, rfl, uM rfl ?_⟩
 refine uE rfl (uE rfl ?_)
 refine uA rfl (uA rfl ?_)
 refine uW k33 (sK fun _ k63 => ?_)
 refine sK fun _ k64 => rL (uM rfl ?_)
 by_cases hb65 : ec = 0
 ·refine uG (.bool true) rfl (ex_eql rfl rfl rfl (qT hb65)) (uM rfl ?_)
  refine uM rfl ?_
  by_cases hb66 : ((y.val.texts.length : Int) - (out.length : Int)) > 0
  ·refine uG (.bool true) rfl (ex_gtr rfl rfl rfl (qT hb66)) (uK rfl ?_)
   refine uW k64 (cT rfl ?_)
   refine rW mixed [7] [0,1,2,3,4,5,6,7,8] 60 rfl (by kernel_rfl) hv ?_
   simp only [qm, opAt]
   refine dL (.agg #[vP v, .slice (some ⟨ab, ao, none⟩) args.length ac]) rfl (fun hv => ex_load rfl rfl (lM 4 c1wd73 hv rfl rfl rfl rfl)) (dG (.pointer (some ⟨b2, 1, none⟩)) rfl (ex_field rfl rfl (c1fa73_1 _ _ _)) ?_)
   refine dL _ rfl (fun hv => ex_load rfl rfl (run_load1 s1na22 (hv.load 4 1 rfl rfl))) ?_
   simp only [zP, po]
   refine dG (.pointer (some ⟨ab, ao + 0, none⟩)) rfl (ex_index rfl rfl rfl (run_idx1 (k := 0) Tryz.underlying22 s9es22 (by omega))) (dL _ rfl (fun hv => ex_load rfl rfl (run_load1 s9na9 (hrdkey _ _ _ (hC.trans hD) no_res hv 0 _ rfl))) ?_)
   refine dL (.agg #[vI y.stamp, .bool y.gone, vI y.expire, vI y.val.kind, vS y.val.text, .slice pa pn pc, .slice sa y.val.texts.length sc, .slice za zn zc]) rfl (fun hv => ex_load rfl rfl (lM 0 x0wd85 hv rfl rfl rfl rfl)) ?_
   simp only [zP, po]
   refine dM (.slice oa out.length oc) rfl (dS rfl fun w67 hv => ?_)
   replace hv := hv.front 2 rfl
   simp only [eS, eZ] at hv
   replace hv := hv.front 2 rfl
   simp only [eS, eZ] at hv
   refine mC c1callable44 rfl ((csetKeep D _ _ v t m s p wb va vc sv clk es M (hM.more (hC.trans hD)) hO (some ⟨ab, ao, none⟩) ac args.length key y _ _ _ (hyv.more hD) oa oc out hro hoko (by have h9 : out.length ≤ y.val.texts.length := (by rw [hdel]; exact List.length_filter_le _ _); omega) hv).mono ?_) rfl
   rintro e w68 ⟨E, es', M', ec3, hE, rfl, hM', hkp, hv⟩
   refine ⟨_, rfl, dW hv ?_⟩
   refine dA (vI ec3) rfl (dE fun w69 hv => ?_)
   simp only [zP, po]
   refine tK k63 (sK fun _ k70 => ?_)
   refine rL (uM rfl ?_)
   refine uM rfl ?_
   refine xC c1callable45 rfl ((respInt E _ _ ((y.val.texts.length : Int) - (out.length : Int)) hv).mono ?_) rfl
   rintro e w71 ⟨rfl, hv⟩
   refine ⟨_, rfl, ?_⟩
   simp only [zP, po]
   refine xC c1callable42 rfl ((viewDone E _ _ ec3 2 ((y.val.texts.length : Int) - (out.length : Int)) ([] : List UInt8) (vN) rfl rfl hv).mono ?_) rfl
   rintro e w72 ⟨xr, hxr, rfl, hv⟩
   refine ⟨_, rfl, ?_⟩
   rcases hxr with ⟨hec0, rfl⟩ | ⟨hec0, s73, rfl⟩
   ·refine xS 3 rfl hv rssz28 rfl (by exact ⟨rfl, rfl, rfl, rfl, trivial⟩) (fun w74 hv => ?_)
    simp only [zS, zO, sp] at hv
    refine uW k70 (rR ?_)
    refine bC 3 rswd28 hv rfl rfl rfl rfl (⟨E, es', M', rInt ((y.val.texts.length : Int) - (out.length : Int)), rpCells 2 [] ((y.val.texts.length : Int) - (out.length : Int)) (vN), ((hC.trans hD).trans hE), rfl, rpAt_leaf, hM'.more (Base.Le.refl _), hO.keep hkp, ⟨y, 0, by rw [← hec00]; exact hof, .inr ⟨rfl, out, ((y.val.texts.length : Int) - (out.length : Int)), 0, by rw [if_neg (by rw [hc35]; decide)]; exact ⟨hdel, rfl, rfl⟩, .inl ⟨rfl, by omega, ec3, hkp, .inl ⟨by omega, rfl⟩⟩⟩⟩, (hv.kp [1, 1] 2 3)⟩)
   refine xS 3 rfl hv rssz28 rfl (by exact ⟨rfl, rfl, rfl, rfl, trivial⟩) (fun w75 hv => ?_)
   simp only [zS, zO, sp] at hv
   refine uW k70 (rR ?_)
   refine bC 3 rswd28 hv rfl rfl rfl rfl (⟨E, es', M', rFault s73, rpCells 1 s73 0 (vN), ((hC.trans hD).trans hE), rfl, rpAt_leaf, hM'.more (Base.Le.refl _), hO.keep hkp, ⟨y, 0, by rw [← hec00]; exact hof, .inr ⟨rfl, out, ((y.val.texts.length : Int) - (out.length : Int)), 0, by rw [if_neg (by rw [hc35]; decide)]; exact ⟨hdel, rfl, rfl⟩, .inl ⟨rfl, by omega, ec3, hkp, .inr ⟨by omega, rfl⟩⟩⟩⟩, (hv.kp [1, 1] 2 3)⟩)
  refine uG (.bool false) rfl (ex_gtr rfl rfl rfl (qF hb66)) (uK rfl ?_)
  refine uW k64 (cF rfl ?_)
  refine kS (tK k63 ?_)
  refine sK fun _ k76 => rL (uM rfl ?_)
  refine uM rfl ?_
  refine xC c1callable45 rfl ((respInt D _ _ ((y.val.texts.length : Int) - (out.length : Int)) hv).mono ?_) rfl
  rintro e w77 ⟨rfl, hv⟩
  refine ⟨_, rfl, ?_⟩
  simp only [zP, po]
  refine xC c1callable42 rfl ((viewDone D _ _ ec 2 ((y.val.texts.length : Int) - (out.length : Int)) ([] : List UInt8) (vN) rfl rfl hv).mono ?_) rfl
  rintro e w78 ⟨xr, hxr, rfl, hv⟩
  refine ⟨_, rfl, ?_⟩
  rcases hxr with ⟨hec0, rfl⟩ | ⟨hec0, s79, rfl⟩
  ·refine xS 3 rfl hv rssz28 rfl (by exact ⟨rfl, rfl, rfl, rfl, trivial⟩) (fun w80 hv => ?_)
   simp only [zS, zO, sp] at hv
   refine uW k76 (rR ?_)
   refine bC 3 rswd28 hv rfl rfl rfl rfl (⟨D, es, M, rInt ((y.val.texts.length : Int) - (out.length : Int)), rpCells 2 [] ((y.val.texts.length : Int) - (out.length : Int)) (vN), (hC.trans hD), rfl, rpAt_leaf, hM.more (hC.trans hD), hO, ⟨y, 0, by rw [← hec00]; exact hof, .inr ⟨rfl, out, ((y.val.texts.length : Int) - (out.length : Int)), 0, by rw [if_neg (by rw [hc35]; decide)]; exact ⟨hdel, rfl, rfl⟩, .inr ⟨by omega, rfl, .inl ⟨by omega, rfl⟩⟩⟩⟩, (hv.kp [2, 2] 2 3)⟩)
  refine xS 3 rfl hv rssz28 rfl (by exact ⟨rfl, rfl, rfl, rfl, trivial⟩) (fun w81 hv => ?_)
  simp only [zS, zO, sp] at hv
  refine uW k76 (rR ?_)
  refine bC 3 rswd28 hv rfl rfl rfl rfl (⟨D, es, M, rFault s79, rpCells 1 s79 0 (vN), (hC.trans hD), rfl, rpAt_leaf, hM.more (hC.trans hD), hO, ⟨y, 0, by rw [← hec00]; exact hof, .inr ⟨rfl, out, ((y.val.texts.length : Int) - (out.length : Int)), 0, by rw [if_neg (by rw [hc35]; decide)]; exact ⟨hdel, rfl, rfl⟩, .inr ⟨by omega, rfl, .inr ⟨by omega, rfl⟩⟩⟩⟩, (hv.kp [2, 2] 2 3)⟩)
 refine uG (.bool false) rfl (ex_eql rfl rfl rfl (qF hb65)) (uM rfl ?_)
 refine uP rfl ?_
 refine uP rfl (uK rfl ?_)
 refine uW k64 (cF rfl ?_)
 refine kS (tK k63 ?_)
 refine sK fun _ k82 => rL (uM rfl ?_)
 refine uM rfl ?_
 refine xC c1callable45 rfl ((respInt D _ _ ((y.val.texts.length : Int) - (out.length : Int)) hv).mono ?_) rfl
 rintro e w83 ⟨rfl, hv⟩
 refine ⟨_, rfl, ?_⟩
 simp only [zP, po]
 refine xC c1callable42 rfl ((viewDone D _ _ ec 2 ((y.val.texts.length : Int) - (out.length : Int)) ([] : List UInt8) (vN) rfl rfl hv).mono ?_) rfl
 rintro e w84 ⟨xr, hxr, rfl, hv⟩
 refine ⟨_, rfl, ?_⟩
 rcases hxr with ⟨hec0, rfl⟩ | ⟨hec0, s85, rfl⟩
 ·refine xS 3 rfl hv rssz28 rfl (by exact ⟨rfl, rfl, rfl, rfl, trivial⟩) (fun w86 hv => ?_)
  simp only [zS, zO, sp] at hv
  refine uW k82 (rR ?_)
  refine bC 3 rswd28 hv rfl rfl rfl rfl (⟨D, es, M, rInt ((y.val.texts.length : Int) - (out.length : Int)), rpCells 2 [] ((y.val.texts.length : Int) - (out.length : Int)) (vN), (hC.trans hD), rfl, rpAt_leaf, hM.more (hC.trans hD), hO, ⟨y, 0, by rw [← hec00]; exact hof, .inr ⟨rfl, out, ((y.val.texts.length : Int) - (out.length : Int)), 0, by rw [if_neg (by rw [hc35]; decide)]; exact ⟨hdel, rfl, rfl⟩, .inr ⟨by omega, rfl, .inl ⟨by omega, rfl⟩⟩⟩⟩, (hv.kp [2, 2] 2 3)⟩)
 refine xS 3 rfl hv rssz28 rfl (by exact ⟨rfl, rfl, rfl, rfl, trivial⟩) (fun w87 hv => ?_)
 simp only [zS, zO, sp] at hv
 refine uW k82 (rR ?_)
 refine bC 3 rswd28 hv rfl rfl rfl rfl (⟨D, es, M, rFault s85, rpCells 1 s85 0 (vN), (hC.trans hD), rfl, rpAt_leaf, hM.more (hC.trans hD), hO, ⟨y, 0, by rw [← hec00]; exact hof, .inr ⟨rfl, out, ((y.val.texts.length : Int) - (out.length : Int)), 0, by rw [if_neg (by rw [hc35]; decide)]; exact ⟨hdel, rfl, rfl⟩, .inr ⟨by omega, rfl, .inr ⟨by omega, rfl⟩⟩⟩⟩, (hv.kp [2, 2] 2 3)⟩)
theorem c2al28 : AL Tryz.prog 28 [vI 0, vS [], vI 0, vN] := fun w => by kernel_rfl
theorem c2al85 : AL Tryz.prog 85 [vI 0, .bool false, vI 0, vI 0, vS [], vN, vN, vN] := fun w => by kernel_rfl
theorem c2callable66 : Callable Tryz.prog 66 := cb Tryz.func66 (by kernel_rfl)
theorem c2callable43 : Callable Tryz.prog 43 := cb Tryz.func43 (by kernel_rfl)
theorem csetAsk (B : Base) (H : List Res) (w : World) (v t m s p wb : Nat) (va : Option Addr) (vc : Nat) (sv : Value) (clk : Int) (es : List (List UInt8 × Value)) (M : List (List UInt8 × Ver)) (hM : VM B es M) (hO : OkM M) (aa : Option Addr) (ac : Nat) (args : List (List UInt8)) (hra : RdV B [] aa (textCells args)) (hoka : SliceOk aa args.length ac) (_ : args.length ≤ 10000) (key : List UInt8) (hkey : args[0]? = some key) (name : List UInt8) (hnm : name = nSCARD ∨ name = nSISM ∨ name = nSMEM) (xa : Option Addr) (xc : Nat) (xs : List (List UInt8)) (hrx : RdV B [] xa (textCells xs)) (_ : xs.length ≤ 10000) (hxs1 : name = nSISM → 0 < xs.length) (hv : Inv B (Res.cell v [.iface 62 (vP t)] 39 :: txR t m s p wb va vc sv clk es :: H) w) :
  Calls Tryz.prog 40 #[.agg #[vP v, .slice aa args.length ac], vS name, .slice xa xs.length xc] w fun e w' => ∃ C r cs, B.Le C ∧ e = .returned (.agg cs.toArray) ∧ RpAt C r cs ∧ AskR M clk name key xs r ∧ Inv C (Res.cell v [.iface 62 (vP t)] 39 :: txR t m s p wb va vc sv clk es :: H) w' := by
 refine cW Tryz.func40 rfl Tryz.ntmps40 ?_
 simp only [al]
 refine sK fun _ k1 => ?_
 have hal := (List.getElem?_eq_some_iff.1 hkey).1
 obtain ⟨ab, ao, had, hrdkey⟩ := text_reads hra hkey
 subst had
 refine rL (sl_box (L := [vP v, .slice (some ⟨ab, ao, none⟩) args.length ac]) tV (wn rfl) rfl rfl hv (fun w => by kernel_rfl) (fun b2 w3 hv => ?_))
 refine sl_alloc tV (wn rfl) rfl hv c2al28 (fun b4 w5 hv => ?_)
 refine uW k1 (sK fun _ k6 => ?_)
 refine rT mixed (fun az wz => ∃ (C : Base) (y : Ver) (yp yt yz : Value) (ec : Int) (b13 : Nat), (B.Le C) ∧ (ValAt C y.val yp yt yz) ∧ (OfI M clk key 4 y ec) ∧ az = { tmps := #[.agg #[vP v, .slice (some ⟨ab, ao, none⟩) args.length ac], vS name, .slice xa xs.length xc, vP b2, undef, undef, vP b4, vP b13, vI ec, undef, undef, undef, .tuple #[.agg #[vI y.stamp, .bool y.gone, vI y.expire, vI y.val.kind, vS y.val.text, yp, yt, yz], vI ec], vP b2, vP v, .pointer (some ⟨b2, 1, none⟩), .slice (some ⟨ab, ao, none⟩) args.length ac, .pointer (some ⟨ab, ao + 0, none⟩), vS key, .tuple #[.agg #[vI y.stamp, .bool y.gone, vI y.expire, vI y.val.kind, vS y.val.text, yp, yt, yz], vI ec], .agg #[vI y.stamp, .bool y.gone, vI y.expire, vI y.val.kind, vS y.val.text, yp, yt, yz], vI ec, undef, undef, undef, undef, undef, undef, undef, undef, undef, undef, undef, undef, undef, undef, undef, undef, undef, undef, undef, undef, undef, undef, undef, undef, undef, undef, undef, undef, undef, undef, undef, undef, undef, undef, undef, undef, undef, undef, undef, undef, undef, undef, undef, undef, undef, undef, undef, undef, undef], defers := [] } ∧ Inv C (Res.cell b13 [vI y.stamp, .bool y.gone, vI y.expire, vI y.val.kind, vS y.val.text, yp, yt, yz] 85 :: Res.cell v [.iface 62 (vP t)] 39 :: txR t m s p wb va vc sv clk es :: Res.cell b4 [vI 0, vS [], vI 0, vN] 28 :: Res.cell b2 [vP v, .slice (some ⟨ab, ao, none⟩) args.length ac] 73 :: H) wz) [6, 10, 11] [0,1,2,3,4,5] [7,8,9,10,11,12] [6,7,8,9,11,12] 6 10 71 rfl (by kernel_rfl) hv ?_ ?_
 ·intro R2 l1 l2 hR2 hl1 hl2
  simp only [qm, opAt]
  refine tG (vP b2) rfl (ex_field rfl rfl (c1fa73_0 _ _ _)) (tF (vP v) rfl (fun hv => ex_load rfl rfl (run_load1 c1na24 (hv.load 1 0 rfl rfl))) fun f7 hf7 => ?_)
  simp only [zP, po]
  refine tG (.pointer (some ⟨b2, 1, none⟩)) rfl (ex_field rfl rfl (c1fa73_1 _ _ _)) (tF (.slice (some ⟨ab, ao, none⟩) args.length ac) rfl (fun hv => ex_load rfl rfl (run_load1 s1na22 (hv.load 1 1 rfl rfl))) fun f8 hf8 => ?_)
  simp only [zP, po]
  refine tG (.pointer (some ⟨ab, ao + 0, none⟩)) rfl (ex_index rfl rfl rfl (run_idx1 (k := 0) Tryz.underlying22 s9es22 (by omega))) (tF (vS key) rfl (fun hv => ex_load rfl rfl (run_load1 s9na9 (hrdkey _ _ _ (Base.Le.refl _) no_res hv 0 _ rfl))) fun f9 hf9 => ?_)
  simp only [zP, po]
  refine tB ?_ ?_
  ·rw [hl1]; clear hl1 hl2
   simp only [qm, opAt]
   refine dS rfl fun w10 hv => ?_
   replace hv := hv.front 3 rfl
   simp only [eS, eZ] at hv
   replace hv := hv.front 3 rfl
   simp only [eS, eZ] at hv
   refine mC c1callable63 rfl ((viewOf B _ _ v t m s p wb va vc sv clk es M key 4 hM hv).mono ?_) rfl
   rintro e w11 ⟨C, y, yp, yt, yz, ec, hC, rfl, hyv, hof, hv⟩
   refine ⟨_, rfl, dV hv (fK rfl (fK rfl (fK rfl fN))) ?_⟩
   refine dM (.tuple #[.agg #[vI y.stamp, .bool y.gone, vI y.expire, vI y.val.kind, vS y.val.text, yp, yt, yz], vI ec]) rfl (dG (.agg #[vI y.stamp, .bool y.gone, vI y.expire, vI y.val.kind, vS y.val.text, yp, yt, yz]) rfl (ex_extract rfl rfl rfl) ?_)
   simp only [zP, po]
   refine dG (vI ec) rfl (ex_extract rfl rfl rfl) (dS rfl fun w12 hv => ?_)
   refine mem_alloc rfl rfl hv c2al85 (fun b13 w14 hv => ?_)
   refine dV hv (fC (fun ww hv => hf9 ww (ex_load rfl rfl (run_load1 s9na9 (hrdkey _ _ _ hC no_res hv 0 _ rfl)))) (fC (fun ww hv => hf8 ww (ex_load rfl rfl (run_load1 s1na22 (hv.load 4 1 rfl rfl)))) (fC (fun ww hv => hf7 ww (ex_load rfl rfl (run_load1 c1na24 (hv.load 4 0 rfl rfl)))) fN))) (dS rfl fun w15 hv => ?_)
   refine mS 0 rfl hv x0sz85 rfl (by exact ⟨rfl, rfl, rfl, rfl, rfl, hyv.p.one, hyv.t.one, hyv.z.one, trivial⟩) (fun w16 hv => ?_)
   simp only [zO, sp] at hv
   refine dV hv (fK rfl (fK rfl (fK rfl fN))) ?_
   simp only [zP, po]
   refine dA (vI ec) rfl (dE fun wz hv => ?_)
   simp only [zP, po]
   exact hR2 _ _ ⟨C, y, yp, yt, yz, ec, b13, hC, hyv, hof, rfl, (((((hv.front 4 rfl).front 4 rfl).front 4 rfl).front 4 rfl).front 4 rfl)⟩
  rw [hl2]; clear hl1 hl2
  simp only [qm, opAt]
  refine dS rfl fun w17 hv => mem_alloc rfl rfl hv c2al85 (fun b18 w19 hv => ?_)
  refine dV hv (fC (fun ww hv => hf9 ww (ex_load rfl rfl (run_load1 s9na9 (hrdkey _ _ _ (Base.Le.refl _) no_res hv 0 _ rfl)))) (fC (fun ww hv => hf8 ww (ex_load rfl rfl (run_load1 s1na22 (hv.load 2 1 rfl rfl)))) (fC (fun ww hv => hf7 ww (ex_load rfl rfl (run_load1 c1na24 (hv.load 2 0 rfl rfl)))) fN))) (dS rfl fun w20 hv => ?_)
  replace hv := hv.front 4 rfl
  simp only [eS, eZ] at hv
  replace hv := hv.front 4 rfl
  simp only [eS, eZ] at hv
  refine mC c1callable63 rfl ((viewOf B _ _ v t m s p wb va vc sv clk es M key 4 hM hv).mono ?_) rfl
  rintro e w21 ⟨C, y, yp, yt, yz, ec, hC, rfl, hyv, hof, hv⟩
  refine ⟨_, rfl, dV hv (fK rfl (fK rfl (fK rfl fN))) ?_⟩
  refine dM (.tuple #[.agg #[vI y.stamp, .bool y.gone, vI y.expire, vI y.val.kind, vS y.val.text, yp, yt, yz], vI ec]) rfl ?_
  simp only [zP, po]
  refine dG (.agg #[vI y.stamp, .bool y.gone, vI y.expire, vI y.val.kind, vS y.val.text, yp, yt, yz]) rfl (ex_extract rfl rfl rfl) (dG (vI ec) rfl (ex_extract rfl rfl rfl) ?_)
  refine dS rfl fun w22 hv => mS 2 rfl hv x0sz85 rfl (by exact ⟨rfl, rfl, rfl, rfl, rfl, hyv.p.one, hyv.t.one, hyv.z.one, trivial⟩) (fun w23 hv => ?_)
  simp only [zS, zO, sp] at hv
  refine dV hv (fK rfl (fK rfl (fK rfl fN))) ?_
  simp only [zP, po]
  refine dA (vI ec) rfl (dE fun wz hv => ?_)
  simp only [zP, po]
  exact hR2 _ _ ⟨C, y, yp, yt, yz, ec, b18, hC, hyv, hof, rfl, (((((hv.front 4 rfl).front 4 rfl).front 3 rfl).front 3 rfl).front 4 rfl)⟩
 rintro _ w24 ⟨C, y, yp, yt, yz, ec, b13, hC, hyv, hof, rfl, hv⟩
 obtain ⟨pa, pc, za, zc, pn, zn, sa, sc, rfl, rfl, rfl, hoks, hrs⟩ : ∃ pa pc za zc pn zn sa sc, yp = .slice pa pn pc ∧ yz = .slice za zn zc ∧ yt = .slice sa y.val.texts.length sc ∧ SliceOk sa y.val.texts.length sc ∧ RdV C [] sa (textCells y.val.texts) := by
  obtain ⟨⟨a1, c1, h1, -⟩, ⟨a2, c2, h2, h3, h4⟩, ⟨a3, c3, h5, -⟩, -⟩ := hyv
  exact ⟨_, _, _, _, _, _, _, _, h1, h5, h2, h3, h4⟩
 refine tK k6 (sK fun _ k25 => ?_)
 refine sK fun _ k26 => rL (uM rfl ?_)
 by_cases hb27 : ec ≠ 0
 ·refine uG (.bool true) rfl (ex_neq rfl rfl rfl (qT hb27)) (uW k26 ?_)
  refine cT rfl (sK fun _ k28 => ?_)
  refine rL (uM rfl ?_)
  refine xC rscallable24 rfl ((viewWrong C _ _ ec hv).mono ?_) rfl
  rintro e w30 ⟨s29, rfl, hv⟩
  refine ⟨_, rfl, ?_⟩
  refine xS 3 rfl hv rssz28 rfl (by exact ⟨rfl, rfl, rfl, rfl, trivial⟩) (fun w31 hv => ?_)
  simp only [zS, zO, sp] at hv
  refine uW k28 (rR ?_)
  refine tR (bC 3 rswd28 hv rfl rfl rfl rfl ?_)
  exact ⟨C, rFault s29, rpCells 1 s29 0 (vN), hC, rfl, rpAt_leaf, ⟨y, ec, hof, .inl ⟨hb27, rfl⟩⟩, (hv.kp [2, 2] 2 3)⟩
 refine uG (.bool false) rfl (ex_neq rfl rfl rfl (qF hb27)) (uW k26 ?_)
 refine cF rfl (kS ?_)
 refine tK k25 (sK fun _ k32 => ?_)
 refine sK fun _ k33 => rL (uM rfl ?_)
 refine uW k33 (bB ?_)
 refine sK fun _ k34 => rL ?_
 by_cases hb35 : name = ([83, 67, 65, 82, 68] : List UInt8)
 ·refine uG (.bool true) rfl (ex_seql rfl rfl rfl (qT hb35)) (uA rfl ?_)
  refine uW k34 (cT rfl ?_)
  refine sK fun _ k36 => rL (uF (.pointer (some ⟨b13, 3, none⟩)) rfl (x2fa85_3 _ _ _) ?_)
  refine uF (.pointer (some ⟨b13, 6, none⟩)) rfl (s1fa78_3 _ _ _) ?_
  refine uL _ rfl (run_load1 s1na22 (hv.load 0 6 rfl rfl)) ?_
  refine uG (vI (y.val.texts.length : Int)) rfl (ex_len0 Tryz.underlying22 rfl rfl) ?_
  refine xC c1callable45 rfl ((respInt C _ _ (y.val.texts.length : Int) hv).mono ?_) rfl
  rintro e w37 ⟨rfl, hv⟩
  refine ⟨_, rfl, ?_⟩
  refine xS 3 rfl hv rssz28 rfl (by exact ⟨rfl, rfl, rfl, rfl, trivial⟩) (fun w38 hv => ?_)
  simp only [zS, zO, sp] at hv
  refine uW k36 (rR ?_)
  refine bZ (tR ?_)
  refine bC 3 rswd28 hv rfl rfl rfl rfl ?_
  obtain rfl : ec = 0 := by omega
  exact ⟨C, rInt (y.val.texts.length : Int), rpCells 2 [] (y.val.texts.length : Int) (vN), hC, rfl, rpAt_leaf, ⟨y, 0, hof, .inr ⟨rfl, .inl ⟨hb35, rfl⟩⟩⟩, (hv.kp [2, 2] 2 3)⟩
 refine uG (.bool false) rfl (ex_seql rfl rfl rfl (qF hb35)) (uA rfl ?_)
 refine uW k34 (cF rfl ?_)
 refine sK fun _ k39 => rL ?_
 by_cases hb40 : name = ([83, 73, 83, 77, 69, 77, 66, 69, 82] : List UInt8)
 ·refine uG (.bool true) rfl (ex_seql rfl rfl rfl (qT hb40)) (uA rfl ?_)
  refine uW k39 (cT rfl ?_)
  refine sK fun _ k41 => ?_
  have hxl := hxs1 hb40
  obtain ⟨x, hx⟩ : ∃ x, xs[0]? = some x := ⟨_, List.getElem?_eq_getElem (show 0 < xs.length by omega)⟩
  obtain ⟨bb, bo, had, hrdx⟩ := text_reads hrx hx
  subst had
  refine rW mixed [6, 7, 8] [0,1,2,3,4,5,6,7,8] 71 rfl (by kernel_rfl) hv ?_
  simp only [qm, opAt]
  refine dG (.pointer (some ⟨b13, 3, none⟩)) rfl (ex_field rfl rfl (x2fa85_3 _ _ _)) (dG (.pointer (some ⟨b13, 6, none⟩)) rfl (ex_field rfl rfl (s1fa78_3 _ _ _)) ?_)
  refine dL _ rfl (fun hv => ex_load rfl rfl (run_load1 s1na22 (hv.load 0 6 rfl rfl))) ?_
  simp only [zP, po]
  refine dM (.slice (some ⟨bb, bo, none⟩) xs.length xc) rfl (dG (.pointer (some ⟨bb, bo + 0, none⟩)) rfl (ex_index rfl rfl rfl (run_idx1 (k := 0) Tryz.underlying22 s9es22 (by omega))) ?_)
  refine dL _ rfl (fun hv => ex_load rfl rfl (run_load1 s9na9 (hrdx _ _ _ hC no_res hv 0 _ rfl))) ?_
  simp only [zP, po]
  refine dS rfl fun w42 hv => mC t3callable67 rfl ((setHas C _ _ sa sc y.val.texts x (hrs.more (Base.Le.refl _) (fun _ h => h)) (by have := (hO.set hof).1; omega) (hO.sorted hof) hv).mono ?_) rfl
  rintro e w43 ⟨rfl, hv⟩
  refine ⟨_, rfl, dW hv ?_⟩
  refine dS rfl fun w44 hv => mC c2callable66 rfl ((csetTruth C _ _ (decide (x ∈ y.val.texts)) hv).mono ?_) rfl
  rintro e w45 ⟨rfl, hv⟩
  refine ⟨_, rfl, dW hv ?_⟩
  refine dS rfl fun w46 hv => mS 3 rfl hv rssz28 rfl (by exact ⟨rfl, rfl, rfl, rfl, trivial⟩) (fun w47 hv => ?_)
  simp only [zS, zO, sp] at hv
  refine dW hv (dE fun w48 hv => ?_)
  simp only [zP, po]
  refine tK k41 (rR ?_)
  refine bZ (tR ?_)
  refine bC 3 rswd28 hv rfl rfl rfl rfl ?_
  obtain rfl : ec = 0 := by omega
  exact ⟨C, rInt (if decide (x ∈ y.val.texts) then 1 else 0), rpCells 2 [] (if decide (x ∈ y.val.texts) then 1 else 0) (vN), hC, rfl, rpAt_leaf, ⟨y, 0, hof, .inr ⟨rfl, .inr (.inl ⟨hb40, x, hx, rfl⟩)⟩⟩, (hv.kp [2, 2] 2 3)⟩
 refine uG (.bool false) rfl (ex_seql rfl rfl rfl (qF hb40)) (uA rfl ?_)
 refine uW k39 (cF rfl ?_)
 refine sK fun _ k49 => rL ?_
 by_cases hb50 : name = ([83, 77, 69, 77, 66, 69, 82, 83] : List UInt8)
 ·refine uG (.bool true) rfl (ex_seql rfl rfl rfl (qT hb50)) (uA rfl ?_)
  refine uW k49 (cT rfl ?_)
  refine sK fun _ k51 => rL (uF (.pointer (some ⟨b13, 3, none⟩)) rfl (x2fa85_3 _ _ _) ?_)
  refine uF (.pointer (some ⟨b13, 6, none⟩)) rfl (s1fa78_3 _ _ _) ?_
  refine uL _ rfl (run_load1 s1na22 (hv.load 0 6 rfl rfl)) ?_
  refine xC c2callable43 rfl ((respStrs C _ _ sa sc y.val.texts (hrs.more (Base.Le.refl _) (fun _ h => h)) (by have := (hO.set hof).1; omega) hv).mono ?_) rfl
  rintro e w52 ⟨D, lv, hD, rfl, hrp, hv⟩
  refine ⟨_, rfl, ?_⟩
  refine xS 3 rfl hv rssz28 rfl (by exact ⟨rfl, rfl, rfl, hrp.lv.2, trivial⟩) (fun w53 hv => ?_)
  simp only [zS, zO, sp] at hv
  refine uW k51 (rR ?_)
  refine bZ (tR ?_)
  refine bC 3 rswd28 hv rfl rfl rfl rfl ?_
  obtain rfl : ec = 0 := by omega
  exact ⟨D, rStrs y.val.texts, rpCells 5 [] 0 lv, (hC.trans hD), rfl, hrp, ⟨y, 0, hof, .inr ⟨rfl, .inr (.inr (.inl ⟨hb50, rfl⟩))⟩⟩, (hv.kp [2, 2] 2 3)⟩
 exfalso; exact hnm.elim hb35 (fun h9 => h9.elim hb40 hb50)
theorem c3mk22 : (Tryz.prog.info? 22).map (fun i => (i.zero, i.size, i.bytes)) = some (some (vN), 1, 24) := by kernel_rfl
theorem c3el143 : Elem Tryz.prog 143 22 (vN) 1 24 := elem_of Tryz.underlying143 c3mk22 (by rfl) (by decide)
theorem c3al85 : AL Tryz.prog 85 [vI 0, .bool false, vI 0, vI 0, vS [], vN, vN, vN] := fun w => by kernel_rfl
theorem csetSets (B : Base) (H : List Res) (w : World) (v t m s p wb : Nat) (va : Option Addr) (vc : Nat) (sv : Value) (clk : Int) (es : List (List UInt8 × Value)) (M : List (List UInt8 × Ver)) (hM : VM B es M) (_ : OkM M) (aa : Option Addr) (ac : Nat) (args : List (List UInt8)) (ka : Option Addr) (kc : Nat) (ks : List (List UInt8)) (hrk : RdV B [] ka (textCells ks)) (hmk : ks.length ≤ 1000) (hv : Inv B (Res.cell v [.iface 62 (vP t)] 39 :: txR t m s p wb va vc sv clk es :: H) w) :
  Calls Tryz.prog 69 #[.agg #[vP v, .slice aa args.length ac], .slice ka ks.length kc] w fun e w' => ∃ C oa oc ss txs ec, B.Le C ∧ e = .returned (.tuple #[.slice oa ss.length oc, vI ec]) ∧ TxsAt C ss txs ∧ RdV C [] oa txs ∧ SliceOk oa ss.length oc ∧ SetsR M clk ks ss ec ∧ Inv C (Res.cell v [.iface 62 (vP t)] 39 :: txR t m s p wb va vc sv clk es :: H) w' := by
 refine cW Tryz.func69 rfl Tryz.ntmps69 ?_
 simp only [al]
 refine sK fun _ k1 => rL (sl_box (L := [vP v, .slice aa args.length ac]) tV (wn rfl) rfl rfl hv (fun w => by kernel_rfl) (fun b2 w3 hv => ?_))
 refine uA rfl (uA rfl ?_)
 refine uW k1 (sK fun _ k4 => ?_)
 refine rL (uM rfl ?_)
 refine uG (vI (ks.length : Int)) rfl (ex_len0 Tryz.underlying22 rfl rfl) ?_
 refine sl_makeRow (cap := ks.length) tV (wn rfl) rfl rfl rfl c3el143 (by unfold maxLen; omega) (by omega) hv (fun b5 w6 hv => ?_)
 refine uA rfl (uW k4 ?_)
 refine sK fun _ k7 => sK fun _ k8 => rL (uM rfl ?_)
 refine uG (vI (ks.length : Int)) rfl (ex_len0 Tryz.underlying22 rfl rfl) (uM rfl ?_)
 refine uW k8 (bB ?_)
 gi_loopw [16, 6] (fun x16 x6 wr => ∃ (i : Nat) (C : Base) (ss : List (List (List UInt8))) (txs : List Value) (ra : Option Addr) (rc : Nat), x16 = vI i ∧ x6 = .slice ra ss.length rc ∧ B.Le C ∧ i ≤ ks.length ∧ ss.length = i ∧ TxsAt C ss txs ∧ (∀ (j : Nat) k s, ks[j]? = some k → ss[j]? = some s → ∃ y, OfI M clk k 4 y 0 ∧ s = y.val.texts) ∧ Inv C (Res.row 22 1 (.slice ra ss.length rc) ss.length txs :: Res.cell b2 [vP v, .slice aa args.length ac] 73 :: Res.cell v [.iface 62 (vP t)] 39 :: txR t m s p wb va vc sv clk es :: H) wr) (fun x16 x6 _ => ks.length - (intOf x16).toNat)
 case atStart => exact ⟨0, B, [], [], _, _, rfl, rfl, Base.Le.refl _, Nat.zero_le _, rfl, rfl, fun j k s _ h => by simp at h, ((((hv.front 3 rfl).front 3 rfl).front 3 rfl).front 3 rfl)⟩
 case round =>
  obtain ⟨i, C, ss, txs, ra, rc, rfl, rfl, hC, hi, hsl, htx, hall, hv⟩ := hrel
  refine sK fun _ k10 => rL ?_
  by_cases hb11 : (i : Int) < (ks.length : Int)
  ·refine uG (.bool true) rfl (ex_lss rfl rfl rfl (qT hb11)) (uW k10 ?_)
   refine sK fun _ k12 => cT rfl (kS ?_)
   refine tK k12 (sK fun _ k13 => ?_)
   refine bB (sK fun _ k14 => ?_)
   obtain ⟨x, hx⟩ : ∃ x, ks[i]? = some x := ⟨_, List.getElem?_eq_getElem (show i < ks.length by omega)⟩
   obtain ⟨kb, ko, had, hrdx⟩ := text_reads hrk hx
   subst had
   refine rL (uG (.pointer (some ⟨kb, ko + i, none⟩)) rfl (ex_index rfl rfl rfl (run_idx1 (k := i) Tryz.underlying22 s9es22 (by omega))) ?_)
   refine uL _ rfl (run_load1 s9na9 (hrdx _ _ _ hC no_res hv 0 _ rfl)) (uA rfl ?_)
   refine uW k14 (sK fun _ k15 => ?_)
   refine rL (uF (vP b2) rfl (c1fa73_0 _ _ _) ?_)
   refine uL _ rfl (run_load1 c1na24 (hv.load 1 0 rfl rfl)) (uM rfl ?_)
   replace hv := hv.front 3 rfl
   simp only [eS, eZ] at hv
   replace hv := hv.front 3 rfl
   simp only [eS, eZ] at hv
   refine xC c1callable63 rfl ((viewOf C _ _ v t m s p wb va vc sv clk es M x 4 (hM.more hC) hv).mono ?_) rfl
   rintro e w16 ⟨D, y, yp, yt, yz, ey, hD, rfl, hyv, hyf, hv⟩
   refine ⟨_, rfl, ?_⟩
   obtain ⟨ypa, ypc, yza, yzc, ypn, yzn, ysa, ysc, rfl, rfl, rfl, hoky, hry⟩ : ∃ pa pc za zc pn zn sa sc, yp = .slice pa pn pc ∧ yz = .slice za zn zc ∧ yt = .slice sa y.val.texts.length sc ∧ SliceOk sa y.val.texts.length sc ∧ RdV D [] sa (textCells y.val.texts) := by
    obtain ⟨⟨a1, c1, h1, -⟩, ⟨a2, c2, h2, h3, h4⟩, ⟨a3, c3, h5, -⟩, -⟩ := hyv
    exact ⟨_, _, _, _, _, _, _, _, h1, h5, h2, h3, h4⟩
   refine uM rfl (uE rfl ?_)
   refine uE rfl ?_
   refine sl_alloc tV (wn rfl) rfl hv c3al85 (fun b17 w18 hv => ?_)
   refine xS 0 rfl hv x0sz85 rfl (by exact ⟨rfl, rfl, rfl, rfl, rfl, rfl, rfl, rfl, trivial⟩) (fun w19 hv => ?_)
   simp only [zO, sp] at hv
   refine uA rfl (uW k15 ?_)
   refine sK fun _ k20 => sK fun _ k21 => rL (uM rfl ?_)
   by_cases hb22 : ey ≠ 0
   ·refine uG (.bool true) rfl (ex_neq rfl rfl rfl (qT hb22)) (uW k21 ?_)
    refine cT rfl (sK fun _ k23 => ?_)
    refine rL (uM rfl ?_)
    refine uA rfl (uA rfl ?_)
    refine uW k23 (rR ?_)
    refine tR (bZ ?_)
    refine tR (tR ?_)
    refine bZ (tR ?_)
    refine bodyPost_ret (results_tmp2 rfl _ _ _) rfl (⟨D, none, 0, [], [], ey, (hC.trans hD), rfl, rfl, rdV_nil, ok_nil, .inr ⟨by omega, rfl, x, List.mem_of_getElem? hx, y, hyf⟩, (hv.kp [2, 2] 2 3)⟩)
   refine uG (.bool false) rfl (ex_neq rfl rfl rfl (qF hb22)) (uW k21 ?_)
   refine cF rfl (kS ?_)
   refine tK k20 ?_
   have hey0 : ey = 0 := by omega
   refine rL (uM rfl ?_)
   refine uF (.pointer (some ⟨b17, 3, none⟩)) rfl (x2fa85_3 _ _ _) ?_
   refine uF (.pointer (some ⟨b17, 6, none⟩)) rfl (s1fa78_3 _ _ _) ?_
   refine uL _ rfl (run_load1 s1na22 (hv.load 0 6 rfl rfl)) ?_
   refine sl_rowOne (v := .slice ysa y.val.texts.length ysc) tV (wn rfl) rfl rfl hv c3el143 rfl (fun b24 w25 hv => ?_)
   replace hv := hv.front 4 rfl
   simp only [eS, eZ] at hv
   refine sl_append (news := [.slice ysa y.val.texts.length ysc]) tV (wn rfl) rfl rfl rfl c3el143 hv (ok_full (by omega)) rfl (rd_all (hv.get 1 rfl)) (by intro u hu; simp only [List.mem_cons, List.not_mem_nil, or_false] at hu; rcases hu with rfl <;> rfl) (by unfold maxLen; omega) (by omega) (fun rv26 w29 hv => ?_)
   obtain ⟨ra27, rc28, rfl⟩ := row_slice hv.head
   refine uA rfl (uZ ?_)
   refine bN (tK k13 ?_)
   refine rL (uG (vI ((i + 1 : Nat) : Int)) rfl (ex_add rfl rfl rfl (by rw [i64_in (by omega)]; omega)) ?_)
   refine uM rfl (uZ ?_)
   refine then_normal ?_
   go_roundw
   case rel => exact ⟨i + 1, D, ss ++ [y.val.texts], _, _, _, rfl, by rw [List.length_append, List.length_singleton], (hC.trans hD), by omega, by rw [List.length_append, List.length_singleton, hsl], TxsAt.append (TxsAt.single ⟨_, _, rfl, hoky, hry⟩) (htx.more hD), fun j k' s' hk' hs' => (by
      rcases Nat.lt_or_ge j ss.length with h | h
      ·rw [List.getElem?_append_left h] at hs'; exact hall j k' s' hk' hs'
      have hj := (List.getElem?_eq_some_iff.1 hs').1
      rw [List.length_append, List.length_singleton] at hj
      obtain rfl : j = ss.length := by omega
      rw [List.getElem?_append_right (Nat.le_refl _), Nat.sub_self] at hs'
      rw [hsl, hx] at hk'
      cases hk'; cases hs'
      exact ⟨y, by rw [← hey0]; exact hyf, rfl⟩), by rw [List.length_append, List.length_singleton]; exact (hv.kp [4, 4, 5, 3] 4 2)⟩
   case measure => show ks.length - (((i + 1 : Nat) : Int)).toNat < ks.length - ((i : Int)).toNat; omega
  refine uG (.bool false) rfl (ex_lss rfl rfl rfl (qF hb11)) (uW k10 ?_)
  refine sK fun _ k30 => cF rfl (xE ?_)
  refine tX (tX ?_)
  refine bH (tK k7 ?_)
  refine sK fun _ k31 => rL (uM rfl ?_)
  refine uA rfl (uA rfl ?_)
  refine uW k31 (rR ?_)
  refine bodyPost_ret (results_tmp2 rfl _ _ _) rfl ?_
  obtain rfl : i = ks.length := by omega
  obtain ⟨E, hE, hv, hro, hoko, -⟩ := (((((hv.front 3 rfl).front 3 rfl).front 2 rfl).sub (sC _ (sC _ (sC _ (sD _ (sR _))))))).rowBy
  exact ⟨E, ra, rc, ss, txs, 0, hC.trans hE, rfl, htx.more hE, hro, hoko, .inl ⟨rfl, hsl, hall⟩, hv⟩
theorem SetsR.right {M : List (List UInt8 × Ver)} {clk ec : Int} {keys : List (List UInt8)} {ss : List (List (List UInt8))} (hO : OkM M) (h : SetsR M clk keys ss ec) : ∀ s ∈ ss, SetOk s := by
 intro s hs
 rcases h with ⟨-, h1, h2⟩ | ⟨-, h1, -⟩
 ·obtain ⟨i, hi⟩ := List.mem_iff_getElem?.1 hs
  have hl := (List.getElem?_eq_some_iff.1 hi).1
  obtain ⟨y, h3, rfl⟩ := h2 i keys[i] s (List.getElem?_eq_getElem (by omega)) hi
  exact hO.set h3
 rw [h1] at hs; cases hs
theorem c3callable69 : Callable Tryz.prog 69 := cb Tryz.func69 (by kernel_rfl)
theorem c3callable71 : Callable Tryz.prog 71 := cb Tryz.func71 (by kernel_rfl)
theorem c3callable72 : Callable Tryz.prog 72 := cb Tryz.func72 (by kernel_rfl)
theorem csetCombined (B : Base) (H : List Res) (w : World) (v t m s p wb : Nat) (va : Option Addr) (vc : Nat) (sv : Value) (clk : Int) (es : List (List UInt8 × Value)) (M : List (List UInt8 × Ver)) (hM : VM B es M) (hO : OkM M) (aa : Option Addr) (ac : Nat) (args : List (List UInt8)) (name : List UInt8) (ka : Option Addr) (kc : Nat) (ks : List (List UInt8)) (hrk : RdV B [] ka (textCells ks)) (hmk : ks.length ≤ 1000) (hk0 : 0 < ks.length) (hv : Inv B (Res.cell v [.iface 62 (vP t)] 39 :: txR t m s p wb va vc sv clk es :: H) w) :
  Calls Tryz.prog 41 #[.agg #[vP v, .slice aa args.length ac], vS name, .slice ka ks.length kc] w fun e w' => ∃ C oa oc out ec, B.Le C ∧ e = .returned (.tuple #[.slice oa out.length oc, vI ec]) ∧ SliceOk oa out.length oc ∧ RdV C [] oa (textCells out) ∧ CombR M clk name ks out ec ∧ Inv C (Res.cell v [.iface 62 (vP t)] 39 :: txR t m s p wb va vc sv clk es :: H) w' := by
 refine cW Tryz.func41 rfl Tryz.ntmps41 ?_
 simp only [al]
 refine sK fun _ k1 => rL (sl_box (L := [vP v, .slice aa args.length ac]) tV (wn rfl) rfl rfl hv (fun w => by kernel_rfl) (fun b2 w3 hv => ?_))
 refine uA rfl (uA rfl ?_)
 refine uW k1 (sK fun _ k4 => ?_)
 refine rL (uL (.agg #[vP v, .slice aa args.length ac]) rfl (lM 0 c1wd73 hv rfl rfl rfl rfl) ?_)
 refine uM rfl ?_
 replace hv := hv.front 2 rfl
 simp only [eS, eZ] at hv
 replace hv := hv.front 2 rfl
 simp only [eS, eZ] at hv
 refine xC c3callable69 rfl ((csetSets B _ _ v t m s p wb va vc sv clk es M hM hO aa ac args ka kc ks hrk hmk hv).mono ?_) rfl
 rintro e w5 ⟨C, oa, oc, ss, txs, e1, hC, rfl, htx, hrs, hoks, hss, hv⟩
 refine ⟨_, rfl, ?_⟩
 have hrt := hss.right hO
 have hssl : ss.length ≤ ks.length := hss.elim (fun h9 => by have := h9.2.1; omega) (fun h9 => by rw [h9.2.1]; exact Nat.zero_le _)
 refine uM rfl (uE rfl ?_)
 refine uE rfl (uA rfl ?_)
 refine uA rfl (uW k4 ?_)
 refine sK fun _ k6 => sK fun _ k7 => rL (uM rfl ?_)
 by_cases hb8 : e1 ≠ 0
 ·refine uG (.bool true) rfl (ex_neq rfl rfl rfl (qT hb8)) (uW k7 ?_)
  refine cT rfl (sK fun _ k9 => ?_)
  refine rL (uM rfl ?_)
  refine uA rfl (uA rfl ?_)
  refine uW k9 (rR ?_)
  refine tR (bodyPost_ret (results_tmp2 rfl _ _ _) rfl ?_)
  exact ⟨C, none, 0, [], e1, hC, rfl, ok_nil, rdV_nil, ⟨ss, e1, hss, .inl ⟨by omega, rfl, rfl⟩⟩, (hv.kp [1, 1] 2 1)⟩
 refine uG (.bool false) rfl (ex_neq rfl rfl rfl (qF hb8)) (uW k7 ?_)
 refine cF rfl (kS ?_)
 refine tK k6 (sK fun _ k10 => ?_)
 refine sK fun _ k11 => rL (uM rfl ?_)
 refine uW k11 (bB ?_)
 refine sK fun _ k12 => rL ?_
 by_cases hb13 : name = ([83, 68, 73, 70, 70] : List UInt8)
 ·refine uG (.bool true) rfl (ex_seql rfl rfl rfl (qT hb13)) (uA rfl ?_)
  refine uW k12 (cT rfl ?_)
  refine sK fun _ k14 => ?_
  have hs0 : 0 < ss.length := by rcases hss with ⟨-, h9, -⟩ | ⟨h9, -⟩ <;> omega
  obtain ⟨q, hq⟩ : ∃ x, ss[0]? = some x := ⟨_, List.getElem?_eq_getElem (show 0 < ss.length by omega)⟩
  obtain ⟨tb, to, qa, qc, had, hokq, hrq, hrdq⟩ := TxsAt.reads htx hrs hq
  subst had
  obtain ⟨a3, c3, ha3, ok3, hr3⟩ := sliced_fromV 1 hoks hrs (by rw [htx.len, Nat.mul_one]) (show 1 ≤ ss.length by omega) (by decide)
  have hd1 : (ss.drop 1).length = ss.length - 1 := List.length_drop
  refine rW mixed [5] [0,1,2,3,4,5,6,7] 36 rfl (by kernel_rfl) hv ?_
  simp only [qm, opAt]
  refine dM (.slice (some ⟨tb, to, none⟩) ss.length oc) rfl (dG (.pointer (some ⟨tb, to + 0, none⟩)) rfl (ex_index rfl rfl rfl (run_idx1 (k := 0) Tryz.underlying143 t3es143 (by omega))) ?_)
  refine dL _ rfl (fun hv => ex_load rfl rfl (run_load1 s1na22 (hrdq _ _ _ (Base.Le.refl _) no_res hv 0 _ rfl))) ?_
  simp only [zP, po]
  refine dM (.slice (some ⟨tb, to, none⟩) ss.length oc) rfl (dG (.slice a3 ((ss.drop 1).length) c3) rfl (ex_slice (lo' := some (vI ((1 : Nat) : Int))) rfl rfl (congrArg some rfl) rfl rfl ((run_fromAny Tryz.underlying143 t3es143 (by omega)).trans (by rw [ha3, hd1]))) ?_)
  refine dS rfl fun w15 hv => mC t3callable70 rfl ((setDiff C _ _ qa qc q hrq (by have := (hrt q (List.mem_of_getElem? hq)).1; omega) a3 c3 (ss.drop 1) (txs.drop 1) (htx.drop 1) (by rw [Nat.mul_one] at hr3; exact hr3) (by omega) (fun s hs => ⟨(setOk_iff.1 (hrt s (List.mem_of_mem_drop hs))).2.2, by have := (hrt s (List.mem_of_mem_drop hs)).1; omega⟩) hv).mono ?_) rfl
  rintro e w16 ⟨D, ra, rc, out, hD, rfl, hoko, hro, hout, hv⟩
  refine ⟨_, rfl, dW hv ?_⟩
  simp only [zP, po]
  refine dA (.slice ra out.length rc) rfl (dA (vI 0) rfl ?_)
  refine dE fun w17 hv => ?_
  simp only [zP, po]
  refine tK k14 (rR ?_)
  refine bZ (tR ?_)
  refine bodyPost_ret (results_tmp2 rfl _ _ _) rfl ?_
  have he1 : e1 = 0 := by omega
  exact ⟨D, ra, rc, out, 0, (hC.trans hD), rfl, hoko, hro, ⟨ss, e1, hss, .inr ⟨he1, .inl ⟨hb13, rfl, q, hq, hout⟩⟩⟩, (hv.kp [1, 1] 2 1)⟩
 refine uG (.bool false) rfl (ex_seql rfl rfl rfl (qF hb13)) (uA rfl ?_)
 refine uW k12 (cF rfl ?_)
 refine sK fun _ k18 => rL ?_
 by_cases hb19 : name = ([83, 73, 78, 84, 69, 82] : List UInt8)
 ·refine uG (.bool true) rfl (ex_seql rfl rfl rfl (qT hb19)) (uA rfl ?_)
  refine uW k18 (cT rfl ?_)
  refine sK fun _ k20 => rL (uM rfl ?_)
  refine xC c3callable71 rfl ((setInter C _ _ oa oc ss txs htx hrs (by omega) (fun s hs => ⟨(setOk_iff.1 (hrt s hs)).2.2, by have := (hrt s hs).1; omega⟩) hoks hv).mono ?_) rfl
  rintro e w21 ⟨D, ra, rc, out, hD, rfl, hoko, hro, hout, hv⟩
  refine ⟨_, rfl, uA rfl ?_⟩
  refine uA rfl (uW k20 ?_)
  refine rR (bZ ?_)
  refine tR (bodyPost_ret (results_tmp2 rfl _ _ _) rfl ?_)
  have he1 : e1 = 0 := by omega
  exact ⟨D, ra, rc, out, 0, (hC.trans hD), rfl, hoko, hro, ⟨ss, e1, hss, .inr ⟨he1, .inr (.inl ⟨hb13, hb19, rfl, hout⟩)⟩⟩, (hv.kp [1, 1] 2 1)⟩
 refine uG (.bool false) rfl (ex_seql rfl rfl rfl (qF hb19)) (uA rfl ?_)
 refine uW k18 (cF rfl ?_)
 refine kS (bN ?_)
 refine tK k10 (sK fun _ k22 => ?_)
 refine rL (uM rfl ?_)
 refine xC c3callable72 rfl ((setUnion C _ _ oa oc ss txs htx hrs (by omega) (fun s hs => (hrt s hs).1) hv).mono ?_) rfl
 rintro e w23 ⟨D, ra, rc, out, e2, hD, rfl, hoko, hro, hout, hv⟩
 refine ⟨_, rfl, uE rfl ?_⟩
 refine uE rfl (uA rfl ?_)
 refine uA rfl (uW k22 ?_)
 refine rR (bodyPost_ret (results_tmp2 rfl _ _ _) rfl ?_)
 have he1 : e1 = 0 := by omega
 exact ⟨D, ra, rc, out, e2, (hC.trans hD), rfl, hoko, hro, ⟨ss, e1, hss, .inr ⟨he1, .inr (.inr ⟨hb13, hb19, hout⟩)⟩⟩, (hv.kp [1, 1] 2 1)⟩
theorem c3al28 : AL Tryz.prog 28 [vI 0, vS [], vI 0, vN] := fun w => by kernel_rfl
theorem c3mk9 : (Tryz.prog.info? 9).map (fun i => (i.zero, i.size, i.bytes)) = some (some (vS []), 1, 16) := by kernel_rfl
theorem c3el22 : Elem Tryz.prog 22 9 (vS []) 1 16 := elem_of Tryz.underlying22 c3mk9 (by rfl) (by decide)
theorem csetMove (B : Base) (H : List Res) (w : World) (v t m s p wb : Nat) (va : Option Addr) (vc : Nat) (sv : Value) (clk : Int) (es : List (List UInt8 × Value)) (M : List (List UInt8 × Ver)) (hM : VM B es M) (hO : OkM M) (aa : Option Addr) (ac : Nat) (args : List (List UInt8)) (k l x : List UInt8) (hv : Inv B (Res.cell v [.iface 62 (vP t)] 39 :: txR t m s p wb va vc sv clk es :: H) w) :
  Calls Tryz.prog 47 #[.agg #[vP v, .slice aa args.length ac], vS k, vS l, vS x] w fun e w' => ∃ C es' M' r cs, B.Le C ∧ e = .returned (.agg cs.toArray) ∧ RpAt C r cs ∧ VM C es' M' ∧ OkM M' ∧ MoveR M clk k l x M' r ∧ Inv C (Res.cell v [.iface 62 (vP t)] 39 :: txR t m s p wb va vc sv clk es' :: H) w' := by
 refine cW Tryz.func47 rfl Tryz.ntmps47 ?_
 simp only [al]
 refine sK fun _ k1 => rL (sl_box (L := [vP v, .slice aa args.length ac]) tV (wn rfl) rfl rfl hv (fun w => by kernel_rfl) (fun b2 w3 hv => ?_))
 refine sl_alloc tV (wn rfl) rfl hv c3al28 (fun b4 w5 hv => ?_)
 refine uW k1 (sK fun _ k6 => ?_)
 refine rL (uF (vP b2) rfl (c1fa73_0 _ _ _) ?_)
 refine uL _ rfl (run_load1 c1na24 (hv.load 1 0 rfl rfl)) (uM rfl ?_)
 replace hv := hv.front 3 rfl
 simp only [eS, eZ] at hv
 replace hv := hv.front 3 rfl
 simp only [eS, eZ] at hv
 refine xC c1callable63 rfl ((viewOf B _ _ v t m s p wb va vc sv clk es M k 4 hM hv).mono ?_) rfl
 rintro e w7 ⟨C1, y1, y1p, y1t, y1z, ey1, hC1, rfl, hy1v, hy1f, hv⟩
 refine ⟨_, rfl, ?_⟩
 obtain ⟨y1pa, y1pc, y1za, y1zc, y1pn, y1zn, y1sa, y1sc, rfl, rfl, rfl, hoky1, hry1⟩ : ∃ pa pc za zc pn zn sa sc, y1p = .slice pa pn pc ∧ y1z = .slice za zn zc ∧ y1t = .slice sa y1.val.texts.length sc ∧ SliceOk sa y1.val.texts.length sc ∧ RdV C1 [] sa (textCells y1.val.texts) := by
  obtain ⟨⟨a1, c1, h1, -⟩, ⟨a2, c2, h2, h3, h4⟩, ⟨a3, c3, h5, -⟩, -⟩ := hy1v
  exact ⟨_, _, _, _, _, _, _, _, h1, h5, h2, h3, h4⟩
 refine uM rfl (uE rfl ?_)
 refine uE rfl ?_
 refine sl_alloc tV (wn rfl) rfl hv c3al85 (fun b8 w9 hv => ?_)
 refine xS 0 rfl hv x0sz85 rfl (by exact ⟨rfl, rfl, rfl, rfl, rfl, rfl, rfl, rfl, trivial⟩) (fun w10 hv => ?_)
 simp only [zO, sp] at hv
 refine uA rfl (uW k6 ?_)
 refine sK fun _ k11 => sK fun _ k12 => rL (uM rfl ?_)
 by_cases hb13 : ey1 ≠ 0
 ·refine uG (.bool true) rfl (ex_neq rfl rfl rfl (qT hb13)) (uW k12 ?_)
  refine cT rfl (sK fun _ k14 => ?_)
  refine rL (uM rfl ?_)
  refine xC rscallable24 rfl ((viewWrong C1 _ _ ey1 hv).mono ?_) rfl
  rintro e w16 ⟨s15, rfl, hv⟩
  refine ⟨_, rfl, ?_⟩
  refine xS 3 rfl hv rssz28 rfl (by exact ⟨rfl, rfl, rfl, rfl, trivial⟩) (fun w17 hv => ?_)
  simp only [zS, zO, sp] at hv
  refine uW k14 (rR ?_)
  refine tR (bC 3 rswd28 hv rfl rfl rfl rfl ?_)
  exact ⟨C1, es, M, rFault s15, rpCells 1 s15 0 (vN), hC1, rfl, rpAt_leaf, hM.more hC1, hO, ⟨y1, ey1, hy1f, .inl ⟨by omega, rfl, rfl⟩⟩, (hv.kp [2, 2] 2 3)⟩
 refine uG (.bool false) rfl (ex_neq rfl rfl rfl (qF hb13)) (uW k12 ?_)
 refine cF rfl (kS ?_)
 refine tK k11 (sK fun _ k18 => ?_)
 refine rL (uF (vP b2) rfl (c1fa73_0 _ _ _) ?_)
 refine uL _ rfl (run_load1 c1na24 (hv.load 4 0 rfl rfl)) (uM rfl ?_)
 replace hv := hv.front 2 rfl
 simp only [eS, eZ] at hv
 replace hv := hv.front 2 rfl
 simp only [eS, eZ] at hv
 refine xC c1callable63 rfl ((viewOf C1 _ _ v t m s p wb va vc sv clk es M l 4 (hM.more hC1) hv).mono ?_) rfl
 rintro e w19 ⟨C2, y2, y2p, y2t, y2z, ey2, hC2, rfl, hy2v, hy2f, hv⟩
 refine ⟨_, rfl, ?_⟩
 obtain ⟨y2pa, y2pc, y2za, y2zc, y2pn, y2zn, y2sa, y2sc, rfl, rfl, rfl, hoky2, hry2⟩ : ∃ pa pc za zc pn zn sa sc, y2p = .slice pa pn pc ∧ y2z = .slice za zn zc ∧ y2t = .slice sa y2.val.texts.length sc ∧ SliceOk sa y2.val.texts.length sc ∧ RdV C2 [] sa (textCells y2.val.texts) := by
  obtain ⟨⟨a1, c1, h1, -⟩, ⟨a2, c2, h2, h3, h4⟩, ⟨a3, c3, h5, -⟩, -⟩ := hy2v
  exact ⟨_, _, _, _, _, _, _, _, h1, h5, h2, h3, h4⟩
 refine uM rfl (uE rfl ?_)
 refine uE rfl ?_
 refine sl_alloc tV (wn rfl) rfl hv c3al85 (fun b20 w21 hv => ?_)
 refine xS 0 rfl hv x0sz85 rfl (by exact ⟨rfl, rfl, rfl, rfl, rfl, rfl, rfl, rfl, trivial⟩) (fun w22 hv => ?_)
 simp only [zO, sp] at hv
 refine uA rfl (uW k18 ?_)
 refine sK fun _ k23 => sK fun _ k24 => rL (uM rfl ?_)
 by_cases hb25 : ey2 ≠ 0
 ·refine uG (.bool true) rfl (ex_neq rfl rfl rfl (qT hb25)) (uW k24 ?_)
  refine cT rfl (sK fun _ k26 => ?_)
  refine rL (uM rfl ?_)
  refine xC rscallable24 rfl ((viewWrong C2 _ _ ey2 hv).mono ?_) rfl
  rintro e w28 ⟨s27, rfl, hv⟩
  refine ⟨_, rfl, ?_⟩
  refine xS 4 rfl hv rssz28 rfl (by exact ⟨rfl, rfl, rfl, rfl, trivial⟩) (fun w29 hv => ?_)
  simp only [zS, zO, sp] at hv
  refine uW k26 (rR ?_)
  refine tR (bC 4 rswd28 hv rfl rfl rfl rfl ?_)
  exact ⟨C2, es, M, rFault s27, rpCells 1 s27 0 (vN), (hC1.trans hC2), rfl, rpAt_leaf, hM.more (hC1.trans hC2), hO, ⟨y1, ey1, hy1f, .inr ⟨by omega, y2, ey2, hy2f, .inl ⟨by omega, rfl, rfl⟩⟩⟩, (hv.kp [2, 2] 2 4)⟩
 refine uG (.bool false) rfl (ex_neq rfl rfl rfl (qF hb25)) (uW k24 ?_)
 refine cF rfl (kS ?_)
 refine tK k23 (sK fun _ k30 => ?_)
 refine sK fun _ k31 => rL (uM rfl ?_)
 refine uM rfl ?_
 by_cases hb32 : k = l
 ·refine uG (.bool true) rfl (ex_seql rfl rfl rfl (qT hb32)) (uM rfl ?_)
  iterate 6 refine uP rfl ?_
  refine uK rfl (uW k31 ?_)
  refine cT rfl (sK fun _ k33 => ?_)
  refine rL (uF (.pointer (some ⟨b8, 3, none⟩)) rfl (x2fa85_3 _ _ _) ?_)
  refine uF (.pointer (some ⟨b8, 6, none⟩)) rfl (s1fa78_3 _ _ _) ?_
  refine uL _ rfl (run_load1 s1na22 (hv.load 3 6 rfl rfl)) (uM rfl ?_)
  refine xC t3callable67 rfl ((setHas C2 _ _ y1sa y1sc y1.val.texts x (hry1.more hC2 (fun _ h => h)) (by have := (hO.set hy1f).1; omega) (hO.sorted hy1f) hv).mono ?_) rfl
  rintro e w34 ⟨rfl, hv⟩
  refine ⟨_, rfl, ?_⟩
  refine xC c2callable66 rfl ((csetTruth C2 _ _ (decide (x ∈ y1.val.texts)) hv).mono ?_) rfl
  rintro e w35 ⟨rfl, hv⟩
  refine ⟨_, rfl, ?_⟩
  simp only [zP, po]
  refine xS 4 rfl hv rssz28 rfl (by exact ⟨rfl, rfl, rfl, rfl, trivial⟩) (fun w36 hv => ?_)
  simp only [zS, zO, sp] at hv
  refine uW k33 (rR ?_)
  refine tR (bC 4 rswd28 hv rfl rfl rfl rfl ?_)
  exact ⟨C2, es, M, rInt (if decide (x ∈ y1.val.texts) then 1 else 0), rpCells 2 [] (if decide (x ∈ y1.val.texts) then 1 else 0) (vN), (hC1.trans hC2), rfl, rpAt_leaf, hM.more (hC1.trans hC2), hO, ⟨y1, ey1, hy1f, .inr ⟨by omega, y2, ey2, hy2f, .inr ⟨by omega, .inl ⟨.inl hb32, rfl, rfl⟩⟩⟩⟩, (hv.kp [2, 2] 2 4)⟩
 refine uG (.bool false) rfl (ex_seql rfl rfl rfl (qF hb32)) (uM rfl ?_)
 refine uF (.pointer (some ⟨b8, 3, none⟩)) rfl (x2fa85_3 _ _ _) ?_
 refine uF (.pointer (some ⟨b8, 6, none⟩)) rfl (s1fa78_3 _ _ _) ?_
 refine uL _ rfl (run_load1 s1na22 (hv.load 3 6 rfl rfl)) ?_
 refine uM rfl ?_
 refine xC t3callable67 rfl ((setHas C2 _ _ y1sa y1sc y1.val.texts x (hry1.more hC2 (fun _ h => h)) (by have := (hO.set hy1f).1; omega) (hO.sorted hy1f) hv).mono ?_) rfl
 rintro e w37 ⟨rfl, hv⟩
 refine ⟨_, rfl, uG (.bool (!(decide (x ∈ y1.val.texts)))) rfl (ex_not rfl rfl rfl) ?_⟩
 refine uK rfl (uW k31 ?_)
 refine wpIn_cond_split (t := !(decide (x ∈ y1.val.texts))) rfl (fun hc38 => ?_) (fun hc38 => ?_)
 ·refine sK fun _ k39 => rL (uF (.pointer (some ⟨b8, 3, none⟩)) rfl (x2fa85_3 _ _ _) ?_)
  refine uF (.pointer (some ⟨b8, 6, none⟩)) rfl (s1fa78_3 _ _ _) ?_
  refine uL _ rfl (run_load1 s1na22 (hv.load 3 6 rfl rfl)) (uM rfl ?_)
  refine xC t3callable67 rfl ((setHas C2 _ _ y1sa y1sc y1.val.texts x (hry1.more hC2 (fun _ h => h)) (by have := (hO.set hy1f).1; omega) (hO.sorted hy1f) hv).mono ?_) rfl
  rintro e w40 ⟨rfl, hv⟩
  refine ⟨_, rfl, ?_⟩
  refine xC c2callable66 rfl ((csetTruth C2 _ _ (decide (x ∈ y1.val.texts)) hv).mono ?_) rfl
  rintro e w41 ⟨rfl, hv⟩
  refine ⟨_, rfl, ?_⟩
  simp only [zP, po]
  refine xS 4 rfl hv rssz28 rfl (by exact ⟨rfl, rfl, rfl, rfl, trivial⟩) (fun w42 hv => ?_)
  simp only [zS, zO, sp] at hv
  refine uW k39 (rR ?_)
  refine tR (bC 4 rswd28 hv rfl rfl rfl rfl ?_)
  exact ⟨C2, es, M, rInt (if decide (x ∈ y1.val.texts) then 1 else 0), rpCells 2 [] (if decide (x ∈ y1.val.texts) then 1 else 0) (vN), (hC1.trans hC2), rfl, rpAt_leaf, hM.more (hC1.trans hC2), hO, ⟨y1, ey1, hy1f, .inr ⟨by omega, y2, ey2, hy2f, .inr ⟨by omega, .inl ⟨.inr (by simpa using hc38), rfl, rfl⟩⟩⟩⟩, (hv.kp [2, 2] 2 4)⟩
 refine kS (tK k30 ?_)
 refine sK fun _ k43 => rL (uF (.pointer (some ⟨b20, 3, none⟩)) rfl (x2fa85_3 _ _ _) ?_)
 refine uF (.pointer (some ⟨b20, 6, none⟩)) rfl (s1fa78_3 _ _ _) ?_
 refine uL _ rfl (run_load1 s1na22 (hv.load 0 6 rfl rfl)) (uM rfl ?_)
 refine sl_rowOne (v := vS x) tV (wn rfl) rfl rfl hv c3el22 rfl (fun b44 w45 hv => ?_)
 obtain ⟨D1, hD1, hv, hrkD1, -, -⟩ := (hv.cellRow (n := 1) (c := 1) (size := 1) rfl (by decide) (by decide)).rowBy
 have hs2 := (hO.set hy2f).1
 refine xC c1callable64 rfl ((setAdd D1 _ _ y2sa _ y2sc 1 y2.val.texts [x] hoky2 (hry2.more hD1 (fun _ h => h)) (hO.sorted hy2f) (by omega) (ok_full (by simp)) hrkD1 (by simp) hv).mono ?_) rfl
 rintro e w46 ⟨D2, oa, oc, out, n, e3, hD2, rfl, hoko, hro, hadd, hv⟩
 refine ⟨_, rfl, ?_⟩
 have hol : out.length ≤ 1000000 := by
  have h9 := hadd
  rcases h9 with ⟨-, -, rfl, -⟩ | ⟨-, j, -, ⟨-, -, rfl, -⟩ | ⟨-, h9, rfl, -⟩⟩ <;> simp <;> omega
 refine uM rfl (uE rfl ?_)
 refine uE rfl (uE rfl ?_)
 refine uA rfl (uA rfl ?_)
 refine uA rfl (uW k43 ?_)
 refine sK fun _ k47 => sK fun _ k48 => rL (uM rfl ?_)
 by_cases hb49 : e3 ≠ 0
 ·refine uG (.bool true) rfl (ex_neq rfl rfl rfl (qT hb49)) (uW k48 ?_)
  refine cT rfl (sK fun _ k50 => ?_)
  refine rL (uM rfl ?_)
  refine xC rscallable24 rfl ((viewWrong D2 _ _ e3 hv).mono ?_) rfl
  rintro e w52 ⟨s51, rfl, hv⟩
  refine ⟨_, rfl, ?_⟩
  refine xS 4 rfl hv rssz28 rfl (by exact ⟨rfl, rfl, rfl, rfl, trivial⟩) (fun w53 hv => ?_)
  simp only [zS, zO, sp] at hv
  refine uW k50 (rR ?_)
  refine tR (bC 4 rswd28 hv rfl rfl rfl rfl ?_)
  exact ⟨D2, es, M, rFault s51, rpCells 1 s51 0 (vN), (((hC1.trans hC2).trans hD1).trans hD2), rfl, rpAt_leaf, hM.more (((hC1.trans hC2).trans hD1).trans hD2), hO, ⟨y1, ey1, hy1f, .inr ⟨by omega, y2, ey2, hy2f, .inr ⟨by omega, .inr ⟨hb32, by simpa using hc38, out, n, e3, hadd, .inl ⟨by omega, rfl, rfl⟩⟩⟩⟩⟩, (hv.kp [2, 2] 2 4)⟩
 refine uG (.bool false) rfl (ex_neq rfl rfl rfl (qF hb49)) (uW k48 ?_)
 refine cF rfl (kS ?_)
 refine tK k47 (sK fun _ k54 => ?_)
 refine sK fun _ k55 => rL (uL (.agg #[vP v, .slice aa args.length ac]) rfl (lM 5 c1wd73 hv rfl rfl rfl rfl) ?_)
 refine uM rfl ?_
 refine uL (.agg #[vI y2.stamp, .bool y2.gone, vI y2.expire, vI y2.val.kind, vS y2.val.text, .slice y2pa y2pn y2pc, .slice y2sa y2.val.texts.length y2sc, .slice y2za y2zn y2zc]) rfl (lM 0 x0wd85 hv rfl rfl rfl rfl) (uM rfl ?_)
 replace hv := hv.front 2 rfl
 simp only [eS, eZ] at hv
 replace hv := hv.front 2 rfl
 simp only [eS, eZ] at hv
 refine xC c1callable44 rfl ((csetKeep D2 _ _ v t m s p wb va vc sv clk es M (hM.more (((hC1.trans hC2).trans hD1).trans hD2)) hO aa ac args.length l y2 _ _ _ (hy2v.more (hD1.trans hD2)) oa oc out hro hoko hol hv).mono ?_) rfl
 rintro e w56 ⟨D3, es1, M1, e4, hD3, rfl, hM1, hk1, hv⟩
 refine ⟨_, rfl, ?_⟩
 have hO1 := hO.keep hk1
 refine uA rfl (uW k55 ?_)
 refine sK fun _ k57 => rL (uM rfl ?_)
 by_cases hb58 : e4 ≠ 0
 ·refine uG (.bool true) rfl (ex_neq rfl rfl rfl (qT hb58)) (uW k57 ?_)
  refine cT rfl (sK fun _ k59 => ?_)
  refine rL (uM rfl ?_)
  refine xC rscallable24 rfl ((viewWrong D3 _ _ e4 hv).mono ?_) rfl
  rintro e w61 ⟨s60, rfl, hv⟩
  refine ⟨_, rfl, ?_⟩
  refine xS 4 rfl hv rssz28 rfl (by exact ⟨rfl, rfl, rfl, rfl, trivial⟩) (fun w62 hv => ?_)
  simp only [zS, zO, sp] at hv
  refine uW k59 (rR ?_)
  refine tR (bC 4 rswd28 hv rfl rfl rfl rfl ?_)
  exact ⟨D3, es1, M1, rFault s60, rpCells 1 s60 0 (vN), ((((hC1.trans hC2).trans hD1).trans hD2).trans hD3), rfl, rpAt_leaf, hM1.more (Base.Le.refl _), hO1, ⟨y1, ey1, hy1f, .inr ⟨by omega, y2, ey2, hy2f, .inr ⟨by omega, .inr ⟨hb32, by simpa using hc38, out, n, e3, hadd, .inr ⟨by omega, M1, e4, hk1, .inl ⟨by omega, rfl, rfl⟩⟩⟩⟩⟩⟩, (hv.kp [1, 1] 2 4)⟩
 refine uG (.bool false) rfl (ex_neq rfl rfl rfl (qF hb58)) (uW k57 ?_)
 refine cF rfl (kS ?_)
 refine tK k54 (sK fun _ k63 => ?_)
 refine rL (uF (.pointer (some ⟨b8, 3, none⟩)) rfl (x2fa85_3 _ _ _) ?_)
 refine uF (.pointer (some ⟨b8, 6, none⟩)) rfl (s1fa78_3 _ _ _) ?_
 refine uL _ rfl (run_load1 s1na22 (hv.load 3 6 rfl rfl)) (uM rfl ?_)
 refine sl_rowOne (v := vS x) tV (wn rfl) rfl rfl hv c3el22 rfl (fun b64 w65 hv => ?_)
 obtain ⟨D4, hD4, hv, hrkD4, -, -⟩ := (hv.cellRow (n := 1) (c := 1) (size := 1) rfl (by decide) (by decide)).rowBy
 have hs1 := (hO.set hy1f).1
 refine xC c1callable65 rfl ((setDel D4 _ _ y1sa y1sc y1.val.texts (hry1.more ((((hC2.trans hD1).trans hD2).trans hD3).trans hD4) (fun _ h => h)) (by omega) _ 1 [x] (ok_full (by simp)) hrkD4 (by simp) hv).mono ?_) rfl
 rintro e w66 ⟨D5, la, lc, lft, hD5, rfl, hokl, hrl, hdel, hv⟩
 refine ⟨_, rfl, ?_⟩
 have hll : lft.length ≤ 1000000 := by
  have h9 : lft.length ≤ y1.val.texts.length := by rw [hdel]; exact List.length_filter_le _ _
  omega
 refine uM rfl (uE rfl ?_)
 refine uE rfl (uA rfl ?_)
 refine uA rfl (uW k63 ?_)
 refine sK fun _ k67 => rL (uL (.agg #[vP v, .slice aa args.length ac]) rfl (lM 5 c1wd73 hv rfl rfl rfl rfl) ?_)
 refine uM rfl ?_
 refine uL (.agg #[vI y1.stamp, .bool y1.gone, vI y1.expire, vI y1.val.kind, vS y1.val.text, .slice y1pa y1pn y1pc, .slice y1sa y1.val.texts.length y1sc, .slice y1za y1zn y1zc]) rfl (lM 3 x0wd85 hv rfl rfl rfl rfl) (uM rfl ?_)
 replace hv := hv.front 1 rfl
 simp only [eS, eZ] at hv
 replace hv := hv.front 1 rfl
 simp only [eS, eZ] at hv
 refine xC c1callable44 rfl ((csetKeep D5 _ _ v t m s p wb va vc sv clk es1 M1 (hM1.more (hD4.trans hD5)) hO1 aa ac args.length k y1 _ _ _ (hy1v.more (((((hC2.trans hD1).trans hD2).trans hD3).trans hD4).trans hD5)) la lc lft hrl hokl hll hv).mono ?_) rfl
 rintro e w68 ⟨D6, es2, M2, e5, hD6, rfl, hM2, hk2, hv⟩
 refine ⟨_, rfl, ?_⟩
 refine xC c1callable45 rfl ((respInt D6 _ _ 1 hv).mono ?_) rfl
 rintro e w69 ⟨rfl, hv⟩
 refine ⟨_, rfl, ?_⟩
 simp only [zP, po]
 refine xC c1callable42 rfl ((viewDone D6 _ _ e5 2 1 ([] : List UInt8) (vN) rfl rfl hv).mono ?_) rfl
 rintro e w70 ⟨xr, hxr, rfl, hv⟩
 refine ⟨_, rfl, ?_⟩
 rcases hxr with ⟨hec0, rfl⟩ | ⟨hec0, s71, rfl⟩
 ·refine xS 4 rfl hv rssz28 rfl (by exact ⟨rfl, rfl, rfl, rfl, trivial⟩) (fun w72 hv => ?_)
  simp only [zS, zO, sp] at hv
  refine uW k67 (rR ?_)
  refine bC 4 rswd28 hv rfl rfl rfl rfl ?_
  rw [hdel] at hk2
  exact ⟨D6, es2, M2, rInt 1, rpCells 2 [] 1 (vN), (((((((hC1.trans hC2).trans hD1).trans hD2).trans hD3).trans hD4).trans hD5).trans hD6), rfl, rpAt_leaf, hM2.more (Base.Le.refl _), hO1.keep hk2, ⟨y1, ey1, hy1f, .inr ⟨by omega, y2, ey2, hy2f, .inr ⟨by omega, .inr ⟨hb32, by simpa using hc38, out, n, e3, hadd, .inr ⟨by omega, M1, e4, hk1, .inr ⟨by omega, e5, hk2, .inl ⟨by omega, rfl⟩⟩⟩⟩⟩⟩⟩, (hv.kp [1, 1] 2 4)⟩
 refine xS 4 rfl hv rssz28 rfl (by exact ⟨rfl, rfl, rfl, rfl, trivial⟩) (fun w73 hv => ?_)
 simp only [zS, zO, sp] at hv
 refine uW k67 (rR ?_)
 refine bC 4 rswd28 hv rfl rfl rfl rfl ?_
 rw [hdel] at hk2
 exact ⟨D6, es2, M2, rFault s71, rpCells 1 s71 0 (vN), (((((((hC1.trans hC2).trans hD1).trans hD2).trans hD3).trans hD4).trans hD5).trans hD6), rfl, rpAt_leaf, hM2.more (Base.Le.refl _), hO1.keep hk2, ⟨y1, ey1, hy1f, .inr ⟨by omega, y2, ey2, hy2f, .inr ⟨by omega, .inr ⟨hb32, by simpa using hc38, out, n, e3, hadd, .inr ⟨by omega, M1, e4, hk1, .inr ⟨by omega, e5, hk2, .inr ⟨by omega, rfl⟩⟩⟩⟩⟩⟩⟩, (hv.kp [1, 1] 2 4)⟩
end Go.Proofs.YtoljdfjnannakaaGreatDoor
namespace Go.Pm
open Go.RowKit
section
variable {P : Program} {a : Act} {w : World} {o : Oper} {t : TypeId} {x y : Operand} {l : List UInt8}
theorem ex_sidx0 {i : Nat} {c : UInt8} (ht : P.underlying t = some .string) (ho : o.op = .index t x y) (hx : a.eval x = .string ⟨l.toArray⟩) (hy : a.eval y = .int .i64 (i : Int)) (hc : l[i]? = some c) : Ex P a o w (.int .u8 (c.toNat : Int)) w := by
 obtain ⟨hi, rfl⟩ := List.getElem?_eq_some_iff.1 hc
 have h := run_index_string (P := P) w t ⟨l.toArray⟩ .i64 (i : Int) ht
 rw [dif_pos ⟨by omega, by show (i : Int) < (l.length : Int); omega⟩] at h
 have e : (⟨l.toArray⟩ : ByteArray)[((i : Int)).toNat]'(by show ((i : Int)).toNat < l.length; omega) = l[i] := rfl
 rw [e] at h
 unfold Ex
 simp [execOp, ho, hx, hy, h]
end
theorem less_pre (l a b : List UInt8) : Op.bytesLess (l ++ a) (l ++ b) = Op.bytesLess a b := by
 induction l with
 | nil => rfl
 | cons x l ih =>
  rw [List.cons_append, List.cons_append]
  simp only [Op.bytesLess, ih]
  simp
section
variable {a b : List UInt8} {i : Nat}
theorem less_at {x y : UInt8} (h : a.take i = b.take i) (hx : a[i]? = some x) (hy : b[i]? = some y) (hne : x ≠ y) : Op.bytesLess a b = decide (x.toNat < y.toNat) := by
 obtain ⟨hi, rfl⟩ := List.getElem?_eq_some_iff.1 hx
 obtain ⟨hj, rfl⟩ := List.getElem?_eq_some_iff.1 hy
 conv => lhs; rw [← List.take_append_drop i a, ← List.take_append_drop i b, h, less_pre, List.drop_eq_getElem_cons hi, List.drop_eq_getElem_cons hj]
 have hb : (a[i] == b[i]) = false := beq_eq_false_iff_ne.2 hne
 simp only [Op.bytesLess, hb, Bool.false_and, Bool.or_false]
 exact decide_eq_decide.2 UInt8.lt_iff_toNat_lt
theorem less_end (h : a.take i = b.take i) (he : i = a.length ∨ i = b.length) (h1 : i ≤ a.length) (h2 : i ≤ b.length) : Op.bytesLess a b = decide (a.length < b.length) := by
 conv => lhs; rw [← List.take_append_drop i a, ← List.take_append_drop i b, h, less_pre]
 rcases he with he | he
 ·rw [he, List.drop_length]
  cases hb : b.drop a.length with
  | nil =>
   have := congrArg List.length hb
   rw [List.length_drop, List.length_nil] at this
   rw [decide_eq_false (by omega)]; rfl
  | cons y l =>
   have := congrArg List.length hb
   rw [List.length_drop, List.length_cons] at this
   rw [decide_eq_true (by omega)]; rfl
 rw [he, List.drop_length, decide_eq_false (by omega)]
 cases a.drop b.length <;> rfl
theorem take_step {x : UInt8} (h : a.take i = b.take i) (hx : a[i]? = some x) (hy : b[i]? = some x) : a.take (i + 1) = b.take (i + 1) := by
 rw [List.take_add_one, List.take_add_one, h, hx, hy]
end
end Go.Pm
namespace Go.Proofs.YtoljdfjnannakaaGreatDoor
open Go.RowKit Go.Pm
def lowZ (n : Int) : Int := if 65 ≤ n ∧ n ≤ 90 then n + 32 else n
def SameC (x arg : List UInt8) : Prop := x.length = arg.length ∧ ∀ (k : Nat) (a b : UInt8), x[k]? = some a → arg[k]? = some b → lowZ (a.toNat : Int) = lowZ (b.toNat : Int)
def IsI (arg : List UInt8) (ws : List (List UInt8)) (r : Int) : Prop := (r = -1 ∧ ∀ x ∈ ws, ¬ SameC x arg) ∨ ∃ (i : Nat) (x : List UInt8), r = (i : Int) ∧ ws[i]? = some x ∧ SameC x arg ∧ ∀ (j : Nat) y, j < i → ws[j]? = some y → ¬ SameC y arg
theorem viewLow (B : Base) (H : List Res) (w : World) (n : Int) (h0 : 0 ≤ n) (h1 : n ≤ 255) (hv : Inv B H w) :
  Calls Tryz.prog 96 #[.int .u8 n] w fun e w' => e = .returned (.int .u8 (lowZ n)) ∧ Inv B H w' := by
 refine cW Tryz.func96 rfl Tryz.ntmps96 ?_
 simp only [al]
 refine sK fun _ k1 => rL (uA rfl ?_)
 refine uW k1 (sK fun _ k2 => ?_)
 refine sK fun _ k3 => rL (uM rfl ?_)
 by_cases hb4 : 65 ≤ n
 ·refine uG (.bool true) rfl (ex_leq rfl rfl rfl (qT hb4)) (uM rfl ?_)
  refine uM rfl ?_
  by_cases hb5 : n ≤ 90
  ·refine uG (.bool true) rfl (ex_leq rfl rfl rfl (qT hb5)) (uK rfl ?_)
   refine uW k3 (cT rfl ?_)
   refine sK fun _ k6 => rL (uM rfl ?_)
   refine uG (.int .u8 (n + 97)) rfl (ex_add rfl rfl rfl (u8_in (by omega))) ?_
   refine uG (.int .u8 (n + 32)) rfl (ex_sub rfl rfl rfl (by rw [u8_in (by omega)]; omega)) (uA rfl ?_)
   refine uW k6 (rR ?_)
   refine tR (bR rfl rfl ?_)
   exact ⟨congrArg (fun n : Int => Ending.returned (Value.int .u8 n)) (by unfold lowZ; split <;> omega), hv⟩
  refine uG (.bool false) rfl (ex_leq rfl rfl rfl (qF hb5)) (uK rfl ?_)
  refine uW k3 (cF rfl ?_)
  refine kS (tK k2 ?_)
  refine sK fun _ k7 => rL (uM rfl ?_)
  refine uA rfl (uW k7 ?_)
  refine rR (bR rfl rfl ?_)
  exact ⟨congrArg (fun n : Int => Ending.returned (Value.int .u8 n)) (by unfold lowZ; split <;> omega), hv⟩
 refine uG (.bool false) rfl (ex_leq rfl rfl rfl (qF hb4)) (uM rfl ?_)
 refine uP rfl ?_
 refine uP rfl (uK rfl ?_)
 refine uW k3 (cF rfl ?_)
 refine kS (tK k2 ?_)
 refine sK fun _ k8 => rL (uM rfl ?_)
 refine uA rfl (uW k8 ?_)
 refine rR (bR rfl rfl ?_)
 exact ⟨congrArg (fun n : Int => Ending.returned (Value.int .u8 n)) (by unfold lowZ; split <;> omega), hv⟩
theorem v5callable96 : Callable Tryz.prog 96 := cb Tryz.func96 (by kernel_rfl)
theorem viewIs (B : Base) (H : List Res) (w : World) (arg : List UInt8) (ka : Option Addr) (kc : Nat) (ws : List (List UInt8)) (hr : RdV B [] ka (textCells ws)) (hm : ws.length ≤ 1000000) (hma : arg.length ≤ 9223372036854775807) (hv : Inv B H w) :
  Calls Tryz.prog 75 #[vS arg, .slice ka ws.length kc] w fun e w' => ∃ r : Int, e = .returned (vI r) ∧ IsI arg ws r ∧ Inv B H w' := by
 refine cW Tryz.func75 rfl Tryz.ntmps75 ?_
 simp only [al]
 refine sK fun _ k1 => rL (uA rfl ?_)
 refine uW k1 (wpIn_scopeW ?_)
 refine sK fun _ k2 => wpIn_label (tK k2 ?_)
 refine sK fun _ k3 => sK fun _ k4 => rL (uM rfl ?_)
 refine uG (vI (ws.length : Int)) rfl (ex_len0 Tryz.underlying22 rfl rfl) (uM rfl ?_)
 refine uW k4 (bB ?_)
 gi_loopw [10] (fun x10 wr => ∃ (i : Nat), x10 = vI i ∧ i ≤ ws.length ∧ (∀ (j : Nat) y, j < i → ws[j]? = some y → ¬ SameC y arg) ∧ Inv B H wr) (fun x10 _ => ws.length - (intOf x10).toNat)
 case atStart => exact ⟨0, rfl, Nat.zero_le _, fun j y h => by omega, hv⟩
 case round =>
  obtain ⟨i, rfl, hi, hno, hv⟩ := hrel
  refine sK fun _ k6 => rL ?_
  by_cases hb7 : (i : Int) < (ws.length : Int)
  ·refine uG (.bool true) rfl (ex_lss rfl rfl rfl (qT hb7)) (uW k6 ?_)
   refine sK fun _ k8 => cT rfl (kS ?_)
   refine tK k8 (sK fun _ k9 => ?_)
   refine bB (sK fun _ k10 => ?_)
   obtain ⟨x, hx⟩ : ∃ x, ws[i]? = some x := ⟨_, List.getElem?_eq_getElem (show i < ws.length by omega)⟩
   obtain ⟨bb, bo, had, hrdx⟩ := text_reads hr hx
   subst had
   refine rL (uM rfl ?_)
   refine uG (.pointer (some ⟨bb, bo + i, none⟩)) rfl (ex_index rfl rfl rfl (run_idx1 (k := i) Tryz.underlying22 s9es22 (by omega))) ?_
   refine uL _ rfl (run_load1 s9na9 (hrdx _ _ _ (Base.Le.refl _) no_res hv 0 _ rfl)) (uA rfl ?_)
   refine uA rfl (uW k10 ?_)
   refine sK fun _ k11 => sK fun _ k12 => rL (uM rfl ?_)
   refine uG (vI (x.length : Int)) rfl (ex_lenStr Tryz.underlying9 rfl rfl) (uM rfl ?_)
   refine uG (vI (arg.length : Int)) rfl (ex_lenStr Tryz.underlying9 rfl rfl) ?_
   by_cases hb13 : (x.length : Int) ≠ (arg.length : Int)
   ·refine uG (.bool true) rfl (ex_neq rfl rfl rfl (qT hb13)) (uW k12 ?_)
    refine cT rfl (xE ?_)
    refine tX (bH ?_)
    refine tK k9 (rL ?_)
    refine uG (vI ((i + 1 : Nat) : Int)) rfl (ex_add rfl rfl rfl (by rw [i64_in (by omega)]; omega)) (uM rfl ?_)
    refine uZ (then_normal ?_)
    go_roundw
    case rel => exact ⟨i + 1, rfl, by omega, fun j9 y9 hj9 hy9 => (by
       rcases Nat.lt_or_ge j9 i with h | h
       ·exact hno j9 y9 h hy9
       obtain rfl : j9 = i := by omega
       rw [hx] at hy9; cases hy9
       exact fun h => by have h9 := h.1; omega), hv⟩
    case measure => show ws.length - (((i + 1 : Nat) : Int)).toNat < ws.length - ((i : Int)).toNat; omega
   refine uG (.bool false) rfl (ex_neq rfl rfl rfl (qF hb13)) (uW k12 ?_)
   refine cF rfl (kS ?_)
   refine tK k11 (sK fun _ k14 => ?_)
   refine sK fun _ k15 => rL (uM rfl ?_)
   refine uG (vI (x.length : Int)) rfl (ex_lenStr Tryz.underlying9 rfl rfl) (uM rfl ?_)
   refine uW k15 (bB ?_)
   gi_loopw [22] (fun x22 wr => ∃ (j : Nat), x22 = vI j ∧ j ≤ x.length ∧ (∀ (k : Nat) (a b : UInt8), k < j → x[k]? = some a → arg[k]? = some b → lowZ (a.toNat : Int) = lowZ (b.toNat : Int)) ∧ Inv B H wr) (fun x22 _ => x.length - (intOf x22).toNat)
   case atStart => exact ⟨0, rfl, Nat.zero_le _, fun k a b h => by omega, hv⟩
   case round =>
    obtain ⟨j, rfl, hj, heq, hv⟩ := hrel
    refine sK fun _ k17 => rL ?_
    by_cases hb18 : (j : Int) < (x.length : Int)
    ·refine uG (.bool true) rfl (ex_lss rfl rfl rfl (qT hb18)) (uW k17 ?_)
     refine sK fun _ k19 => cT rfl (kS ?_)
     refine tK k19 (sK fun _ k20 => ?_)
     refine bB (sK fun _ k21 => ?_)
     refine rL (uM rfl ?_)
     refine uA rfl (uW k21 ?_)
     refine sK fun _ k22 => ?_
     obtain ⟨a, ha⟩ : ∃ y, x[j]? = some y := ⟨_, List.getElem?_eq_getElem (show j < x.length by omega)⟩
     obtain ⟨b, hb⟩ : ∃ y, arg[j]? = some y := ⟨_, List.getElem?_eq_getElem (show j < arg.length by omega)⟩
     refine rW mixed [3, 7] [0,1,2,4,5,6,3,7,8] 37 rfl (by kernel_rfl) hv ?_
     simp only [qm, opAt]
     refine dM (vS x) rfl (dM (vI j) rfl ?_)
     refine dG (.int .u8 (a.toNat : Int)) rfl (ex_sidx0 Tryz.underlying9 rfl rfl rfl ha) ?_
     simp only [zP, po]
     refine dM (vS arg) rfl (dM (vI j) rfl ?_)
     refine dG (.int .u8 (b.toNat : Int)) rfl (ex_sidx0 Tryz.underlying9 rfl rfl rfl hb) ?_
     simp only [zP, po]
     refine dS rfl fun w23 hv => mC v5callable96 rfl ((viewLow B _ _ (a.toNat : Int) (by omega) (by have := a.toNat_lt; omega) hv).mono ?_) rfl
     rintro e w24 ⟨rfl, hv⟩
     refine ⟨_, rfl, dW hv ?_⟩
     refine dS rfl fun w25 hv => mC v5callable96 rfl ((viewLow B _ _ (b.toNat : Int) (by omega) (by have := b.toNat_lt; omega) hv).mono ?_) rfl
     rintro e w26 ⟨rfl, hv⟩
     refine ⟨_, rfl, dW hv ?_⟩
     by_cases hb27 : (lowZ (a.toNat : Int)) ≠ (lowZ (b.toNat : Int))
     ·refine dG (.bool true) rfl (ex_neq rfl rfl rfl (qT hb27)) (dE fun w28 hv => ?_)
      simp only [zP, po]
      refine tK k22 (cT rfl ?_)
      refine xE (bM rfl ?_)
      refine tX (tX ?_)
      refine bM rfl (tX ?_)
      refine bH (tK k9 ?_)
      refine rL (uG (vI ((i + 1 : Nat) : Int)) rfl (ex_add rfl rfl rfl (by rw [i64_in (by omega)]; omega)) ?_)
      refine uM rfl (uZ ?_)
      refine then_normal ?_
      go_roundw
      case rel => exact ⟨i + 1, rfl, by omega, fun j9 y9 hj9 hy9 => (by
         rcases Nat.lt_or_ge j9 i with h | h
         ·exact hno j9 y9 h hy9
         obtain rfl : j9 = i := by omega
         rw [hx] at hy9; cases hy9
         exact fun h => hb27 (h.2 j a b ha hb)), hv⟩
      case measure => show ws.length - (((i + 1 : Nat) : Int)).toNat < ws.length - ((i : Int)).toNat; omega
     refine dG (.bool false) rfl (ex_neq rfl rfl rfl (qF hb27)) (dE fun w29 hv => ?_)
     simp only [zP, po]
     refine tK k22 (cF rfl ?_)
     refine kS (bN ?_)
     refine tK k20 (rL ?_)
     refine uG (vI ((j + 1 : Nat) : Int)) rfl (ex_add rfl rfl rfl (by rw [i64_in (by omega)]; omega)) (uM rfl ?_)
     refine uZ (then_normal ?_)
     go_roundw
     case rel => exact ⟨j + 1, rfl, by omega, fun k9 a9 b9 hk9 ha9 hb9 => (by
        rcases Nat.lt_or_ge k9 j with h | h
        ·exact heq k9 a9 b9 h ha9 hb9
        obtain rfl : k9 = j := by omega
        rw [ha] at ha9; cases ha9
        rw [hb] at hb9; cases hb9
        omega), hv⟩
     case measure => show x.length - (((j + 1 : Nat) : Int)).toNat < x.length - ((j : Int)).toNat; omega
    refine uG (.bool false) rfl (ex_lss rfl rfl rfl (qF hb18)) (uW k17 ?_)
    refine sK fun _ k30 => cF rfl (xE ?_)
    refine tX (tX ?_)
    refine bH (tK k14 ?_)
    refine sK fun _ k31 => rL (uM rfl ?_)
    refine uA rfl (uW k31 ?_)
    refine rR (bZ ?_)
    refine tR (tR ?_)
    refine bZ (tR ?_)
    refine scope_ret (bR rfl rfl ?_)
    exact ⟨_, rfl, .inr ⟨i, x, rfl, hx, ⟨by omega, fun k9 a9 b9 ha9 hb9 => heq k9 a9 b9 (by have := (List.getElem?_eq_some_iff.1 ha9).1; omega) ha9 hb9⟩, hno⟩, hv⟩
  refine uG (.bool false) rfl (ex_lss rfl rfl rfl (qF hb7)) (uW k6 ?_)
  refine sK fun _ k32 => cF rfl (xE ?_)
  refine tX (tX ?_)
  refine bH (tK k3 ?_)
  refine sK fun _ k33 => rL (uA rfl ?_)
  refine uW k33 (rR ?_)
  refine scope_ret (bR rfl rfl ?_)
  obtain rfl : i = ws.length := by omega
  exact ⟨_, rfl, .inl ⟨rfl, fun y hy => (by obtain ⟨j9, hj9⟩ := List.mem_iff_getElem?.1 hy; exact hno j9 y (List.getElem?_eq_some_iff.1 hj9).1 hj9)⟩, hv⟩
end Go.Proofs.YtoljdfjnannakaaGreatDoor
