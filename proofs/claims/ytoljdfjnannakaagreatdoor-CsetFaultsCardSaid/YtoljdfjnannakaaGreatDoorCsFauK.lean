/- cset: SMISMEMBER, SPOP, SSCAN. -/
import Derived.Test.YtoljdfjnannakaaGreatDoorCsFauB
import Derived.Test.YtoljdfjnannakaaGreatDoorCsFauH
import Derived.Test.YtoljdfjnannakaaGreatDoorCsFauJ
import Derived.Test.YtoljdfjnannakaaGreatDoorRows
set_option maxRecDepth 100000
set_option maxHeartbeats 16000000
set_option synthInstance.maxSize 4096
set_option synthInstance.maxHeartbeats 400000
namespace Go.Proofs.YtoljdfjnannakaaGreatDoor
open Go.RowKit Go.Pm
theorem c9al28 : AL Tryz.prog 28 [vI 0, vS [], vI 0, vN] := fun w => by kernel_rfl
theorem c9al85 : AL Tryz.prog 85 [vI 0, .bool false, vI 0, vI 0, vS [], vN, vN, vN] := fun w => by kernel_rfl
theorem c9mk28 : (Tryz.prog.info? 28).map (fun i => (i.zero, i.size, i.bytes)) = some (some (.agg #[vI 0, vS [], vI 0, vN]), 4, 56) := by kernel_rfl
theorem c9el26 : Elem Tryz.prog 26 28 (.agg #[vI 0, vS [], vI 0, vN]) 4 56 := elem_of Tryz.underlying26 c9mk28 (by rfl) (by decide)
theorem c9callable68 : Callable Tryz.prog 68 := cb Tryz.func68 (by kernel_rfl)
theorem csetAskM (B : Base) (H : List Res) (w : World) (v t m s p wb : Nat) (va : Option Addr) (vc : Nat) (sv : Value) (clk : Int) (es : List (List UInt8 × Value)) (M : List (List UInt8 × Ver)) (hM : VM B es M) (hO : OkM M) (aa : Option Addr) (ac : Nat) (args : List (List UInt8)) (hra : RdV B [] aa (textCells args)) (hoka : SliceOk aa args.length ac) (_ : args.length ≤ 10000) (key : List UInt8) (hkey : args[0]? = some key) (name : List UInt8) (hn1 : name ≠ nSCARD) (hn2 : name ≠ nSISM) (hn3 : name ≠ nSMEM) (xa : Option Addr) (xc : Nat) (xs : List (List UInt8)) (hokx : SliceOk xa xs.length xc) (hrx : RdV B [] xa (textCells xs)) (hmx : xs.length ≤ 10000) (hv : Inv B (Res.cell v [.iface 62 (vP t)] 39 :: txR t m s p wb va vc sv clk es :: H) w) :
  Calls Tryz.prog 40 #[.agg #[vP v, .slice aa args.length ac], vS name, .slice xa xs.length xc] w fun e w' => ∃ C es' M' r cs, B.Le C ∧ e = .returned (.agg cs.toArray) ∧ RpAt C r cs ∧ VM C es' M' ∧ CmdR M M' r ∧ Inv C (Res.cell v [.iface 62 (vP t)] 39 :: txR t m s p wb va vc sv clk es' :: H) w' := by
 refine cW Tryz.func40 rfl Tryz.ntmps40 ?_
 simp only [al]
 refine sK fun _ k1 => ?_
 have hal := (List.getElem?_eq_some_iff.1 hkey).1
 obtain ⟨ab, ao, had, hrdkey⟩ := text_reads hra hkey
 subst had
 refine rL (sl_box (L := [vP v, .slice (some ⟨ab, ao, none⟩) args.length ac]) tV (wn rfl) rfl rfl hv (fun w => by kernel_rfl) (fun b2 w3 hv => ?_))
 refine sl_alloc tV (wn rfl) rfl hv c9al28 (fun b4 w5 hv => ?_)
 refine uW k1 (sK fun _ k6 => ?_)
 refine rT mixed (fun az wz => ∃ (C : Base) (y : Ver) (yp yt yz : Value) (ec : Int) (b13 : Nat), (B.Le C) ∧ (ValAt C y.val yp yt yz) ∧ (OfI M clk key 4 y ec) ∧ az = { tmps := List.toArray (.agg #[vP v, .slice (some ⟨ab, ao, none⟩) args.length ac] :: vS name :: .slice xa xs.length xc :: vP b2 :: undef :: undef :: vP b4 :: vP b13 :: vI ec :: undef :: undef :: undef :: .tuple #[.agg #[vI y.stamp, .bool y.gone, vI y.expire, vI y.val.kind, vS y.val.text, yp, yt, yz], vI ec] :: vP b2 :: vP v :: .pointer (some ⟨b2, 1, none⟩) :: .slice (some ⟨ab, ao, none⟩) args.length ac :: .pointer (some ⟨ab, ao + 0, none⟩) :: vS key :: .tuple #[.agg #[vI y.stamp, .bool y.gone, vI y.expire, vI y.val.kind, vS y.val.text, yp, yt, yz], vI ec] :: .agg #[vI y.stamp, .bool y.gone, vI y.expire, vI y.val.kind, vS y.val.text, yp, yt, yz] :: vI ec :: undef :: undef :: undef :: undef :: undef :: undef :: undef :: undef :: undef :: undef :: undef :: undef :: undef :: undef :: undef :: undef :: undef :: undef :: undef :: undef :: undef :: undef :: undef :: undef :: undef :: undef :: undef :: undef :: undef :: undef :: undef :: undef :: undef :: undef :: undef :: undef :: undef :: undef :: undef :: undef :: undef :: undef :: undef :: undef :: undef :: undef :: undef :: undef :: undef :: []), defers := [] } ∧ Inv C (Res.cell b13 [vI y.stamp, .bool y.gone, vI y.expire, vI y.val.kind, vS y.val.text, yp, yt, yz] 85 :: Res.cell v [.iface 62 (vP t)] 39 :: txR t m s p wb va vc sv clk es :: Res.cell b4 [vI 0, vS [], vI 0, vN] 28 :: Res.cell b2 [vP v, .slice (some ⟨ab, ao, none⟩) args.length ac] 73 :: H) wz) [6, 10, 11] [0,1,2,3,4,5] [7,8,9,10,11,12] [6,7,8,9,11,12] 6 10 71 rfl (by kernel_rfl) hv ?_ ?_
 ·intro R2 l1 l2 hR2 hl1 hl2
  simp only [qm, opAt]
  refine tG (vP b2) rfl (ex_field rfl rfl (c1fa73_0 _ _ _)) (tF (vP v) rfl (fun hv => ex_load rfl rfl (run_load1 c1na24 (hv.load 1 0 rfl rfl))) fun f7 hf7 => ?_)
  simp only [zP, po]
  refine tG (.pointer (some ⟨b2, 1, none⟩)) rfl (ex_field rfl rfl (c1fa73_1 _ _ _)) (tF (.slice (some ⟨ab, ao, none⟩) args.length ac) rfl (fun hv => ex_load rfl rfl (run_load1 s1na22 (hv.load 1 1 rfl rfl))) fun f8 hf8 => ?_)
  simp only [zP, po]
  refine tG (.pointer (some ⟨ab, ao + 0, none⟩)) rfl (ex_index rfl rfl rfl (run_idx1 (k := 0) Tryz.underlying22 s9es22 (by omega))) (tF (vS key) rfl (fun hv => ex_load rfl rfl (run_load1 s9na9 (hrdkey _ _ _ (Base.Le.refl _) no_res hv 0 _ rfl))) fun f9 hf9 => ?_)
  simp only [zP, po]
  refine tB ?_ ?_
  ·rw [hl1]; clear hl1 hl2
   simp only [qm, opAt]
   refine dS rfl fun w10 hv => ?_
   replace hv := hv.front 3 rfl
   simp only [eS, eZ] at hv
   replace hv := hv.front 3 rfl
   simp only [eS, eZ] at hv
   refine mC c1callable63 rfl ((viewOf B _ _ v t m s p wb va vc sv clk es M key 4 (hM.more (Base.Le.refl _)) hv).mono ?_) rfl
   rintro e w11 ⟨C, y, yp, yt, yz, ec, hC, rfl, hyv, hof, hv⟩
   refine ⟨_, rfl, dV hv (fK rfl (fK rfl (fK rfl fN))) ?_⟩
   refine dM (.tuple #[.agg #[vI y.stamp, .bool y.gone, vI y.expire, vI y.val.kind, vS y.val.text, yp, yt, yz], vI ec]) rfl (dG (.agg #[vI y.stamp, .bool y.gone, vI y.expire, vI y.val.kind, vS y.val.text, yp, yt, yz]) rfl (ex_extract rfl rfl rfl) ?_)
   simp only [zP, po]
   refine dG (vI ec) rfl (ex_extract rfl rfl rfl) (dS rfl fun w12 hv => ?_)
   refine mem_alloc rfl rfl hv c9al85 (fun b13 w14 hv => ?_)
   refine dV hv (fC (fun ww hv => hf9 ww (ex_load rfl rfl (run_load1 s9na9 (hrdkey _ _ _ hC no_res hv 0 _ rfl)))) (fC (fun ww hv => hf8 ww (ex_load rfl rfl (run_load1 s1na22 (hv.load 4 1 rfl rfl)))) (fC (fun ww hv => hf7 ww (ex_load rfl rfl (run_load1 c1na24 (hv.load 4 0 rfl rfl)))) fN))) (dS rfl fun w15 hv => ?_)
   refine mS 0 rfl hv x0sz85 rfl (by exact ⟨rfl, rfl, rfl, rfl, rfl, hyv.p.one, hyv.t.one, hyv.z.one, trivial⟩) (fun w16 hv => ?_)
   simp only [zO, sp] at hv
   refine dV hv (fK rfl (fK rfl (fK rfl fN))) ?_
   simp only [zP, po]
   refine dA (vI ec) rfl (dE fun wz hv => ?_)
   simp only [zP, po]
   exact hR2 _ _ ⟨C, y, yp, yt, yz, ec, b13, hC, hyv, hof, rfl, (((((hv.front 4 rfl).front 4 rfl).front 4 rfl).front 4 rfl).front 4 rfl)⟩
  rw [hl2]; clear hl1 hl2
  simp only [qm, opAt]
  refine dS rfl fun w17 hv => mem_alloc rfl rfl hv c9al85 (fun b18 w19 hv => ?_)
  refine dV hv (fC (fun ww hv => hf9 ww (ex_load rfl rfl (run_load1 s9na9 (hrdkey _ _ _ (Base.Le.refl _) no_res hv 0 _ rfl)))) (fC (fun ww hv => hf8 ww (ex_load rfl rfl (run_load1 s1na22 (hv.load 2 1 rfl rfl)))) (fC (fun ww hv => hf7 ww (ex_load rfl rfl (run_load1 c1na24 (hv.load 2 0 rfl rfl)))) fN))) (dS rfl fun w20 hv => ?_)
  replace hv := hv.front 4 rfl
  simp only [eS, eZ] at hv
  replace hv := hv.front 4 rfl
  simp only [eS, eZ] at hv
  refine mC c1callable63 rfl ((viewOf B _ _ v t m s p wb va vc sv clk es M key 4 (hM.more (Base.Le.refl _)) hv).mono ?_) rfl
  rintro e w21 ⟨C, y, yp, yt, yz, ec, hC, rfl, hyv, hof, hv⟩
  refine ⟨_, rfl, dV hv (fK rfl (fK rfl (fK rfl fN))) ?_⟩
  refine dM (.tuple #[.agg #[vI y.stamp, .bool y.gone, vI y.expire, vI y.val.kind, vS y.val.text, yp, yt, yz], vI ec]) rfl ?_
  simp only [zP, po]
  refine dG (.agg #[vI y.stamp, .bool y.gone, vI y.expire, vI y.val.kind, vS y.val.text, yp, yt, yz]) rfl (ex_extract rfl rfl rfl) (dG (vI ec) rfl (ex_extract rfl rfl rfl) ?_)
  refine dS rfl fun w22 hv => mS 2 rfl hv x0sz85 rfl (by exact ⟨rfl, rfl, rfl, rfl, rfl, hyv.p.one, hyv.t.one, hyv.z.one, trivial⟩) (fun w23 hv => ?_)
  simp only [zS, zO, sp] at hv
  refine dV hv (fK rfl (fK rfl (fK rfl fN))) ?_
  simp only [zP, po]
  refine dA (vI ec) rfl (dE fun wz hv => ?_)
  simp only [zP, po]
  exact hR2 _ _ ⟨C, y, yp, yt, yz, ec, b18, hC, hyv, hof, rfl, (((((hv.front 4 rfl).front 4 rfl).front 3 rfl).front 3 rfl).front 4 rfl)⟩
 rintro _ w24 ⟨C, y, yp, yt, yz, ec, b13, hC, hyv, hof, rfl, hv⟩
 obtain ⟨pa, pc, sa, sc, za, zc, rfl, rfl, rfl, hokp, hrp, hoks, hrs, hokz, hrz⟩ := valAt_open hyv
 refine tK k6 (sK fun _ k25 => ?_)
 refine sK fun _ k26 => rL (uM rfl ?_)
 by_cases hb27 : ec ≠ 0
 ·refine uG (.bool true) rfl (ex_neq rfl rfl rfl (qT hb27)) (uW k26 ?_)
  refine cT rfl (sK fun _ k28 => ?_)
  refine rL (uM rfl ?_)
  refine xC rscallable24 rfl ((viewWrong C _ _ ec hv).mono ?_) rfl
  rintro e w30 ⟨s29, rfl, hv⟩
  refine ⟨_, rfl, ?_⟩
  refine xS 3 rfl hv rssz28 rfl (by exact ⟨rfl, rfl, rfl, rfl, trivial⟩) (fun w31 hv => ?_)
  simp only [zS, zO, sp] at hv
  refine uW k28 (rR ?_)
  refine tR (bC 3 rswd28 hv rfl rfl rfl rfl ?_)
  exact ⟨C, es, M, (.mk 1 s29 0 []), _, hC, rfl, rpAt_leaf, hM.more hC, ⟨hO, fun _ => rfl⟩, (hv.kp [2, 2] 2 3)⟩
 refine uG (.bool false) rfl (ex_neq rfl rfl rfl (qF hb27)) (uW k26 ?_)
 refine cF rfl (kS ?_)
 refine tK k25 (sK fun _ k32 => ?_)
 refine sK fun _ k33 => rL (uM rfl ?_)
 refine uW k33 (bB ?_)
 refine sK fun _ k34 => rL (uG (.bool false) rfl (ex_seql rfl rfl rfl (qF (hn1))) ?_)
 refine uA rfl (uW k34 ?_)
 refine cF rfl (sK fun _ k35 => ?_)
 refine rL (uG (.bool false) rfl (ex_seql rfl rfl rfl (qF (hn2))) ?_)
 refine uA rfl (uW k35 ?_)
 refine cF rfl (sK fun _ k36 => ?_)
 refine rL (uG (.bool false) rfl (ex_seql rfl rfl rfl (qF (hn3))) ?_)
 refine uA rfl (uW k36 ?_)
 refine cF rfl (kS ?_)
 refine bN (tK k32 ?_)
 refine sK fun _ k37 => rL (uM rfl ?_)
 refine uG (vI (xs.length : Int)) rfl (ex_len0 Tryz.underlying22 rfl rfl) ?_
 refine sl_makeRow (cap := xs.length) tV (wn rfl) rfl rfl rfl c9el26 (by unfold maxLen; omega) (by omega) hv (fun b38 w39 hv => ?_)
 refine uA rfl (uW k37 ?_)
 refine sK fun _ k40 => sK fun _ k41 => rL (uM rfl ?_)
 refine uG (vI (xs.length : Int)) rfl (ex_len0 Tryz.underlying22 rfl rfl) (uM rfl ?_)
 refine uW k41 (bB ?_)
 gi_loopw [55, 9] (fun x55 x9 wr => ∃ (i : Nat) (ra : Option Addr) (rc : Nat), x55 = vI i ∧ x9 = .slice ra i rc ∧ i ≤ xs.length ∧ Inv C (Res.row 28 4 (.slice ra i rc) i (((xs.take i).map (fun x => (⟨2, [], if decide (x ∈ y.val.texts) then 1 else 0⟩ : Leaf))).flatMap leafN) :: Res.cell b13 [vI y.stamp, .bool y.gone, vI y.expire, vI y.val.kind, vS y.val.text, .slice pa y.val.pairs.length pc, .slice sa y.val.texts.length sc, .slice za y.val.zset.length zc] 85 :: Res.cell v [.iface 62 (vP t)] 39 :: txR t m s p wb va vc sv clk es :: Res.cell b4 [vI 0, vS [], vI 0, vN] 28 :: Res.cell b2 [vP v, .slice (some ⟨ab, ao, none⟩) args.length ac] 73 :: H) wr) (fun x55 x9 _ => xs.length - (intOf x55).toNat)
 case atStart => exact ⟨0, _, _, rfl, rfl, Nat.zero_le _, ((((((hv.front 5 rfl).front 5 rfl).front 5 rfl).front 5 rfl).front 5 rfl).front 5 rfl)⟩
 case round =>
  obtain ⟨i, ra, rc, rfl, rfl, hi, hv⟩ := hrel
  refine sK fun _ k43 => rL ?_
  by_cases hb44 : (i : Int) < (xs.length : Int)
  ·refine uG (.bool true) rfl (ex_lss rfl rfl rfl (qT hb44)) (uW k43 ?_)
   refine sK fun _ k45 => cT rfl (kS ?_)
   refine tK k45 (sK fun _ k46 => ?_)
   refine bB (sK fun _ k47 => ?_)
   obtain ⟨x, hx⟩ : ∃ x, xs[i]? = some x := ⟨_, List.getElem?_eq_getElem (show i < xs.length by omega)⟩
   obtain ⟨xb, xo, had, hrdx⟩ := text_reads hrx hx
   subst had
   refine rL (uG (.pointer (some ⟨xb, xo + i, none⟩)) rfl (ex_index rfl rfl rfl (run_idx1 (k := i) Tryz.underlying22 s9es22 (by omega))) ?_)
   refine uL _ rfl (run_load1 s9na9 (hrdx _ _ _ hC no_res hv 0 _ rfl)) (uA rfl ?_)
   refine uW k47 (rL ?_)
   refine uM rfl ?_
   refine uF (.pointer (some ⟨b13, 3, none⟩)) rfl (x2fa85_3 _ _ _) ?_
   refine uF (.pointer (some ⟨b13, 6, none⟩)) rfl (s1fa78_3 _ _ _) ?_
   refine uL _ rfl (run_load1 s1na22 (hv.load 1 6 rfl rfl)) (uM rfl ?_)
   refine xC t3callable67 rfl ((setHas C _ _ sa sc y.val.texts x hrs (by have := (hO.set hof).1; omega) (hO.sorted hof) hv).mono ?_) rfl
   rintro e w48 ⟨rfl, hv⟩
   refine ⟨_, rfl, ?_⟩
   simp only [zP, po]
   refine xC c2callable66 rfl ((csetTruth C _ _ (decide (x ∈ y.val.texts)) hv).mono ?_) rfl
   rintro e w49 ⟨rfl, hv⟩
   refine ⟨_, rfl, ?_⟩
   refine sl_rowAgg (L := [vI 2, vS [], vI (if decide (x ∈ y.val.texts) then 1 else 0), vN]) tV (wn rfl) rfl rfl hv c9el26 rfl (by decide) (fun b50 w51 hv => ?_)
   replace hv := hv.front 1 rfl
   simp only [eS, eZ] at hv
   refine sl_append (news := [vI 2, vS [], vI (if decide (x ∈ y.val.texts) then 1 else 0), vN]) tV (wn rfl) rfl rfl rfl c9el26 hv (ok_full (by omega)) rfl (rd_all (hv.get 1 rfl)) (by intro u hu; simp only [List.mem_cons, List.not_mem_nil, or_false] at hu; rcases hu with rfl | rfl | rfl | rfl <;> rfl) (by unfold maxLen; omega) (by omega) (fun rv52 w55 hv => ?_)
   obtain ⟨ra53, rc54, rfl⟩ := row_slice hv.head
   refine uA rfl (uZ ?_)
   refine bN (tK k46 ?_)
   refine rL (uG (vI ((i + 1 : Nat) : Int)) rfl (ex_add rfl rfl rfl (by rw [i64_in (by omega)]; omega)) ?_)
   refine uM rfl (uZ ?_)
   refine then_normal ?_
   go_roundw
   case rel => exact ⟨i + 1, _, _, rfl, rfl, by omega, by rw [take_next hx, List.map_append, List.flatMap_append]; exact (hv.kp [6, 6, 6, 6, 6, 5] 6 1)⟩
   case measure => show xs.length - (((i + 1 : Nat) : Int)).toNat < xs.length - ((i : Int)).toNat; omega
  refine uG (.bool false) rfl (ex_lss rfl rfl rfl (qF hb44)) (uW k43 ?_)
  refine sK fun _ k56 => cF rfl (xE ?_)
  refine tX (tX ?_)
  refine bH (tK k40 ?_)
  refine sK fun _ k57 => rL (uM rfl ?_)
  obtain ⟨E, hE, hv, hre, hoke, -⟩ := hv.rowBy
  refine xC c9callable68 rfl ((respList E _ _ ra i rc _ (rList (((xs.take i).map (fun x => (⟨2, [], if decide (x ∈ y.val.texts) then 1 else 0⟩ : Leaf))).map leafR)) hoke hre (.inl ⟨(xs.take i).map (fun x => (⟨2, [], if decide (x ∈ y.val.texts) then 1 else 0⟩ : Leaf)), by rw [List.length_map, List.length_take]; omega, rfl, rfl⟩) (by omega) hv).mono ?_) rfl
  rintro e w61 ⟨J58, lw59, hJ58, rfl, hrw60, hv⟩
  refine ⟨_, rfl, ?_⟩
  refine xS 3 rfl hv rssz28 rfl (by exact ⟨rfl, rfl, rfl, hrw60.lv.2, trivial⟩) (fun w62 hv => ?_)
  simp only [zS, zO, sp] at hv
  refine uW k57 (rR ?_)
  refine bC 3 rswd28 hv rfl rfl rfl rfl (⟨J58, es, M, rList (((xs.take i).map (fun x => (⟨2, [], if decide (x ∈ y.val.texts) then 1 else 0⟩ : Leaf))).map leafR), _, ((hC.trans hE).trans hJ58), rfl, (hrw60.more (Base.Le.refl _)), hM.more ((hC.trans hE).trans hJ58), ⟨hO, fun _ => rfl⟩, (hv.kp [2, 2] 2 3)⟩)
theorem c9callable76 : Callable Tryz.prog 76 := cb Tryz.func76 (by kernel_rfl)
theorem csetPop (B : Base) (H : List Res) (w : World) (v t m9 s p wb : Nat) (va : Option Addr) (vc : Nat) (sv : Value) (clk : Int) (es : List (List UInt8 × Value)) (M : List (List UInt8 × Ver)) (hM : VM B es M) (hO : OkM M) (aa : Option Addr) (ac : Nat) (args : List (List UInt8)) (hra : RdV B [] aa (textCells args)) (hoka : SliceOk aa args.length ac) (_ : args.length ≤ 10000) (key : List UInt8) (hkey : args[0]? = some key) (xa : Option Addr) (xc : Nat) (xs : List (List UInt8)) (_ : SliceOk xa xs.length xc) (hrx : RdV B [] xa (textCells xs)) (hmx : xs.length ≤ 10000) (hN : NumB B) (hv : Inv B (Res.cell v [.iface 62 (vP t)] 39 :: txR t m9 s p wb va vc sv clk es :: H) w) :
  Calls Tryz.prog 48 #[.agg #[vP v, .slice aa args.length ac], .slice xa xs.length xc] w fun e w' => ∃ C es' M' r cs, B.Le C ∧ e = .returned (.agg cs.toArray) ∧ RpAt C r cs ∧ VM C es' M' ∧ CmdR M M' r ∧ Inv C (Res.cell v [.iface 62 (vP t)] 39 :: txR t m9 s p wb va vc sv clk es' :: H) w' := by
 refine cW Tryz.func48 rfl Tryz.ntmps48 ?_
 simp only [al]
 refine sK fun _ k1 => ?_
 have hal := (List.getElem?_eq_some_iff.1 hkey).1
 obtain ⟨ab, ao, had, hrdkey⟩ := text_reads hra hkey
 subst had
 refine rL (sl_box (L := [vP v, .slice (some ⟨ab, ao, none⟩) args.length ac]) tV (wn rfl) rfl rfl hv (fun w => by kernel_rfl) (fun b2 w3 hv => ?_))
 refine sl_alloc tV (wn rfl) rfl hv c9al28 (fun b4 w5 hv => ?_)
 refine uW k1 (sK fun _ k6 => ?_)
 refine rL (uM rfl ?_)
 refine xC c4callable74 rfl ((viewInts B _ _ xa xc xs hrx (by omega) hN hv).mono ?_) rfl
 rintro e w7 ⟨E, ia, ic, ns, ei, hE, rfl, hri, hir, hv⟩
 refine ⟨_, rfl, uM rfl ?_⟩
 refine uE rfl (uE rfl ?_)
 refine uA rfl (uA rfl ?_)
 refine uW k6 (sK fun _ k8 => ?_)
 refine sK fun _ k9 => rL (uM rfl ?_)
 by_cases hb10 : ei ≠ 0
 ·refine uG (.bool true) rfl (ex_neq rfl rfl rfl (qT hb10)) (uW k9 ?_)
  refine cT rfl (sK fun _ k11 => ?_)
  refine rL (uM rfl ?_)
  refine xC rscallable24 rfl ((viewWrong E _ _ ei hv).mono ?_) rfl
  rintro e w13 ⟨s12, rfl, hv⟩
  refine ⟨_, rfl, ?_⟩
  refine xS 0 rfl hv rssz28 rfl (by exact ⟨rfl, rfl, rfl, rfl, trivial⟩) (fun w14 hv => ?_)
  simp only [zO, sp] at hv
  refine uW k11 (rR ?_)
  refine tR (bC 0 rswd28 hv rfl rfl rfl rfl ?_)
  exact ⟨E, es, M, (.mk 1 s12 0 []), _, hE, rfl, rpAt_leaf, hM.more hE, ⟨hO, fun _ => rfl⟩, (hv.kp [3, 3] 2 2)⟩
 refine uG (.bool false) rfl (ex_neq rfl rfl rfl (qF hb10)) (uW k9 ?_)
 refine cF rfl (kS ?_)
 refine tK k8 (sK fun _ k15 => ?_)
 refine rL (uA rfl ?_)
 refine uW k15 (sK fun _ k16 => ?_)
 refine sK fun _ k17 => rL (uM rfl ?_)
 refine uG (vI (ns.length : Int)) rfl (ex_len0 Tryz.underlying149 rfl rfl) ?_
 by_cases hb18 : (ns.length : Int) > 0
 ·refine uG (.bool true) rfl (ex_gtr rfl rfl rfl (qT hb18)) (uW k17 ?_)
  refine cT rfl ?_
  obtain ⟨n0, hn0⟩ : ∃ n, ns[0]? = some n := ⟨_, List.getElem?_eq_getElem (show 0 < ns.length by omega)⟩
  obtain ⟨ib, io, had, hrd0⟩ := int_reads hri hn0
  subst had
  refine rL (uM rfl ?_)
  refine uG (.pointer (some ⟨ib, io + 0, none⟩)) rfl (ex_index rfl rfl rfl (run_idx1 (k := 0) Tryz.underlying149 s11es149 (by omega))) ?_
  refine uL _ rfl (run_load1 s2na3 (hrd0 _ _ _ (Base.Le.refl _) no_res hv 0 _ rfl)) (uA rfl ?_)
  refine uW k16 (sK fun _ k19 => ?_)
  refine sK fun _ k20 => rL (uM rfl ?_)
  by_cases hb21 : n0 < 0
  ·refine uG (.bool true) rfl (ex_lss rfl rfl rfl (qT hb21)) (uW k20 ?_)
   refine cT rfl (sK fun _ k22 => ?_)
   refine rL (xC rscallable24 rfl ((viewWrong E _ _ 44 hv).mono ?_) rfl)
   rintro e w24 ⟨s23, rfl, hv⟩
   refine ⟨_, rfl, ?_⟩
   refine xS 0 rfl hv rssz28 rfl (by exact ⟨rfl, rfl, rfl, rfl, trivial⟩) (fun w25 hv => ?_)
   simp only [zO, sp] at hv
   refine uW k22 (rR ?_)
   refine tR (bC 0 rswd28 hv rfl rfl rfl rfl ?_)
   exact ⟨E, es, M, (.mk 1 s23 0 []), _, hE, rfl, rpAt_leaf, hM.more hE, ⟨hO, fun _ => rfl⟩, (hv.kp [3, 3] 2 2)⟩
  refine uG (.bool false) rfl (ex_lss rfl rfl rfl (qF hb21)) (uW k20 ?_)
  refine cF rfl (kS ?_)
  refine tK k19 (sK fun _ k26 => ?_)
  refine rT mixed (fun az wz => ∃ (C : Base) (y : Ver) (yp yt yz : Value) (ec : Int) (b33 : Nat), (E.Le C) ∧ (ValAt C y.val yp yt yz) ∧ (OfI M clk key 4 y ec) ∧ az = { tmps := List.toArray (.agg #[vP v, .slice (some ⟨ab, ao, none⟩) args.length ac] :: .slice xa xs.length xc :: vP b2 :: undef :: vP b4 :: .slice (some ⟨ib, io, none⟩) ns.length ic :: vI ec :: vI n0 :: vP b33 :: undef :: undef :: .tuple #[.slice (some ⟨ib, io, none⟩) ns.length ic, vI ei] :: .slice xa xs.length xc :: .tuple #[.slice (some ⟨ib, io, none⟩) ns.length ic, vI ei] :: .slice (some ⟨ib, io, none⟩) ns.length ic :: vI ei :: vI ei :: .bool false :: undef :: undef :: .slice (some ⟨ib, io, none⟩) ns.length ic :: vI (ns.length : Int) :: .bool true :: .slice (some ⟨ib, io, none⟩) ns.length ic :: .pointer (some ⟨ib, io + 0, none⟩) :: vI n0 :: vI n0 :: .bool false :: undef :: .tuple #[.agg #[vI y.stamp, .bool y.gone, vI y.expire, vI y.val.kind, vS y.val.text, yp, yt, yz], vI ec] :: vP b2 :: vP v :: .pointer (some ⟨b2, 1, none⟩) :: .slice (some ⟨ab, ao, none⟩) args.length ac :: .pointer (some ⟨ab, ao + 0, none⟩) :: vS key :: .tuple #[.agg #[vI y.stamp, .bool y.gone, vI y.expire, vI y.val.kind, vS y.val.text, yp, yt, yz], vI ec] :: .agg #[vI y.stamp, .bool y.gone, vI y.expire, vI y.val.kind, vS y.val.text, yp, yt, yz] :: vI ec :: undef :: undef :: undef :: undef :: undef :: undef :: undef :: undef :: undef :: undef :: undef :: undef :: undef :: undef :: undef :: undef :: undef :: undef :: undef :: undef :: undef :: undef :: undef :: undef :: undef :: undef :: undef :: undef :: undef :: undef :: undef :: undef :: undef :: undef :: undef :: undef :: undef :: undef :: undef :: undef :: undef :: undef :: undef :: undef :: undef :: undef :: undef :: undef :: undef :: undef :: []), defers := [] } ∧ Inv C (Res.cell b33 [vI y.stamp, .bool y.gone, vI y.expire, vI y.val.kind, vS y.val.text, yp, yt, yz] 85 :: Res.cell v [.iface 62 (vP t)] 39 :: txR t m9 s p wb va vc sv clk es :: Res.cell b4 [vI 0, vS [], vI 0, vN] 28 :: Res.cell b2 [vP v, .slice (some ⟨ab, ao, none⟩) args.length ac] 73 :: H) wz) [6, 10, 11] [0,1,2,3,4,5] [7,8,9,10,11,12] [6,7,8,9,11,12] 6 10 89 rfl (by kernel_rfl) hv ?_ ?_
  ·intro R2 l1 l2 hR2 hl1 hl2
   simp only [qm, opAt]
   refine tG (vP b2) rfl (ex_field rfl rfl (c1fa73_0 _ _ _)) (tF (vP v) rfl (fun hv => ex_load rfl rfl (run_load1 c1na24 (hv.load 1 0 rfl rfl))) fun f27 hf27 => ?_)
   simp only [zP, po]
   refine tG (.pointer (some ⟨b2, 1, none⟩)) rfl (ex_field rfl rfl (c1fa73_1 _ _ _)) (tF (.slice (some ⟨ab, ao, none⟩) args.length ac) rfl (fun hv => ex_load rfl rfl (run_load1 s1na22 (hv.load 1 1 rfl rfl))) fun f28 hf28 => ?_)
   simp only [zP, po]
   refine tG (.pointer (some ⟨ab, ao + 0, none⟩)) rfl (ex_index rfl rfl rfl (run_idx1 (k := 0) Tryz.underlying22 s9es22 (by omega))) (tF (vS key) rfl (fun hv => ex_load rfl rfl (run_load1 s9na9 (hrdkey _ _ _ hE no_res hv 0 _ rfl))) fun f29 hf29 => ?_)
   simp only [zP, po]
   refine tB ?_ ?_
   ·rw [hl1]; clear hl1 hl2
    simp only [qm, opAt]
    refine dS rfl fun w30 hv => ?_
    replace hv := hv.front 3 rfl
    simp only [eS, eZ] at hv
    replace hv := hv.front 3 rfl
    simp only [eS, eZ] at hv
    refine mC c1callable63 rfl ((viewOf E _ _ v t m9 s p wb va vc sv clk es M key 4 (hM.more hE) hv).mono ?_) rfl
    rintro e w31 ⟨C, y, yp, yt, yz, ec, hC, rfl, hyv, hof, hv⟩
    refine ⟨_, rfl, dV hv (fK rfl (fK rfl (fK rfl fN))) ?_⟩
    refine dM (.tuple #[.agg #[vI y.stamp, .bool y.gone, vI y.expire, vI y.val.kind, vS y.val.text, yp, yt, yz], vI ec]) rfl (dG (.agg #[vI y.stamp, .bool y.gone, vI y.expire, vI y.val.kind, vS y.val.text, yp, yt, yz]) rfl (ex_extract rfl rfl rfl) ?_)
    simp only [zP, po]
    refine dG (vI ec) rfl (ex_extract rfl rfl rfl) (dS rfl fun w32 hv => ?_)
    refine mem_alloc rfl rfl hv c9al85 (fun b33 w34 hv => ?_)
    refine dV hv (fC (fun ww hv => hf29 ww (ex_load rfl rfl (run_load1 s9na9 (hrdkey _ _ _ (hE.trans hC) no_res hv 0 _ rfl)))) (fC (fun ww hv => hf28 ww (ex_load rfl rfl (run_load1 s1na22 (hv.load 4 1 rfl rfl)))) (fC (fun ww hv => hf27 ww (ex_load rfl rfl (run_load1 c1na24 (hv.load 4 0 rfl rfl)))) fN))) (dS rfl fun w35 hv => ?_)
    refine mS 0 rfl hv x0sz85 rfl (by exact ⟨rfl, rfl, rfl, rfl, rfl, hyv.p.one, hyv.t.one, hyv.z.one, trivial⟩) (fun w36 hv => ?_)
    simp only [zO, sp] at hv
    refine dV hv (fK rfl (fK rfl (fK rfl fN))) ?_
    simp only [zP, po]
    refine dA (vI ec) rfl (dE fun wz hv => ?_)
    simp only [zP, po]
    exact hR2 _ _ ⟨C, y, yp, yt, yz, ec, b33, hC, hyv, hof, rfl, (((((hv.front 4 rfl).front 4 rfl).front 4 rfl).front 4 rfl).front 4 rfl)⟩
   rw [hl2]; clear hl1 hl2
   simp only [qm, opAt]
   refine dS rfl fun w37 hv => mem_alloc rfl rfl hv c9al85 (fun b38 w39 hv => ?_)
   refine dV hv (fC (fun ww hv => hf29 ww (ex_load rfl rfl (run_load1 s9na9 (hrdkey _ _ _ hE no_res hv 0 _ rfl)))) (fC (fun ww hv => hf28 ww (ex_load rfl rfl (run_load1 s1na22 (hv.load 2 1 rfl rfl)))) (fC (fun ww hv => hf27 ww (ex_load rfl rfl (run_load1 c1na24 (hv.load 2 0 rfl rfl)))) fN))) (dS rfl fun w40 hv => ?_)
   replace hv := hv.front 4 rfl
   simp only [eS, eZ] at hv
   replace hv := hv.front 4 rfl
   simp only [eS, eZ] at hv
   refine mC c1callable63 rfl ((viewOf E _ _ v t m9 s p wb va vc sv clk es M key 4 (hM.more hE) hv).mono ?_) rfl
   rintro e w41 ⟨C, y, yp, yt, yz, ec, hC, rfl, hyv, hof, hv⟩
   refine ⟨_, rfl, dV hv (fK rfl (fK rfl (fK rfl fN))) ?_⟩
   refine dM (.tuple #[.agg #[vI y.stamp, .bool y.gone, vI y.expire, vI y.val.kind, vS y.val.text, yp, yt, yz], vI ec]) rfl ?_
   simp only [zP, po]
   refine dG (.agg #[vI y.stamp, .bool y.gone, vI y.expire, vI y.val.kind, vS y.val.text, yp, yt, yz]) rfl (ex_extract rfl rfl rfl) (dG (vI ec) rfl (ex_extract rfl rfl rfl) ?_)
   refine dS rfl fun w42 hv => mS 2 rfl hv x0sz85 rfl (by exact ⟨rfl, rfl, rfl, rfl, rfl, hyv.p.one, hyv.t.one, hyv.z.one, trivial⟩) (fun w43 hv => ?_)
   simp only [zS, zO, sp] at hv
   refine dV hv (fK rfl (fK rfl (fK rfl fN))) ?_
   simp only [zP, po]
   refine dA (vI ec) rfl (dE fun wz hv => ?_)
   simp only [zP, po]
   exact hR2 _ _ ⟨C, y, yp, yt, yz, ec, b38, hC, hyv, hof, rfl, (((((hv.front 4 rfl).front 4 rfl).front 3 rfl).front 3 rfl).front 4 rfl)⟩
  rintro _ w44 ⟨C, y, yp, yt, yz, ec, b33, hC, hyv, hof, rfl, hv⟩
  obtain ⟨pa, pc, sa, sc, za, zc, rfl, rfl, rfl, hokp, hrp, hoks, hrs, hokz, hrz⟩ := valAt_open hyv
  refine tK k26 (sK fun _ k45 => ?_)
  refine sK fun _ k46 => rL (uM rfl ?_)
  by_cases hb47 : ec ≠ 0
  ·refine uG (.bool true) rfl (ex_neq rfl rfl rfl (qT hb47)) (uW k46 ?_)
   refine cT rfl (sK fun _ k48 => ?_)
   refine rL (uM rfl ?_)
   refine xC rscallable24 rfl ((viewWrong C _ _ ec hv).mono ?_) rfl
   rintro e w50 ⟨s49, rfl, hv⟩
   refine ⟨_, rfl, ?_⟩
   refine xS 3 rfl hv rssz28 rfl (by exact ⟨rfl, rfl, rfl, rfl, trivial⟩) (fun w51 hv => ?_)
   simp only [zS, zO, sp] at hv
   refine uW k48 (rR ?_)
   refine tR (bC 3 rswd28 hv rfl rfl rfl rfl ?_)
   exact ⟨C, es, M, (.mk 1 s49 0 []), _, (hE.trans hC), rfl, rpAt_leaf, hM.more (hE.trans hC), ⟨hO, fun _ => rfl⟩, (hv.kp [2, 2] 2 3)⟩
  refine uG (.bool false) rfl (ex_neq rfl rfl rfl (qF hb47)) (uW k46 ?_)
  refine cF rfl (kS ?_)
  refine tK k45 (sK fun _ k52 => ?_)
  have hec0 : ec = 0 := by omega
  obtain ⟨m, hm⟩ : ∃ m : Nat, (if (y.val.texts.length : Int) < n0 then (y.val.texts.length : Int) else n0) = (m : Int) := ⟨_, (Int.toNat_of_nonneg (by split <;> omega)).symm⟩
  have hml : m ≤ y.val.texts.length := by split at hm <;> omega
  refine rL (uM rfl ?_)
  refine uF (.pointer (some ⟨b33, 3, none⟩)) rfl (x2fa85_3 _ _ _) ?_
  refine uF (.pointer (some ⟨b33, 6, none⟩)) rfl (s1fa78_3 _ _ _) ?_
  refine uL _ rfl (run_load1 s1na22 (hv.load 0 6 rfl rfl)) ?_
  refine uG (vI (y.val.texts.length : Int)) rfl (ex_len0 Tryz.underlying22 rfl rfl) ?_
  refine uG (vI m) rfl (ex_min2 (m := n0) (n := (y.val.texts.length : Int)) rfl rfl rfl hm) (uA rfl ?_)
  refine uW k52 (sK fun _ k53 => ?_)
  have htl : (y.val.texts.take m).length = m := by rw [List.length_take]; omega
  have hdl : (y.val.texts.drop m).length = y.val.texts.length - m := List.length_drop
  obtain ⟨a3, ha3, ok3, hr3⟩ := sliced_hiV 1 hoks hrs (textCells_len _) hml
  obtain ⟨a4, c4, ha4, ok4, hr4⟩ := sliced_fromV 1 hoks hrs (textCells_len _) hml (by decide)
  rw [Nat.mul_one, tx_take] at hr3
  rw [Nat.mul_one, tx_drop] at hr4
  rw [← htl] at ok3
  rw [← hdl] at ok4
  refine rW mixed [] [0,1,2,3,4,5,6,7,8,9,10,11] 89 rfl (by kernel_rfl) hv ?_
  simp only [qm, opAt]
  refine dG (.pointer (some ⟨b33, 3, none⟩)) rfl (ex_field rfl rfl (x2fa85_3 _ _ _)) (dG (.pointer (some ⟨b33, 6, none⟩)) rfl (ex_field rfl rfl (s1fa78_3 _ _ _)) ?_)
  refine dL _ rfl (fun hv => ex_load rfl rfl (run_load1 s1na22 (hv.load 0 6 rfl rfl))) ?_
  simp only [zP, po]
  refine dM (vI m) rfl (dG (.slice a3 ((y.val.texts.take m).length) sc) rfl (ex_slice (hi' := some (vI m)) rfl rfl rfl (congrArg some rfl) rfl ((run_hiAny (h := m) Tryz.underlying22 s9es22 (by have := hoks.le; omega)).trans (by rw [ha3, htl]))) ?_)
  refine dG (.pointer (some ⟨b33, 3, none⟩)) rfl (ex_field rfl rfl (x2fa85_3 _ _ _)) ?_
  simp only [zP, po]
  refine dG (.pointer (some ⟨b33, 6, none⟩)) rfl (ex_field rfl rfl (s1fa78_3 _ _ _)) (dL _ rfl (fun hv => ex_load rfl rfl (run_load1 s1na22 (hv.load 0 6 rfl rfl))) ?_)
  refine dM (vI m) rfl ?_
  simp only [zP, po]
  refine dG (.slice a4 ((y.val.texts.drop m).length) c4) rfl (ex_slice (lo' := some (vI m)) rfl rfl (congrArg some rfl) rfl rfl ((run_fromAny Tryz.underlying22 s9es22 hml).trans (by rw [ha4, hdl]))) (dA (.slice a3 ((y.val.texts.take m).length) sc) rfl ?_)
  refine dA (.slice a4 ((y.val.texts.drop m).length) c4) rfl (dE fun w54 hv => ?_)
  simp only [zP, po]
  refine tK k53 (sK fun _ k55 => ?_)
  refine sK fun _ k56 => rL (uM rfl ?_)
  by_cases hb57 : (m : Int) > 0
  ·refine uG (.bool true) rfl (ex_gtr rfl rfl rfl (qT hb57)) (uW k56 ?_)
   refine cT rfl (rW mixed [7] [0,1,2,3,4,5,6,7,8] 89 rfl (by kernel_rfl) hv ?_)
   simp only [qm, opAt]
   refine dL (.agg #[vP v, .slice (some ⟨ab, ao, none⟩) args.length ac]) rfl (fun hv => ex_load rfl rfl (lM 4 c1wd73 hv rfl rfl rfl rfl)) (dG (.pointer (some ⟨b2, 1, none⟩)) rfl (ex_field rfl rfl (c1fa73_1 _ _ _)) ?_)
   refine dL _ rfl (fun hv => ex_load rfl rfl (run_load1 s1na22 (hv.load 4 1 rfl rfl))) ?_
   simp only [zP, po]
   refine dG (.pointer (some ⟨ab, ao + 0, none⟩)) rfl (ex_index rfl rfl rfl (run_idx1 (k := 0) Tryz.underlying22 s9es22 (by omega))) (dL _ rfl (fun hv => ex_load rfl rfl (run_load1 s9na9 (hrdkey _ _ _ (hE.trans hC) no_res hv 0 _ rfl))) ?_)
   refine dL (.agg #[vI y.stamp, .bool y.gone, vI y.expire, vI y.val.kind, vS y.val.text, .slice pa y.val.pairs.length pc, .slice sa y.val.texts.length sc, .slice za y.val.zset.length zc]) rfl (fun hv => ex_load rfl rfl (lM 0 x0wd85 hv rfl rfl rfl rfl)) ?_
   simp only [zP, po]
   refine dM (.slice a4 ((y.val.texts.drop m).length) c4) rfl (dS rfl fun w58 hv => ?_)
   replace hv := hv.front 2 rfl
   simp only [eS, eZ] at hv
   replace hv := hv.front 2 rfl
   simp only [eS, eZ] at hv
   refine mC c1callable44 rfl ((csetKeep C _ _ v t m9 s p wb va vc sv clk es M (hM.more (hE.trans hC)) hO (some ⟨ab, ao, none⟩) ac args.length key y _ _ _ (hyv.more (Base.Le.refl _)) a4 c4 (y.val.texts.drop m) (hr4.more (Base.Le.refl _) (fun _ h => h)) ok4 (by have := hyv.tm; omega) hv).mono ?_) rfl
   rintro e w59 ⟨G, es', M', e3, hG, rfl, hM', hkp, hv⟩
   refine ⟨_, rfl, dW hv ?_⟩
   refine dA (vI e3) rfl (dE fun w60 hv => ?_)
   simp only [zP, po]
   refine tK k55 (sK fun _ k61 => ?_)
   refine bB (sK fun _ k62 => ?_)
   refine rL (uM rfl ?_)
   refine uG (vI (ns.length : Int)) rfl (ex_len0 Tryz.underlying149 rfl rfl) ?_
   refine uG (.bool true) rfl (ex_gtr rfl rfl rfl (qT hb18)) (uA rfl ?_)
   refine uW k62 (cT rfl ?_)
   refine sK fun _ k63 => rL (uM rfl ?_)
   refine uM rfl ?_
   refine xC c2callable43 rfl ((respStrsR G _ _ a3 sc (y.val.texts.take m) (hr3.more hG (fun _ h => h)) (by have := hyv.tm; omega) hv).mono ?_) rfl
   rintro e w68 ⟨D64, da65, dc66, hD64, rfl, hrp67o, hrp67, hv⟩
   refine ⟨_, rfl, ?_⟩
   simp only [zP, po]
   refine xC c1callable42 rfl ((viewDone D64 _ _ e3 5 0 ([] : List UInt8) (.slice da65 ((y.val.texts.take m).length) dc66) rfl rfl hv).mono ?_) rfl
   rintro e w69 ⟨xr, hxr, rfl, hv⟩
   refine ⟨_, rfl, ?_⟩
   rcases hxr with ⟨hec0, rfl⟩ | ⟨hec0, s70, rfl⟩
   ·refine xS 3 rfl hv rssz28 rfl (by exact ⟨rfl, rfl, rfl, rfl, trivial⟩) (fun w71 hv => ?_)
    simp only [zS, zO, sp] at hv
    refine uW k63 (rR ?_)
    refine bZ (tR ?_)
    refine bC 3 rswd28 hv rfl rfl rfl rfl (⟨D64, es', M', (rStrs (y.val.texts.take m)), _, (((hE.trans hC).trans hG).trans hD64), rfl, (rpAt_strs hrp67o (hrp67.more (Base.Le.refl _) (fun _ h => h))), hM'.more hD64, DoneR.keep (r0 := (rStrs (y.val.texts.take m))) hO hkp (.inl ⟨by omega, rfl⟩) (fun h9 => absurd (show (5 : Int) = 1 from h9) (by decide)), (hv.kp [1, 1] 2 3)⟩)
   refine xS 3 rfl hv rssz28 rfl (by exact ⟨rfl, rfl, rfl, rfl, trivial⟩) (fun w72 hv => ?_)
   simp only [zS, zO, sp] at hv
   refine uW k63 (rR ?_)
   refine bZ (tR ?_)
   refine bC 3 rswd28 hv rfl rfl rfl rfl (⟨D64, es', M', (.mk 1 s70 0 []), _, (((hE.trans hC).trans hG).trans hD64), rfl, rpAt_leaf, hM'.more hD64, DoneR.keep (r0 := (rStrs (y.val.texts.take m))) hO hkp (.inr ⟨by omega, rfl⟩) (fun h9 => absurd (show (5 : Int) = 1 from h9) (by decide)), (hv.kp [1, 1] 2 3)⟩)
  refine uG (.bool false) rfl (ex_gtr rfl rfl rfl (qF hb57)) (uW k56 ?_)
  refine cF rfl (kS ?_)
  refine tK k55 (sK fun _ k73 => ?_)
  refine bB (sK fun _ k74 => ?_)
  refine rL (uM rfl ?_)
  refine uG (vI (ns.length : Int)) rfl (ex_len0 Tryz.underlying149 rfl rfl) ?_
  refine uG (.bool true) rfl (ex_gtr rfl rfl rfl (qT hb18)) (uA rfl ?_)
  refine uW k74 (cT rfl ?_)
  refine sK fun _ k75 => rL (uM rfl ?_)
  refine uM rfl ?_
  refine xC c2callable43 rfl ((respStrsR C _ _ a3 sc (y.val.texts.take m) (hr3.more (Base.Le.refl _) (fun _ h => h)) (by have := hyv.tm; omega) hv).mono ?_) rfl
  rintro e w80 ⟨D76, da77, dc78, hD76, rfl, hrp79o, hrp79, hv⟩
  refine ⟨_, rfl, ?_⟩
  simp only [zP, po]
  refine xC c1callable42 rfl ((viewDone D76 _ _ ec 5 0 ([] : List UInt8) (.slice da77 ((y.val.texts.take m).length) dc78) rfl rfl hv).mono ?_) rfl
  rintro e w81 ⟨xr, hxr, rfl, hv⟩
  refine ⟨_, rfl, ?_⟩
  rcases hxr with ⟨hec0, rfl⟩ | ⟨hec0, s82, rfl⟩
  ·refine xS 3 rfl hv rssz28 rfl (by exact ⟨rfl, rfl, rfl, rfl, trivial⟩) (fun w83 hv => ?_)
   simp only [zS, zO, sp] at hv
   refine uW k75 (rR ?_)
   refine bZ (tR ?_)
   refine bC 3 rswd28 hv rfl rfl rfl rfl (⟨D76, es, M, (rStrs (y.val.texts.take m)), _, ((hE.trans hC).trans hD76), rfl, (rpAt_strs hrp79o (hrp79.more (Base.Le.refl _) (fun _ h => h))), hM.more ((hE.trans hC).trans hD76), ⟨hO, fun _ => rfl⟩, (hv.kp [2, 2] 2 3)⟩)
  refine xS 3 rfl hv rssz28 rfl (by exact ⟨rfl, rfl, rfl, rfl, trivial⟩) (fun w84 hv => ?_)
  simp only [zS, zO, sp] at hv
  refine uW k75 (rR ?_)
  refine bZ (tR ?_)
  refine bC 3 rswd28 hv rfl rfl rfl rfl (⟨D76, es, M, (.mk 1 s82 0 []), _, ((hE.trans hC).trans hD76), rfl, rpAt_leaf, hM.more ((hE.trans hC).trans hD76), ⟨hO, fun _ => rfl⟩, (hv.kp [2, 2] 2 3)⟩)
 refine uG (.bool false) rfl (ex_gtr rfl rfl rfl (qF hb18)) (uW k17 ?_)
 refine cF rfl (kS ?_)
 refine tK k16 (sK fun _ k85 => ?_)
 refine sK fun _ k86 => rL (uM rfl ?_)
 refine uG (.bool false) rfl (ex_lss rfl rfl rfl (by decide)) (uW k86 ?_)
 refine cF rfl (kS ?_)
 refine tK k85 (sK fun _ k87 => ?_)
 refine rT mixed (fun az wz => ∃ (C : Base) (y : Ver) (yp yt yz : Value) (ec : Int) (b94 : Nat), (E.Le C) ∧ (ValAt C y.val yp yt yz) ∧ (OfI M clk key 4 y ec) ∧ az = { tmps := List.toArray (.agg #[vP v, .slice (some ⟨ab, ao, none⟩) args.length ac] :: .slice xa xs.length xc :: vP b2 :: undef :: vP b4 :: .slice ia ns.length ic :: vI ec :: vI 1 :: vP b94 :: undef :: undef :: .tuple #[.slice ia ns.length ic, vI ei] :: .slice xa xs.length xc :: .tuple #[.slice ia ns.length ic, vI ei] :: .slice ia ns.length ic :: vI ei :: vI ei :: .bool false :: undef :: undef :: .slice ia ns.length ic :: vI (ns.length : Int) :: .bool false :: undef :: undef :: undef :: vI 1 :: .bool false :: undef :: .tuple #[.agg #[vI y.stamp, .bool y.gone, vI y.expire, vI y.val.kind, vS y.val.text, yp, yt, yz], vI ec] :: vP b2 :: vP v :: .pointer (some ⟨b2, 1, none⟩) :: .slice (some ⟨ab, ao, none⟩) args.length ac :: .pointer (some ⟨ab, ao + 0, none⟩) :: vS key :: .tuple #[.agg #[vI y.stamp, .bool y.gone, vI y.expire, vI y.val.kind, vS y.val.text, yp, yt, yz], vI ec] :: .agg #[vI y.stamp, .bool y.gone, vI y.expire, vI y.val.kind, vS y.val.text, yp, yt, yz] :: vI ec :: undef :: undef :: undef :: undef :: undef :: undef :: undef :: undef :: undef :: undef :: undef :: undef :: undef :: undef :: undef :: undef :: undef :: undef :: undef :: undef :: undef :: undef :: undef :: undef :: undef :: undef :: undef :: undef :: undef :: undef :: undef :: undef :: undef :: undef :: undef :: undef :: undef :: undef :: undef :: undef :: undef :: undef :: undef :: undef :: undef :: undef :: undef :: undef :: undef :: undef :: []), defers := [] } ∧ Inv C (Res.cell b94 [vI y.stamp, .bool y.gone, vI y.expire, vI y.val.kind, vS y.val.text, yp, yt, yz] 85 :: Res.cell v [.iface 62 (vP t)] 39 :: txR t m9 s p wb va vc sv clk es :: Res.cell b4 [vI 0, vS [], vI 0, vN] 28 :: Res.cell b2 [vP v, .slice (some ⟨ab, ao, none⟩) args.length ac] 73 :: H) wz) [6, 10, 11] [0,1,2,3,4,5] [7,8,9,10,11,12] [6,7,8,9,11,12] 6 10 89 rfl (by kernel_rfl) hv ?_ ?_
 ·intro R2 l1 l2 hR2 hl1 hl2
  simp only [qm, opAt]
  refine tG (vP b2) rfl (ex_field rfl rfl (c1fa73_0 _ _ _)) (tF (vP v) rfl (fun hv => ex_load rfl rfl (run_load1 c1na24 (hv.load 1 0 rfl rfl))) fun f88 hf88 => ?_)
  simp only [zP, po]
  refine tG (.pointer (some ⟨b2, 1, none⟩)) rfl (ex_field rfl rfl (c1fa73_1 _ _ _)) (tF (.slice (some ⟨ab, ao, none⟩) args.length ac) rfl (fun hv => ex_load rfl rfl (run_load1 s1na22 (hv.load 1 1 rfl rfl))) fun f89 hf89 => ?_)
  simp only [zP, po]
  refine tG (.pointer (some ⟨ab, ao + 0, none⟩)) rfl (ex_index rfl rfl rfl (run_idx1 (k := 0) Tryz.underlying22 s9es22 (by omega))) (tF (vS key) rfl (fun hv => ex_load rfl rfl (run_load1 s9na9 (hrdkey _ _ _ hE no_res hv 0 _ rfl))) fun f90 hf90 => ?_)
  simp only [zP, po]
  refine tB ?_ ?_
  ·rw [hl1]; clear hl1 hl2
   simp only [qm, opAt]
   refine dS rfl fun w91 hv => ?_
   replace hv := hv.front 3 rfl
   simp only [eS, eZ] at hv
   replace hv := hv.front 3 rfl
   simp only [eS, eZ] at hv
   refine mC c1callable63 rfl ((viewOf E _ _ v t m9 s p wb va vc sv clk es M key 4 (hM.more hE) hv).mono ?_) rfl
   rintro e w92 ⟨C, y, yp, yt, yz, ec, hC, rfl, hyv, hof, hv⟩
   refine ⟨_, rfl, dV hv (fK rfl (fK rfl (fK rfl fN))) ?_⟩
   refine dM (.tuple #[.agg #[vI y.stamp, .bool y.gone, vI y.expire, vI y.val.kind, vS y.val.text, yp, yt, yz], vI ec]) rfl (dG (.agg #[vI y.stamp, .bool y.gone, vI y.expire, vI y.val.kind, vS y.val.text, yp, yt, yz]) rfl (ex_extract rfl rfl rfl) ?_)
   simp only [zP, po]
   refine dG (vI ec) rfl (ex_extract rfl rfl rfl) (dS rfl fun w93 hv => ?_)
   refine mem_alloc rfl rfl hv c9al85 (fun b94 w95 hv => ?_)
   refine dV hv (fC (fun ww hv => hf90 ww (ex_load rfl rfl (run_load1 s9na9 (hrdkey _ _ _ (hE.trans hC) no_res hv 0 _ rfl)))) (fC (fun ww hv => hf89 ww (ex_load rfl rfl (run_load1 s1na22 (hv.load 4 1 rfl rfl)))) (fC (fun ww hv => hf88 ww (ex_load rfl rfl (run_load1 c1na24 (hv.load 4 0 rfl rfl)))) fN))) (dS rfl fun w96 hv => ?_)
   refine mS 0 rfl hv x0sz85 rfl (by exact ⟨rfl, rfl, rfl, rfl, rfl, hyv.p.one, hyv.t.one, hyv.z.one, trivial⟩) (fun w97 hv => ?_)
   simp only [zO, sp] at hv
   refine dV hv (fK rfl (fK rfl (fK rfl fN))) ?_
   simp only [zP, po]
   refine dA (vI ec) rfl (dE fun wz hv => ?_)
   simp only [zP, po]
   exact hR2 _ _ ⟨C, y, yp, yt, yz, ec, b94, hC, hyv, hof, rfl, (((((hv.front 4 rfl).front 4 rfl).front 4 rfl).front 4 rfl).front 4 rfl)⟩
  rw [hl2]; clear hl1 hl2
  simp only [qm, opAt]
  refine dS rfl fun w98 hv => mem_alloc rfl rfl hv c9al85 (fun b99 w100 hv => ?_)
  refine dV hv (fC (fun ww hv => hf90 ww (ex_load rfl rfl (run_load1 s9na9 (hrdkey _ _ _ hE no_res hv 0 _ rfl)))) (fC (fun ww hv => hf89 ww (ex_load rfl rfl (run_load1 s1na22 (hv.load 2 1 rfl rfl)))) (fC (fun ww hv => hf88 ww (ex_load rfl rfl (run_load1 c1na24 (hv.load 2 0 rfl rfl)))) fN))) (dS rfl fun w101 hv => ?_)
  replace hv := hv.front 4 rfl
  simp only [eS, eZ] at hv
  replace hv := hv.front 4 rfl
  simp only [eS, eZ] at hv
  refine mC c1callable63 rfl ((viewOf E _ _ v t m9 s p wb va vc sv clk es M key 4 (hM.more hE) hv).mono ?_) rfl
  rintro e w102 ⟨C, y, yp, yt, yz, ec, hC, rfl, hyv, hof, hv⟩
  refine ⟨_, rfl, dV hv (fK rfl (fK rfl (fK rfl fN))) ?_⟩
  refine dM (.tuple #[.agg #[vI y.stamp, .bool y.gone, vI y.expire, vI y.val.kind, vS y.val.text, yp, yt, yz], vI ec]) rfl ?_
  simp only [zP, po]
  refine dG (.agg #[vI y.stamp, .bool y.gone, vI y.expire, vI y.val.kind, vS y.val.text, yp, yt, yz]) rfl (ex_extract rfl rfl rfl) (dG (vI ec) rfl (ex_extract rfl rfl rfl) ?_)
  refine dS rfl fun w103 hv => mS 2 rfl hv x0sz85 rfl (by exact ⟨rfl, rfl, rfl, rfl, rfl, hyv.p.one, hyv.t.one, hyv.z.one, trivial⟩) (fun w104 hv => ?_)
  simp only [zS, zO, sp] at hv
  refine dV hv (fK rfl (fK rfl (fK rfl fN))) ?_
  simp only [zP, po]
  refine dA (vI ec) rfl (dE fun wz hv => ?_)
  simp only [zP, po]
  exact hR2 _ _ ⟨C, y, yp, yt, yz, ec, b99, hC, hyv, hof, rfl, (((((hv.front 4 rfl).front 4 rfl).front 3 rfl).front 3 rfl).front 4 rfl)⟩
 rintro _ w105 ⟨C, y, yp, yt, yz, ec, b94, hC, hyv, hof, rfl, hv⟩
 obtain ⟨pa, pc, sa, sc, za, zc, rfl, rfl, rfl, hokp, hrp, hoks, hrs, hokz, hrz⟩ := valAt_open hyv
 refine tK k87 (sK fun _ k106 => ?_)
 refine sK fun _ k107 => rL (uM rfl ?_)
 by_cases hb108 : ec ≠ 0
 ·refine uG (.bool true) rfl (ex_neq rfl rfl rfl (qT hb108)) (uW k107 ?_)
  refine cT rfl (sK fun _ k109 => ?_)
  refine rL (uM rfl ?_)
  refine xC rscallable24 rfl ((viewWrong C _ _ ec hv).mono ?_) rfl
  rintro e w111 ⟨s110, rfl, hv⟩
  refine ⟨_, rfl, ?_⟩
  refine xS 3 rfl hv rssz28 rfl (by exact ⟨rfl, rfl, rfl, rfl, trivial⟩) (fun w112 hv => ?_)
  simp only [zS, zO, sp] at hv
  refine uW k109 (rR ?_)
  refine tR (bC 3 rswd28 hv rfl rfl rfl rfl ?_)
  exact ⟨C, es, M, (.mk 1 s110 0 []), _, (hE.trans hC), rfl, rpAt_leaf, hM.more (hE.trans hC), ⟨hO, fun _ => rfl⟩, (hv.kp [2, 2] 2 3)⟩
 refine uG (.bool false) rfl (ex_neq rfl rfl rfl (qF hb108)) (uW k107 ?_)
 refine cF rfl (kS ?_)
 refine tK k106 (sK fun _ k113 => ?_)
 have hec0 : ec = 0 := by omega
 obtain ⟨m, hm⟩ : ∃ m : Nat, (if (y.val.texts.length : Int) < 1 then (y.val.texts.length : Int) else 1) = (m : Int) := ⟨_, (Int.toNat_of_nonneg (by split <;> omega)).symm⟩
 have hml : m ≤ y.val.texts.length := by split at hm <;> omega
 refine rL (uM rfl ?_)
 refine uF (.pointer (some ⟨b94, 3, none⟩)) rfl (x2fa85_3 _ _ _) ?_
 refine uF (.pointer (some ⟨b94, 6, none⟩)) rfl (s1fa78_3 _ _ _) ?_
 refine uL _ rfl (run_load1 s1na22 (hv.load 0 6 rfl rfl)) ?_
 refine uG (vI (y.val.texts.length : Int)) rfl (ex_len0 Tryz.underlying22 rfl rfl) ?_
 refine uG (vI m) rfl (ex_min2 (m := 1) (n := (y.val.texts.length : Int)) rfl rfl rfl hm) (uA rfl ?_)
 refine uW k113 (sK fun _ k114 => ?_)
 have htl : (y.val.texts.take m).length = m := by rw [List.length_take]; omega
 have hdl : (y.val.texts.drop m).length = y.val.texts.length - m := List.length_drop
 obtain ⟨a3, ha3, ok3, hr3⟩ := sliced_hiV 1 hoks hrs (textCells_len _) hml
 obtain ⟨a4, c4, ha4, ok4, hr4⟩ := sliced_fromV 1 hoks hrs (textCells_len _) hml (by decide)
 rw [Nat.mul_one, tx_take] at hr3
 rw [Nat.mul_one, tx_drop] at hr4
 rw [← htl] at ok3
 rw [← hdl] at ok4
 refine rW mixed [] [0,1,2,3,4,5,6,7,8,9,10,11] 89 rfl (by kernel_rfl) hv ?_
 simp only [qm, opAt]
 refine dG (.pointer (some ⟨b94, 3, none⟩)) rfl (ex_field rfl rfl (x2fa85_3 _ _ _)) (dG (.pointer (some ⟨b94, 6, none⟩)) rfl (ex_field rfl rfl (s1fa78_3 _ _ _)) ?_)
 refine dL _ rfl (fun hv => ex_load rfl rfl (run_load1 s1na22 (hv.load 0 6 rfl rfl))) ?_
 simp only [zP, po]
 refine dM (vI m) rfl (dG (.slice a3 ((y.val.texts.take m).length) sc) rfl (ex_slice (hi' := some (vI m)) rfl rfl rfl (congrArg some rfl) rfl ((run_hiAny (h := m) Tryz.underlying22 s9es22 (by have := hoks.le; omega)).trans (by rw [ha3, htl]))) ?_)
 refine dG (.pointer (some ⟨b94, 3, none⟩)) rfl (ex_field rfl rfl (x2fa85_3 _ _ _)) ?_
 simp only [zP, po]
 refine dG (.pointer (some ⟨b94, 6, none⟩)) rfl (ex_field rfl rfl (s1fa78_3 _ _ _)) (dL _ rfl (fun hv => ex_load rfl rfl (run_load1 s1na22 (hv.load 0 6 rfl rfl))) ?_)
 refine dM (vI m) rfl ?_
 simp only [zP, po]
 refine dG (.slice a4 ((y.val.texts.drop m).length) c4) rfl (ex_slice (lo' := some (vI m)) rfl rfl (congrArg some rfl) rfl rfl ((run_fromAny Tryz.underlying22 s9es22 hml).trans (by rw [ha4, hdl]))) (dA (.slice a3 ((y.val.texts.take m).length) sc) rfl ?_)
 refine dA (.slice a4 ((y.val.texts.drop m).length) c4) rfl (dE fun w115 hv => ?_)
 simp only [zP, po]
 refine tK k114 (sK fun _ k116 => ?_)
 refine sK fun _ k117 => rL (uM rfl ?_)
 by_cases hb118 : (m : Int) > 0
 ·refine uG (.bool true) rfl (ex_gtr rfl rfl rfl (qT hb118)) (uW k117 ?_)
  refine cT rfl (rW mixed [7] [0,1,2,3,4,5,6,7,8] 89 rfl (by kernel_rfl) hv ?_)
  simp only [qm, opAt]
  refine dL (.agg #[vP v, .slice (some ⟨ab, ao, none⟩) args.length ac]) rfl (fun hv => ex_load rfl rfl (lM 4 c1wd73 hv rfl rfl rfl rfl)) (dG (.pointer (some ⟨b2, 1, none⟩)) rfl (ex_field rfl rfl (c1fa73_1 _ _ _)) ?_)
  refine dL _ rfl (fun hv => ex_load rfl rfl (run_load1 s1na22 (hv.load 4 1 rfl rfl))) ?_
  simp only [zP, po]
  refine dG (.pointer (some ⟨ab, ao + 0, none⟩)) rfl (ex_index rfl rfl rfl (run_idx1 (k := 0) Tryz.underlying22 s9es22 (by omega))) (dL _ rfl (fun hv => ex_load rfl rfl (run_load1 s9na9 (hrdkey _ _ _ (hE.trans hC) no_res hv 0 _ rfl))) ?_)
  refine dL (.agg #[vI y.stamp, .bool y.gone, vI y.expire, vI y.val.kind, vS y.val.text, .slice pa y.val.pairs.length pc, .slice sa y.val.texts.length sc, .slice za y.val.zset.length zc]) rfl (fun hv => ex_load rfl rfl (lM 0 x0wd85 hv rfl rfl rfl rfl)) ?_
  simp only [zP, po]
  refine dM (.slice a4 ((y.val.texts.drop m).length) c4) rfl (dS rfl fun w119 hv => ?_)
  replace hv := hv.front 2 rfl
  simp only [eS, eZ] at hv
  replace hv := hv.front 2 rfl
  simp only [eS, eZ] at hv
  refine mC c1callable44 rfl ((csetKeep C _ _ v t m9 s p wb va vc sv clk es M (hM.more (hE.trans hC)) hO (some ⟨ab, ao, none⟩) ac args.length key y _ _ _ (hyv.more (Base.Le.refl _)) a4 c4 (y.val.texts.drop m) (hr4.more (Base.Le.refl _) (fun _ h => h)) ok4 (by have := hyv.tm; omega) hv).mono ?_) rfl
  rintro e w120 ⟨G, es', M', e3, hG, rfl, hM', hkp, hv⟩
  refine ⟨_, rfl, dW hv ?_⟩
  refine dA (vI e3) rfl (dE fun w121 hv => ?_)
  simp only [zP, po]
  refine tK k116 (sK fun _ k122 => ?_)
  refine bB (sK fun _ k123 => ?_)
  refine rL (uM rfl ?_)
  refine uG (vI (ns.length : Int)) rfl (ex_len0 Tryz.underlying149 rfl rfl) ?_
  refine uG (.bool false) rfl (ex_gtr rfl rfl rfl (qF hb18)) (uA rfl ?_)
  refine uW k123 (cF rfl ?_)
  refine sK fun _ k124 => rL (uM rfl ?_)
  by_cases hb125 : (m : Int) = 0
  ·refine uG (.bool true) rfl (ex_eql rfl rfl rfl (qT hb125)) (uA rfl ?_)
   refine uW k124 (cT rfl ?_)
   refine sK fun _ k126 => rL (uM rfl ?_)
   refine xC c9callable76 rfl ((respNone G _ _ hv).mono ?_) rfl
   rintro e w127 ⟨rfl, hv⟩
   refine ⟨_, rfl, ?_⟩
   refine xC c1callable42 rfl ((viewDone G _ _ e3 4 0 ([] : List UInt8) (vN) rfl rfl hv).mono ?_) rfl
   rintro e w128 ⟨xr, hxr, rfl, hv⟩
   refine ⟨_, rfl, ?_⟩
   rcases hxr with ⟨hec0, rfl⟩ | ⟨hec0, s129, rfl⟩
   ·simp only [zP, po]
    refine xS 3 rfl hv rssz28 rfl (by exact ⟨rfl, rfl, rfl, rfl, trivial⟩) (fun w130 hv => ?_)
    simp only [zS, zO, sp] at hv
    refine uW k126 (rR ?_)
    refine bZ (tR ?_)
    refine bC 3 rswd28 hv rfl rfl rfl rfl (⟨G, es', M', (.mk 4 ([] : List UInt8) 0 []), _, ((hE.trans hC).trans hG), rfl, rpAt_leaf, hM'.more (Base.Le.refl _), DoneR.keep (r0 := (.mk 4 ([] : List UInt8) 0 [])) hO hkp (.inl ⟨by omega, rfl⟩) (fun h9 => absurd (show (4 : Int) = 1 from h9) (by decide)), (hv.kp [1, 1] 2 3)⟩)
   simp only [zP, po]
   refine xS 3 rfl hv rssz28 rfl (by exact ⟨rfl, rfl, rfl, rfl, trivial⟩) (fun w131 hv => ?_)
   simp only [zS, zO, sp] at hv
   refine uW k126 (rR ?_)
   refine bZ (tR ?_)
   refine bC 3 rswd28 hv rfl rfl rfl rfl (⟨G, es', M', (.mk 1 s129 0 []), _, ((hE.trans hC).trans hG), rfl, rpAt_leaf, hM'.more (Base.Le.refl _), DoneR.keep (r0 := (.mk 4 ([] : List UInt8) 0 [])) hO hkp (.inr ⟨by omega, rfl⟩) (fun h9 => absurd (show (4 : Int) = 1 from h9) (by decide)), (hv.kp [1, 1] 2 3)⟩)
  refine uG (.bool false) rfl (ex_eql rfl rfl rfl (qF hb125)) (uA rfl ?_)
  refine uW k124 (cF rfl ?_)
  refine kS (bN ?_)
  refine tK k122 (sK fun _ k132 => ?_)
  obtain ⟨x0, hx0⟩ : ∃ x, (y.val.texts.take m)[0]? = some x := ⟨_, List.getElem?_eq_getElem (by rw [htl]; omega)⟩
  obtain ⟨gb, go, had3, hrdx0⟩ := text_reads hr3 hx0
  subst had3
  refine rL (uM rfl ?_)
  refine uM rfl ?_
  refine uG (.pointer (some ⟨gb, go + 0, none⟩)) rfl (ex_index rfl rfl rfl (run_idx1 (k := 0) Tryz.underlying22 s9es22 (by omega))) ?_
  refine uL _ rfl (run_load1 s9na9 (hrdx0 _ _ _ hG no_res hv 0 _ rfl)) ?_
  refine xC rtcallable73 rfl ((respStr G _ _ x0 hv).mono ?_) rfl
  rintro e w133 ⟨rfl, hv⟩
  refine ⟨_, rfl, ?_⟩
  refine xC c1callable42 rfl ((viewDone G _ _ e3 3 0 x0 (vN) rfl rfl hv).mono ?_) rfl
  rintro e w134 ⟨xr, hxr, rfl, hv⟩
  refine ⟨_, rfl, ?_⟩
  rcases hxr with ⟨hec0, rfl⟩ | ⟨hec0, s135, rfl⟩
  ·simp only [zP, po]
   refine xS 3 rfl hv rssz28 rfl (by exact ⟨rfl, rfl, rfl, rfl, trivial⟩) (fun w136 hv => ?_)
   simp only [zS, zO, sp] at hv
   refine uW k132 (rR ?_)
   refine bC 3 rswd28 hv rfl rfl rfl rfl (⟨G, es', M', (.mk 3 x0 0 []), _, ((hE.trans hC).trans hG), rfl, rpAt_leaf, hM'.more (Base.Le.refl _), DoneR.keep (r0 := (.mk 3 x0 0 [])) hO hkp (.inl ⟨by omega, rfl⟩) (fun h9 => absurd (show (3 : Int) = 1 from h9) (by decide)), (hv.kp [1, 1] 2 3)⟩)
  simp only [zP, po]
  refine xS 3 rfl hv rssz28 rfl (by exact ⟨rfl, rfl, rfl, rfl, trivial⟩) (fun w137 hv => ?_)
  simp only [zS, zO, sp] at hv
  refine uW k132 (rR ?_)
  refine bC 3 rswd28 hv rfl rfl rfl rfl (⟨G, es', M', (.mk 1 s135 0 []), _, ((hE.trans hC).trans hG), rfl, rpAt_leaf, hM'.more (Base.Le.refl _), DoneR.keep (r0 := (.mk 3 x0 0 [])) hO hkp (.inr ⟨by omega, rfl⟩) (fun h9 => absurd (show (3 : Int) = 1 from h9) (by decide)), (hv.kp [1, 1] 2 3)⟩)
 refine uG (.bool false) rfl (ex_gtr rfl rfl rfl (qF hb118)) (uW k117 ?_)
 refine cF rfl (kS ?_)
 refine tK k116 (sK fun _ k138 => ?_)
 refine bB (sK fun _ k139 => ?_)
 refine rL (uM rfl ?_)
 refine uG (vI (ns.length : Int)) rfl (ex_len0 Tryz.underlying149 rfl rfl) ?_
 refine uG (.bool false) rfl (ex_gtr rfl rfl rfl (qF hb18)) (uA rfl ?_)
 refine uW k139 (cF rfl ?_)
 refine sK fun _ k140 => rL (uM rfl ?_)
 by_cases hb141 : (m : Int) = 0
 ·refine uG (.bool true) rfl (ex_eql rfl rfl rfl (qT hb141)) (uA rfl ?_)
  refine uW k140 (cT rfl ?_)
  refine sK fun _ k142 => rL (uM rfl ?_)
  refine xC c9callable76 rfl ((respNone C _ _ hv).mono ?_) rfl
  rintro e w143 ⟨rfl, hv⟩
  refine ⟨_, rfl, ?_⟩
  refine xC c1callable42 rfl ((viewDone C _ _ ec 4 0 ([] : List UInt8) (vN) rfl rfl hv).mono ?_) rfl
  rintro e w144 ⟨xr, hxr, rfl, hv⟩
  refine ⟨_, rfl, ?_⟩
  rcases hxr with ⟨hec0, rfl⟩ | ⟨hec0, s145, rfl⟩
  ·simp only [zP, po]
   refine xS 3 rfl hv rssz28 rfl (by exact ⟨rfl, rfl, rfl, rfl, trivial⟩) (fun w146 hv => ?_)
   simp only [zS, zO, sp] at hv
   refine uW k142 (rR ?_)
   refine bZ (tR ?_)
   refine bC 3 rswd28 hv rfl rfl rfl rfl (⟨C, es, M, (.mk 4 ([] : List UInt8) 0 []), _, (hE.trans hC), rfl, rpAt_leaf, hM.more (hE.trans hC), ⟨hO, fun _ => rfl⟩, (hv.kp [2, 2] 2 3)⟩)
  simp only [zP, po]
  refine xS 3 rfl hv rssz28 rfl (by exact ⟨rfl, rfl, rfl, rfl, trivial⟩) (fun w147 hv => ?_)
  simp only [zS, zO, sp] at hv
  refine uW k142 (rR ?_)
  refine bZ (tR ?_)
  refine bC 3 rswd28 hv rfl rfl rfl rfl (⟨C, es, M, (.mk 1 s145 0 []), _, (hE.trans hC), rfl, rpAt_leaf, hM.more (hE.trans hC), ⟨hO, fun _ => rfl⟩, (hv.kp [2, 2] 2 3)⟩)
 refine uG (.bool false) rfl (ex_eql rfl rfl rfl (qF hb141)) (uA rfl ?_)
 refine uW k140 (cF rfl ?_)
 refine kS (bN ?_)
 refine tK k138 (sK fun _ k148 => ?_)
 obtain ⟨x0, hx0⟩ : ∃ x, (y.val.texts.take m)[0]? = some x := ⟨_, List.getElem?_eq_getElem (by rw [htl]; omega)⟩
 obtain ⟨gb, go, had3, hrdx0⟩ := text_reads hr3 hx0
 subst had3
 refine rL (uM rfl ?_)
 refine uM rfl ?_
 refine uG (.pointer (some ⟨gb, go + 0, none⟩)) rfl (ex_index rfl rfl rfl (run_idx1 (k := 0) Tryz.underlying22 s9es22 (by omega))) ?_
 refine uL _ rfl (run_load1 s9na9 (hrdx0 _ _ _ (Base.Le.refl _) no_res hv 0 _ rfl)) ?_
 refine xC rtcallable73 rfl ((respStr C _ _ x0 hv).mono ?_) rfl
 rintro e w149 ⟨rfl, hv⟩
 refine ⟨_, rfl, ?_⟩
 refine xC c1callable42 rfl ((viewDone C _ _ ec 3 0 x0 (vN) rfl rfl hv).mono ?_) rfl
 rintro e w150 ⟨xr, hxr, rfl, hv⟩
 refine ⟨_, rfl, ?_⟩
 rcases hxr with ⟨hec0, rfl⟩ | ⟨hec0, s151, rfl⟩
 ·simp only [zP, po]
  refine xS 3 rfl hv rssz28 rfl (by exact ⟨rfl, rfl, rfl, rfl, trivial⟩) (fun w152 hv => ?_)
  simp only [zS, zO, sp] at hv
  refine uW k148 (rR ?_)
  refine bC 3 rswd28 hv rfl rfl rfl rfl (⟨C, es, M, (.mk 3 x0 0 []), _, (hE.trans hC), rfl, rpAt_leaf, hM.more (hE.trans hC), ⟨hO, fun _ => rfl⟩, (hv.kp [2, 2] 2 3)⟩)
 simp only [zP, po]
 refine xS 3 rfl hv rssz28 rfl (by exact ⟨rfl, rfl, rfl, rfl, trivial⟩) (fun w153 hv => ?_)
 simp only [zS, zO, sp] at hv
 refine uW k148 (rR ?_)
 refine bC 3 rswd28 hv rfl rfl rfl rfl (⟨C, es, M, (.mk 1 s151 0 []), _, (hE.trans hC), rfl, rpAt_leaf, hM.more (hE.trans hC), ⟨hO, fun _ => rfl⟩, (hv.kp [2, 2] 2 3)⟩)
theorem PageR.next {n fr to nx ec : Int} {args : List (List UInt8)} {mt : List UInt8} (h : PageR n args fr to nx mt ec) (h0 : ec = 0) : 0 ≤ nx ∧ nx ≤ max n 0 := by
 have hb := h.bounds h0
 rcases h with ⟨h1, -⟩ | ⟨a0, rest, -, ⟨h1, -⟩ | ⟨t0, t1, b0, b1, -, ⟨h1, -⟩ | ⟨k, c, -, -, ⟨h1, -⟩ | ⟨-, h1, h2, -, h3, h4, h5⟩⟩⟩⟩
 all_goals first | omega | (rw [h5]; split <;> omega)
theorem optTo_mem {args : List (List UInt8)} {i : Nat} {t0 t1 : List UInt8} {b0 b1 : Bool} (h : OptTo args i t0 t1 b0 b1) : (t0 = [] ∨ t0 ∈ args) ∧ (t1 = [] ∨ t1 ∈ args) := by
 induction h with
 | zero => exact ⟨.inl rfl, .inl rfl⟩
 | m h1 h2 h3 h4 ih => exact ⟨.inr (List.mem_of_getElem? h3), ih.2⟩
 | c h1 h2 h3 h4 h5 ih => exact ⟨ih.1, .inr (List.mem_of_getElem? h3)⟩
theorem PageR.short {n fr to nx ec : Int} {args : List (List UInt8)} {mt : List UInt8} (h : PageR n args fr to nx mt ec) (h0 : ec = 0) (ha : ∀ x ∈ args, x.length ≤ 1000000) : mt.length ≤ 1000000 := by
 rcases h with ⟨h1, -⟩ | ⟨a0, rest, he, ⟨h1, -⟩ | ⟨t0, t1, b0, b1, ho, ⟨h1, -⟩ | ⟨k, c, -, -, ⟨h1, -⟩ | ⟨-, -, -, rfl, -⟩⟩⟩⟩
 ·omega
 ·omega
 ·omega
 ·omega
 rcases ho with ⟨h1, -⟩ | ⟨-, -, ho⟩
 ·omega
 split
 ·rcases (optTo_mem ho).1 with rfl | h
  ·simp
  exact ha _ (by rw [he]; exact List.mem_cons_of_mem _ h)
 simp
theorem of_nil_empty {clk ec : Int} {key : List UInt8} {y : Ver} {lo k i : Nat} {mid : List (List UInt8)} (hi : i < mid.length) (hmid : mid = (y.val.texts.drop lo).take k) : ¬ OfI [] clk key 4 y ec := fun h => by
 have hz : y = zver0 := by
  rcases h with ⟨-, h, -⟩ | ⟨-, h, -⟩ | ⟨-, h1, -⟩
  ·exact h
  ·exact h
  cases h1
 rw [hmid, hz] at hi
 simp [zver0] at hi
theorem short_of {M : List (List UInt8 × Ver)} {clk ec : Int} {key x : List UInt8} {y : Ver} {lo k i : Nat} {mid : List (List UInt8)} (hO : OkM M) (hof : OfI M clk key 4 y ec) (hmid : mid = (y.val.texts.drop lo).take k) (hx : mid[i]? = some x) : x.length ≤ 4096 := by
 have h1 := (setOk_iff.1 (hO.set hof)).2.1
 exact h1 x (List.mem_of_mem_drop (List.mem_of_mem_take (hmid ▸ List.mem_of_getElem? hx)))
theorem c9callable77 : Callable Tryz.prog 77 := cb Tryz.func77 (by kernel_rfl)
theorem c9al155 : AL Tryz.prog 155 [vI 0, vI 0, vI 0, vS []] := fun w => by kernel_rfl
theorem c9callable78 : Callable Tryz.prog 78 := cb Tryz.func78 (by kernel_rfl)
theorem c9mk9 : (Tryz.prog.info? 9).map (fun i => (i.zero, i.size, i.bytes)) = some (some (vS []), 1, 16) := by kernel_rfl
theorem c9el22 : Elem Tryz.prog 22 9 (vS []) 1 16 := elem_of Tryz.underlying22 c9mk9 (by rfl) (by decide)
theorem csetScan (B : Base) (H : List Res) (w : World) (v t m s p wb : Nat) (va : Option Addr) (vc : Nat) (sv : Value) (clk : Int) (es : List (List UInt8 × Value)) (M : List (List UInt8 × Ver)) (hM : VM B es M) (hO : OkM M) (aa : Option Addr) (ac : Nat) (args : List (List UInt8)) (hra : RdV B [] aa (textCells args)) (hoka : SliceOk aa args.length ac) (_ : args.length ≤ 10000) (key : List UInt8) (hkey : args[0]? = some key) (xa : Option Addr) (xc : Nat) (xs : List (List UInt8)) (hokx : SliceOk xa xs.length xc) (hrx : RdV B [] xa (textCells xs)) (hmx : xs.length ≤ 10000) (hxl : ∀ x ∈ xs, x.length ≤ 9223372036854775807) (hsm : (∀ x ∈ xs, x.length ≤ 1000000) ∨ M = []) (hN : NumB B) (hv : Inv B (Res.cell v [.iface 62 (vP t)] 39 :: txR t m s p wb va vc sv clk es :: H) w) :
  Calls Tryz.prog 49 #[.agg #[vP v, .slice aa args.length ac], .slice xa xs.length xc] w fun e w' => ∃ C es' M' r cs, B.Le C ∧ e = .returned (.agg cs.toArray) ∧ RpAt C r cs ∧ VM C es' M' ∧ CmdR M M' r ∧ Inv C (Res.cell v [.iface 62 (vP t)] 39 :: txR t m s p wb va vc sv clk es' :: H) w' := by
 refine cW Tryz.func49 rfl Tryz.ntmps49 ?_
 simp only [al]
 refine sK fun _ k1 => ?_
 have hal := (List.getElem?_eq_some_iff.1 hkey).1
 obtain ⟨ab, ao, had, hrdkey⟩ := text_reads hra hkey
 subst had
 refine rL (sl_box (L := [vP v, .slice (some ⟨ab, ao, none⟩) args.length ac]) tV (wn rfl) rfl rfl hv (fun w => by kernel_rfl) (fun b2 w3 hv => ?_))
 refine sl_alloc tV (wn rfl) rfl hv c9al28 (fun b4 w5 hv => ?_)
 refine uW k1 (sK fun _ k6 => ?_)
 refine rT mixed (fun az wz => ∃ (C : Base) (y : Ver) (yp yt yz : Value) (ec : Int) (b13 : Nat), (B.Le C) ∧ (ValAt C y.val yp yt yz) ∧ (OfI M clk key 4 y ec) ∧ az = { tmps := List.toArray (.agg #[vP v, .slice (some ⟨ab, ao, none⟩) args.length ac] :: .slice xa xs.length xc :: vP b2 :: undef :: vP b4 :: vP b13 :: vI ec :: undef :: undef :: undef :: undef :: undef :: .tuple #[.agg #[vI y.stamp, .bool y.gone, vI y.expire, vI y.val.kind, vS y.val.text, yp, yt, yz], vI ec] :: vP b2 :: vP v :: .pointer (some ⟨b2, 1, none⟩) :: .slice (some ⟨ab, ao, none⟩) args.length ac :: .pointer (some ⟨ab, ao + 0, none⟩) :: vS key :: .tuple #[.agg #[vI y.stamp, .bool y.gone, vI y.expire, vI y.val.kind, vS y.val.text, yp, yt, yz], vI ec] :: .agg #[vI y.stamp, .bool y.gone, vI y.expire, vI y.val.kind, vS y.val.text, yp, yt, yz] :: vI ec :: undef :: undef :: undef :: undef :: undef :: undef :: undef :: undef :: undef :: undef :: undef :: undef :: undef :: undef :: undef :: undef :: undef :: undef :: undef :: undef :: undef :: undef :: undef :: undef :: undef :: undef :: undef :: undef :: undef :: undef :: undef :: undef :: undef :: undef :: undef :: undef :: undef :: undef :: undef :: undef :: undef :: undef :: undef :: undef :: undef :: undef :: []), defers := [] } ∧ Inv C (Res.cell b13 [vI y.stamp, .bool y.gone, vI y.expire, vI y.val.kind, vS y.val.text, yp, yt, yz] 85 :: Res.cell v [.iface 62 (vP t)] 39 :: txR t m s p wb va vc sv clk es :: Res.cell b4 [vI 0, vS [], vI 0, vN] 28 :: Res.cell b2 [vP v, .slice (some ⟨ab, ao, none⟩) args.length ac] 73 :: H) wz) [6, 10, 11] [0,1,2,3,4,5] [7,8,9,10,11,12] [6,7,8,9,11,12] 6 10 68 rfl (by kernel_rfl) hv ?_ ?_
 ·intro R2 l1 l2 hR2 hl1 hl2
  simp only [qm, opAt]
  refine tG (vP b2) rfl (ex_field rfl rfl (c1fa73_0 _ _ _)) (tF (vP v) rfl (fun hv => ex_load rfl rfl (run_load1 c1na24 (hv.load 1 0 rfl rfl))) fun f7 hf7 => ?_)
  simp only [zP, po]
  refine tG (.pointer (some ⟨b2, 1, none⟩)) rfl (ex_field rfl rfl (c1fa73_1 _ _ _)) (tF (.slice (some ⟨ab, ao, none⟩) args.length ac) rfl (fun hv => ex_load rfl rfl (run_load1 s1na22 (hv.load 1 1 rfl rfl))) fun f8 hf8 => ?_)
  simp only [zP, po]
  refine tG (.pointer (some ⟨ab, ao + 0, none⟩)) rfl (ex_index rfl rfl rfl (run_idx1 (k := 0) Tryz.underlying22 s9es22 (by omega))) (tF (vS key) rfl (fun hv => ex_load rfl rfl (run_load1 s9na9 (hrdkey _ _ _ (Base.Le.refl _) no_res hv 0 _ rfl))) fun f9 hf9 => ?_)
  simp only [zP, po]
  refine tB ?_ ?_
  ·rw [hl1]; clear hl1 hl2
   simp only [qm, opAt]
   refine dS rfl fun w10 hv => ?_
   replace hv := hv.front 3 rfl
   simp only [eS, eZ] at hv
   replace hv := hv.front 3 rfl
   simp only [eS, eZ] at hv
   refine mC c1callable63 rfl ((viewOf B _ _ v t m s p wb va vc sv clk es M key 4 (hM.more (Base.Le.refl _)) hv).mono ?_) rfl
   rintro e w11 ⟨C, y, yp, yt, yz, ec, hC, rfl, hyv, hof, hv⟩
   refine ⟨_, rfl, dV hv (fK rfl (fK rfl (fK rfl fN))) ?_⟩
   refine dM (.tuple #[.agg #[vI y.stamp, .bool y.gone, vI y.expire, vI y.val.kind, vS y.val.text, yp, yt, yz], vI ec]) rfl (dG (.agg #[vI y.stamp, .bool y.gone, vI y.expire, vI y.val.kind, vS y.val.text, yp, yt, yz]) rfl (ex_extract rfl rfl rfl) ?_)
   simp only [zP, po]
   refine dG (vI ec) rfl (ex_extract rfl rfl rfl) (dS rfl fun w12 hv => ?_)
   refine mem_alloc rfl rfl hv c9al85 (fun b13 w14 hv => ?_)
   refine dV hv (fC (fun ww hv => hf9 ww (ex_load rfl rfl (run_load1 s9na9 (hrdkey _ _ _ hC no_res hv 0 _ rfl)))) (fC (fun ww hv => hf8 ww (ex_load rfl rfl (run_load1 s1na22 (hv.load 4 1 rfl rfl)))) (fC (fun ww hv => hf7 ww (ex_load rfl rfl (run_load1 c1na24 (hv.load 4 0 rfl rfl)))) fN))) (dS rfl fun w15 hv => ?_)
   refine mS 0 rfl hv x0sz85 rfl (by exact ⟨rfl, rfl, rfl, rfl, rfl, hyv.p.one, hyv.t.one, hyv.z.one, trivial⟩) (fun w16 hv => ?_)
   simp only [zO, sp] at hv
   refine dV hv (fK rfl (fK rfl (fK rfl fN))) ?_
   simp only [zP, po]
   refine dA (vI ec) rfl (dE fun wz hv => ?_)
   simp only [zP, po]
   exact hR2 _ _ ⟨C, y, yp, yt, yz, ec, b13, hC, hyv, hof, rfl, (((((hv.front 4 rfl).front 4 rfl).front 4 rfl).front 4 rfl).front 4 rfl)⟩
  rw [hl2]; clear hl1 hl2
  simp only [qm, opAt]
  refine dS rfl fun w17 hv => mem_alloc rfl rfl hv c9al85 (fun b18 w19 hv => ?_)
  refine dV hv (fC (fun ww hv => hf9 ww (ex_load rfl rfl (run_load1 s9na9 (hrdkey _ _ _ (Base.Le.refl _) no_res hv 0 _ rfl)))) (fC (fun ww hv => hf8 ww (ex_load rfl rfl (run_load1 s1na22 (hv.load 2 1 rfl rfl)))) (fC (fun ww hv => hf7 ww (ex_load rfl rfl (run_load1 c1na24 (hv.load 2 0 rfl rfl)))) fN))) (dS rfl fun w20 hv => ?_)
  replace hv := hv.front 4 rfl
  simp only [eS, eZ] at hv
  replace hv := hv.front 4 rfl
  simp only [eS, eZ] at hv
  refine mC c1callable63 rfl ((viewOf B _ _ v t m s p wb va vc sv clk es M key 4 (hM.more (Base.Le.refl _)) hv).mono ?_) rfl
  rintro e w21 ⟨C, y, yp, yt, yz, ec, hC, rfl, hyv, hof, hv⟩
  refine ⟨_, rfl, dV hv (fK rfl (fK rfl (fK rfl fN))) ?_⟩
  refine dM (.tuple #[.agg #[vI y.stamp, .bool y.gone, vI y.expire, vI y.val.kind, vS y.val.text, yp, yt, yz], vI ec]) rfl ?_
  simp only [zP, po]
  refine dG (.agg #[vI y.stamp, .bool y.gone, vI y.expire, vI y.val.kind, vS y.val.text, yp, yt, yz]) rfl (ex_extract rfl rfl rfl) (dG (vI ec) rfl (ex_extract rfl rfl rfl) ?_)
  refine dS rfl fun w22 hv => mS 2 rfl hv x0sz85 rfl (by exact ⟨rfl, rfl, rfl, rfl, rfl, hyv.p.one, hyv.t.one, hyv.z.one, trivial⟩) (fun w23 hv => ?_)
  simp only [zS, zO, sp] at hv
  refine dV hv (fK rfl (fK rfl (fK rfl fN))) ?_
  simp only [zP, po]
  refine dA (vI ec) rfl (dE fun wz hv => ?_)
  simp only [zP, po]
  exact hR2 _ _ ⟨C, y, yp, yt, yz, ec, b18, hC, hyv, hof, rfl, (((((hv.front 4 rfl).front 4 rfl).front 3 rfl).front 3 rfl).front 4 rfl)⟩
 rintro _ w24 ⟨C, y, yp, yt, yz, ec, b13, hC, hyv, hof, rfl, hv⟩
 obtain ⟨pa, pc, sa, sc, za, zc, rfl, rfl, rfl, hokp, hrp, hoks, hrs, hokz, hrz⟩ := valAt_open hyv
 refine tK k6 (sK fun _ k25 => ?_)
 refine rL (uF (.pointer (some ⟨b13, 3, none⟩)) rfl (x2fa85_3 _ _ _) ?_)
 refine uF (.pointer (some ⟨b13, 6, none⟩)) rfl (s1fa78_3 _ _ _) ?_
 refine uL _ rfl (run_load1 s1na22 (hv.load 0 6 rfl rfl)) ?_
 refine uG (vI (y.val.texts.length : Int)) rfl (ex_len0 Tryz.underlying22 rfl rfl) (uM rfl ?_)
 refine xC c9callable77 rfl ((viewPages C _ _ y.val.texts.length (by omega) (by have := hyv.tm; omega) xa xc xs (hrx.more hC (fun _ h => h)) (by omega) hxl hokx (hN.more hC) hv).mono ?_) rfl
 rintro e w26 ⟨pf, pt, pn, mt, pe, rfl, hpg, hv⟩
 refine ⟨_, rfl, uM rfl ?_⟩
 refine uE rfl (uE rfl ?_)
 refine sl_alloc tV (wn rfl) rfl hv c9al155 (fun b27 w28 hv => ?_)
 refine xS 0 rfl hv v8sz155 rfl (by exact ⟨rfl, rfl, rfl, rfl, trivial⟩) (fun w29 hv => ?_)
 simp only [zO, sp] at hv
 refine uA rfl (uW k25 ?_)
 refine sK fun _ k30 => sK fun _ k31 => rL (uM rfl ?_)
 by_cases hb32 : pe ≠ 0
 ·refine uG (.bool true) rfl (ex_neq rfl rfl rfl (qT hb32)) (uW k31 ?_)
  refine cT rfl (sK fun _ k33 => ?_)
  refine rL (uM rfl ?_)
  refine xC rscallable24 rfl ((viewWrong C _ _ pe hv).mono ?_) rfl
  rintro e w35 ⟨s34, rfl, hv⟩
  refine ⟨_, rfl, ?_⟩
  refine xS 4 rfl hv rssz28 rfl (by exact ⟨rfl, rfl, rfl, rfl, trivial⟩) (fun w36 hv => ?_)
  simp only [zS, zO, sp] at hv
  refine uW k33 (rR ?_)
  refine tR (bC 4 rswd28 hv rfl rfl rfl rfl ?_)
  exact ⟨C, es, M, (.mk 1 s34 0 []), _, hC, rfl, rpAt_leaf, hM.more hC, ⟨hO, fun _ => rfl⟩, (hv.kp [3, 3] 2 4)⟩
 refine uG (.bool false) rfl (ex_neq rfl rfl rfl (qF hb32)) (uW k31 ?_)
 refine cF rfl (kS ?_)
 refine tK k30 (sK fun _ k37 => ?_)
 refine sK fun _ k38 => rL (uM rfl ?_)
 by_cases hb39 : ec ≠ 0
 ·refine uG (.bool true) rfl (ex_neq rfl rfl rfl (qT hb39)) (uW k38 ?_)
  refine cT rfl (sK fun _ k40 => ?_)
  refine rL (uM rfl ?_)
  refine xC rscallable24 rfl ((viewWrong C _ _ ec hv).mono ?_) rfl
  rintro e w42 ⟨s41, rfl, hv⟩
  refine ⟨_, rfl, ?_⟩
  refine xS 4 rfl hv rssz28 rfl (by exact ⟨rfl, rfl, rfl, rfl, trivial⟩) (fun w43 hv => ?_)
  simp only [zS, zO, sp] at hv
  refine uW k40 (rR ?_)
  refine tR (bC 4 rswd28 hv rfl rfl rfl rfl ?_)
  exact ⟨C, es, M, (.mk 1 s41 0 []), _, hC, rfl, rpAt_leaf, hM.more hC, ⟨hO, fun _ => rfl⟩, (hv.kp [3, 3] 2 4)⟩
 refine uG (.bool false) rfl (ex_neq rfl rfl rfl (qF hb39)) (uW k38 ?_)
 refine cF rfl (kS ?_)
 refine tK k37 (sK fun _ k44 => ?_)
 refine rL (uA rfl ?_)
 refine uW k44 (sK fun _ k45 => ?_)
 refine sK fun _ k46 => ?_
 obtain ⟨hpf0, hpft, hptn⟩ := hpg.bounds (by omega)
 obtain ⟨lo, hlo⟩ : ∃ n : Nat, pf = (n : Int) := ⟨pf.toNat, by omega⟩
 obtain ⟨hi, hhi⟩ : ∃ n : Nat, pt = (n : Int) := ⟨pt.toNat, by omega⟩
 obtain ⟨a5, c5, ha5, ok5, hr5⟩ := sliced_midV 1 hoks hrs (textCells_len _) (show lo ≤ hi by omega) (show hi ≤ y.val.texts.length by omega) (by decide)
 rw [Nat.mul_one, Nat.mul_one, tx_drop, tx_take] at hr5
 obtain ⟨mid, hmid⟩ : ∃ l, l = (y.val.texts.drop lo).take (hi - lo) := ⟨_, rfl⟩
 rw [← hmid] at hr5
 have hml : mid.length = hi - lo := by rw [hmid, List.length_take, List.length_drop]; omega
 rw [← hml] at ok5 ha5
 have hml2 : mid.length ≤ 1000000 := by have := hyv.tm; omega
 have hpn := hpg.next (by omega)
 refine rL (uF (.pointer (some ⟨b13, 3, none⟩)) rfl (x2fa85_3 _ _ _) ?_)
 refine uF (.pointer (some ⟨b13, 6, none⟩)) rfl (s1fa78_3 _ _ _) ?_
 refine uL _ rfl (run_load1 s1na22 (hv.load 1 6 rfl rfl)) ?_
 refine uF (vP b27) rfl (v8fa155_0 _ _ _) ?_
 refine uL _ rfl (run_load1 s2na3 (hv.load 0 0 rfl rfl)) ?_
 refine uF (.pointer (some ⟨b27, 1, none⟩)) rfl (v8fa155_1 _ _ _) ?_
 refine uL _ rfl (run_load1 s2na3 (hv.load 0 1 rfl rfl)) ?_
 refine uG (.slice a5 mid.length c5) rfl (ex_slice (lo' := some (vI pf)) (hi' := some (vI pt)) rfl rfl (congrArg some rfl) (congrArg some rfl) rfl ((run_lhAnyI hlo hhi Tryz.underlying22 s9es22 (by omega) (by have := hoks.le; omega)).trans (by rw [ha5]))) ?_
 refine uG (vI (mid.length : Int)) rfl (ex_len0 Tryz.underlying22 rfl rfl) (uM rfl ?_)
 refine uW k46 (bB ?_)
 gi_loopw [48, 9] (fun x48 x9 wr => ∃ (i : Nat) (ft : List (List UInt8)) (fa : Option Addr) (fc : Nat), x48 = vI i ∧ x9 = .slice fa ft.length fc ∧ i ≤ mid.length ∧ ft.length ≤ i ∧ True ∧ Inv C (Res.row 9 1 (.slice fa ft.length fc) ft.length (textCells ft) :: Res.cell b27 [vI pf, vI pt, vI pn, vS mt] 155 :: Res.cell b13 [vI y.stamp, .bool y.gone, vI y.expire, vI y.val.kind, vS y.val.text, .slice pa y.val.pairs.length pc, .slice sa y.val.texts.length sc, .slice za y.val.zset.length zc] 85 :: Res.cell v [.iface 62 (vP t)] 39 :: txR t m s p wb va vc sv clk es :: Res.cell b4 [vI 0, vS [], vI 0, vN] 28 :: Res.cell b2 [vP v, .slice (some ⟨ab, ao, none⟩) args.length ac] 73 :: H) wr) (fun x48 x9 _ => mid.length - (intOf x48).toNat)
 case atStart => exact ⟨0, [], none, 0, rfl, rfl, Nat.zero_le _, Nat.zero_le _, trivial, (((((((hv.front 5 rfl).front 5 rfl).front 5 rfl).front 5 rfl).front 5 rfl).front 5 rfl)).rowNil 9 1⟩
 case round =>
  obtain ⟨i, ft, fa, fc, rfl, rfl, hi9, hfl, hft, hv⟩ := hrel
  refine sK fun _ k48 => rL ?_
  by_cases hb49 : (i : Int) < (mid.length : Int)
  ·refine uG (.bool true) rfl (ex_lss rfl rfl rfl (qT hb49)) (uW k48 ?_)
   refine sK fun _ k50 => cT rfl (kS ?_)
   refine tK k50 (sK fun _ k51 => ?_)
   refine bB (sK fun _ k52 => ?_)
   obtain ⟨x, hx⟩ : ∃ x, mid[i]? = some x := ⟨_, List.getElem?_eq_getElem (show i < mid.length by omega)⟩
   obtain ⟨mb, mo, had, hrdx⟩ := text_reads hr5 hx
   subst had
   refine rL (uG (.pointer (some ⟨mb, mo + i, none⟩)) rfl (ex_index rfl rfl rfl (run_idx1 (k := i) Tryz.underlying22 s9es22 (by omega))) ?_)
   refine uL _ rfl (run_load1 s9na9 (hrdx _ _ _ (Base.Le.refl _) no_res hv 0 _ rfl)) (uA rfl ?_)
   refine uW k52 (sK fun _ k53 => ?_)
   refine rL (uL (.agg #[vI pf, vI pt, vI pn, vS mt]) rfl (lM 1 v8wd155 hv rfl rfl rfl rfl) ?_)
   refine uM rfl ?_
   refine xC c9callable78 rfl ((pageFits C _ _ pf pt pn mt x (hpg.short (by omega) (hsm.resolve_right (fun h9 => by rw [h9] at hof; exact absurd hof (by have := (List.getElem?_eq_some_iff.1 hx).1; exact of_nil_empty this hmid)))) (by have := short_of hO hof hmid hx; omega) hv).mono ?_) rfl
   rintro e w55 ⟨bl54, rfl, -, hv⟩
   refine ⟨_, rfl, ?_⟩
   cases bl54
   ·refine uW k53 (cF rfl ?_)
    refine kS (bN ?_)
    refine tK k51 (rL ?_)
    refine uG (vI ((i + 1 : Nat) : Int)) rfl (ex_add rfl rfl rfl (by rw [i64_in (by omega)]; omega)) (uM rfl ?_)
    refine uZ (then_normal ?_)
    go_roundw
    case rel => exact ⟨i + 1, ft, fa, fc, rfl, rfl, by omega, by omega, hft, (((((((hv.front 6 rfl).front 6 rfl).front 6 rfl).front 6 rfl).front 6 rfl).front 6 rfl).front 6 rfl)⟩
    case measure => show mid.length - (((i + 1 : Nat) : Int)).toNat < mid.length - ((i : Int)).toNat; omega
   refine uW k53 (cT rfl ?_)
   refine rL (uM rfl ?_)
   refine uM rfl ?_
   refine sl_rowOne (v := vS x) tV (wn rfl) rfl rfl hv c9el22 rfl (fun b56 w57 hv => ?_)
   simp only [zP, po]
   replace hv := hv.front 1 rfl
   simp only [eS, eZ] at hv
   refine sl_append (news := [vS x]) tV (wn rfl) rfl rfl rfl c9el22 hv (ok_full (by omega)) rfl (rd_all (hv.get 1 rfl)) (by intro u hu; simp only [List.mem_cons, List.not_mem_nil, or_false] at hu; rcases hu with rfl <;> rfl) (by unfold maxLen; omega) (by omega) (fun rv58 w61 hv => ?_)
   obtain ⟨ra59, rc60, rfl⟩ := row_slice hv.head
   refine uA rfl (uZ ?_)
   refine bN (tK k51 ?_)
   refine rL (uG (vI ((i + 1 : Nat) : Int)) rfl (ex_add rfl rfl rfl (by rw [i64_in (by omega)]; omega)) ?_)
   refine uM rfl (uZ ?_)
   refine then_normal ?_
   go_roundw
   case rel => exact ⟨i + 1, ft ++ [x], _, _, rfl, by rw [List.length_append, List.length_singleton], by omega, by rw [List.length_append, List.length_singleton]; omega, by simp [hft], by rw [List.length_append, List.length_singleton, ← text_snoc]; exact (hv.kp [7, 7, 7, 7, 7, 7, 6] 7 1)⟩
   case measure => show mid.length - (((i + 1 : Nat) : Int)).toNat < mid.length - ((i : Int)).toNat; omega
  refine uG (.bool false) rfl (ex_lss rfl rfl rfl (qF hb49)) (uW k48 ?_)
  refine sK fun _ k62 => cF rfl (xE ?_)
  refine tX (tX ?_)
  refine bH (tK k45 ?_)
  refine sK fun _ k63 => ?_
  obtain ⟨E, hE, hv, hrf, hokf, -⟩ := hv.rowBy
  refine rL (uF (.pointer (some ⟨b27, 2, none⟩)) rfl (v8fa155_2 _ _ _) ?_)
  refine uL _ rfl (run_load1 s2na3 (hv.load 0 2 rfl rfl)) ?_
  refine xC pzcallable79 rfl ((numPrint E _ (hN E _ (hC.trans hE)).1 _ pn (by omega) (by have := hyv.tm; omega) hv).mono ?_) rfl
  rintro e w64 ⟨rfl, hv⟩
  refine ⟨_, rfl, ?_⟩
  simp only [zP, po]
  refine xC rtcallable73 rfl ((respStr E _ _ (Lib.itoa pn) hv).mono ?_) rfl
  rintro e w65 ⟨rfl, hv⟩
  refine ⟨_, rfl, uM rfl ?_⟩
  refine xC c2callable43 rfl ((respStrsR E _ _ fa fc ft (hrf.more (Base.Le.refl _) (fun _ h => h)) (by have := hyv.tm; omega) hv).mono ?_) rfl
  rintro e w70 ⟨D66, da67, dc68, hD66, rfl, hrp69o, hrp69, hv⟩
  refine ⟨_, rfl, ?_⟩
  simp only [zP, po]
  refine sl_rowN (pv := #[(0, .agg #[vI 3, vS (Lib.itoa pn), vI 0, vN]), (1, .agg #[vI 5, vS [], vI 0, .slice da67 ft.length dc68])]) (L := [vI 3, vS (Lib.itoa pn), vI 0, vN, vI 5, vS [], vI 0, .slice da67 ft.length dc68]) (e := 28) tV (wn rfl) rfl (by simp only [List.map_toArray, List.map_cons, List.map_nil]; rfl) hv (fun w => by kernel_rfl) (fun b71 w72 hv => ?_)
  obtain ⟨K73, hK73, hv, hrK73, hokK73, -⟩ := (hv.cellRow (n := 2) (c := 2) (size := 4) rfl (by decide) (by decide)).rowBy
  refine xC c9callable68 rfl ((respList K73 _ _ _ 2 2 _ (rList [rStr (Lib.itoa pn), rStrs ft]) hokK73 hrK73 (listIn_two hrp69o (hrp69.more hK73 (fun _ h => h)) (by have := hyv.tm; omega)) (by decide) hv).mono ?_) rfl
  rintro e w77 ⟨J74, lw75, hJ74, rfl, hrw76, hv⟩
  refine ⟨_, rfl, ?_⟩
  refine xS 4 rfl hv rssz28 rfl (by exact ⟨rfl, rfl, rfl, hrw76.lv.2, trivial⟩) (fun w78 hv => ?_)
  simp only [zS, zO, sp] at hv
  refine uW k63 (rR ?_)
  refine bC 4 rswd28 hv rfl rfl rfl rfl (⟨J74, es, M, rList [rStr (Lib.itoa pn), rStrs ft], _, ((((hC.trans hE).trans hD66).trans hK73).trans hJ74), rfl, (hrw76.more (Base.Le.refl _)), hM.more ((((hC.trans hE).trans hD66).trans hK73).trans hJ74), ⟨hO, fun _ => rfl⟩, (hv.kp [3, 3] 2 4)⟩)
abbrev rowF (x : List UInt8 × Int × Int) : List Value := [strV x.1, vI x.2.1, vI x.2.2]
theorem row_reads {B : Base} {l : List (List UInt8 × Int × Int)} {ad : Option Addr} {i : Nat} {x : List UInt8 × Int × Int} (hr : RdV B [] ad (l.flatMap rowF)) (hx : l[i]? = some x) : ∃ b off, ad = some ⟨b, off, none⟩ ∧ Reads B [] b (off + i * 3) (rowF x) := rowk_reads (k := 3) (fun _ => rfl) (by decide) hr hx
theorem diff_right {s : List (List UInt8)} {t : List (List (List UInt8))} (h : SetOk s) : SetOk (diffS s t) := by
 obtain ⟨h1, h2, h3⟩ := setOk_iff.1 h
 exact setOk_iff.2 ⟨Nat.le_trans (List.length_filter_le _ _) h1, fun x hx => h2 x (List.mem_filter.1 hx).1, h3.sublist List.filter_sublist⟩
theorem MoveR.cmd {M M' : List (List UInt8 × Ver)} {clk : Int} {k l x : List UInt8} {r : Rp} (hO : OkM M) (h : MoveR M clk k l x M' r) : CmdR M M' r := by
 obtain ⟨y1, e1, hof, ⟨-, rfl, -⟩ | ⟨-, y2, e2, -, ⟨-, rfl, -⟩ | ⟨-, ⟨-, rfl, -⟩ | ⟨-, hx, out, n, e3, -, ⟨-, rfl, -⟩ | ⟨-, M1, e4, hk, ⟨he4, rfl, -⟩ | ⟨he4, e5, hk2, hd⟩⟩⟩⟩⟩⟩ := h
 ·exact ⟨hO, fun _ => rfl⟩
 ·exact ⟨hO, fun _ => rfl⟩
 ·exact ⟨hO, fun _ => rfl⟩
 ·exact ⟨hO, fun _ => rfl⟩
 ·exact ⟨hO.keep hk, fun _ => keep_not hk he4⟩
 have hO1 := hO.keep hk
 refine ⟨hO1.keep hk2, fun hf => ?_⟩
 obtain ⟨⟨h1, h2, h3, h4⟩, h5⟩ := of_put hO hof (fun e => by rw [e] at hx; simp [zver0] at hx)
 have h6 := valOk4 h2 h5
 have he5 : e5 = 0 := keep_zero h1 (fun hfull => ⟨h1, .inr (.inr (.inr (.inl ⟨rfl, by
  rcases hfull with h9 | h9
  ·exact absurd h9 (by show ¬ (4 : Int) = 1; decide)
  simpa [setV] using h9, diff_right h6.1, rfl, rfl, rfl⟩))), h3, h4⟩) hk2
 rcases hd with ⟨-, rfl⟩ | ⟨h9, -⟩
 ·exact absurd hf isF_int
 exact absurd he5 h9
end Go.Proofs.YtoljdfjnannakaaGreatDoor
