/- chash: keep, set. -/
import Derived.Test.YtffnhfkkochnhaaGreatDoorChBakB
import Derived.Test.YtffnhfkkochnhaaGreatDoorChBakF
import Derived.Test.YtffnhfkkochnhaaGreatDoorChBakG
import Derived.Test.YtffnhfkkochnhaaGreatDoorChBakH
import Derived.Test.YtffnhfkkochnhaaGreatDoorRows
import Derived.Test.YtffnhfkkochnhaaGreatDoorChBakE
import Derived.Test.YtffnhfkkochnhaaGreatDoorChBakD
import Derived.Laws.StructEq
import Derived.Test.YtffnhfkkochnhaaGreatDoorChBakC
set_option maxRecDepth 100000
set_option maxHeartbeats 16000000
set_option synthInstance.maxSize 4096
set_option synthInstance.maxHeartbeats 400000
namespace Go.Proofs.YtffnhfkkochnhaaGreatDoor
open Go.RowKit Go.Pm
theorem hashV_at {B : Base} {l : List Pr} {la : Option Addr} {lc : Nat} (hr : RdV B [] la (pairCells l)) (hok : SliceOk la l.length lc) (hm : l.length ≤ 1000000) : ValAt B (hashV l) (.slice la l.length lc) (vN) (vN) :=
 ⟨⟨la, lc, rfl, hok, hr⟩, ⟨none, 0, rfl, ok_nilH, rdV_nil⟩, ⟨none, 0, rfl, ok_nilH, rdV_nil⟩, hm, Nat.zero_le _, Nat.zero_le _⟩
def HSetK (M : List (List UInt8 × Ver)) (clk : Int) (key : List UInt8) (y : Ver) (ps : List Pr) (M' : List (List UInt8 × Ver)) (r : Rp) : Prop :=
 ∃ out n e2, SetHI y.val.pairs ps out n e2 ∧ ((e2 ≠ 0 ∧ M' = M ∧ IsF r) ∨ (e2 = 0 ∧ ∃ e3, KeepI M clk key (hashV out) y.expire e3 M' ∧ DoneR e3 (rInt n) r))
theorem HSetK.cmd {M M' : List (List UInt8 × Ver)} {clk : Int} {key : List UInt8} {y : Ver} {ps : List Pr} {r : Rp} (hM : OkM M) (h : HSetK M clk key y ps M' r) : CmdR M M' r := by
 obtain ⟨out, n, e2, -, ⟨-, rfl, -⟩ | ⟨-, e3, hk, hd⟩⟩ := h
 ·exact ⟨hM, fun _ => rfl⟩
 exact hd.keep hM hk isF_int
theorem h8fa74_0 : FA Tryz.prog 74 0 0 := fun w b o => by kernel_rfl
theorem h8na24 (w : World) : (isAgg 24).run Tryz.prog w = .ok false w := by kernel_rfl
theorem h8fa74_1 : FA Tryz.prog 74 1 1 := fun w b o => by kernel_rfl
theorem h8callable29 : Callable Tryz.prog 29 := cb Tryz.func29 (by kernel_rfl)
theorem chashKeep (B : Base) (H : List Res) (w : World) (v t m s p wb : Nat) (va : Option Addr) (vc : Nat) (sv : Value) (clk : Int) (es : List (List UInt8 × Value)) (M : List (List UInt8 × Ver)) (hM : VM B es M) (aa : Option Addr) (ac : Nat) (args : List (List UInt8)) (hra : RdV B [] aa (textCells args)) (hoka : SliceOk aa args.length ac) (_ : args.length ≤ 10000) (key : List UInt8) (hkey : args[0]? = some key) (y : Ver) (pa : Option Addr) (pc : Nat) (yt yz : Value) (_ : ValAt B y.val (.slice pa y.val.pairs.length pc) yt yz) (la : Option Addr) (lc : Nat) (l : List Pr) (hrl : RdV B [] la (pairCells l)) (hokl : SliceOk la l.length lc) (hml : l.length ≤ 1000000) (hv : Inv B (Res.cell v [.iface 63 (vP t)] 40 :: txR t m s p wb va vc sv clk es :: H) w) :
  Calls Tryz.prog 47 #[.agg #[vP v, .slice aa args.length ac], .agg #[vI y.stamp, .bool y.gone, vI y.expire, vI y.val.kind, vS y.val.text, .slice pa y.val.pairs.length pc, yt, yz], .slice la l.length lc] w fun e w' => ∃ C es' M' ec, B.Le C ∧ e = .returned (vI ec) ∧ VM C es' M' ∧ KeepI M clk key (hashV l) y.expire ec M' ∧ Inv C (Res.cell v [.iface 63 (vP t)] 40 :: txR t m s p wb va vc sv clk es' :: H) w' := by
 refine cW Tryz.func47 rfl Tryz.ntmps47 ?_
 simp only [al]
 refine sK fun _ k1 => ?_
 have hal := (List.getElem?_eq_some_iff.1 hkey).1
 obtain ⟨ab, ao, had, hrdkey⟩ := text_reads hra hkey
 subst had
 refine rL (sl_box (L := [vP v, .slice (some ⟨ab, ao, none⟩) args.length ac]) tV (wn rfl) rfl rfl hv (fun w => by kernel_rfl) (fun b2 w3 hv => ?_))
 refine sl_box (L := [vI y.stamp, .bool y.gone, vI y.expire, vI y.val.kind, vS y.val.text, .slice pa y.val.pairs.length pc, yt, yz]) tV (wn rfl) rfl rfl hv (fun w => by kernel_rfl) (fun b4 w5 hv => ?_)
 refine uA rfl (uW k1 ?_)
 refine sK fun _ k6 => rW mixed [10] [0,1,2,3,4,5,6,7,8,9,10,11] 18 rfl (by kernel_rfl) hv ?_
 simp only [qm, opAt]
 refine dG (vP b2) rfl (ex_field rfl rfl (h8fa74_0 _ _ _)) (dL _ rfl (fun hv => ex_load rfl rfl (run_load1 h8na24 (hv.load 1 0 rfl rfl))) ?_)
 refine dG (.pointer (some ⟨b2, 1, none⟩)) rfl (ex_field rfl rfl (h8fa74_1 _ _ _)) ?_
 simp only [zP, po]
 refine dL _ rfl (fun hv => ex_load rfl rfl (run_load1 s1na22 (hv.load 1 1 rfl rfl))) (dG (.pointer (some ⟨ab, ao + 0, none⟩)) rfl (ex_index rfl rfl rfl (run_idx1 (k := 0) Tryz.underlying22 s9es22 (by omega))) ?_)
 refine dL _ rfl (fun hv => ex_load rfl rfl (run_load1 h1na9 (hrdkey _ _ _ (Base.Le.refl _) no_res hv 0 _ rfl))) ?_
 simp only [zP, po]
 refine dM (.slice la l.length lc) rfl (dG (.agg #[vI 2, vS [], .slice la l.length lc, vN, vN]) rfl (ex_buildN (vs := #[(0, vI 2), (2, .slice la l.length lc)]) rfl (by simp only [List.map_toArray, List.map_cons, List.map_nil]; rfl) (by kernel_rfl)) ?_)
 refine dG (.pointer (some ⟨b4, 2, none⟩)) rfl (ex_field rfl rfl (s2fa86_2 _ _ _)) ?_
 simp only [zP, po]
 refine dL _ rfl (fun hv => ex_load rfl rfl (run_load1 s2na3 (hv.load 0 2 rfl rfl))) (dS rfl fun w7 hv => ?_)
 replace hv := hv.front 3 rfl
 simp only [eS, eZ] at hv
 replace hv := hv.front 3 rfl
 simp only [eS, eZ] at hv
 refine mC h8callable29 rfl ((viewKeep B _ _ v t m s p wb va vc sv clk es M key (hashV l) _ _ _ y.expire hM (hashV_at hrl hokl hml) hv).mono ?_) rfl
 rintro e w8 ⟨C, es', M', ec, hC, rfl, hM', hk, hv⟩
 refine ⟨_, rfl, dW hv ?_⟩
 refine dA (vI ec) rfl (dE fun w9 hv => ?_)
 simp only [zP, po]
 refine tK k6 (rR ?_)
 refine bR rfl rfl (⟨C, es', M', ec, hC, rfl, hM', hk, (hv.kp [1, 1] 2 2)⟩)
theorem h8al28 : AL Tryz.prog 28 [vI 0, vS [], vI 0, vN] := fun w => by kernel_rfl
theorem h8mk121 : (Tryz.prog.info? 121).map (fun i => (i.zero, i.size, i.bytes)) = some (some (.agg #[vS [], vS []]), 2, 32) := by kernel_rfl
theorem h8el76 : Elem Tryz.prog 76 121 (.agg #[vS [], vS []]) 2 32 := elem_of Tryz.underlying76 h8mk121 (by rfl) (by decide)
theorem h8callable73 : Callable Tryz.prog 73 := cb Tryz.func73 (by kernel_rfl)
theorem h8wd74 : Wide Tryz.prog 74 2 := wide_of (fun w => by kernel_rfl) (by kernel_rfl)
theorem h8callable47 : Callable Tryz.prog 47 := cb Tryz.func47 (by kernel_rfl)
theorem h8callable44 : Callable Tryz.prog 44 := cb Tryz.func44 (by kernel_rfl)
theorem h8callable46 : Callable Tryz.prog 46 := cb Tryz.func46 (by kernel_rfl)
theorem chashSet (B : Base) (H : List Res) (w : World) (v t m s p wb : Nat) (va : Option Addr) (vc : Nat) (sv : Value) (clk : Int) (es : List (List UInt8 × Value)) (M : List (List UInt8 × Ver)) (hM : VM B es M) (aa : Option Addr) (ac : Nat) (args : List (List UInt8)) (hra : RdV B [] aa (textCells args)) (hoka : SliceOk aa args.length ac) (hma : args.length ≤ 10000) (key : List UInt8) (hkey : args[0]? = some key) (y : Ver) (pa : Option Addr) (pc : Nat) (yt yz : Value) (hyv : ValAt B y.val (.slice pa y.val.pairs.length pc) yt yz) (hokp : SliceOk pa y.val.pairs.length pc) (hrp : RdV B [] pa (pairCells y.val.pairs)) (hso : SortedH y.val.pairs) (fa : Option Addr) (fc : Nat) (fs : List (List UInt8)) (hrf : RdV B [] fa (textCells fs)) (hmf : fs.length ≤ 10000) (hv : Inv B (Res.cell v [.iface 63 (vP t)] 40 :: txR t m s p wb va vc sv clk es :: H) w) :
  Calls Tryz.prog 42 #[.agg #[vP v, .slice aa args.length ac], .agg #[vI y.stamp, .bool y.gone, vI y.expire, vI y.val.kind, vS y.val.text, .slice pa y.val.pairs.length pc, yt, yz], .slice fa fs.length fc] w fun e w' => ∃ C es' M' r cs, B.Le C ∧ e = .returned (.agg cs.toArray) ∧ RpAt C r cs ∧ VM C es' M' ∧ HSetK M clk key y (prsF fs) M' r ∧ Inv C (Res.cell v [.iface 63 (vP t)] 40 :: txR t m s p wb va vc sv clk es' :: H) w' := by
 refine cW Tryz.func42 rfl Tryz.ntmps42 ?_
 simp only [al]
 refine sK fun _ k1 => rL (sl_box (L := [vP v, .slice aa args.length ac]) tV (wn rfl) rfl rfl hv (fun w => by kernel_rfl) (fun b2 w3 hv => ?_))
 refine sl_box (L := [vI y.stamp, .bool y.gone, vI y.expire, vI y.val.kind, vS y.val.text, .slice pa y.val.pairs.length pc, yt, yz]) tV (wn rfl) rfl rfl hv (fun w => by kernel_rfl) (fun b4 w5 hv => ?_)
 refine sl_alloc tV (wn rfl) rfl hv h8al28 (fun b6 w7 hv => ?_)
 refine uW k1 (sK fun _ k8 => ?_)
 refine rL (uM rfl ?_)
 refine uG (vI (fs.length : Int)) rfl (ex_len0 Tryz.underlying22 rfl rfl) ?_
 refine uG (vI ((fs.length / 2 : Nat) : Int)) rfl (ex_quo (m := (fs.length : Int)) (n := 2) rfl rfl rfl (by decide) (by rw [Int.tdiv_eq_ediv_of_nonneg (by omega), i64_in (by omega)]; omega)) ?_
 refine sl_makeRow (cap := (fs.length / 2 : Nat)) tV (wn rfl) rfl rfl rfl h8el76 (by unfold maxLen; omega) (by omega) hv (fun b9 w10 hv => ?_)
 refine uA rfl (uW k8 ?_)
 refine sK fun _ k11 => sK fun _ k12 => rL (uA rfl ?_)
 refine uW k12 (bB ?_)
 gi_loopw [7, 8] (fun x7 x8 wr => ∃ (k : Nat) (ra : Option Addr) (rc : Nat) (ps : List Pr), x7 = .slice ra ps.length rc ∧ x8 = vI ((2 * k : Nat) : Int) ∧ 2 * k ≤ fs.length ∧ ps = prsF (fs.take (2 * k)) ∧ ps.length = k ∧ Inv B (Res.row 121 2 (.slice ra ps.length rc) ps.length (pairCells ps) :: Res.cell b6 [vI 0, vS [], vI 0, vN] 28 :: Res.cell b4 [vI y.stamp, .bool y.gone, vI y.expire, vI y.val.kind, vS y.val.text, .slice pa y.val.pairs.length pc, yt, yz] 86 :: Res.cell b2 [vP v, .slice aa args.length ac] 74 :: Res.cell v [.iface 63 (vP t)] 40 :: txR t m s p wb va vc sv clk es :: H) wr) (fun x7 x8 _ => fs.length - (intOf x8).toNat)
 case atStart => exact ⟨0, _, _, [], rfl, rfl, Nat.zero_le _, rfl, rfl, ((((((hv.front 5 rfl).front 5 rfl).front 5 rfl).front 5 rfl).front 5 rfl).front 5 rfl)⟩
 case round =>
  obtain ⟨k, ra, rc, ps, rfl, rfl, hk, hps, hpl, hv⟩ := hrel
  refine sK fun _ k14 => sK fun _ k15 => rL (uM rfl ?_)
  refine uG (vI ((2 * k + 1 : Nat) : Int)) rfl (ex_add rfl rfl rfl (by rw [i64_in (by omega)]; omega)) (uM rfl ?_)
  refine uG (vI (fs.length : Int)) rfl (ex_len0 Tryz.underlying22 rfl rfl) ?_
  by_cases hb16 : ((2 * k + 1 : Nat) : Int) < (fs.length : Int)
  ·refine uG (.bool true) rfl (ex_lss rfl rfl rfl (qT hb16)) (uW k15 ?_)
   refine cT rfl (kS ?_)
   refine tK k14 (sK fun _ k17 => ?_)
   refine bB ?_
   obtain ⟨f, hf⟩ : ∃ x, fs[(2 * k : Nat)]? = some x := ⟨_, List.getElem?_eq_getElem (show (2 * k : Nat) < fs.length by omega)⟩
   obtain ⟨fb, fo, had, hrdf⟩ := text_reads hrf hf
   subst had
   obtain ⟨t9, ht9⟩ : ∃ x, fs[(2 * k + 1 : Nat)]? = some x := ⟨_, List.getElem?_eq_getElem (show (2 * k + 1 : Nat) < fs.length by omega)⟩
   obtain ⟨b9, o9, had9, hrdt9⟩ := text_reads hrf ht9
   cases had9
   refine rW mixed [11, 12] [0,1,2,3,4,5,6,7,8,9,10,11,12,13] 56 rfl (by kernel_rfl) hv ?_
   simp only [qm, opAt]
   refine dM (.slice ra ps.length rc) rfl (dM (.slice (some ⟨fb, fo, none⟩) fs.length fc) rfl ?_)
   refine dM (vI ((2 * k : Nat) : Int)) rfl ?_
   simp only [zP, po]
   refine dG (.pointer (some ⟨fb, fo + (2 * k : Nat), none⟩)) rfl (ex_index rfl rfl rfl (run_idx1 (k := (2 * k : Nat)) Tryz.underlying22 s9es22 (by omega))) (dL _ rfl (fun hv => ex_load rfl rfl (run_load1 h1na9 (hrdf _ _ _ (Base.Le.refl _) no_res hv 0 _ rfl))) ?_)
   refine dM (.slice (some ⟨fb, fo, none⟩) fs.length fc) rfl ?_
   simp only [zP, po]
   refine dM (vI ((2 * k : Nat) : Int)) rfl (dG (vI ((2 * k + 1 : Nat) : Int)) rfl (ex_add rfl rfl rfl (by rw [i64_in (by omega)]; omega)) ?_)
   refine dG (.pointer (some ⟨fb, fo + (2 * k + 1 : Nat), none⟩)) rfl (ex_index rfl rfl rfl (run_idx1 (k := (2 * k + 1 : Nat)) Tryz.underlying22 s9es22 (by omega))) ?_
   simp only [zP, po]
   refine dL _ rfl (fun hv => ex_load rfl rfl (run_load1 h1na9 (hrdt9 _ _ _ (Base.Le.refl _) no_res hv 0 _ rfl))) (dG (.agg #[vS f, vS t9]) rfl (ex_buildN (vs := #[(0, vS f), (1, vS t9)]) rfl (by simp only [List.map_toArray, List.map_cons, List.map_nil]; rfl) (by kernel_rfl)) ?_)
   refine dS rfl fun w18 hv => mem_rowAgg (L := [vS f, vS t9]) rfl rfl rfl hv h8el76 rfl (by decide) (fun b19 w20 hv => ?_)
   refine dW hv ?_
   simp only [zP, po]
   refine dS rfl fun w21 hv => ?_
   replace hv := hv.front 1 rfl
   simp only [eS, eZ] at hv
   refine mem_append (news := [vS f, vS t9]) rfl rfl rfl rfl h8el76 hv (ok_full (by omega)) rfl (rd_all (hv.get 1 rfl)) (by intro u hu; simp only [List.mem_cons, List.not_mem_nil, or_false] at hu; rcases hu with rfl | rfl <;> rfl) (by unfold maxLen; omega) (by omega) (fun rv22 w25 hv => ?_)
   obtain ⟨ra23, rc24, rfl⟩ := row_slice hv.head
   refine dW hv (dA (.slice ra23 (ps.length + 1) rc24) rfl ?_)
   refine dE fun w26 hv => ?_
   simp only [zP, po]
   refine bN (tK k17 ?_)
   refine rL (uM rfl ?_)
   refine uG (vI ((2 * (k + 1) : Nat) : Int)) rfl (ex_add rfl rfl rfl (by rw [i64_in (by omega)]; omega)) (uA rfl ?_)
   refine uZ (then_normal ?_)
   go_roundw
   case rel => exact ⟨k + 1, _, _, ps ++ [(f, t9)], by rw [List.length_append, List.length_singleton], rfl, by omega, by rw [hps, prsF_next hf ht9], by rw [List.length_append, List.length_singleton, hpl], by rw [List.length_append, List.length_singleton, pairCells_app]; exact (hv.kp [6, 6, 6, 6, 6, 5] 6 1)⟩
   case measure => show fs.length - ((2 * (k + 1) : Nat) : Int).toNat < fs.length - ((2 * k : Nat) : Int).toNat; omega
  refine uG (.bool false) rfl (ex_lss rfl rfl rfl (qF hb16)) (uW k15 ?_)
  refine cF rfl (xE ?_)
  refine tX (tX ?_)
  refine bH (tK k11 ?_)
  refine sK fun _ k27 => rL (uF (.pointer (some ⟨b4, 3, none⟩)) rfl (x2fa86_3 _ _ _) ?_)
  refine uF (.pointer (some ⟨b4, 5, none⟩)) rfl (s1fa79_2 _ _ _) ?_
  refine uL _ rfl (run_load1 s1na76 (hv.load 2 5 rfl rfl)) (uM rfl ?_)
  obtain ⟨D, hD, hv, hrq, -, -⟩ := hv.rowBy
  have hpe : prsF fs = ps := by rw [hps]; exact prsF_end (by omega) (by omega)
  refine xC h8callable73 rfl ((hashSet D _ _ pa pc y.val.pairs hokp (hrp.more hD (fun _ h => h)) hyv.pm hso ra rc ps hrq (by omega) hv).mono ?_) rfl
  rintro e w28 ⟨F, oa, oc, out, n, e2, hF, rfl, hoko, hro, hset, hv⟩
  refine ⟨_, rfl, ?_⟩
  rw [← hpe] at hset
  have hol : out.length ≤ 1000000 := by
   rcases hset with ⟨-, rfl, -⟩ | ⟨-, -, -, h9, -⟩
   ·exact Nat.zero_le _
   omega
  refine uM rfl (uE rfl ?_)
  refine uE rfl (uE rfl ?_)
  refine uA rfl (uA rfl ?_)
  refine uA rfl (uW k27 ?_)
  refine sK fun _ k29 => sK fun _ k30 => rL (uM rfl ?_)
  by_cases hb31 : e2 ≠ 0
  ·refine uG (.bool true) rfl (ex_neq rfl rfl rfl (qT hb31)) (uW k30 ?_)
   refine cT rfl (sK fun _ k32 => ?_)
   refine rL (uM rfl ?_)
   refine xC rscallable24 rfl ((viewWrong F _ _ e2 hv).mono ?_) rfl
   rintro e w34 ⟨s33, rfl, hv⟩
   refine ⟨_, rfl, ?_⟩
   refine xS 0 rfl hv rssz28 rfl (by exact ⟨rfl, rfl, rfl, rfl, trivial⟩) (fun w35 hv => ?_)
   simp only [zO, sp] at hv
   refine uW k32 (rR ?_)
   refine tR (bC 0 rswd28 hv rfl rfl rfl rfl ?_)
   exact ⟨F, es, M, rFault s33, rpCells 1 s33 0 (vN), (hD.trans hF), rfl, rpAt_leaf, hM.more (hD.trans hF), ⟨out, n, e2, hset, .inl ⟨hb31, rfl, rfl⟩⟩, (hv.kp [4, 4] 2 3)⟩
  refine uG (.bool false) rfl (ex_neq rfl rfl rfl (qF hb31)) (uW k30 ?_)
  refine cF rfl (kS ?_)
  refine tK k29 (sK fun _ k36 => ?_)
  refine rL (uL (.agg #[vP v, .slice aa args.length ac]) rfl (lM 2 h8wd74 hv rfl rfl rfl rfl) ?_)
  refine uL (.agg #[vI y.stamp, .bool y.gone, vI y.expire, vI y.val.kind, vS y.val.text, .slice pa y.val.pairs.length pc, yt, yz]) rfl (lM 1 x0wd86 hv rfl rfl rfl rfl) (uM rfl ?_)
  replace hv := hv.front 4 rfl
  simp only [eS, eZ] at hv
  replace hv := hv.front 4 rfl
  simp only [eS, eZ] at hv
  refine xC h8callable47 rfl ((chashKeep F _ _ v t m s p wb va vc sv clk es M (hM.more (hD.trans hF)) aa ac args (hra.more (hD.trans hF) (fun _ h => h)) hoka (by omega) key hkey y pa pc _ _ (hyv.more (hD.trans hF)) oa oc out (hro.more (Base.Le.refl _) (fun _ h => h)) hoko (by omega) hv).mono ?_) rfl
  rintro e w37 ⟨G, es', M', e3, hG, rfl, hM', hkp, hv⟩
  refine ⟨_, rfl, uM rfl ?_⟩
  refine xC h8callable44 rfl ((respInt G _ _ n hv).mono ?_) rfl
  rintro e w38 ⟨rfl, hv⟩
  refine ⟨_, rfl, ?_⟩
  simp only [zP, po]
  refine xC h8callable46 rfl ((viewDone G _ _ e3 2 n ([] : List UInt8) (vN) rfl rfl hv).mono ?_) rfl
  rintro e w39 ⟨xr, hxr, rfl, hv⟩
  refine ⟨_, rfl, ?_⟩
  rcases hxr with ⟨hec0, rfl⟩ | ⟨hec0, s40, rfl⟩
  ·refine xS 2 rfl hv rssz28 rfl (by exact ⟨rfl, rfl, rfl, rfl, trivial⟩) (fun w41 hv => ?_)
   simp only [zS, zO, sp] at hv
   refine uW k36 (rR ?_)
   refine bC 2 rswd28 hv rfl rfl rfl rfl (⟨G, es', M', rInt n, rpCells 2 [] n (vN), ((hD.trans hF).trans hG), rfl, rpAt_leaf, hM'.more (Base.Le.refl _), ⟨out, n, e2, hset, .inr ⟨by omega, e3, hkp, .inl ⟨by omega, rfl⟩⟩⟩, (hv.kp [1, 1] 2 3)⟩)
  refine xS 2 rfl hv rssz28 rfl (by exact ⟨rfl, rfl, rfl, rfl, trivial⟩) (fun w42 hv => ?_)
  simp only [zS, zO, sp] at hv
  refine uW k36 (rR ?_)
  refine bC 2 rswd28 hv rfl rfl rfl rfl (⟨G, es', M', rFault s40, rpCells 1 s40 0 (vN), ((hD.trans hF).trans hG), rfl, rpAt_leaf, hM'.more (Base.Le.refl _), ⟨out, n, e2, hset, .inr ⟨by omega, e3, hkp, .inr ⟨by omega, rfl⟩⟩⟩, (hv.kp [1, 1] 2 3)⟩)
theorem NumP.uniq {s : List UInt8} {n m : Int} {b c : Bool} (h : NumP s n b) (h2 : NumP s m c) : n = m ∧ b = c := by
 rcases h with ⟨rfl, h0, h1, rfl⟩ | ⟨rfl, rfl, h⟩
 ·rcases h2 with ⟨rfl, k0, k1, e⟩ | ⟨rfl, rfl, h2⟩
  ·have := parse_itoa n h0 h1
   rw [e, parse_itoa m k0 k1] at this
   cases this; exact ⟨rfl, rfl⟩
  exact absurd rfl (h2 n h0 h1)
 rcases h2 with ⟨rfl, k0, k1, e⟩ | ⟨rfl, rfl, h2⟩
 ·exact absurd e (h m k0 k1)
 exact ⟨rfl, rfl⟩
theorem itoa_small (n : Nat) (h : n ≤ 9) : Lib.itoa (n : Int) = [UInt8.ofNat (48 + n)] := by
 unfold Lib.itoa
 rw [if_neg (by omega), Lib.decDigits, dif_pos (by omega), Int.toNat_natCast]
theorem PageR.next {n fr to nx ec : Int} {args : List (List UInt8)} {mt : List UInt8} (h : PageR n args fr to nx mt ec) (h0 : ec = 0) : 0 ≤ nx ∧ nx ≤ max n 0 := by
 have hb := h.bounds h0
 rcases h with ⟨h1, -⟩ | ⟨a0, rest, -, ⟨h1, -⟩ | ⟨t0, t1, b0, b1, -, ⟨h1, -⟩ | ⟨k, c, -, -, ⟨h1, -⟩ | ⟨-, h1, h2, -, h3, h4, h5⟩⟩⟩⟩
 all_goals first | omega | (rw [h5]; split <;> omega)
theorem optTo_mem {args : List (List UInt8)} {i : Nat} {t0 t1 : List UInt8} {b0 b1 : Bool} (h : OptTo args i t0 t1 b0 b1) : (t0 = [] ∨ t0 ∈ args) ∧ (t1 = [] ∨ t1 ∈ args) := by
 induction h with
 | zero => exact ⟨.inl rfl, .inl rfl⟩
 | m h1 h2 h3 h4 ih => exact ⟨.inr (List.mem_of_getElem? h3), ih.2⟩
 | c h1 h2 h3 h4 h5 ih => exact ⟨ih.1, .inr (List.mem_of_getElem? h3)⟩
theorem PageR.short {n fr to nx ec : Int} {args : List (List UInt8)} {mt : List UInt8} (h : PageR n args fr to nx mt ec) (h0 : ec = 0) (ha : ∀ x ∈ args, x.length ≤ 1000000) : mt.length ≤ 1000000 := by
 rcases h with ⟨h1, -⟩ | ⟨a0, rest, he, ⟨h1, -⟩ | ⟨t0, t1, b0, b1, ho, ⟨h1, -⟩ | ⟨k, c, -, -, ⟨h1, -⟩ | ⟨-, -, -, rfl, -⟩⟩⟩⟩
 ·omega
 ·omega
 ·omega
 ·omega
 rcases ho with ⟨h1, -⟩ | ⟨-, -, ho⟩
 ·omega
 split
 ·rcases (optTo_mem ho).1 with rfl | h
  ·simp
  exact ha _ (by rw [he]; exact List.mem_cons_of_mem _ h)
 simp
theorem pr_drop : ∀ (l : List Pr) (i : Nat), (pairCells l).drop (i * 2) = pairCells (l.drop i)
 | l, 0 => by rw [Nat.zero_mul]; rfl
 | [], i + 1 => by rw [List.drop_nil]; rfl
 | p :: l, i + 1 => by rw [show (i + 1) * 2 = i * 2 + 2 by omega]; exact pr_drop l i
theorem pr_take : ∀ (l : List Pr) (i : Nat), (pairCells l).take (i * 2) = pairCells (l.take i)
 | l, 0 => by rw [Nat.zero_mul]; rfl
 | [], i + 1 => by rw [List.take_nil]; exact List.take_nil
 | p :: l, i + 1 => by
  rw [show (i + 1) * 2 = i * 2 + 2 by omega]
  show strV p.1 :: strV p.2 :: (pairCells l).take (i * 2) = _
  rw [pr_take l i]; rfl
theorem of_nil_pairs {clk ec : Int} {key : List UInt8} {y : Ver} {lo k i : Nat} {mid : List Pr} (hi : i < mid.length) (hmid : mid = (y.val.pairs.drop lo).take k) : ¬ OfI [] clk key 2 y ec := fun h => by
 have hz : y = zver0 := by
  rcases h with ⟨-, h, -⟩ | ⟨-, h, -⟩ | ⟨-, h1, -⟩
  ·exact h
  ·exact h
  cases h1
 rw [hmid, hz] at hi
 simp [zver0] at hi
theorem short_pairs {M : List (List UInt8 × Ver)} {clk ec : Int} {key : List UInt8} {x : Pr} {y : Ver} {lo k i : Nat} {mid : List Pr} (hO : OkM M) (hof : OfI M clk key 2 y ec) (hmid : mid = (y.val.pairs.drop lo).take k) (hx : mid[i]? = some x) : x.1.length ≤ 4096 :=
 ((hashOk_iff.1 (hO.hash hof)).2.1 x (List.mem_of_mem_drop (List.mem_of_mem_take (hmid ▸ List.mem_of_getElem? hx)))).1
theorem ints_one {t : List UInt8} {ns : List Int} {ec : Int} (h : IntsR [t] ns ec) : (ec = 0 ∧ ∃ n, ns = [n] ∧ NumP t n true) ∨ (ec = 41 ∧ ns = [] ∧ NumP t 0 false) := by
 rcases h with ⟨h1, h2, h3⟩ | ⟨h1, h2, t2, h3, h4⟩
 ·match ns, h2 with
  | [n], _ => exact .inl ⟨h1, n, rfl, h3 0 t n rfl rfl⟩
 rw [List.mem_singleton.1 h3] at h4; exact .inr ⟨h1, h2, h4⟩
theorem hashGetO (B : Base) (H : List Res) (w : World) (ad : Option Addr) (c : Nat) (h : List Pr) (f : List UInt8) (hr : RdV B [] ad (pairCells h)) (hs : SortedH h) (hm : h.length ≤ 1000000) (hv : Inv B H w) : Calls Tryz.prog 43 #[.slice ad h.length c, strV f] w fun e w' => ∃ s0 has, e = .returned (.tuple #[strV s0, .bool has]) ∧ ((has = true ∧ getH h f = some s0) ∨ (has = false ∧ s0 = [] ∧ getH h f = none)) ∧ Inv B H w' := by
 refine (hashGet B H w ad c h f [] (fun r9 h9 => absurd h9 List.not_mem_nil) (hr.rdW []) hs hm hv).mono ?_
 rintro e w' ⟨rfl, hv⟩
 cases hg : getH h f with
 | none => exact ⟨_, _, rfl, .inr ⟨rfl, rfl, rfl⟩, hv⟩
 | some t => exact ⟨_, _, rfl, .inl ⟨rfl, rfl⟩, hv⟩
theorem h9al28 : AL Tryz.prog 28 [vI 0, vS [], vI 0, vN] := fun w => by kernel_rfl
theorem h9callable41 : Callable Tryz.prog 41 := cb Tryz.func41 (by kernel_rfl)
theorem h9al86 : AL Tryz.prog 86 [vI 0, .bool false, vI 0, vI 0, vS [], vN, vN, vN] := fun w => by kernel_rfl
theorem h9callable67 : Callable Tryz.prog 67 := cb Tryz.func67 (by kernel_rfl)
theorem h9al143 : AL Tryz.prog 143 [vI 0, vI 0, vI 0, vS []] := fun w => by kernel_rfl
theorem h9al121 : AL Tryz.prog 121 [vS [], vS []] := fun w => by kernel_rfl
theorem h9callable68 : Callable Tryz.prog 68 := cb Tryz.func68 (by kernel_rfl)
theorem h9mk121 : (Tryz.prog.info? 121).map (fun i => (i.zero, i.size, i.bytes)) = some (some (.agg #[vS [], vS []]), 2, 32) := by kernel_rfl
theorem h9el76 : Elem Tryz.prog 76 121 (.agg #[vS [], vS []]) 2 32 := elem_of Tryz.underlying76 h9mk121 (by rfl) (by decide)
theorem h9callable51 : Callable Tryz.prog 51 := cb Tryz.func51 (by kernel_rfl)
theorem h9callable50 : Callable Tryz.prog 50 := cb Tryz.func50 (by kernel_rfl)
theorem h9callable49 : Callable Tryz.prog 49 := cb Tryz.func49 (by kernel_rfl)
theorem chashScan (B : Base) (H : List Res) (w : World) (v t m s p wb : Nat) (va : Option Addr) (vc : Nat) (sv : Value) (clk : Int) (es : List (List UInt8 × Value)) (M : List (List UInt8 × Ver)) (hM : VM B es M) (hO : OkM M) (aa : Option Addr) (ac : Nat) (args : List (List UInt8)) (hra : RdV B [] aa (textCells args)) (hoka : SliceOk aa args.length ac) (_ : args.length ≤ 10000) (key : List UInt8) (hkey : args[0]? = some key) (xa : Option Addr) (xc : Nat) (xs : List (List UInt8)) (hokx : SliceOk xa xs.length xc) (hrx : RdV B [] xa (textCells xs)) (hmx : xs.length ≤ 10000) (hxl : ∀ x ∈ xs, x.length ≤ 9223372036854775807) (hsm : (∀ x ∈ xs, x.length ≤ 1000000) ∨ M = []) (hN : NumB B) (hv : Inv B (Res.cell v [.iface 63 (vP t)] 40 :: txR t m s p wb va vc sv clk es :: H) w) :
  Calls Tryz.prog 39 #[.agg #[vP v, .slice aa args.length ac], .slice xa xs.length xc] w fun e w' => ∃ C es' M' r cs, B.Le C ∧ e = .returned (.agg cs.toArray) ∧ RpAt C r cs ∧ VM C es' M' ∧ CmdR M M' r ∧ Inv C (Res.cell v [.iface 63 (vP t)] 40 :: txR t m s p wb va vc sv clk es' :: H) w' := by
 refine cW Tryz.func39 rfl Tryz.ntmps39 ?_
 simp only [al]
 refine sK fun _ k1 => ?_
 have hal := (List.getElem?_eq_some_iff.1 hkey).1
 obtain ⟨ab, ao, had, hrdkey⟩ := text_reads hra hkey
 subst had
 refine rL (sl_box (L := [vP v, .slice (some ⟨ab, ao, none⟩) args.length ac]) tV (wn rfl) rfl rfl hv (fun w => by kernel_rfl) (fun b2 w3 hv => ?_))
 refine sl_alloc tV (wn rfl) rfl hv h9al28 (fun b4 w5 hv => ?_)
 refine uW k1 (sK fun _ k6 => ?_)
 refine rT mixed (fun az wz => ∃ (C : Base) (y : Ver) (yp yt yz : Value) (ec : Int) (b13 : Nat), (B.Le C) ∧ (ValAt C y.val yp yt yz) ∧ (OfI M clk key 2 y ec) ∧ az = { tmps := List.toArray (.agg #[vP v, .slice (some ⟨ab, ao, none⟩) args.length ac] :: .slice xa xs.length xc :: vP b2 :: undef :: vP b4 :: vP b13 :: vI ec :: undef :: undef :: undef :: undef :: undef :: .tuple #[.agg #[vI y.stamp, .bool y.gone, vI y.expire, vI y.val.kind, vS y.val.text, yp, yt, yz], vI ec] :: vP b2 :: vP v :: .pointer (some ⟨b2, 1, none⟩) :: .slice (some ⟨ab, ao, none⟩) args.length ac :: .pointer (some ⟨ab, ao + 0, none⟩) :: vS key :: .tuple #[.agg #[vI y.stamp, .bool y.gone, vI y.expire, vI y.val.kind, vS y.val.text, yp, yt, yz], vI ec] :: .agg #[vI y.stamp, .bool y.gone, vI y.expire, vI y.val.kind, vS y.val.text, yp, yt, yz] :: vI ec :: undef :: undef :: undef :: undef :: undef :: undef :: undef :: undef :: undef :: undef :: undef :: undef :: undef :: undef :: undef :: undef :: undef :: undef :: undef :: undef :: undef :: undef :: undef :: undef :: undef :: undef :: undef :: undef :: undef :: undef :: undef :: undef :: undef :: undef :: undef :: undef :: undef :: undef :: undef :: undef :: undef :: undef :: undef :: undef :: undef :: undef :: undef :: undef :: []), defers := [] } ∧ Inv C (Res.cell b13 [vI y.stamp, .bool y.gone, vI y.expire, vI y.val.kind, vS y.val.text, yp, yt, yz] 86 :: Res.cell v [.iface 63 (vP t)] 40 :: txR t m s p wb va vc sv clk es :: Res.cell b4 [vI 0, vS [], vI 0, vN] 28 :: Res.cell b2 [vP v, .slice (some ⟨ab, ao, none⟩) args.length ac] 74 :: H) wz) [6, 10, 11] [0,1,2,3,4,5] [7,8,9,10,11,12] [6,7,8,9,11,12] 6 10 70 rfl (by kernel_rfl) hv ?_ ?_
 ·intro R2 l1 l2 hR2 hl1 hl2
  simp only [qm, opAt]
  refine tG (vP b2) rfl (ex_field rfl rfl (h8fa74_0 _ _ _)) (tF (vP v) rfl (fun hv => ex_load rfl rfl (run_load1 h8na24 (hv.load 1 0 rfl rfl))) fun f7 hf7 => ?_)
  simp only [zP, po]
  refine tG (.pointer (some ⟨b2, 1, none⟩)) rfl (ex_field rfl rfl (h8fa74_1 _ _ _)) (tF (.slice (some ⟨ab, ao, none⟩) args.length ac) rfl (fun hv => ex_load rfl rfl (run_load1 s1na22 (hv.load 1 1 rfl rfl))) fun f8 hf8 => ?_)
  simp only [zP, po]
  refine tG (.pointer (some ⟨ab, ao + 0, none⟩)) rfl (ex_index rfl rfl rfl (run_idx1 (k := 0) Tryz.underlying22 s9es22 (by omega))) (tF (vS key) rfl (fun hv => ex_load rfl rfl (run_load1 h1na9 (hrdkey _ _ _ (Base.Le.refl _) no_res hv 0 _ rfl))) fun f9 hf9 => ?_)
  simp only [zP, po]
  refine tB ?_ ?_
  ·rw [hl1]; clear hl1 hl2
   simp only [qm, opAt]
   refine dS rfl fun w10 hv => ?_
   replace hv := hv.front 3 rfl
   simp only [eS, eZ] at hv
   replace hv := hv.front 3 rfl
   simp only [eS, eZ] at hv
   refine mC h9callable41 rfl ((viewOf B _ _ v t m s p wb va vc sv clk es M key 2 (hM.more (Base.Le.refl _)) hv).mono ?_) rfl
   rintro e w11 ⟨C, y, yp, yt, yz, ec, hC, rfl, hyv, hof, hv⟩
   refine ⟨_, rfl, dV hv (fK rfl (fK rfl (fK rfl fN))) ?_⟩
   refine dM (.tuple #[.agg #[vI y.stamp, .bool y.gone, vI y.expire, vI y.val.kind, vS y.val.text, yp, yt, yz], vI ec]) rfl (dG (.agg #[vI y.stamp, .bool y.gone, vI y.expire, vI y.val.kind, vS y.val.text, yp, yt, yz]) rfl (ex_extract rfl rfl rfl) ?_)
   simp only [zP, po]
   refine dG (vI ec) rfl (ex_extract rfl rfl rfl) (dS rfl fun w12 hv => ?_)
   refine mem_alloc rfl rfl hv h9al86 (fun b13 w14 hv => ?_)
   refine dV hv (fC (fun ww hv => hf9 ww (ex_load rfl rfl (run_load1 h1na9 (hrdkey _ _ _ hC no_res hv 0 _ rfl)))) (fC (fun ww hv => hf8 ww (ex_load rfl rfl (run_load1 s1na22 (hv.load 4 1 rfl rfl)))) (fC (fun ww hv => hf7 ww (ex_load rfl rfl (run_load1 h8na24 (hv.load 4 0 rfl rfl)))) fN))) (dS rfl fun w15 hv => ?_)
   refine mS 0 rfl hv x0sz86 rfl (by exact ⟨rfl, rfl, rfl, rfl, rfl, hyv.p.one, hyv.t.one, hyv.z.one, trivial⟩) (fun w16 hv => ?_)
   simp only [zO, sp] at hv
   refine dV hv (fK rfl (fK rfl (fK rfl fN))) ?_
   simp only [zP, po]
   refine dA (vI ec) rfl (dE fun wz hv => ?_)
   simp only [zP, po]
   exact hR2 _ _ ⟨C, y, yp, yt, yz, ec, b13, hC, hyv, hof, rfl, (((((hv.front 4 rfl).front 4 rfl).front 4 rfl).front 4 rfl).front 4 rfl)⟩
  rw [hl2]; clear hl1 hl2
  simp only [qm, opAt]
  refine dS rfl fun w17 hv => mem_alloc rfl rfl hv h9al86 (fun b18 w19 hv => ?_)
  refine dV hv (fC (fun ww hv => hf9 ww (ex_load rfl rfl (run_load1 h1na9 (hrdkey _ _ _ (Base.Le.refl _) no_res hv 0 _ rfl)))) (fC (fun ww hv => hf8 ww (ex_load rfl rfl (run_load1 s1na22 (hv.load 2 1 rfl rfl)))) (fC (fun ww hv => hf7 ww (ex_load rfl rfl (run_load1 h8na24 (hv.load 2 0 rfl rfl)))) fN))) (dS rfl fun w20 hv => ?_)
  replace hv := hv.front 4 rfl
  simp only [eS, eZ] at hv
  replace hv := hv.front 4 rfl
  simp only [eS, eZ] at hv
  refine mC h9callable41 rfl ((viewOf B _ _ v t m s p wb va vc sv clk es M key 2 (hM.more (Base.Le.refl _)) hv).mono ?_) rfl
  rintro e w21 ⟨C, y, yp, yt, yz, ec, hC, rfl, hyv, hof, hv⟩
  refine ⟨_, rfl, dV hv (fK rfl (fK rfl (fK rfl fN))) ?_⟩
  refine dM (.tuple #[.agg #[vI y.stamp, .bool y.gone, vI y.expire, vI y.val.kind, vS y.val.text, yp, yt, yz], vI ec]) rfl ?_
  simp only [zP, po]
  refine dG (.agg #[vI y.stamp, .bool y.gone, vI y.expire, vI y.val.kind, vS y.val.text, yp, yt, yz]) rfl (ex_extract rfl rfl rfl) (dG (vI ec) rfl (ex_extract rfl rfl rfl) ?_)
  refine dS rfl fun w22 hv => mS 2 rfl hv x0sz86 rfl (by exact ⟨rfl, rfl, rfl, rfl, rfl, hyv.p.one, hyv.t.one, hyv.z.one, trivial⟩) (fun w23 hv => ?_)
  simp only [zS, zO, sp] at hv
  refine dV hv (fK rfl (fK rfl (fK rfl fN))) ?_
  simp only [zP, po]
  refine dA (vI ec) rfl (dE fun wz hv => ?_)
  simp only [zP, po]
  exact hR2 _ _ ⟨C, y, yp, yt, yz, ec, b18, hC, hyv, hof, rfl, (((((hv.front 4 rfl).front 4 rfl).front 3 rfl).front 3 rfl).front 4 rfl)⟩
 rintro _ w24 ⟨C, y, yp, yt, yz, ec, b13, hC, hyv, hof, rfl, hv⟩
 obtain ⟨pa, pc, sa, sc, za, zc, rfl, rfl, rfl, hokp, hrp, hoks, hrs, hokz, hrz⟩ := valAt_open hyv
 refine tK k6 (sK fun _ k25 => ?_)
 refine rL (uF (.pointer (some ⟨b13, 3, none⟩)) rfl (x2fa86_3 _ _ _) ?_)
 refine uF (.pointer (some ⟨b13, 5, none⟩)) rfl (s1fa79_2 _ _ _) ?_
 refine uL _ rfl (run_load1 s1na76 (hv.load 0 5 rfl rfl)) ?_
 refine uG (vI (y.val.pairs.length : Int)) rfl (ex_len0 Tryz.underlying76 rfl rfl) (uM rfl ?_)
 refine xC h9callable67 rfl ((viewPages C _ _ y.val.pairs.length (by omega) (by have := hyv.pm; omega) xa xc xs (hrx.more hC (fun _ h => h)) (by omega) hxl hokx (hN.more hC) hv).mono ?_) rfl
 rintro e w26 ⟨pf, pt, pn, mt, pe, rfl, hpg, hv⟩
 refine ⟨_, rfl, uM rfl ?_⟩
 refine uE rfl (uE rfl ?_)
 refine sl_alloc tV (wn rfl) rfl hv h9al143 (fun b27 w28 hv => ?_)
 refine xS 0 rfl hv v8sz143 rfl (by exact ⟨rfl, rfl, rfl, rfl, trivial⟩) (fun w29 hv => ?_)
 simp only [zO, sp] at hv
 refine uA rfl (uW k25 ?_)
 refine sK fun _ k30 => sK fun _ k31 => rL (uM rfl ?_)
 by_cases hb32 : pe ≠ 0
 ·refine uG (.bool true) rfl (ex_neq rfl rfl rfl (qT hb32)) (uW k31 ?_)
  refine cT rfl (sK fun _ k33 => ?_)
  refine rL (uM rfl ?_)
  refine xC rscallable24 rfl ((viewWrong C _ _ pe hv).mono ?_) rfl
  rintro e w35 ⟨s34, rfl, hv⟩
  refine ⟨_, rfl, ?_⟩
  refine xS 4 rfl hv rssz28 rfl (by exact ⟨rfl, rfl, rfl, rfl, trivial⟩) (fun w36 hv => ?_)
  simp only [zS, zO, sp] at hv
  refine uW k33 (rR ?_)
  refine tR (bC 4 rswd28 hv rfl rfl rfl rfl ?_)
  exact ⟨C, es, M, (.mk 1 s34 0 []), _, hC, rfl, rpAt_leaf, hM.more hC, ⟨hO, fun _ => rfl⟩, (hv.kp [3, 3] 2 4)⟩
 refine uG (.bool false) rfl (ex_neq rfl rfl rfl (qF hb32)) (uW k31 ?_)
 refine cF rfl (kS ?_)
 refine tK k30 (sK fun _ k37 => ?_)
 refine sK fun _ k38 => rL (uM rfl ?_)
 by_cases hb39 : ec ≠ 0
 ·refine uG (.bool true) rfl (ex_neq rfl rfl rfl (qT hb39)) (uW k38 ?_)
  refine cT rfl (sK fun _ k40 => ?_)
  refine rL (uM rfl ?_)
  refine xC rscallable24 rfl ((viewWrong C _ _ ec hv).mono ?_) rfl
  rintro e w42 ⟨s41, rfl, hv⟩
  refine ⟨_, rfl, ?_⟩
  refine xS 4 rfl hv rssz28 rfl (by exact ⟨rfl, rfl, rfl, rfl, trivial⟩) (fun w43 hv => ?_)
  simp only [zS, zO, sp] at hv
  refine uW k40 (rR ?_)
  refine tR (bC 4 rswd28 hv rfl rfl rfl rfl ?_)
  exact ⟨C, es, M, (.mk 1 s41 0 []), _, hC, rfl, rpAt_leaf, hM.more hC, ⟨hO, fun _ => rfl⟩, (hv.kp [3, 3] 2 4)⟩
 refine uG (.bool false) rfl (ex_neq rfl rfl rfl (qF hb39)) (uW k38 ?_)
 refine cF rfl (kS ?_)
 refine tK k37 (sK fun _ k44 => ?_)
 refine rL (uA rfl ?_)
 refine uW k44 (sK fun _ k45 => ?_)
 refine sK fun _ k46 => ?_
 have hpm := hyv.pm
 obtain ⟨hpf0, hpft, hptn⟩ := hpg.bounds (by omega)
 obtain ⟨lo, hlo⟩ : ∃ n : Nat, pf = (n : Int) := ⟨pf.toNat, by omega⟩
 obtain ⟨hi, hhi⟩ : ∃ n : Nat, pt = (n : Int) := ⟨pt.toNat, by omega⟩
 obtain ⟨a5, c5, ha5, ok5, hr5⟩ := sliced_midV 2 hokp hrp (pairCells_len _) (show lo ≤ hi by omega) (show hi ≤ y.val.pairs.length by omega) (by decide)
 rw [pr_drop, pr_take] at hr5
 obtain ⟨mid, hmid⟩ : ∃ l, l = (y.val.pairs.drop lo).take (hi - lo) := ⟨_, rfl⟩
 rw [← hmid] at hr5
 have hml : mid.length = hi - lo := by rw [hmid, List.length_take, List.length_drop]; omega
 rw [← hml] at ok5 ha5
 have hml2 : mid.length ≤ 1000000 := by omega
 have hpn := hpg.next (by omega)
 refine rL (uF (.pointer (some ⟨b13, 3, none⟩)) rfl (x2fa86_3 _ _ _) ?_)
 refine uF (.pointer (some ⟨b13, 5, none⟩)) rfl (s1fa79_2 _ _ _) ?_
 refine uL _ rfl (run_load1 s1na76 (hv.load 1 5 rfl rfl)) ?_
 refine uF (vP b27) rfl (v8fa143_0 _ _ _) ?_
 refine uL _ rfl (run_load1 s2na3 (hv.load 0 0 rfl rfl)) ?_
 refine uF (.pointer (some ⟨b27, 1, none⟩)) rfl (v8fa143_1 _ _ _) ?_
 refine uL _ rfl (run_load1 s2na3 (hv.load 0 1 rfl rfl)) ?_
 refine uG (.slice a5 mid.length c5) rfl (ex_slice (lo' := some (vI pf)) (hi' := some (vI pt)) rfl rfl (congrArg some rfl) (congrArg some rfl) rfl ((run_lhAnyI hlo hhi Tryz.underlying76 h1es76 (by omega) (by have := hokp.le; omega)).trans (by rw [ha5]))) ?_
 refine uG (vI (mid.length : Int)) rfl (ex_len0 Tryz.underlying76 rfl rfl) (uM rfl ?_)
 refine uW k46 (bB ?_)
 gi_loopw [48, 9] (fun x48 x9 wr => ∃ (i : Nat) (ft : List Pr) (fa : Option Addr) (fc : Nat), x48 = vI i ∧ x9 = .slice fa ft.length fc ∧ i ≤ mid.length ∧ ft.length ≤ i ∧ Inv C (Res.row 121 2 (.slice fa ft.length fc) ft.length (pairCells ft) :: Res.cell b27 [vI pf, vI pt, vI pn, vS mt] 143 :: Res.cell b13 [vI y.stamp, .bool y.gone, vI y.expire, vI y.val.kind, vS y.val.text, .slice pa y.val.pairs.length pc, .slice sa y.val.texts.length sc, .slice za y.val.zset.length zc] 86 :: Res.cell v [.iface 63 (vP t)] 40 :: txR t m s p wb va vc sv clk es :: Res.cell b4 [vI 0, vS [], vI 0, vN] 28 :: Res.cell b2 [vP v, .slice (some ⟨ab, ao, none⟩) args.length ac] 74 :: H) wr) (fun x48 x9 _ => mid.length - (intOf x48).toNat)
 case atStart => exact ⟨0, [], none, 0, rfl, rfl, Nat.zero_le _, Nat.zero_le _, (((((((hv.front 5 rfl).front 5 rfl).front 5 rfl).front 5 rfl).front 5 rfl).front 5 rfl)).rowNil 121 2⟩
 case round =>
  obtain ⟨i, ft, fa, fc, rfl, rfl, hi9, hfl, hv⟩ := hrel
  refine sK fun _ k48 => rL ?_
  by_cases hb49 : (i : Int) < (mid.length : Int)
  ·refine uG (.bool true) rfl (ex_lss rfl rfl rfl (qT hb49)) (uW k48 ?_)
   refine sK fun _ k50 => cT rfl (kS ?_)
   refine tK k50 (sK fun _ k51 => ?_)
   refine bB (sK fun _ k52 => ?_)
   obtain ⟨x, hx⟩ : ∃ x, mid[i]? = some x := ⟨_, List.getElem?_eq_getElem (show i < mid.length by omega)⟩
   obtain ⟨mb, mo, had, hrdx⟩ := pair_reads hr5 hx
   subst had
   refine rL (uG (.pointer (some ⟨mb, mo + i * 2, none⟩)) rfl (ex_index rfl rfl rfl (run_idx (k := i) Tryz.underlying76 h1es76 (by omega))) ?_)
   refine uL (.agg #[vS x.1, vS x.2]) rfl (run_loadR (cs := [vS x.1, vS x.2]) s10wd121 (Reads.mid (pre := []) (mid := [vS x.1, vS x.2]) (post := []) hrdx _ _ _ (Base.Le.refl _) no_res hv)) ?_
   refine sl_alloc tV (wn rfl) rfl hv h9al121 (fun b53 w54 hv => ?_)
   simp only [zP, po]
   refine xS 0 rfl hv s10sz121 rfl (by exact ⟨rfl, rfl, trivial⟩) (fun w55 hv => ?_)
   simp only [zO, sp] at hv
   refine uW k52 (sK fun _ k56 => ?_)
   refine rL (uL (.agg #[vI pf, vI pt, vI pn, vS mt]) rfl (lM 2 v8wd143 hv rfl rfl rfl rfl) ?_)
   refine uF (vP b53) rfl (h1fa121_0 _ _ _) ?_
   refine uL _ rfl (run_load1 h1na9 (hv.load 0 0 rfl rfl)) ?_
   refine xC h9callable68 rfl ((pageFits C _ _ pf pt pn mt x.1 (hpg.short (by omega) (hsm.resolve_right (fun h9 => by rw [h9] at hof; exact absurd hof (by have := (List.getElem?_eq_some_iff.1 hx).1; exact of_nil_pairs this hmid)))) (by have := short_pairs hO hof hmid hx; omega) hv).mono ?_) rfl
   rintro e w58 ⟨bl57, rfl, -, hv⟩
   refine ⟨_, rfl, ?_⟩
   cases bl57
   ·refine uW k56 (cF rfl ?_)
    refine kS (bN ?_)
    refine tK k51 (rL ?_)
    refine uG (vI ((i + 1 : Nat) : Int)) rfl (ex_add rfl rfl rfl (by rw [i64_in (by omega)]; omega)) (uM rfl ?_)
    refine uZ (then_normal ?_)
    simp only [vP, vI, vS, vN]
    go_roundw
    case rel => exact ⟨i + 1, ft, fa, fc, rfl, rfl, by omega, by omega, (hv.kp [7, 7, 7, 7, 7, 7, 7] 7 1)⟩
    case measure => show mid.length - (((i + 1 : Nat) : Int)).toNat < mid.length - ((i : Int)).toNat; omega
   refine uW k56 (cT rfl ?_)
   refine rL (uM rfl ?_)
   refine uL (.agg #[vS x.1, vS x.2]) rfl (lM 0 s10wd121 hv rfl rfl rfl rfl) ?_
   refine sl_rowAgg (L := [vS x.1, vS x.2]) tV (wn rfl) rfl rfl hv h9el76 rfl (by decide) (fun b59 w60 hv => ?_)
   simp only [zP, po]
   replace hv := hv.front 2 rfl
   simp only [eS, eZ] at hv
   refine sl_append (news := [vS x.1, vS x.2]) tV (wn rfl) rfl rfl rfl h9el76 hv (ok_full (by omega)) rfl (rd_all (hv.get 1 rfl)) (by intro u hu; simp only [List.mem_cons, List.not_mem_nil, or_false] at hu; rcases hu with rfl | rfl <;> rfl) (by unfold maxLen; omega) (by omega) (fun rv61 w64 hv => ?_)
   obtain ⟨ra62, rc63, rfl⟩ := row_slice hv.head
   refine uA rfl (uZ ?_)
   refine bN (tK k51 ?_)
   refine rL (uG (vI ((i + 1 : Nat) : Int)) rfl (ex_add rfl rfl rfl (by rw [i64_in (by omega)]; omega)) ?_)
   refine uM rfl (uZ ?_)
   refine then_normal ?_
   simp only [vP, vI, vS, vN]
   go_roundw
   case rel => exact ⟨i + 1, ft ++ [x], _, _, rfl, by rw [List.length_append, List.length_singleton], by omega, by rw [List.length_append, List.length_singleton]; omega, by rw [List.length_append, List.length_singleton, pairCells_app]; exact (hv.kp [8, 8, 8, 8, 8, 8, 6] 7 2)⟩
   case measure => show mid.length - (((i + 1 : Nat) : Int)).toNat < mid.length - ((i : Int)).toNat; omega
  refine uG (.bool false) rfl (ex_lss rfl rfl rfl (qF hb49)) (uW k48 ?_)
  refine sK fun _ k65 => cF rfl (xE ?_)
  refine tX (tX ?_)
  refine bH (tK k45 ?_)
  refine sK fun _ k66 => ?_
  obtain ⟨E, hE, hv, hrf, hokf, -⟩ := hv.rowBy
  refine rL (uF (.pointer (some ⟨b27, 2, none⟩)) rfl (v8fa143_2 _ _ _) ?_)
  refine uL _ rfl (run_load1 s2na3 (hv.load 0 2 rfl rfl)) ?_
  refine xC pzcallable70 rfl ((numPrint E _ (hN E _ (hC.trans hE)).1 _ pn (by omega) (by omega) hv).mono ?_) rfl
  rintro e w67 ⟨rfl, hv⟩
  refine ⟨_, rfl, ?_⟩
  simp only [zP, po]
  refine xC h7callable69 rfl ((respStr E _ _ (Lib.itoa pn) hv).mono ?_) rfl
  rintro e w68 ⟨rfl, hv⟩
  refine ⟨_, rfl, uM rfl ?_⟩
  refine xC h9callable51 rfl ((chashFlat E _ _ fa fc ft hrf (by omega) hv).mono ?_) rfl
  rintro e w69 ⟨F, oa, oc, out, hF, rfl, hoko, hro, hout, hv⟩
  refine ⟨_, rfl, ?_⟩
  have hol : out.length ≤ 1000000 := by rw [hout, flatH_len]; have := (hashOk_iff.1 (hO.hash hof)).1; omega
  simp only [zP, po]
  refine xC h9callable50 rfl ((respStrsR F _ _ oa oc out (hro.more (Base.Le.refl _) (fun _ h => h)) (hol) hv).mono ?_) rfl
  rintro e w74 ⟨D70, da71, dc72, hD70, rfl, hrp73o, hrp73, hv⟩
  refine ⟨_, rfl, ?_⟩
  refine sl_rowN (pv := #[(0, .agg #[vI 3, vS (Lib.itoa pn), vI 0, vN]), (1, .agg #[vI 5, vS [], vI 0, .slice da71 out.length dc72])]) (L := [vI 3, vS (Lib.itoa pn), vI 0, vN, vI 5, vS [], vI 0, .slice da71 out.length dc72]) (e := 28) tV (wn rfl) rfl (by simp only [List.map_toArray, List.map_cons, List.map_nil]; rfl) hv (fun w => by kernel_rfl) (fun b75 w76 hv => ?_)
  obtain ⟨K77, hK77, hv, hrK77, hokK77, -⟩ := (hv.cellRow (n := 2) (c := 2) (size := 4) rfl (by decide) (by decide)).rowBy
  refine xC h9callable49 rfl ((respList K77 _ _ _ 2 2 _ (rList [rStr (Lib.itoa pn), rStrs out]) hokK77 hrK77 (listIn_two hrp73o (hrp73.more hK77 (fun _ h => h)) (hol)) (by decide) hv).mono ?_) rfl
  rintro e w81 ⟨J78, lw79, hJ78, rfl, hrw80, hv⟩
  refine ⟨_, rfl, ?_⟩
  simp only [zP, po]
  refine xS 4 rfl hv rssz28 rfl (by exact ⟨rfl, rfl, rfl, hrw80.lv.2, trivial⟩) (fun w82 hv => ?_)
  simp only [zS, zO, sp] at hv
  refine uW k66 (rR ?_)
  refine bC 4 rswd28 hv rfl rfl rfl rfl (⟨J78, es, M, rList [rStr (Lib.itoa pn), rStrs out], _, (((((hC.trans hE).trans hF).trans hD70).trans hK77).trans hJ78), rfl, (hrw80.more (Base.Le.refl _)), hM.more (((((hC.trans hE).trans hF).trans hD70).trans hK77).trans hJ78), ⟨hO, fun _ => rfl⟩, (hv.kp [3, 3] 2 4)⟩)
theorem h9mk9 : (Tryz.prog.info? 9).map (fun i => (i.zero, i.size, i.bytes)) = some (some (vS []), 1, 16) := by kernel_rfl
theorem h9el22 : Elem Tryz.prog 22 9 (vS []) 1 16 := elem_of Tryz.underlying22 h9mk9 (by rfl) (by decide)
theorem h9callable72 : Callable Tryz.prog 72 := cb Tryz.func72 (by kernel_rfl)
theorem chashCount (B : Base) (H : List Res) (w : World) (v t m s p wb : Nat) (va : Option Addr) (vc : Nat) (sv : Value) (clk : Int) (es : List (List UInt8 × Value)) (M : List (List UInt8 × Ver)) (hM : VM B es M) (hO : OkM M) (aa : Option Addr) (ac : Nat) (args : List (List UInt8)) (hra : RdV B [] aa (textCells args)) (hoka : SliceOk aa args.length ac) (hma : args.length ≤ 10000) (key : List UInt8) (hkey : args[0]? = some key) (f by_ : List UInt8) (hN : NumB B) (hv : Inv B (Res.cell v [.iface 63 (vP t)] 40 :: txR t m s p wb va vc sv clk es :: H) w) :
  Calls Tryz.prog 40 #[.agg #[vP v, .slice aa args.length ac], vS f, vS by_] w fun e w' => ∃ C es' M' r cs, B.Le C ∧ e = .returned (.agg cs.toArray) ∧ RpAt C r cs ∧ VM C es' M' ∧ HIncR M clk key f by_ M' r ∧ Inv C (Res.cell v [.iface 63 (vP t)] 40 :: txR t m s p wb va vc sv clk es' :: H) w' := by
 refine cW Tryz.func40 rfl Tryz.ntmps40 ?_
 simp only [al]
 refine sK fun _ k1 => ?_
 have hal := (List.getElem?_eq_some_iff.1 hkey).1
 obtain ⟨ab, ao, had, hrdkey⟩ := text_reads hra hkey
 subst had
 refine rL (sl_box (L := [vP v, .slice (some ⟨ab, ao, none⟩) args.length ac]) tV (wn rfl) rfl rfl hv (fun w => by kernel_rfl) (fun b2 w3 hv => ?_))
 simp only [zP, po]
 refine sl_alloc tV (wn rfl) rfl hv h9al28 (fun b4 w5 hv => ?_)
 refine uW k1 (sK fun _ k6 => ?_)
 refine rL (uM rfl ?_)
 refine sl_rowOne (v := vS by_) tV (wn rfl) rfl rfl hv h9el22 rfl (fun b7 w8 hv => ?_)
 simp only [zP, po]
 obtain ⟨K9, hK9, hv, hrkK9, hokK9, -⟩ := (hv.cellRow (n := 1) (c := 1) (size := 1) rfl (by decide) (by decide)).rowBy
 refine xC v8callable71 rfl ((viewInts K9 _ _ _ 1 [by_] hrkK9 (Nat.le_of_ble_eq_true rfl) (hN.more hK9) hv).mono ?_) rfl
 rintro e w10 ⟨E, ia, ic, ns, ei, hE, rfl, hri, hir, hv⟩
 refine ⟨_, rfl, ?_⟩
 rcases ints_one hir with ⟨rfl, n0, rfl, hn0⟩ | ⟨rfl, rfl, hn0⟩
 ·refine uG (.tuple #[.slice ia 1 ic, vI 0]) rfl (ex_move rfl rfl) ?_
  refine uG (.slice ia 1 ic) rfl (ex_extract rfl rfl rfl) (uE rfl ?_)
  refine uA rfl (uA rfl ?_)
  refine uW k6 (sK fun _ k11 => ?_)
  refine sK fun _ k12 => rL (uM rfl ?_)
  refine uG (.bool false) rfl (ex_neq rfl rfl rfl (by decide)) (uW k12 ?_)
  refine cF rfl (kS ?_)
  refine tK k11 (sK fun _ k13 => ?_)
  refine rT mixed (fun az wz => ∃ (C : Base) (y : Ver) (yp yt yz : Value) (ec : Int) (b20 : Nat), (E.Le C) ∧ (ValAt C y.val yp yt yz) ∧ (OfI M clk key 2 y ec) ∧ az = { tmps := List.toArray (.agg #[vP v, .slice (some ⟨ab, ao, none⟩) args.length ac] :: vS f :: vS by_ :: vP b2 :: undef :: undef :: vP b4 :: .slice ia 1 ic :: vI ec :: vP b20 :: undef :: undef :: undef :: undef :: undef :: .tuple #[.slice ia 1 ic, vI 0] :: vS by_ :: .slice (some ⟨b7, 0, none⟩) 1 1 :: .tuple #[.slice ia 1 ic, vI 0] :: .slice ia 1 ic :: vI 0 :: vI 0 :: .bool false :: undef :: undef :: .tuple #[.agg #[vI y.stamp, .bool y.gone, vI y.expire, vI y.val.kind, vS y.val.text, yp, yt, yz], vI ec] :: vP b2 :: vP v :: .pointer (some ⟨b2, 1, none⟩) :: .slice (some ⟨ab, ao, none⟩) args.length ac :: .pointer (some ⟨ab, ao + 0, none⟩) :: vS key :: .tuple #[.agg #[vI y.stamp, .bool y.gone, vI y.expire, vI y.val.kind, vS y.val.text, yp, yt, yz], vI ec] :: .agg #[vI y.stamp, .bool y.gone, vI y.expire, vI y.val.kind, vS y.val.text, yp, yt, yz] :: vI ec :: undef :: undef :: undef :: undef :: undef :: undef :: undef :: undef :: undef :: undef :: undef :: undef :: undef :: undef :: undef :: undef :: undef :: undef :: undef :: undef :: undef :: undef :: undef :: undef :: undef :: undef :: undef :: undef :: undef :: undef :: undef :: undef :: undef :: undef :: undef :: undef :: undef :: undef :: undef :: undef :: undef :: undef :: undef :: undef :: undef :: undef :: undef :: undef :: undef :: undef :: undef :: undef :: undef :: undef :: undef :: undef :: undef :: []), defers := [] } ∧ Inv C (Res.cell b20 [vI y.stamp, .bool y.gone, vI y.expire, vI y.val.kind, vS y.val.text, yp, yt, yz] 86 :: Res.cell v [.iface 63 (vP t)] 40 :: txR t m s p wb va vc sv clk es :: Res.cell b4 [vI 0, vS [], vI 0, vN] 28 :: Res.cell b2 [vP v, .slice (some ⟨ab, ao, none⟩) args.length ac] 74 :: H) wz) [6, 10, 11] [0,1,2,3,4,5] [7,8,9,10,11,12] [6,7,8,9,11,12] 6 10 92 rfl (by kernel_rfl) hv ?_ ?_
  ·intro R2 l1 l2 hR2 hl1 hl2
   simp only [qm, opAt]
   refine tG (vP b2) rfl (ex_field rfl rfl (h8fa74_0 _ _ _)) (tF (vP v) rfl (fun hv => ex_load rfl rfl (run_load1 h8na24 (hv.load 1 0 rfl rfl))) fun f14 hf14 => ?_)
   simp only [zP, po]
   refine tG (.pointer (some ⟨b2, 1, none⟩)) rfl (ex_field rfl rfl (h8fa74_1 _ _ _)) (tF (.slice (some ⟨ab, ao, none⟩) args.length ac) rfl (fun hv => ex_load rfl rfl (run_load1 s1na22 (hv.load 1 1 rfl rfl))) fun f15 hf15 => ?_)
   simp only [zP, po]
   refine tG (.pointer (some ⟨ab, ao + 0, none⟩)) rfl (ex_index rfl rfl rfl (run_idx1 (k := 0) Tryz.underlying22 s9es22 (by omega))) (tF (vS key) rfl (fun hv => ex_load rfl rfl (run_load1 h1na9 (hrdkey _ _ _ (hK9.trans hE) no_res hv 0 _ rfl))) fun f16 hf16 => ?_)
   simp only [zP, po]
   refine tB ?_ ?_
   ·rw [hl1]; clear hl1 hl2
    simp only [qm, opAt]
    refine dS rfl fun w17 hv => ?_
    replace hv := hv.front 3 rfl
    simp only [eS, eZ] at hv
    replace hv := hv.front 3 rfl
    simp only [eS, eZ] at hv
    refine mC h9callable41 rfl ((viewOf E _ _ v t m s p wb va vc sv clk es M key 2 (hM.more (hK9.trans hE)) hv).mono ?_) rfl
    rintro e w18 ⟨C, y, yp, yt, yz, ec, hC, rfl, hyv, hof, hv⟩
    refine ⟨_, rfl, dV hv (fK rfl (fK rfl (fK rfl fN))) ?_⟩
    refine dM (.tuple #[.agg #[vI y.stamp, .bool y.gone, vI y.expire, vI y.val.kind, vS y.val.text, yp, yt, yz], vI ec]) rfl (dG (.agg #[vI y.stamp, .bool y.gone, vI y.expire, vI y.val.kind, vS y.val.text, yp, yt, yz]) rfl (ex_extract rfl rfl rfl) ?_)
    simp only [zP, po]
    refine dG (vI ec) rfl (ex_extract rfl rfl rfl) (dS rfl fun w19 hv => ?_)
    refine mem_alloc rfl rfl hv h9al86 (fun b20 w21 hv => ?_)
    refine dV hv (fC (fun ww hv => hf16 ww (ex_load rfl rfl (run_load1 h1na9 (hrdkey _ _ _ ((hK9.trans hE).trans hC) no_res hv 0 _ rfl)))) (fC (fun ww hv => hf15 ww (ex_load rfl rfl (run_load1 s1na22 (hv.load 4 1 rfl rfl)))) (fC (fun ww hv => hf14 ww (ex_load rfl rfl (run_load1 h8na24 (hv.load 4 0 rfl rfl)))) fN))) (dS rfl fun w22 hv => ?_)
    refine mS 0 rfl hv x0sz86 rfl (by exact ⟨rfl, rfl, rfl, rfl, rfl, hyv.p.one, hyv.t.one, hyv.z.one, trivial⟩) (fun w23 hv => ?_)
    simp only [zO, sp] at hv
    refine dV hv (fK rfl (fK rfl (fK rfl fN))) ?_
    simp only [zP, po]
    refine dA (vI ec) rfl (dE fun wz hv => ?_)
    simp only [zP, po]
    exact hR2 _ _ ⟨C, y, yp, yt, yz, ec, b20, hC, hyv, hof, rfl, (((((hv.front 4 rfl).front 4 rfl).front 4 rfl).front 4 rfl).front 4 rfl)⟩
   rw [hl2]; clear hl1 hl2
   simp only [qm, opAt]
   refine dS rfl fun w24 hv => mem_alloc rfl rfl hv h9al86 (fun b25 w26 hv => ?_)
   refine dV hv (fC (fun ww hv => hf16 ww (ex_load rfl rfl (run_load1 h1na9 (hrdkey _ _ _ (hK9.trans hE) no_res hv 0 _ rfl)))) (fC (fun ww hv => hf15 ww (ex_load rfl rfl (run_load1 s1na22 (hv.load 2 1 rfl rfl)))) (fC (fun ww hv => hf14 ww (ex_load rfl rfl (run_load1 h8na24 (hv.load 2 0 rfl rfl)))) fN))) (dS rfl fun w27 hv => ?_)
   replace hv := hv.front 4 rfl
   simp only [eS, eZ] at hv
   replace hv := hv.front 4 rfl
   simp only [eS, eZ] at hv
   refine mC h9callable41 rfl ((viewOf E _ _ v t m s p wb va vc sv clk es M key 2 (hM.more (hK9.trans hE)) hv).mono ?_) rfl
   rintro e w28 ⟨C, y, yp, yt, yz, ec, hC, rfl, hyv, hof, hv⟩
   refine ⟨_, rfl, dV hv (fK rfl (fK rfl (fK rfl fN))) ?_⟩
   refine dM (.tuple #[.agg #[vI y.stamp, .bool y.gone, vI y.expire, vI y.val.kind, vS y.val.text, yp, yt, yz], vI ec]) rfl ?_
   simp only [zP, po]
   refine dG (.agg #[vI y.stamp, .bool y.gone, vI y.expire, vI y.val.kind, vS y.val.text, yp, yt, yz]) rfl (ex_extract rfl rfl rfl) (dG (vI ec) rfl (ex_extract rfl rfl rfl) ?_)
   refine dS rfl fun w29 hv => mS 2 rfl hv x0sz86 rfl (by exact ⟨rfl, rfl, rfl, rfl, rfl, hyv.p.one, hyv.t.one, hyv.z.one, trivial⟩) (fun w30 hv => ?_)
   simp only [zS, zO, sp] at hv
   refine dV hv (fK rfl (fK rfl (fK rfl fN))) ?_
   simp only [zP, po]
   refine dA (vI ec) rfl (dE fun wz hv => ?_)
   simp only [zP, po]
   exact hR2 _ _ ⟨C, y, yp, yt, yz, ec, b25, hC, hyv, hof, rfl, (((((hv.front 4 rfl).front 4 rfl).front 3 rfl).front 3 rfl).front 4 rfl)⟩
  rintro _ w31 ⟨C, y, yp, yt, yz, ec, b20, hC, hyv, hof, rfl, hv⟩
  obtain ⟨pa, pc, sa, sc, za, zc, rfl, rfl, rfl, hokp, hrp, hoks, hrs, hokz, hrz⟩ := valAt_open hyv
  refine tK k13 (sK fun _ k32 => ?_)
  refine sK fun _ k33 => rL (uM rfl ?_)
  by_cases hb34 : ec ≠ 0
  ·refine uG (.bool true) rfl (ex_neq rfl rfl rfl (qT hb34)) (uW k33 ?_)
   refine cT rfl (sK fun _ k35 => ?_)
   refine rL (uM rfl ?_)
   refine xC rscallable24 rfl ((viewWrong C _ _ ec hv).mono ?_) rfl
   rintro e w37 ⟨s36, rfl, hv⟩
   refine ⟨_, rfl, ?_⟩
   simp only [zP, po]
   refine xS 3 rfl hv rssz28 rfl (by exact ⟨rfl, rfl, rfl, rfl, trivial⟩) (fun w38 hv => ?_)
   simp only [zS, zO, sp] at hv
   refine uW k35 (rR ?_)
   refine tR (bC 3 rswd28 hv rfl rfl rfl rfl ?_)
   exact ⟨C, es, M, rFault s36, rpCells 1 s36 0 (vN), ((hK9.trans hE).trans hC), rfl, rpAt_leaf, hM.more ((hK9.trans hE).trans hC), .inr ⟨n0, hn0, y, ec, hof, .inl ⟨hb34, rfl, rfl⟩⟩, (hv.kp [2, 2] 2 3)⟩
  refine uG (.bool false) rfl (ex_neq rfl rfl rfl (qF hb34)) (uW k33 ?_)
  refine cF rfl (kS ?_)
  refine tK k32 (sK fun _ k39 => ?_)
  refine rL (uF (.pointer (some ⟨b20, 3, none⟩)) rfl (x2fa86_3 _ _ _) ?_)
  refine uF (.pointer (some ⟨b20, 5, none⟩)) rfl (s1fa79_2 _ _ _) ?_
  refine uL _ rfl (run_load1 s1na76 (hv.load 0 5 rfl rfl)) (uM rfl ?_)
  have hof0 : ec = 0 := by omega
  refine xC h7callable43 rfl ((hashGetO C _ _ pa pc y.val.pairs f (hrp.more (Base.Le.refl _) (fun _ h => h)) (hO.hsorted hof) hyv.pm hv).mono ?_) rfl
  rintro e w40 ⟨s0, has, rfl, hgo, hv⟩
  refine ⟨_, rfl, ?_⟩
  rcases hgo with ⟨rfl, hg⟩ | ⟨rfl, rfl, hg⟩
  ·refine uM rfl (uE rfl ?_)
   refine uE rfl (uA rfl ?_)
   refine uA rfl (uW k39 ?_)
   refine sK fun _ k41 => sK fun _ k42 => rL (uM rfl ?_)
   refine uM rfl ?_
   refine uM rfl ?_
   by_cases hb43 : s0 = ([] : List UInt8)
   ·refine uG (.bool true) rfl (ex_seql rfl rfl rfl (qT hb43)) (uK rfl ?_)
    refine uW k42 (cT rfl ?_)
    refine sK fun _ k44 => rL (xC rscallable24 rfl ((viewWrong C _ _ 41 hv).mono ?_) rfl)
    rintro e w46 ⟨s45, rfl, hv⟩
    refine ⟨_, rfl, ?_⟩
    simp only [zP, po]
    refine xS 3 rfl hv rssz28 rfl (by exact ⟨rfl, rfl, rfl, rfl, trivial⟩) (fun w47 hv => ?_)
    simp only [zS, zO, sp] at hv
    refine uW k44 (rR ?_)
    refine tR (bC 3 rswd28 hv rfl rfl rfl rfl ?_)
    exact ⟨C, es, M, rFault s45, rpCells 1 s45 0 (vN), ((hK9.trans hE).trans hC), rfl, rpAt_leaf, hM.more ((hK9.trans hE).trans hC), .inr ⟨n0, hn0, y, ec, hof, .inr ⟨hof0, .inl ⟨by rw [hg, hb43], rfl, rfl⟩⟩⟩, (hv.kp [2, 2] 2 3)⟩
   refine uG (.bool false) rfl (ex_seql rfl rfl rfl (qF hb43)) (uK rfl ?_)
   refine uW k42 (cF rfl ?_)
   refine kS (tK k41 ?_)
   refine sK fun _ k48 => ?_
   obtain ⟨ib, io, had, hrdn⟩ := int_reads hri (show [n0][0]? = some n0 from rfl)
   subst had
   have hnr : -9223372036854775808 ≤ n0 ∧ n0 ≤ 9223372036854775807 := hn0.elim (fun h => ⟨h.2.1, h.2.2.1⟩) (fun h => absurd h.1 (by decide))
   refine rL (uM rfl ?_)
   refine uG (.slice (some ⟨ib, io, none⟩) 1 ic) rfl (ex_move rfl rfl) ?_
   refine uG (.pointer (some ⟨ib, io + 0, none⟩)) rfl (ex_index rfl rfl rfl (run_idx1 (k := 0) Tryz.underlying148 s11es148 (by omega))) ?_
   refine uL _ rfl (run_load1 s2na3 (hrdn _ _ _ hC no_res hv 0 _ rfl)) ?_
   refine xC h9callable72 rfl ((strIncr C _ _ s0 n0 hnr (hN.more ((hK9.trans hE).trans hC)) hv).mono ?_) rfl
   rintro e w49 ⟨sum, e1, rfl, hinc, hv⟩
   refine ⟨_, rfl, ?_⟩
   have hinc : IncrI ((getH y.val.pairs f).getD []) n0 sum e1 := by rw [hg]; exact hinc
   have hgn : getH y.val.pairs f ≠ some [] := by rw [hg]; exact fun h9 => hb43 (Option.some.inj h9)
   refine uM rfl (uE rfl ?_)
   refine uE rfl (uA rfl ?_)
   refine uA rfl (uW k48 ?_)
   refine sK fun _ k50 => sK fun _ k51 => rL (uM rfl ?_)
   by_cases hb52 : e1 = 10
   ·refine uG (.bool true) rfl (ex_eql rfl rfl rfl (qT hb52)) (uW k51 ?_)
    refine cT rfl (sK fun _ k53 => ?_)
    refine rL (xC rscallable24 rfl ((viewWrong C _ _ 41 hv).mono ?_) rfl)
    rintro e w55 ⟨s54, rfl, hv⟩
    refine ⟨_, rfl, ?_⟩
    simp only [zP, po]
    refine xS 3 rfl hv rssz28 rfl (by exact ⟨rfl, rfl, rfl, rfl, trivial⟩) (fun w56 hv => ?_)
    simp only [zS, zO, sp] at hv
    refine uW k53 (rR ?_)
    refine tR (bC 3 rswd28 hv rfl rfl rfl rfl ?_)
    exact ⟨C, es, M, rFault s54, rpCells 1 s54 0 (vN), ((hK9.trans hE).trans hC), rfl, rpAt_leaf, hM.more ((hK9.trans hE).trans hC), .inr ⟨n0, hn0, y, ec, hof, .inr ⟨hof0, .inr ⟨hgn, sum, e1, hinc, .inl ⟨by omega, rfl, rfl⟩⟩⟩⟩, (hv.kp [2, 2] 2 3)⟩
   refine uG (.bool false) rfl (ex_eql rfl rfl rfl (qF hb52)) (uW k51 ?_)
   refine cF rfl (kS ?_)
   refine tK k50 (sK fun _ k57 => ?_)
   refine sK fun _ k58 => rL (uM rfl ?_)
   by_cases hb59 : e1 ≠ 0
   ·refine uG (.bool true) rfl (ex_neq rfl rfl rfl (qT hb59)) (uW k58 ?_)
    refine cT rfl (sK fun _ k60 => ?_)
    refine rL (uM rfl ?_)
    refine xC rscallable24 rfl ((viewWrong C _ _ e1 hv).mono ?_) rfl
    rintro e w62 ⟨s61, rfl, hv⟩
    refine ⟨_, rfl, ?_⟩
    simp only [zP, po]
    refine xS 3 rfl hv rssz28 rfl (by exact ⟨rfl, rfl, rfl, rfl, trivial⟩) (fun w63 hv => ?_)
    simp only [zS, zO, sp] at hv
    refine uW k60 (rR ?_)
    refine tR (bC 3 rswd28 hv rfl rfl rfl rfl ?_)
    exact ⟨C, es, M, rFault s61, rpCells 1 s61 0 (vN), ((hK9.trans hE).trans hC), rfl, rpAt_leaf, hM.more ((hK9.trans hE).trans hC), .inr ⟨n0, hn0, y, ec, hof, .inr ⟨hof0, .inr ⟨hgn, sum, e1, hinc, .inl ⟨by omega, rfl, rfl⟩⟩⟩⟩, (hv.kp [2, 2] 2 3)⟩
   refine uG (.bool false) rfl (ex_neq rfl rfl rfl (qF hb59)) (uW k58 ?_)
   refine cF rfl (kS ?_)
   refine tK k57 (sK fun _ k64 => ?_)
   refine rW mixed [5, 7, 8] [0,1,2,3,4,5,6,7,8,9,10,11,12,13,14,15] 92 rfl (by kernel_rfl) hv ?_
   simp only [qm, opAt]
   refine dG (.pointer (some ⟨b20, 3, none⟩)) rfl (ex_field rfl rfl (x2fa86_3 _ _ _)) (dG (.pointer (some ⟨b20, 5, none⟩)) rfl (ex_field rfl rfl (s1fa79_2 _ _ _)) ?_)
   refine dF _ rfl (fun hv => ex_load rfl rfl (run_load1 s1na76 (hv.load 0 5 rfl rfl))) fun f65 hf65 => ?_
   simp only [zP, po]
   refine dM (vS f) rfl (dM (vI sum) rfl ?_)
   refine dS rfl fun w66 hv => ?_
   have hsf : fitsI sum := by
    rcases hinc with ⟨h9, -⟩ | ⟨-, h9, -⟩
    ·omega
    exact h9
   refine mC pzcallable70 rfl ((numPrint C _ (hN C _ ((hK9.trans hE).trans hC)).1 _ sum hsf.1 hsf.2 hv).mono ?_) rfl
   rintro e w67 ⟨rfl, hv⟩
   refine ⟨_, rfl, dV hv (fC (fun ww hv => hf65 ww (ex_load rfl rfl (run_load1 s1na76 (hv.load 0 5 rfl rfl)))) fN) ?_⟩
   simp only [zP, po]
   refine dG (.agg #[vS f, vS (Lib.itoa sum)]) rfl (ex_buildN (vs := #[(0, vS f), (1, vS (Lib.itoa sum))]) rfl (by simp only [List.map_toArray, List.map_cons, List.map_nil]; rfl) (by kernel_rfl)) (dS rfl fun w68 hv => ?_)
   refine mem_rowAgg (L := [vS f, vS (Lib.itoa sum)]) rfl rfl rfl hv h9el76 rfl (by decide) (fun b69 w70 hv => ?_)
   refine dV hv (fC (fun ww hv => hf65 ww (ex_load rfl rfl (run_load1 s1na76 (hv.load 1 5 rfl rfl)))) fN) (dS rfl fun w71 hv => ?_)
   obtain ⟨P, hP, hv, hrq, -, -⟩ := (hv.cellRow (n := 1) (c := 1) (size := 2) rfl (by decide) (by decide)).rowBy
   refine mC h8callable73 rfl ((hashSet P _ _ pa pc y.val.pairs hokp (hrp.more hP (fun _ h => h)) hyv.pm (hO.hsorted hof) _ 1 [(f, Lib.itoa sum)] hrq (Nat.le_of_ble_eq_true rfl) hv).mono ?_) rfl
   rintro e w72 ⟨F, oa, oc, out, n, e2, hF, rfl, hoko, hro, hset, hv⟩
   refine ⟨_, rfl, dV hv (fK rfl fN) ?_⟩
   simp only [zP, po]
   refine dM (.tuple #[.slice oa out.length oc, vI n, vI e2]) rfl (dG (.slice oa out.length oc) rfl (ex_extract rfl rfl rfl) ?_)
   refine dG (vI n) rfl (ex_extract rfl rfl rfl) ?_
   simp only [zP, po]
   refine dG (vI e2) rfl (ex_extract rfl rfl rfl) (dA (.slice oa out.length oc) rfl ?_)
   refine dA (vI n) rfl ?_
   simp only [zP, po]
   refine dA (vI e2) rfl (dE fun w73 hv => ?_)
   simp only [zP, po]
   refine tK k64 (sK fun _ k74 => ?_)
   refine sK fun _ k75 => rL (uM rfl ?_)
   by_cases hb76 : e2 ≠ 0
   ·refine uG (.bool true) rfl (ex_neq rfl rfl rfl (qT hb76)) (uW k75 ?_)
    refine cT rfl (sK fun _ k77 => ?_)
    refine rL (uM rfl ?_)
    refine xC rscallable24 rfl ((viewWrong F _ _ e2 hv).mono ?_) rfl
    rintro e w79 ⟨s78, rfl, hv⟩
    refine ⟨_, rfl, ?_⟩
    simp only [zP, po]
    refine xS 3 rfl hv rssz28 rfl (by exact ⟨rfl, rfl, rfl, rfl, trivial⟩) (fun w80 hv => ?_)
    simp only [zS, zO, sp] at hv
    refine uW k77 (rR ?_)
    refine tR (bC 3 rswd28 hv rfl rfl rfl rfl ?_)
    exact ⟨F, es, M, rFault s78, rpCells 1 s78 0 (vN), ((((hK9.trans hE).trans hC).trans hP).trans hF), rfl, rpAt_leaf, hM.more ((((hK9.trans hE).trans hC).trans hP).trans hF), .inr ⟨n0, hn0, y, ec, hof, .inr ⟨hof0, .inr ⟨hgn, sum, e1, hinc, .inr ⟨by omega, out, n, e2, hset, .inl ⟨by omega, rfl, rfl⟩⟩⟩⟩⟩, (hv.kp [2, 2] 2 3)⟩
   refine uG (.bool false) rfl (ex_neq rfl rfl rfl (qF hb76)) (uW k75 ?_)
   refine cF rfl (kS ?_)
   refine tK k74 (sK fun _ k81 => ?_)
   refine rL (uL (.agg #[vP v, .slice (some ⟨ab, ao, none⟩) args.length ac]) rfl (lM 4 h8wd74 hv rfl rfl rfl rfl) ?_)
   refine uL (.agg #[vI y.stamp, .bool y.gone, vI y.expire, vI y.val.kind, vS y.val.text, .slice pa y.val.pairs.length pc, .slice sa y.val.texts.length sc, .slice za y.val.zset.length zc]) rfl (lM 0 x0wd86 hv rfl rfl rfl rfl) (uM rfl ?_)
   replace hv := hv.front 2 rfl
   simp only [eS, eZ] at hv
   replace hv := hv.front 2 rfl
   simp only [eS, eZ] at hv
   refine xC h8callable47 rfl ((chashKeep F _ _ v t m s p wb va vc sv clk es M (hM.more ((((hK9.trans hE).trans hC).trans hP).trans hF)) (some ⟨ab, ao, none⟩) ac args (hra.more ((((hK9.trans hE).trans hC).trans hP).trans hF) (fun _ h => h)) hoka (by omega) key hkey y pa pc _ _ (hyv.more (hP.trans hF)) oa oc out (hro.more (Base.Le.refl _) (fun _ h => h)) hoko (hset.elim (fun h9 => by rw [h9.2.1]; exact Nat.zero_le _) (fun h9 => by have := h9.2.2.2.1; omega)) hv).mono ?_) rfl
   rintro e w82 ⟨G, es', M', e3, hG, rfl, hM', hkp, hv⟩
   refine ⟨_, rfl, uM rfl ?_⟩
   refine xC h8callable44 rfl ((respInt G _ _ sum hv).mono ?_) rfl
   rintro e w83 ⟨rfl, hv⟩
   refine ⟨_, rfl, ?_⟩
   simp only [zP, po]
   refine xC h8callable46 rfl ((viewDone G _ _ e3 2 sum ([] : List UInt8) (vN) rfl rfl hv).mono ?_) rfl
   rintro e w84 ⟨xr, hxr, rfl, hv⟩
   refine ⟨_, rfl, ?_⟩
   rcases hxr with ⟨hec0, rfl⟩ | ⟨hec0, s85, rfl⟩
   ·simp only [zP, po]
    refine xS 3 rfl hv rssz28 rfl (by exact ⟨rfl, rfl, rfl, rfl, trivial⟩) (fun w86 hv => ?_)
    simp only [zS, zO, sp] at hv
    refine uW k81 (rR ?_)
    refine bC 3 rswd28 hv rfl rfl rfl rfl (⟨G, es', M', rInt sum, rpCells 2 [] sum (vN), (((((hK9.trans hE).trans hC).trans hP).trans hF).trans hG), rfl, rpAt_leaf, hM'.more (Base.Le.refl _), .inr ⟨n0, hn0, y, ec, hof, .inr ⟨hof0, .inr ⟨hgn, sum, e1, hinc, .inr ⟨by omega, out, n, e2, hset, .inr ⟨by omega, e3, hkp, .inl ⟨by omega, rfl⟩⟩⟩⟩⟩⟩, (hv.kp [1, 1] 2 3)⟩)
   simp only [zP, po]
   refine xS 3 rfl hv rssz28 rfl (by exact ⟨rfl, rfl, rfl, rfl, trivial⟩) (fun w87 hv => ?_)
   simp only [zS, zO, sp] at hv
   refine uW k81 (rR ?_)
   refine bC 3 rswd28 hv rfl rfl rfl rfl (⟨G, es', M', rFault s85, rpCells 1 s85 0 (vN), (((((hK9.trans hE).trans hC).trans hP).trans hF).trans hG), rfl, rpAt_leaf, hM'.more (Base.Le.refl _), .inr ⟨n0, hn0, y, ec, hof, .inr ⟨hof0, .inr ⟨hgn, sum, e1, hinc, .inr ⟨by omega, out, n, e2, hset, .inr ⟨by omega, e3, hkp, .inr ⟨by omega, rfl⟩⟩⟩⟩⟩⟩, (hv.kp [1, 1] 2 3)⟩)
  refine uM rfl (uE rfl ?_)
  refine uE rfl (uA rfl ?_)
  refine uA rfl (uW k39 ?_)
  refine sK fun _ k88 => sK fun _ k89 => rL (uM rfl ?_)
  refine uM rfl ?_
  refine uP rfl ?_
  refine uP rfl (uK rfl ?_)
  refine uW k89 (cF rfl ?_)
  refine kS (tK k88 ?_)
  refine sK fun _ k90 => ?_
  obtain ⟨ib, io, had, hrdn⟩ := int_reads hri (show [n0][0]? = some n0 from rfl)
  subst had
  have hnr : -9223372036854775808 ≤ n0 ∧ n0 ≤ 9223372036854775807 := hn0.elim (fun h => ⟨h.2.1, h.2.2.1⟩) (fun h => absurd h.1 (by decide))
  refine rL (uM rfl ?_)
  refine uG (.slice (some ⟨ib, io, none⟩) 1 ic) rfl (ex_move rfl rfl) ?_
  refine uG (.pointer (some ⟨ib, io + 0, none⟩)) rfl (ex_index rfl rfl rfl (run_idx1 (k := 0) Tryz.underlying148 s11es148 (by omega))) ?_
  refine uL _ rfl (run_load1 s2na3 (hrdn _ _ _ hC no_res hv 0 _ rfl)) ?_
  refine xC h9callable72 rfl ((strIncr C _ _ ([] : List UInt8) n0 hnr (hN.more ((hK9.trans hE).trans hC)) hv).mono ?_) rfl
  rintro e w91 ⟨sum, e1, rfl, hinc, hv⟩
  refine ⟨_, rfl, ?_⟩
  have hinc : IncrI ((getH y.val.pairs f).getD []) n0 sum e1 := by rw [hg]; exact hinc
  have hgn : getH y.val.pairs f ≠ some [] := by rw [hg]; exact fun h9 => by cases h9
  refine uM rfl (uE rfl ?_)
  refine uE rfl (uA rfl ?_)
  refine uA rfl (uW k90 ?_)
  refine sK fun _ k92 => sK fun _ k93 => rL (uM rfl ?_)
  by_cases hb94 : e1 = 10
  ·refine uG (.bool true) rfl (ex_eql rfl rfl rfl (qT hb94)) (uW k93 ?_)
   refine cT rfl (sK fun _ k95 => ?_)
   refine rL (xC rscallable24 rfl ((viewWrong C _ _ 41 hv).mono ?_) rfl)
   rintro e w97 ⟨s96, rfl, hv⟩
   refine ⟨_, rfl, ?_⟩
   simp only [zP, po]
   refine xS 3 rfl hv rssz28 rfl (by exact ⟨rfl, rfl, rfl, rfl, trivial⟩) (fun w98 hv => ?_)
   simp only [zS, zO, sp] at hv
   refine uW k95 (rR ?_)
   refine tR (bC 3 rswd28 hv rfl rfl rfl rfl ?_)
   exact ⟨C, es, M, rFault s96, rpCells 1 s96 0 (vN), ((hK9.trans hE).trans hC), rfl, rpAt_leaf, hM.more ((hK9.trans hE).trans hC), .inr ⟨n0, hn0, y, ec, hof, .inr ⟨hof0, .inr ⟨hgn, sum, e1, hinc, .inl ⟨by omega, rfl, rfl⟩⟩⟩⟩, (hv.kp [2, 2] 2 3)⟩
  refine uG (.bool false) rfl (ex_eql rfl rfl rfl (qF hb94)) (uW k93 ?_)
  refine cF rfl (kS ?_)
  refine tK k92 (sK fun _ k99 => ?_)
  refine sK fun _ k100 => rL (uM rfl ?_)
  by_cases hb101 : e1 ≠ 0
  ·refine uG (.bool true) rfl (ex_neq rfl rfl rfl (qT hb101)) (uW k100 ?_)
   refine cT rfl (sK fun _ k102 => ?_)
   refine rL (uM rfl ?_)
   refine xC rscallable24 rfl ((viewWrong C _ _ e1 hv).mono ?_) rfl
   rintro e w104 ⟨s103, rfl, hv⟩
   refine ⟨_, rfl, ?_⟩
   simp only [zP, po]
   refine xS 3 rfl hv rssz28 rfl (by exact ⟨rfl, rfl, rfl, rfl, trivial⟩) (fun w105 hv => ?_)
   simp only [zS, zO, sp] at hv
   refine uW k102 (rR ?_)
   refine tR (bC 3 rswd28 hv rfl rfl rfl rfl ?_)
   exact ⟨C, es, M, rFault s103, rpCells 1 s103 0 (vN), ((hK9.trans hE).trans hC), rfl, rpAt_leaf, hM.more ((hK9.trans hE).trans hC), .inr ⟨n0, hn0, y, ec, hof, .inr ⟨hof0, .inr ⟨hgn, sum, e1, hinc, .inl ⟨by omega, rfl, rfl⟩⟩⟩⟩, (hv.kp [2, 2] 2 3)⟩
  refine uG (.bool false) rfl (ex_neq rfl rfl rfl (qF hb101)) (uW k100 ?_)
  refine cF rfl (kS ?_)
  refine tK k99 (sK fun _ k106 => ?_)
  refine rW mixed [5, 7, 8] [0,1,2,3,4,5,6,7,8,9,10,11,12,13,14,15] 92 rfl (by kernel_rfl) hv ?_
  simp only [qm, opAt]
  refine dG (.pointer (some ⟨b20, 3, none⟩)) rfl (ex_field rfl rfl (x2fa86_3 _ _ _)) (dG (.pointer (some ⟨b20, 5, none⟩)) rfl (ex_field rfl rfl (s1fa79_2 _ _ _)) ?_)
  refine dF _ rfl (fun hv => ex_load rfl rfl (run_load1 s1na76 (hv.load 0 5 rfl rfl))) fun f107 hf107 => ?_
  simp only [zP, po]
  refine dM (vS f) rfl (dM (vI sum) rfl ?_)
  refine dS rfl fun w108 hv => ?_
  have hsf : fitsI sum := by
   rcases hinc with ⟨h9, -⟩ | ⟨-, h9, -⟩
   ·omega
   exact h9
  refine mC pzcallable70 rfl ((numPrint C _ (hN C _ ((hK9.trans hE).trans hC)).1 _ sum hsf.1 hsf.2 hv).mono ?_) rfl
  rintro e w109 ⟨rfl, hv⟩
  refine ⟨_, rfl, dV hv (fC (fun ww hv => hf107 ww (ex_load rfl rfl (run_load1 s1na76 (hv.load 0 5 rfl rfl)))) fN) ?_⟩
  simp only [zP, po]
  refine dG (.agg #[vS f, vS (Lib.itoa sum)]) rfl (ex_buildN (vs := #[(0, vS f), (1, vS (Lib.itoa sum))]) rfl (by simp only [List.map_toArray, List.map_cons, List.map_nil]; rfl) (by kernel_rfl)) (dS rfl fun w110 hv => ?_)
  refine mem_rowAgg (L := [vS f, vS (Lib.itoa sum)]) rfl rfl rfl hv h9el76 rfl (by decide) (fun b111 w112 hv => ?_)
  refine dV hv (fC (fun ww hv => hf107 ww (ex_load rfl rfl (run_load1 s1na76 (hv.load 1 5 rfl rfl)))) fN) (dS rfl fun w113 hv => ?_)
  obtain ⟨P, hP, hv, hrq, -, -⟩ := (hv.cellRow (n := 1) (c := 1) (size := 2) rfl (by decide) (by decide)).rowBy
  refine mC h8callable73 rfl ((hashSet P _ _ pa pc y.val.pairs hokp (hrp.more hP (fun _ h => h)) hyv.pm (hO.hsorted hof) _ 1 [(f, Lib.itoa sum)] hrq (Nat.le_of_ble_eq_true rfl) hv).mono ?_) rfl
  rintro e w114 ⟨F, oa, oc, out, n, e2, hF, rfl, hoko, hro, hset, hv⟩
  refine ⟨_, rfl, dV hv (fK rfl fN) ?_⟩
  simp only [zP, po]
  refine dM (.tuple #[.slice oa out.length oc, vI n, vI e2]) rfl (dG (.slice oa out.length oc) rfl (ex_extract rfl rfl rfl) ?_)
  refine dG (vI n) rfl (ex_extract rfl rfl rfl) ?_
  simp only [zP, po]
  refine dG (vI e2) rfl (ex_extract rfl rfl rfl) (dA (.slice oa out.length oc) rfl ?_)
  refine dA (vI n) rfl ?_
  simp only [zP, po]
  refine dA (vI e2) rfl (dE fun w115 hv => ?_)
  simp only [zP, po]
  refine tK k106 (sK fun _ k116 => ?_)
  refine sK fun _ k117 => rL (uM rfl ?_)
  by_cases hb118 : e2 ≠ 0
  ·refine uG (.bool true) rfl (ex_neq rfl rfl rfl (qT hb118)) (uW k117 ?_)
   refine cT rfl (sK fun _ k119 => ?_)
   refine rL (uM rfl ?_)
   refine xC rscallable24 rfl ((viewWrong F _ _ e2 hv).mono ?_) rfl
   rintro e w121 ⟨s120, rfl, hv⟩
   refine ⟨_, rfl, ?_⟩
   simp only [zP, po]
   refine xS 3 rfl hv rssz28 rfl (by exact ⟨rfl, rfl, rfl, rfl, trivial⟩) (fun w122 hv => ?_)
   simp only [zS, zO, sp] at hv
   refine uW k119 (rR ?_)
   refine tR (bC 3 rswd28 hv rfl rfl rfl rfl ?_)
   exact ⟨F, es, M, rFault s120, rpCells 1 s120 0 (vN), ((((hK9.trans hE).trans hC).trans hP).trans hF), rfl, rpAt_leaf, hM.more ((((hK9.trans hE).trans hC).trans hP).trans hF), .inr ⟨n0, hn0, y, ec, hof, .inr ⟨hof0, .inr ⟨hgn, sum, e1, hinc, .inr ⟨by omega, out, n, e2, hset, .inl ⟨by omega, rfl, rfl⟩⟩⟩⟩⟩, (hv.kp [2, 2] 2 3)⟩
  refine uG (.bool false) rfl (ex_neq rfl rfl rfl (qF hb118)) (uW k117 ?_)
  refine cF rfl (kS ?_)
  refine tK k116 (sK fun _ k123 => ?_)
  refine rL (uL (.agg #[vP v, .slice (some ⟨ab, ao, none⟩) args.length ac]) rfl (lM 4 h8wd74 hv rfl rfl rfl rfl) ?_)
  refine uL (.agg #[vI y.stamp, .bool y.gone, vI y.expire, vI y.val.kind, vS y.val.text, .slice pa y.val.pairs.length pc, .slice sa y.val.texts.length sc, .slice za y.val.zset.length zc]) rfl (lM 0 x0wd86 hv rfl rfl rfl rfl) (uM rfl ?_)
  replace hv := hv.front 2 rfl
  simp only [eS, eZ] at hv
  replace hv := hv.front 2 rfl
  simp only [eS, eZ] at hv
  refine xC h8callable47 rfl ((chashKeep F _ _ v t m s p wb va vc sv clk es M (hM.more ((((hK9.trans hE).trans hC).trans hP).trans hF)) (some ⟨ab, ao, none⟩) ac args (hra.more ((((hK9.trans hE).trans hC).trans hP).trans hF) (fun _ h => h)) hoka (by omega) key hkey y pa pc _ _ (hyv.more (hP.trans hF)) oa oc out (hro.more (Base.Le.refl _) (fun _ h => h)) hoko (hset.elim (fun h9 => by rw [h9.2.1]; exact Nat.zero_le _) (fun h9 => by have := h9.2.2.2.1; omega)) hv).mono ?_) rfl
  rintro e w124 ⟨G, es', M', e3, hG, rfl, hM', hkp, hv⟩
  refine ⟨_, rfl, uM rfl ?_⟩
  refine xC h8callable44 rfl ((respInt G _ _ sum hv).mono ?_) rfl
  rintro e w125 ⟨rfl, hv⟩
  refine ⟨_, rfl, ?_⟩
  simp only [zP, po]
  refine xC h8callable46 rfl ((viewDone G _ _ e3 2 sum ([] : List UInt8) (vN) rfl rfl hv).mono ?_) rfl
  rintro e w126 ⟨xr, hxr, rfl, hv⟩
  refine ⟨_, rfl, ?_⟩
  rcases hxr with ⟨hec0, rfl⟩ | ⟨hec0, s127, rfl⟩
  ·simp only [zP, po]
   refine xS 3 rfl hv rssz28 rfl (by exact ⟨rfl, rfl, rfl, rfl, trivial⟩) (fun w128 hv => ?_)
   simp only [zS, zO, sp] at hv
   refine uW k123 (rR ?_)
   refine bC 3 rswd28 hv rfl rfl rfl rfl (⟨G, es', M', rInt sum, rpCells 2 [] sum (vN), (((((hK9.trans hE).trans hC).trans hP).trans hF).trans hG), rfl, rpAt_leaf, hM'.more (Base.Le.refl _), .inr ⟨n0, hn0, y, ec, hof, .inr ⟨hof0, .inr ⟨hgn, sum, e1, hinc, .inr ⟨by omega, out, n, e2, hset, .inr ⟨by omega, e3, hkp, .inl ⟨by omega, rfl⟩⟩⟩⟩⟩⟩, (hv.kp [1, 1] 2 3)⟩)
  simp only [zP, po]
  refine xS 3 rfl hv rssz28 rfl (by exact ⟨rfl, rfl, rfl, rfl, trivial⟩) (fun w129 hv => ?_)
  simp only [zS, zO, sp] at hv
  refine uW k123 (rR ?_)
  refine bC 3 rswd28 hv rfl rfl rfl rfl (⟨G, es', M', rFault s127, rpCells 1 s127 0 (vN), (((((hK9.trans hE).trans hC).trans hP).trans hF).trans hG), rfl, rpAt_leaf, hM'.more (Base.Le.refl _), .inr ⟨n0, hn0, y, ec, hof, .inr ⟨hof0, .inr ⟨hgn, sum, e1, hinc, .inr ⟨by omega, out, n, e2, hset, .inr ⟨by omega, e3, hkp, .inr ⟨by omega, rfl⟩⟩⟩⟩⟩⟩, (hv.kp [1, 1] 2 3)⟩)
 refine uM rfl (uE rfl ?_)
 refine uE rfl (uA rfl ?_)
 refine uA rfl (uW k6 ?_)
 refine sK fun _ k130 => sK fun _ k131 => rL (uM rfl ?_)
 refine uG (.bool true) rfl (ex_neq rfl rfl rfl (by decide)) (uW k131 ?_)
 refine cT rfl (sK fun _ k132 => ?_)
 refine rL (uM rfl ?_)
 refine xC rscallable24 rfl ((viewWrong E _ _ 41 hv).mono ?_) rfl
 rintro e w134 ⟨s133, rfl, hv⟩
 refine ⟨_, rfl, ?_⟩
 simp only [zP, po]
 refine xS 0 rfl hv rssz28 rfl (by exact ⟨rfl, rfl, rfl, rfl, trivial⟩) (fun w135 hv => ?_)
 simp only [zO, sp] at hv
 refine uW k132 (rR ?_)
 refine tR (bC 0 rswd28 hv rfl rfl rfl rfl ?_)
 exact ⟨E, es, M, rFault s133, rpCells 1 s133 0 (vN), (hK9.trans hE), rfl, rpAt_leaf, hM.more (hK9.trans hE), .inl ⟨hn0, rfl, rfl⟩, (hv.kp [3, 3] 2 2)⟩
def others (K : List KeyR) (name : List UInt8) : List KeyR := K.filter fun x => !decide (x.name = name)
end Go.Proofs.YtffnhfkkochnhaaGreatDoor
namespace Go.Pm
open Go.RowKit
section
variable {P : Program} {a : Act} {w : World} {o : Oper} {t u : TypeId} {x y : Operand}
end
end Go.Pm
namespace Go.Proofs.YtffnhfkkochnhaaGreatDoor
open Go.RowKit Go.Pm
theorem txnNamesB (B : Base) (H : List Res) (w : World) (t m s p wb : Nat) (va : Option Addr) (vc : Nat) (sv : Value) (clk : Int) (es : List (List UInt8 × Value)) (M : List (List UInt8 × Ver)) (hM : VM B es M) (hkl : ∀ k ∈ M.map (·.1), k.length ≤ 256) (hMl : M.length ≤ 1000000) (hv : Inv B (txR t m s p wb va vc sv clk es :: H) w) :
  Calls Tryz.prog 172 #[vP t] w fun e w' => ∃ C a c, B.Le C ∧ e = .returned (.slice a (namesT M clk).length c) ∧ RdV C [] a (textCells (namesT M clk)) ∧ Inv C (txR t m s p wb va vc sv clk es :: H) w' := by
 refine (txnNames B H w t m s p wb va vc sv clk es M hM hkl hMl hv).mono ?_
 rintro e w' ⟨ra, rc, rfl, hv⟩
 obtain ⟨C, hB, hv2, hr2, -, -⟩ := hv.rowBy
 exact ⟨C, ra, rc, hB, rfl, hr2, hv2⟩
end Go.Proofs.YtffnhfkkochnhaaGreatDoor
namespace Go.Pm
open Go.RowKit
section
variable {P : Program} {t e : TypeId} {w : World}
end
section
variable {P : Program} {ops : Array Oper} {Q : Exit → Act → World → Prop} {a : Act} {w : World} {o : Oper} {B : Base} {H : List Res} {t e u : TypeId} {x y : Operand} {size : Nat} {J : List Value → World → Prop} {vals : List Value}
end
end Go.Pm
namespace Go.Proofs.YtffnhfkkochnhaaGreatDoor
open Go.RowKit Go.Pm
theorem viewNew (B : Base) (H : List Res) (w : World) (t : Nat) (hv : Inv B H w) :
  Calls Tryz.prog 22 #[.iface 63 (vP t)] w fun e w' => ∃ v, e = .returned (.tuple #[vP v, vI 0]) ∧ Inv B (Res.cell v [.iface 63 (vP t)] 40 :: H) w' := by
 refine cW Tryz.func22 rfl Tryz.ntmps22 ?_
 simp only [al]
 refine sK fun _ k1 => rL (uA rfl ?_)
 refine uA rfl (uW k1 ?_)
 refine sK fun _ k2 => sK fun _ k3 => rL (uM rfl ?_)
 refine uG (.bool false) rfl (ex_ifnil Tryz.underlying38 rfl rfl rfl) (uW k3 ?_)
 refine cF rfl (kS ?_)
 refine tK k2 (sK fun _ k4 => ?_)
 refine rL (uM rfl ?_)
 refine uG (.agg #[.iface 63 (vP t)]) rfl (ex_buildN (vs := #[(0, .iface 63 (vP t))]) rfl (by simp only [List.map_toArray, List.map_cons, List.map_nil]; rfl) (by kernel_rfl)) ?_
 refine sl_box (L := [.iface 63 (vP t)]) tV (wn rfl) rfl rfl hv (fun w => by kernel_rfl) (fun b5 w6 hv => ?_)
 refine uA rfl (uA rfl ?_)
 refine uW k4 (rR ?_)
 refine bodyPost_ret (results_tmp2 rfl _ _ _) rfl (⟨_, rfl, hv⟩)
theorem l0callable19 : Callable Tryz.prog 19 := cb Tryz.func19 (by kernel_rfl)
theorem l0callable18 : Callable Tryz.prog 18 := cb Tryz.func18 (by kernel_rfl)
theorem l0callable20 : Callable Tryz.prog 20 := cb Tryz.func20 (by kernel_rfl)
theorem l0callable21 : Callable Tryz.prog 21 := cb Tryz.func21 (by kernel_rfl)
theorem l0callable22 : Callable Tryz.prog 22 := cb Tryz.func22 (by kernel_rfl)
theorem lawOpened (B : Base) (H : List Res) (w : World) (now : Int) (h0 : 0 ≤ now) (h1 : now ≤ 1099511627776) (hv : Inv B H w) :
  Calls Tryz.prog 7 #[vI now] w fun e w' => ∃ v t m s p wb va vc sv, e = .returned (vP v) ∧ Inv B (Res.cell v [.iface 63 (vP t)] 40 :: txR t m s p wb va vc sv now [] :: H) w' := by
 refine cW Tryz.func7 rfl Tryz.ntmps7 ?_
 simp only [al]
 refine sK fun _ k1 => rL (uA rfl ?_)
 refine uW k1 (sK fun _ k2 => ?_)
 refine rL (xC l0callable19 rfl ((storeNew0 B _ _ hv).mono ?_) rfl)
 rintro e w3 ⟨s, p, rfl, hv⟩
 refine ⟨_, rfl, uG (.agg #[]) rfl (ex_buildN (vs := #[]) rfl (by simp only [List.map_toArray, List.map_nil]) (by kernel_rfl)) ?_⟩
 refine uG (.iface 61 (.agg #[])) rfl (ex_iface Tryz.underlying61 (fun _ h => by cases h) rfl rfl) ?_
 refine xC l0callable18 rfl ((txnNew0 B _ _ s 61 (.agg #[]) hv).mono ?_) rfl
 rintro e w4 ⟨m, rfl, hv⟩
 refine ⟨_, rfl, ?_⟩
 obtain ⟨sv, hsv⟩ : ∃ sv, sv = Value.iface 61 (.agg #[]) := ⟨_, rfl⟩
 rw [← hsv] at hv
 refine uM rfl (uE rfl ?_)
 refine uE rfl (uA rfl ?_)
 refine uA rfl (uW k2 ?_)
 refine sK fun _ k5 => sK fun _ k6 => rL (uM rfl ?_)
 refine uG (.bool false) rfl (ex_pisnil Tryz.underlying54 rfl rfl rfl rfl) (uW k6 ?_)
 refine cF rfl (kS ?_)
 refine tK k5 (sK fun _ k7 => ?_)
 refine rL (uM rfl ?_)
 refine uM rfl ?_
 refine xC l0callable20 rfl ((txnTick0 B _ _ m s sv now h0 h1 hv).mono ?_) rfl
 rintro e w8 ⟨r9, rfl, hv⟩
 refine ⟨_, rfl, uW k7 ?_⟩
 refine sK fun _ k9 => rL (uM rfl ?_)
 replace hv := hv.front 2 rfl
 simp only [eS, eZ] at hv
 replace hv := hv.front 2 rfl
 simp only [eS, eZ] at hv
 replace hv := hv.front 2 rfl
 simp only [eS, eZ] at hv
 refine xC l0callable21 rfl ((txnBegin B _ _ m s p sv now hv).mono ?_) rfl
 rintro e w10 ⟨t, wb, va, vc, rfl, hv⟩
 refine ⟨_, rfl, uM rfl ?_⟩
 refine uE rfl (uE rfl ?_)
 refine uA rfl (uA rfl ?_)
 refine uW k9 (sK fun _ k11 => ?_)
 refine sK fun _ k12 => rL (uM rfl ?_)
 refine uG (.bool false) rfl (ex_pisnil Tryz.underlying63 rfl rfl rfl rfl) (uW k12 ?_)
 refine cF rfl (kS ?_)
 refine tK k11 (sK fun _ k13 => ?_)
 refine rL (uM rfl ?_)
 refine uG (.iface 63 (vP t)) rfl (ex_iface Tryz.underlying63 (fun _ h => by cases h) rfl rfl) ?_
 refine xC l0callable22 rfl ((viewNew B _ _ t hv).mono ?_) rfl
 rintro e w14 ⟨v, rfl, hv⟩
 refine ⟨_, rfl, uM rfl ?_⟩
 refine uE rfl (uE rfl ?_)
 refine uA rfl (uA rfl ?_)
 refine uW k13 (sK fun _ k15 => ?_)
 refine rL (uM rfl ?_)
 refine uA rfl (uW k15 ?_)
 refine rR (bR rfl rfl ?_)
 exact ⟨v, t, m, s, p, wb, va, vc, sv, rfl, ((hv.front 1 rfl).front 1 rfl)⟩
theorem l0al28 : AL Tryz.prog 28 [vI 0, vS [], vI 0, vN] := fun w => by kernel_rfl
theorem ref20Str (B : Base) (H : List Res) (w : World) (s : List UInt8) (hv : Inv B H w) :
  Calls Tryz.prog 34 #[vS s] w fun e w' => e = .returned (.agg #[vI 3, vS s, vI 0, vN]) ∧ Inv B H w' := by
 refine cW Tryz.func34 rfl Tryz.ntmps34 ?_
 simp only [al]
 refine sK fun _ k1 => rL (sl_alloc tV (wn rfl) rfl hv l0al28 (fun b2 w3 hv => ?_))
 refine uW k1 (sK fun _ k4 => ?_)
 refine rL (uM rfl ?_)
 refine uG (.agg #[vI 3, vS s, vI 0, vN]) rfl (ex_buildN (vs := #[(0, vI 3), (1, vS s)]) rfl (by simp only [List.map_toArray, List.map_cons, List.map_nil]; rfl) (by kernel_rfl)) ?_
 refine xS 0 rfl hv rssz28 rfl (by exact ⟨rfl, rfl, rfl, rfl, trivial⟩) (fun w5 hv => ?_)
 simp only [zO, sp] at hv
 refine uW k4 (rR ?_)
 refine bC 0 rswd28 hv rfl rfl rfl rfl (⟨rfl, (hv.kp [] 0 1)⟩)
theorem l0callable34 : Callable Tryz.prog 34 := cb Tryz.func34 (by kernel_rfl)
theorem l0mk28 : (Tryz.prog.info? 28).map (fun i => (i.zero, i.size, i.bytes)) = some (some (.agg #[vI 0, vS [], vI 0, vN]), 4, 56) := by kernel_rfl
theorem l0el26 : Elem Tryz.prog 26 28 (.agg #[vI 0, vS [], vI 0, vN]) 4 56 := elem_of Tryz.underlying26 l0mk28 (by rfl) (by decide)
theorem ref20Strs (B : Base) (H : List Res) (w : World) (sa : Option Addr) (sc : Nat) (ss : List (List UInt8)) (hr : RdV B [] sa (textCells ss)) (hm : ss.length ≤ 1000000) (hv : Inv B H w) :
  Calls Tryz.prog 17 #[.slice sa ss.length sc] w fun e w' => ∃ C v, B.Le C ∧ e = .returned (.agg #[vI 5, vS (([] : List UInt8)), vI 0, v]) ∧ RpAt C (rStrs ss) (rpCells 5 [] 0 v) ∧ Inv C H w' := by
 refine cW Tryz.func17 rfl Tryz.ntmps17 ?_
 simp only [al]
 refine sK fun _ k1 => rL (sl_alloc tV (wn rfl) rfl hv l0al28 (fun b2 w3 hv => ?_))
 refine uW k1 (sK fun _ k4 => ?_)
 refine rL (uG (.agg #[vI 5, vS [], vI 0, vN]) rfl (ex_buildN (vs := #[(0, vI 5)]) rfl (by simp only [List.map_toArray, List.map_cons, List.map_nil]; rfl) (by kernel_rfl)) ?_)
 refine sl_alloc tV (wn rfl) rfl hv l0al28 (fun b5 w6 hv => ?_)
 refine xS 0 rfl hv rssz28 rfl (by exact ⟨rfl, rfl, rfl, rfl, trivial⟩) (fun w7 hv => ?_)
 simp only [zO, sp] at hv
 refine uW k4 (sK fun _ k8 => ?_)
 refine sK fun _ k9 => rL (uA rfl ?_)
 refine uW k9 (bB ?_)
 gi_loopw [4] (fun x4 wr => ∃ (i : Nat) (ra : Option Addr) (rc : Nat), x4 = vI i ∧ i ≤ ss.length ∧ Inv B (Res.row 28 4 (.slice ra i rc) i (strsCells (ss.take i)) :: Res.cell b5 [vI 5, vS [], vI 0, .slice ra i rc] 28 :: Res.cell b2 [vI 0, vS [], vI 0, vN] 28 :: H) wr) (fun x4 _ => ss.length - (intOf x4).toNat)
 case atStart => exact ⟨0, none, 0, rfl, Nat.zero_le _, (((hv.front 1 rfl).front 1 rfl)).rowNil 28 4⟩
 case round =>
  obtain ⟨i, ra, rc, rfl, hi, hv⟩ := hrel
  refine sK fun _ k11 => sK fun _ k12 => rL (uM rfl ?_)
  refine uM rfl ?_
  refine uG (vI (ss.length : Int)) rfl (ex_len0 Tryz.underlying22 rfl rfl) ?_
  by_cases hb13 : (i : Int) < (ss.length : Int)
  ·refine uG (.bool true) rfl (ex_lss rfl rfl rfl (qT hb13)) (uW k12 ?_)
   refine cT rfl (kS ?_)
   refine tK k11 (sK fun _ k14 => ?_)
   refine bB ?_
   obtain ⟨x, hx⟩ : ∃ x, ss[i]? = some x := ⟨_, List.getElem?_eq_getElem (show i < ss.length by omega)⟩
   obtain ⟨bb, bo, had, hrdx⟩ := text_reads hr hx
   subst had
   refine rW mixed [6, 7, 8, 10] [0,1,2,3,4,5,6,7,8,9,10] 23 rfl (by kernel_rfl) hv ?_
   simp only [qm, opAt]
   refine dG (.pointer (some ⟨b5, 3, none⟩)) rfl (ex_field rfl rfl (rtfa28_3 _ _ _)) (dF _ rfl (fun hv => ex_load rfl rfl (run_load1 rtna26 (hv.load 1 3 rfl rfl))) fun f15 hf15 => ?_)
   refine dM (.slice (some ⟨bb, bo, none⟩) ss.length sc) rfl ?_
   simp only [zP, po]
   refine dM (vI i) rfl (dG (.pointer (some ⟨bb, bo + i, none⟩)) rfl (ex_index rfl rfl rfl (run_idx1 (k := i) Tryz.underlying22 s9es22 (by omega))) ?_)
   refine dL _ rfl (fun hv => ex_load rfl rfl (run_load1 s9na9 (hrdx _ _ _ (Base.Le.refl _) no_res hv 0 _ rfl))) ?_
   simp only [zP, po]
   refine dS rfl fun w16 hv => mC l0callable34 rfl ((ref20Str B _ _ x hv).mono ?_) rfl
   rintro e w17 ⟨rfl, hv⟩
   refine ⟨_, rfl, dV hv (fC (fun ww hv => hf15 ww (ex_load rfl rfl (run_load1 rtna26 (hv.load 1 3 rfl rfl)))) fN) ?_⟩
   refine dS rfl fun w18 hv => mem_rowAgg (L := [vI 3, vS x, vI 0, vN]) rfl rfl rfl hv l0el26 rfl (by decide) (fun b19 w20 hv => ?_)
   refine dV hv (fC (fun ww hv => hf15 ww (ex_load rfl rfl (run_load1 rtna26 (hv.load 2 3 rfl rfl)))) fN) (dS rfl fun w21 hv => ?_)
   replace hv := hv.front 1 rfl
   simp only [eS, eZ] at hv
   refine mem_append (news := [vI 3, vS x, vI 0, vN]) rfl rfl rfl rfl l0el26 hv (ok_full (by omega)) rfl (rd_all (hv.get 1 rfl)) (by intro u hu; simp only [List.mem_cons, List.not_mem_nil, or_false] at hu; rcases hu with rfl | rfl | rfl | rfl <;> rfl) (by unfold maxLen; omega) (by omega) (fun rv22 w25 hv => ?_)
   obtain ⟨ra23, rc24, rfl⟩ := row_slice hv.head
   refine dV hv (fK rfl fN) ?_
   simp only [zP, po]
   refine dG (.pointer (some ⟨b5, 3, none⟩)) rfl (ex_field rfl rfl (rtfa28_3 _ _ _)) (dS rfl fun w26 hv => ?_)
   refine mV 2 (.slice ra23 (i + 1) rc24) rfl hv rtsz26 rfl rfl (fun w27 hv => ?_)
   simp only [zS, zO, sp] at hv
   refine dV hv (fK rfl fN) (dE fun w28 hv => ?_)
   simp only [zP, po]
   refine bN (tK k14 ?_)
   refine rL (uM rfl ?_)
   refine uG (vI ((i + 1 : Nat) : Int)) rfl (ex_add rfl rfl rfl (by rw [i64_in (by omega)]; omega)) (uA rfl ?_)
   refine uZ (then_normal ?_)
   go_roundw
   case rel => exact ⟨i + 1, _, _, rfl, by omega, by rw [strsCells_next hx]; exact (hv.kp [3, 3, 2] 3 1)⟩
   case measure => show ss.length - (((i + 1 : Nat) : Int)).toNat < ss.length - ((i : Int)).toNat; omega
  refine uG (.bool false) rfl (ex_lss rfl rfl rfl (qF hb13)) (uW k12 ?_)
  refine cF rfl (xE ?_)
  refine tX (tX ?_)
  refine bH (tK k8 ?_)
  refine sK fun _ k29 => rL (uL (.agg #[vI 5, vS [], vI 0, .slice ra i rc]) rfl (lM 1 rswd28 hv rfl rfl rfl rfl) ?_)
  refine xS 2 rfl hv rssz28 rfl (by exact ⟨rfl, rfl, rfl, rfl, trivial⟩) (fun w30 hv => ?_)
  simp only [zS, zO, sp] at hv
  refine uW k29 (rR ?_)
  refine bC 2 rswd28 hv rfl rfl rfl rfl ?_
  obtain rfl : i = ss.length := by omega
  obtain ⟨C, hC, hv, hro, hoko, -⟩ := ((hv.sub (sC _ (sD _ (sD _ (sR _)))))).rowBy
  rw [List.take_length] at hro
  exact ⟨C, _, hC, rfl, rpAt_of (l := ss.map rStr) ⟨ra, rc, by rw [List.length_map], by rw [List.length_map]; exact hoko, hro⟩ (strsCells_at ss), hv⟩
def SameR (B : Base) (r : Rp) : Prop := ∀ (H : List Res) (w : World) (cs cs' : List Value), RpAt B r cs → RpAt B r cs' → Inv B H w → Calls Tryz.prog 9 #[.agg cs.toArray, .agg cs'.toArray] w fun e w' => e = .returned (.bool true) ∧ Inv B H w'
theorem l0fa28_0 : FA Tryz.prog 28 0 0 := fun w b o => by kernel_rfl
theorem l0fa28_1 : FA Tryz.prog 28 1 1 := fun w b o => by kernel_rfl
theorem l0fa28_2 : FA Tryz.prog 28 2 2 := fun w b o => by kernel_rfl
theorem l0es26 (w : World) : (sizeOf (Tryz.prog.elem 26)).run Tryz.prog w = .ok 4 w := by kernel_rfl
theorem l0callable9 : Callable Tryz.prog 9 := cb Tryz.func9 (by kernel_rfl)
theorem refSameRp0 (B : Base) (H : List Res) (w : World) (k : Int) (s : List UInt8) (n : Int) (l : List Rp) (a a' : Option Addr) (c c' : Nat) (xs xs' : List Value) (hrd : RdV B [] a xs) (hrd' : RdV B [] a' xs') (hat : RpsAt B l xs) (hat' : RpsAt B l xs') (hl : l.length ≤ 1000000) (hIH : ∀ x ∈ l, SameR B x) (hv : Inv B H w) :
  Calls Tryz.prog 9 #[.agg #[vI k, vS s, vI n, .slice a l.length c], .agg #[vI k, vS s, vI n, .slice a' l.length c']] w fun e w' => e = .returned (.bool true) ∧ Inv B H w' := by
 refine cW Tryz.func9 rfl Tryz.ntmps9 ?_
 simp only [al]
 refine sK fun _ k1 => rL (sl_box (L := [vI k, vS s, vI n, .slice a l.length c]) tV (wn rfl) rfl rfl hv (fun w => by kernel_rfl) (fun b2 w3 hv => ?_))
 refine sl_box (L := [vI k, vS s, vI n, .slice a' l.length c']) tV (wn rfl) rfl rfl hv (fun w => by kernel_rfl) (fun b4 w5 hv => ?_)
 refine uA rfl (uW k1 ?_)
 refine sK fun _ k6 => sK fun _ k7 => rL (uF (vP b2) rfl (l0fa28_0 _ _ _) ?_)
 refine uL _ rfl (run_load1 s2na3 (hv.load 1 0 rfl rfl)) ?_
 refine uF (vP b4) rfl (l0fa28_0 _ _ _) ?_
 refine uL _ rfl (run_load1 s2na3 (hv.load 0 0 rfl rfl)) ?_
 refine uG (.bool false) rfl (ex_neq rfl rfl rfl (qF (fun h => h rfl))) (uM rfl ?_)
 refine uF (.pointer (some ⟨b2, 1, none⟩)) rfl (l0fa28_1 _ _ _) ?_
 refine uL _ rfl (run_load1 s9na9 (hv.load 1 1 rfl rfl)) ?_
 refine uF (.pointer (some ⟨b4, 1, none⟩)) rfl (l0fa28_1 _ _ _) ?_
 refine uL _ rfl (run_load1 s9na9 (hv.load 0 1 rfl rfl)) ?_
 refine uG (.bool false) rfl (ex_sneq rfl rfl rfl (qF (fun h => h rfl))) (uK rfl ?_)
 refine uM rfl ?_
 refine uF (.pointer (some ⟨b2, 2, none⟩)) rfl (l0fa28_2 _ _ _) ?_
 refine uL _ rfl (run_load1 s2na3 (hv.load 1 2 rfl rfl)) ?_
 refine uF (.pointer (some ⟨b4, 2, none⟩)) rfl (l0fa28_2 _ _ _) ?_
 refine uL _ rfl (run_load1 s2na3 (hv.load 0 2 rfl rfl)) ?_
 refine uG (.bool false) rfl (ex_neq rfl rfl rfl (qF (fun h => h rfl))) (uK rfl ?_)
 refine uM rfl ?_
 refine uF (.pointer (some ⟨b2, 3, none⟩)) rfl (rtfa28_3 _ _ _) ?_
 refine uL _ rfl (run_load1 rtna26 (hv.load 1 3 rfl rfl)) ?_
 refine uG (vI (l.length : Int)) rfl (ex_len0 Tryz.underlying26 rfl rfl) ?_
 refine uF (.pointer (some ⟨b4, 3, none⟩)) rfl (rtfa28_3 _ _ _) ?_
 refine uL _ rfl (run_load1 rtna26 (hv.load 0 3 rfl rfl)) ?_
 refine uG (vI (l.length : Int)) rfl (ex_len0 Tryz.underlying26 rfl rfl) ?_
 refine uG (.bool false) rfl (ex_neq rfl rfl rfl (qF (fun h => h rfl))) (uK rfl ?_)
 refine uW k7 (cF rfl ?_)
 refine kS (tK k6 ?_)
 refine sK fun _ k8 => sK fun _ k9 => rL (uA rfl ?_)
 refine uW k9 (bB ?_)
 gi_loopw [5] (fun x5 wr => ∃ (i : Nat), x5 = vI i ∧ i ≤ l.length ∧ Inv B (Res.cell b4 [vI k, vS s, vI n, .slice a' l.length c'] 28 :: Res.cell b2 [vI k, vS s, vI n, .slice a l.length c] 28 :: H) wr) (fun x5 _ => l.length - (intOf x5).toNat)
 case atStart => exact ⟨0, rfl, Nat.zero_le _, hv⟩
 case round =>
  obtain ⟨i, rfl, hi, hv⟩ := hrel
  refine sK fun _ k11 => sK fun _ k12 => rL (uM rfl ?_)
  refine uF (.pointer (some ⟨b2, 3, none⟩)) rfl (rtfa28_3 _ _ _) ?_
  refine uL _ rfl (run_load1 rtna26 (hv.load 1 3 rfl rfl)) ?_
  refine uG (vI (l.length : Int)) rfl (ex_len0 Tryz.underlying26 rfl rfl) ?_
  by_cases hb13 : (i : Int) < (l.length : Int)
  ·refine uG (.bool true) rfl (ex_lss rfl rfl rfl (qT hb13)) (uW k12 ?_)
   refine cT rfl (kS ?_)
   refine tK k11 (sK fun _ k14 => ?_)
   refine bB (sK fun _ k15 => ?_)
   obtain ⟨x, hx⟩ : ∃ x, l[i]? = some x := ⟨_, List.getElem?_eq_getElem (show i < l.length by omega)⟩
   obtain ⟨xk, xs, xn, xq⟩ := x
   obtain ⟨q1, o1, v1, y1, h1a, h1b, h1c, h1d⟩ := hat.reads hrd hx
   obtain ⟨q2, o2, v2, y2, h2a, h2b, h2c, h2d⟩ := hat'.reads hrd' hx
   subst h1a
   subst h2a
   have hq1 := rpAt_of (k := xk) (s := xs) (n := xn) h1b h1c
   have hq2 := rpAt_of (k := xk) (s := xs) (n := xn) h2b h2c
   refine rW mixed [10] [0,1,2,3,4,5,6,7,8,9,10,11] 53 rfl (by kernel_rfl) hv ?_
   simp only [qm, opAt]
   refine dG (.pointer (some ⟨b2, 3, none⟩)) rfl (ex_field rfl rfl (rtfa28_3 _ _ _)) (dL _ rfl (fun hv => ex_load rfl rfl (run_load1 rtna26 (hv.load 1 3 rfl rfl))) ?_)
   refine dM (vI i) rfl ?_
   simp only [zP, po]
   refine dG (.pointer (some ⟨q1, o1 + i * 4, none⟩)) rfl (ex_index rfl rfl rfl (run_idx (k := i) Tryz.underlying26 l0es26 (by omega))) (dL (.agg #[vI xk, vS xs, vI xn, v1]) rfl (fun hv => ex_load rfl rfl (run_loadR (cs := [vI xk, vS xs, vI xn, v1]) rswd28 (Reads.mid (pre := []) (mid := [vI xk, vS xs, vI xn, v1]) (post := []) h1d _ _ _ (Base.Le.refl _) no_res hv))) ?_)
   refine dG (.pointer (some ⟨b4, 3, none⟩)) rfl (ex_field rfl rfl (rtfa28_3 _ _ _)) ?_
   simp only [zP, po]
   refine dL _ rfl (fun hv => ex_load rfl rfl (run_load1 rtna26 (hv.load 0 3 rfl rfl))) (dM (vI i) rfl ?_)
   refine dG (.pointer (some ⟨q2, o2 + i * 4, none⟩)) rfl (ex_index rfl rfl rfl (run_idx (k := i) Tryz.underlying26 l0es26 (by omega))) ?_
   simp only [zP, po]
   refine dL (.agg #[vI xk, vS xs, vI xn, v2]) rfl (fun hv => ex_load rfl rfl (run_loadR (cs := [vI xk, vS xs, vI xn, v2]) rswd28 (Reads.mid (pre := []) (mid := [vI xk, vS xs, vI xn, v2]) (post := []) h2d _ _ _ (Base.Le.refl _) no_res hv))) (dS rfl fun w16 hv => ?_)
   refine mC l0callable9 rfl ((hIH _ (List.mem_of_getElem? hx) _ _ (rpCells xk xs xn v1) (rpCells xk xs xn v2) hq1 hq2 hv).mono ?_) rfl
   rintro e w17 ⟨rfl, hv⟩
   refine ⟨_, rfl, dW hv ?_⟩
   refine dG (.bool false) rfl (ex_not rfl rfl rfl) (dE fun w18 hv => ?_)
   simp only [zP, po]
   refine tK k15 (cF rfl ?_)
   refine kS (bN ?_)
   refine tK k14 (rL ?_)
   refine uM rfl ?_
   refine uG (vI ((i + 1 : Nat) : Int)) rfl (ex_add rfl rfl rfl (by rw [i64_in (by omega)]; omega)) (uA rfl ?_)
   refine uZ (then_normal ?_)
   go_roundw
   case rel => exact ⟨i + 1, rfl, by omega, hv⟩
   case measure => show l.length - (((i + 1 : Nat) : Int)).toNat < l.length - ((i : Int)).toNat; omega
  refine uG (.bool false) rfl (ex_lss rfl rfl rfl (qF hb13)) (uW k12 ?_)
  refine cF rfl (xE ?_)
  refine tX (tX ?_)
  refine bH (tK k8 ?_)
  refine sK fun _ k19 => rL (uA rfl ?_)
  refine uW k19 (rR ?_)
  refine bR rfl rfl (⟨rfl, (hv.kp [] 0 2)⟩)
theorem sameR_of {B : Base} {k : Int} {s : List UInt8} {n : Int} {l : List Rp} (hl : l.length ≤ 1000000) (h : ∀ x ∈ l, SameR B x) : SameR B (.mk k s n l) := fun H w cs cs' h1 h2 hv => by
 simp only [RpAt] at h1 h2
 obtain ⟨v, xs, rfl, ⟨a, c, rfl, -, hr⟩, hx⟩ := h1
 obtain ⟨v', xs', rfl, ⟨a', c', rfl, -, hr'⟩, hx'⟩ := h2
 exact refSameRp0 B H w k s n l a a' c c' xs xs' hr hr' hx hx' hl h hv
theorem sameR_leaf {B : Base} {k : Int} {s : List UInt8} {n : Int} : SameR B (.mk k s n []) := sameR_of (Nat.zero_le _) fun x h => by cases h
theorem sameR_strs {B : Base} {l : List (List UInt8)} (hl : l.length ≤ 1000000) : SameR B (rStrs l) := sameR_of (by rw [List.length_map]; exact hl) fun x h => by
 obtain ⟨y, -, rfl⟩ := List.mem_map.1 h
 exact sameR_leaf
theorem rp_parts {B : Base} {r : Rp} {cs : List Value} (h : RpAt B r cs) : ∃ k s n v, cs = rpCells k s n v := by
 cases r; simp only [RpAt] at h
 obtain ⟨v, xs, h1, -⟩ := h
 exact ⟨_, _, _, v, h1⟩
theorem rp_int {B : Base} {n : Int} {cs : List Value} (h : RpAt B (rInt n) cs) : ∃ v, cs = rpCells 2 [] n v := by
 simp only [rInt, RpAt] at h
 obtain ⟨v, xs, h1, -⟩ := h
 exact ⟨v, h1⟩
theorem rp_strs {B : Base} {l : List (List UInt8)} {cs : List Value} (h : RpAt B (rStrs l) cs) : ∃ a c, cs = rpCells 5 [] 0 (.slice a l.length c) := by
 simp only [rStrs, rList, RpAt] at h
 obtain ⟨v, xs, h1, ⟨a, c, rfl, -⟩, -⟩ := h
 exact ⟨a, c, by rw [h1, List.length_map]⟩
theorem vmNil (B : Base) : VM B [] [] := trivial
theorem all0 {p : List UInt8 → Prop} : ∀ x ∈ ([] : List (List UInt8)), p x := fun _ h => by cases h
theorem all1 {p : List UInt8 → Prop} {a : List UInt8} {l : List (List UInt8)} (h : p a) (t : ∀ x ∈ l, p x) : ∀ x ∈ a :: l, p x := fun x hx => (List.mem_cons.1 hx).elim (fun e => e ▸ h) (t x)
end Go.Proofs.YtffnhfkkochnhaaGreatDoor
