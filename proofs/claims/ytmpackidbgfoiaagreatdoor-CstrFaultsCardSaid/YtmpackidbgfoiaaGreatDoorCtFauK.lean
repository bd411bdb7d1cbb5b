/- cstr: options, lay. -/
import Derived.Test.YtmpackidbgfoiaaGreatDoorCtFauC
import Derived.Test.YtmpackidbgfoiaaGreatDoorCtFauJ
import Derived.Test.YtmpackidbgfoiaaGreatDoorCtFauB
import Derived.Test.YtmpackidbgfoiaaGreatDoorRows
set_option maxRecDepth 100000
set_option maxHeartbeats 16000000
set_option synthInstance.maxSize 4096
set_option synthInstance.maxHeartbeats 400000
namespace Go.Proofs.YtmpackidbgfoiaaGreatDoor
open Go.RowKit Go.Pm
theorem ints_one {t : List UInt8} {ns : List Int} {ec : Int} (h : IntsR [t] ns ec) : (ec = 0 ∧ ∃ n, ns = [n] ∧ NumP t n true) ∨ (ec = 41 ∧ ns = [] ∧ NumP t 0 false) := by
 rcases h with ⟨h1, h2, h3⟩ | ⟨h1, h2, t2, h3, h4⟩
 ·match ns, h2 with
  | [n], _ => exact .inl ⟨h1, n, rfl, h3 0 t n rfl rfl⟩
 rw [List.mem_singleton.1 h3] at h4; exact .inr ⟨h1, h2, h4⟩
section
variable {q : Prop} {args : List (List UInt8)} {alw : List Int} {i : Nat} {cd lf r : Int} {x : List UInt8} {ws : List (List UInt8)}
theorem opt_in (hq : q → args = [] ∨ (args = [[78, 88]] ∧ (0 : Int) ∈ alw)) (hI : q → (i = 0 ∧ cd = -1 ∧ lf = -1) ∨ (i = 1 ∧ args = [[78, 88]] ∧ cd = 0 ∧ lf = -1)) (hx : args[i]? = some x) (h : IsI x ([78, 88] :: ws) r) : q → r = 0 ∧ cd = -1 ∧ lf = -1 ∧ i = 0 ∧ args = [[78, 88]] ∧ (0 : Int) ∈ alw := fun h9 => by
 rcases hq h9 with rfl | ⟨rfl, h2⟩
 ·cases hx
 rcases hI h9 with ⟨rfl, h3, h4⟩ | ⟨rfl, -⟩
 ·cases hx
  refine ⟨?_, h3, h4, rfl, rfl, h2⟩
  rcases h with ⟨-, h⟩ | ⟨j, y, rfl, -, -, h⟩
  ·exact absurd ⟨rfl, fun k a b h5 h6 => by rw [h5] at h6; cases h6; rfl⟩ (h [78, 88] List.mem_cons_self)
  rcases Nat.eq_zero_or_pos j with rfl | hj
  ·rfl
  exact absurd ⟨rfl, fun k a b h5 h6 => by rw [h5] at h6; cases h6; rfl⟩ (h 0 [78, 88] hj rfl)
 cases hx
theorem opt_out (hI : q → (i = 0 ∧ cd = -1 ∧ lf = -1) ∨ (i = 1 ∧ args = [[78, 88]] ∧ cd = 0 ∧ lf = -1)) (hi : i = args.length) : q → lf = -1 ∧ (args = [] → cd = -1) ∧ (args ≠ [] → cd = 0) := fun h9 => by
 rcases hI h9 with ⟨h1, h2, h3⟩ | ⟨h1, h2, h3, h4⟩
 ·exact ⟨h3, fun _ => h2, fun h => absurd (List.eq_nil_of_length_eq_zero (by omega)) h⟩
 exact ⟨h4, fun h => (by rw [h] at h2; cases h2), fun _ => h3⟩
end
theorem cs1al124 : AL Tryz.prog 124 [vI 0, vI 0, vI 0] := fun w => by kernel_rfl
theorem cs1sz124 : (Tryz.prog.info? 124).map (·.size) = some 3 := by kernel_rfl
theorem cs1callable95 : Callable Tryz.prog 95 := cb Tryz.func95 (by kernel_rfl)
theorem cs1callable103 : Callable Tryz.prog 103 := cb Tryz.func103 (by kernel_rfl)
theorem cs1wd124 : Wide Tryz.prog 124 3 := wide_of (fun w => by kernel_rfl) (by kernel_rfl)
theorem cs1fa124_1 : FA Tryz.prog 124 1 1 := fun w b o => by kernel_rfl
theorem cs1fa124_0 : FA Tryz.prog 124 0 0 := fun w b o => by kernel_rfl
theorem cs1mk9 : (Tryz.prog.info? 9).map (fun i => (i.zero, i.size, i.bytes)) = some (some (vS []), 1, 16) := by kernel_rfl
theorem cs1el23 : Elem Tryz.prog 23 9 (vS []) 1 16 := elem_of Tryz.underlying23 cs1mk9 (by rfl) (by decide)
theorem cs1callable56 : Callable Tryz.prog 56 := cb Tryz.func56 (by kernel_rfl)
theorem cs1fa124_2 : FA Tryz.prog 124 2 2 := fun w b o => by kernel_rfl
theorem cstrOptions (B : Base) (H : List Res) (w : World) (aa : Option Addr) (ac : Nat) (args : List (List UInt8)) (hra : RdV B [] aa (textCells args)) (hma : args.length ≤ 10000) (hxl : ∀ x ∈ args, x.length ≤ 9223372036854775807) (ia : Option Addr) (ic : Nat) (alw : List Int) (hri : RdV B [] ia (intCells alw)) (hml : alw.length ≤ 1000000) (hN : NumB B) (q : Prop) (hq : q → args = [] ∨ (args = [[78, 88]] ∧ (0 : Int) ∈ alw)) (hv : Inv B H w) :
  Calls Tryz.prog 83 #[.slice aa args.length ac, .slice ia alw.length ic] w fun e w' => ∃ (C : Base) (c1 c2 n ec : Int), B.Le C ∧ e = .returned (.tuple #[.agg #[vI c1, vI c2, vI n], vI ec]) ∧ (-9223372036854775808 ≤ n ∧ n ≤ 9223372036854775807) ∧ (q → ec = 0 ∧ c2 = -1 ∧ (args = [] → c1 = -1) ∧ (args ≠ [] → c1 = 0)) ∧ Inv C H w' := by
 refine cW Tryz.func83 rfl Tryz.ntmps83 ?_
 simp only [al]
 refine sK fun _ k1 => rL (sl_alloc tV (wn rfl) rfl hv cs1al124 (fun b2 w3 hv => ?_))
 refine uA rfl (uW k1 ?_)
 refine sK fun _ k4 => rL (uG (.agg #[vI (-1), vI (-1), vI 0]) rfl (ex_buildN (vs := #[(0, vI (-1)), (1, vI (-1))]) rfl (by simp only [List.map_toArray, List.map_cons, List.map_nil]; rfl) (by kernel_rfl)) ?_)
 refine sl_alloc tV (wn rfl) rfl hv cs1al124 (fun b5 w6 hv => ?_)
 simp only [zP, po]
 refine xS 0 rfl hv cs1sz124 rfl (by exact ⟨rfl, rfl, rfl, trivial⟩) (fun w7 hv => ?_)
 simp only [zO, sp] at hv
 refine uW k4 (sK fun _ k8 => ?_)
 refine rL (uA rfl ?_)
 refine uW k8 (sK fun _ k9 => ?_)
 refine sK fun _ k10 => rL (uA rfl ?_)
 refine uW k10 (bB ?_)
 gi_loopw [8, 7] (fun x8 x7 wr => ∃ (i : Nat) (D : Base) (num : List UInt8) (cd lf : Int), x8 = vI i ∧ x7 = vS num ∧ B.Le D ∧ i ≤ args.length ∧ (q → (i = 0 ∧ cd = -1 ∧ lf = -1) ∨ (i = 1 ∧ args = [[78, 88]] ∧ cd = 0 ∧ lf = -1)) ∧ Inv D (Res.cell b5 [vI cd, vI lf, vI 0] 124 :: Res.cell b2 [vI 0, vI 0, vI 0] 124 :: H) wr) (fun x8 x7 _ => args.length - (intOf x8).toNat)
 case atStart => exact ⟨0, B, [], -1, -1, rfl, rfl, Base.Le.refl _, Nat.zero_le _, fun _ => .inl ⟨rfl, rfl, rfl⟩, ((hv.front 1 rfl).front 1 rfl)⟩
 case round =>
  obtain ⟨i, D, num, cd, lf, rfl, rfl, hBD, hi, hI, hv⟩ := hrel
  refine sK fun _ k12 => sK fun _ k13 => rL (uM rfl ?_)
  refine uM rfl ?_
  refine uG (vI (args.length : Int)) rfl (ex_len0 Tryz.underlying23 rfl rfl) ?_
  by_cases hb14 : (i : Int) < (args.length : Int)
  ·refine uG (.bool true) rfl (ex_lss rfl rfl rfl (qT hb14)) (uW k13 ?_)
   refine cT rfl (kS ?_)
   refine tK k12 (sK fun _ k15 => ?_)
   refine bB (sK fun _ k16 => ?_)
   have hv9 := hv
   obtain ⟨x, hx⟩ : ∃ x, args[i]? = some x := ⟨_, List.getElem?_eq_getElem (show i < args.length by omega)⟩
   obtain ⟨xb, xo, had, hrdx⟩ := text_reads hra hx
   subst had
   have hv := hv9
   clear hv9
   refine rL (uM rfl ?_)
   refine uM rfl ?_
   refine uG (.pointer (some ⟨xb, xo + i, none⟩)) rfl (ex_index rfl rfl rfl (run_idx1 (k := i) Tryz.underlying23 s9es23 (by omega))) ?_
   refine uL _ rfl (run_load1 s9na9 (hrdx _ _ _ hBD no_res hv 0 _ rfl)) ?_
   refine sl_rowN (pv := #[(0, vS [78, 88]), (1, vS [88, 88]), (2, vS [69, 88]), (3, vS [75, 69, 69, 80, 84, 84, 76]), (4, vS [80, 69, 82, 83, 73, 83, 84])]) (L := [vS [78, 88], vS [88, 88], vS [69, 88], vS [75, 69, 69, 80, 84, 84, 76], vS [80, 69, 82, 83, 73, 83, 84]]) (e := 9) tV (wn rfl) rfl (by simp only [List.map_toArray, List.map_cons, List.map_nil]; rfl) hv (fun w => by kernel_rfl) (fun b17 w18 hv => ?_)
   simp only [zP, po]
   obtain ⟨K19, hK19, hv, hrkK19, hokK19, -⟩ := (hv.cellRow (n := 5) (c := 5) (size := 1) rfl (by decide) (by decide)).rowBy
   refine xC cs1callable95 rfl ((viewIs K19 _ _ x _ 5 [([78, 88] : List UInt8), ([88, 88] : List UInt8), ([69, 88] : List UInt8), ([75, 69, 69, 80, 84, 84, 76] : List UInt8), ([80, 69, 82, 83, 73, 83, 84] : List UInt8)] hrkK19 (Nat.le_of_ble_eq_true rfl) (hxl x (List.mem_of_getElem? hx)) hv).mono ?_) rfl
   rintro e w20 ⟨r, rfl, his, hv⟩
   refine ⟨_, rfl, ?_⟩
   have hin := opt_in hq hI hx his
   refine uA rfl (uW k16 ?_)
   refine sK fun _ k21 => sK fun _ k22 => rL (uM rfl ?_)
   refine uM rfl ?_
   refine xC cs1callable103 rfl ((containsInts K19 _ _ ia ic alw (hri.more (hBD.trans hK19) (fun _ h => h)) hml r hv).mono ?_) rfl
   rintro e w23 ⟨cb, rfl, hcb, hv⟩
   refine ⟨_, rfl, ?_⟩
   cases cb
   ·refine uG (.bool true) rfl (ex_not rfl rfl rfl) (uW k22 ?_)
    refine cT rfl (sK fun _ k24 => ?_)
    refine rL (uG (.agg #[vI 0, vI 0, vI 0]) rfl (ex_buildN (vs := #[]) rfl (by simp only [List.map_toArray, List.map_nil]) (by kernel_rfl)) ?_)
    refine xS 1 rfl hv cs1sz124 rfl (by exact ⟨rfl, rfl, rfl, trivial⟩) (fun w25 hv => ?_)
    simp only [zS, zO, sp] at hv
    refine uA rfl (uW k24 ?_)
    refine rR (tR ?_)
    refine bZ (tR ?_)
    refine tR (bZ ?_)
    refine tR (bodyPost_ret (res_cell2 rfl rfl (lM 1 cs1wd124 hv rfl rfl rfl rfl)) rfl ?_)
    exact ⟨K19, _, _, _, _, (hBD.trans hK19), rfl, by omega, fun h9 => (by obtain ⟨h1, h2, h3, h4, h5, h6⟩ := hin h9; have h8 := hcb.2 (h1 ▸ h6); cases h8), (hv.kp [] 0 2)⟩
   refine uG (.bool false) rfl (ex_not rfl rfl rfl) (uW k22 ?_)
   refine cF rfl (kS ?_)
   refine tK k21 (sK fun _ k26 => ?_)
   refine rL (uF (.pointer (some ⟨b5, 1, none⟩)) rfl (cs1fa124_1 _ _ _) ?_)
   refine uA rfl (uW k26 ?_)
   refine sK fun _ k27 => sK fun _ k28 => rL (uM rfl ?_)
   by_cases hb29 : r = 0
   ·refine uG (.bool true) rfl (ex_eql rfl rfl rfl (qT hb29)) (uM rfl ?_)
    refine uP rfl ?_
    refine uP rfl (uK rfl ?_)
    refine uW k28 (cT rfl ?_)
    refine rL (uF (vP b5) rfl (cs1fa124_0 _ _ _) ?_)
    refine uA rfl (uW k27 ?_)
    refine sK fun _ k30 => sK fun _ k31 => rL (uM rfl ?_)
    refine uG (vP b5) rfl (ex_nil rfl rfl) ?_
    refine uL _ rfl (run_load1 s2na3 (hv.load 0 0 rfl rfl)) ?_
    by_cases hb32 : cd ≠ (-1)
    ·refine uG (.bool true) rfl (ex_neq rfl rfl rfl (qT hb32)) (uW k31 ?_)
     refine cT rfl (sK fun _ k33 => ?_)
     refine rL (uG (.agg #[vI 0, vI 0, vI 0]) rfl (ex_buildN (vs := #[]) rfl (by simp only [List.map_toArray, List.map_nil]) (by kernel_rfl)) ?_)
     refine xS 1 rfl hv cs1sz124 rfl (by exact ⟨rfl, rfl, rfl, trivial⟩) (fun w34 hv => ?_)
     simp only [zS, zO, sp] at hv
     refine uA rfl (uW k33 ?_)
     refine rR (tR ?_)
     refine bZ (tR ?_)
     refine tR (bZ ?_)
     refine tR (bodyPost_ret (res_cell2 rfl rfl (lM 1 cs1wd124 hv rfl rfl rfl rfl)) rfl ?_)
     exact ⟨K19, _, _, _, _, (hBD.trans hK19), rfl, by omega, fun h9 => (by obtain ⟨h1, h2, h3, h4, h5, h6⟩ := hin h9; omega), (hv.kp [] 0 2)⟩
    refine uG (.bool false) rfl (ex_neq rfl rfl rfl (qF hb32)) (uW k31 ?_)
    refine cF rfl (kS ?_)
    refine tK k30 (sK fun _ k35 => ?_)
    refine rL (uM rfl ?_)
    refine uM rfl ?_
    refine uG (vP b5) rfl (ex_nil rfl rfl) ?_
    refine xV 0 (vI r) rfl hv x3sz3 rfl rfl (fun w36 hv => ?_)
    simp only [zO, sp] at hv
    refine uW k35 (sK fun _ k37 => ?_)
    refine rL (uM rfl ?_)
    by_cases hb38 : r = 2
    ·refine uG (.bool true) rfl (ex_eql rfl rfl rfl (qT hb38)) (uW k37 ?_)
     refine cT rfl (sK fun _ k39 => ?_)
     refine rL (uM rfl ?_)
     refine uG (vI ((i + 1 : Nat) : Int)) rfl (ex_add rfl rfl rfl (by rw [i64_in (by omega)]; omega)) (uA rfl ?_)
     refine uW k39 (sK fun _ k40 => ?_)
     refine sK fun _ k41 => rL (uM rfl ?_)
     refine uM rfl ?_
     refine uG (vI (args.length : Int)) rfl (ex_len0 Tryz.underlying23 rfl rfl) ?_
     by_cases hb42 : ((i + 1 : Nat) : Int) = (args.length : Int)
     ·refine uG (.bool true) rfl (ex_eql rfl rfl rfl (qT hb42)) (uW k41 ?_)
      refine cT rfl (sK fun _ k43 => ?_)
      refine rL (uG (.agg #[vI 0, vI 0, vI 0]) rfl (ex_buildN (vs := #[]) rfl (by simp only [List.map_toArray, List.map_nil]) (by kernel_rfl)) ?_)
      refine xS 1 rfl hv cs1sz124 rfl (by exact ⟨rfl, rfl, rfl, trivial⟩) (fun w44 hv => ?_)
      simp only [zS, zO, sp] at hv
      refine uA rfl (uW k43 ?_)
      refine rR (tR ?_)
      refine bZ (tR ?_)
      refine tR (bZ ?_)
      refine tR (bodyPost_ret (res_cell2 rfl rfl (lM 1 cs1wd124 hv rfl rfl rfl rfl)) rfl ?_)
      exact ⟨K19, _, _, _, _, (hBD.trans hK19), rfl, by omega, fun h9 => (by obtain ⟨h1, h2, h3, h4, h5, h6⟩ := hin h9; omega), (hv.kp [] 0 2)⟩
     refine uG (.bool false) rfl (ex_eql rfl rfl rfl (qF hb42)) (uW k41 ?_)
     refine cF rfl (kS ?_)
     refine tK k40 ?_
     obtain ⟨x2, hx2⟩ : ∃ y, args[i + 1]? = some y := ⟨_, List.getElem?_eq_getElem (by omega)⟩
     obtain ⟨ab9, ao9, had9, hrdx2⟩ := text_reads hra hx2
     cases had9
     refine rL (uM rfl ?_)
     refine uM rfl ?_
     refine uG (.pointer (some ⟨xb, xo + (i + 1 : Nat), none⟩)) rfl (ex_index rfl rfl rfl (run_idx1 (k := (i + 1 : Nat)) Tryz.underlying23 s9es23 (by omega))) ?_
     refine uL _ rfl (run_load1 s9na9 (hrdx2 _ _ _ (hBD.trans hK19) no_res hv 0 _ rfl)) (uA rfl ?_)
     refine uZ (bN ?_)
     refine tK k15 (rL ?_)
     refine uM rfl ?_
     refine uG (vI ((i + 2 : Nat) : Int)) rfl (ex_add rfl rfl rfl (by rw [i64_in (by omega)]; omega)) (uA rfl ?_)
     refine uZ (then_normal ?_)
     go_roundw
     case rel => exact ⟨i + 2, K19, x2, r, lf, rfl, rfl, (hBD.trans hK19), by omega, fun h9 => (by obtain ⟨h1, h2, h3, h4, h5, h6⟩ := hin h9; exact .inr ⟨by omega, h5, by omega, by omega⟩), ((hv.front 1 rfl).front 1 rfl)⟩
     case measure => simp only [intOf]; omega
    refine uG (.bool false) rfl (ex_eql rfl rfl rfl (qF hb38)) (uW k37 ?_)
    refine cF rfl (kS ?_)
    refine bN (tK k15 ?_)
    refine rL (uM rfl ?_)
    refine uG (vI ((i + 1 : Nat) : Int)) rfl (ex_add rfl rfl rfl (by rw [i64_in (by omega)]; omega)) (uA rfl ?_)
    refine uZ (then_normal ?_)
    go_roundw
    case rel => exact ⟨i + 1, K19, num, r, lf, rfl, rfl, (hBD.trans hK19), by omega, fun h9 => (by obtain ⟨h1, h2, h3, h4, h5, h6⟩ := hin h9; exact .inr ⟨by omega, h5, by omega, by omega⟩), ((hv.front 1 rfl).front 1 rfl)⟩
    case measure => simp only [intOf]; omega
   refine uG (.bool false) rfl (ex_eql rfl rfl rfl (qF hb29)) (uM rfl ?_)
   refine uM rfl ?_
   by_cases hb45 : r = 1
   ·refine uG (.bool true) rfl (ex_eql rfl rfl rfl (qT hb45)) (uK rfl ?_)
    refine uW k28 (cT rfl ?_)
    refine rL (uF (vP b5) rfl (cs1fa124_0 _ _ _) ?_)
    refine uA rfl (uW k27 ?_)
    refine sK fun _ k46 => sK fun _ k47 => rL (uM rfl ?_)
    refine uG (vP b5) rfl (ex_nil rfl rfl) ?_
    refine uL _ rfl (run_load1 s2na3 (hv.load 0 0 rfl rfl)) ?_
    by_cases hb48 : cd ≠ (-1)
    ·refine uG (.bool true) rfl (ex_neq rfl rfl rfl (qT hb48)) (uW k47 ?_)
     refine cT rfl (sK fun _ k49 => ?_)
     refine rL (uG (.agg #[vI 0, vI 0, vI 0]) rfl (ex_buildN (vs := #[]) rfl (by simp only [List.map_toArray, List.map_nil]) (by kernel_rfl)) ?_)
     refine xS 1 rfl hv cs1sz124 rfl (by exact ⟨rfl, rfl, rfl, trivial⟩) (fun w50 hv => ?_)
     simp only [zS, zO, sp] at hv
     refine uA rfl (uW k49 ?_)
     refine rR (tR ?_)
     refine bZ (tR ?_)
     refine tR (bZ ?_)
     refine tR (bodyPost_ret (res_cell2 rfl rfl (lM 1 cs1wd124 hv rfl rfl rfl rfl)) rfl ?_)
     exact ⟨K19, _, _, _, _, (hBD.trans hK19), rfl, by omega, fun h9 => (by obtain ⟨h1, h2, h3, h4, h5, h6⟩ := hin h9; omega), (hv.kp [] 0 2)⟩
    refine uG (.bool false) rfl (ex_neq rfl rfl rfl (qF hb48)) (uW k47 ?_)
    refine cF rfl (kS ?_)
    refine tK k46 (sK fun _ k51 => ?_)
    refine rL (uM rfl ?_)
    refine uM rfl ?_
    refine uG (vP b5) rfl (ex_nil rfl rfl) ?_
    refine xV 0 (vI r) rfl hv x3sz3 rfl rfl (fun w52 hv => ?_)
    simp only [zO, sp] at hv
    refine uW k51 (sK fun _ k53 => ?_)
    refine rL (uM rfl ?_)
    by_cases hb54 : r = 2
    ·refine uG (.bool true) rfl (ex_eql rfl rfl rfl (qT hb54)) (uW k53 ?_)
     refine cT rfl (sK fun _ k55 => ?_)
     refine rL (uM rfl ?_)
     refine uG (vI ((i + 1 : Nat) : Int)) rfl (ex_add rfl rfl rfl (by rw [i64_in (by omega)]; omega)) (uA rfl ?_)
     refine uW k55 (sK fun _ k56 => ?_)
     refine sK fun _ k57 => rL (uM rfl ?_)
     refine uM rfl ?_
     refine uG (vI (args.length : Int)) rfl (ex_len0 Tryz.underlying23 rfl rfl) ?_
     by_cases hb58 : ((i + 1 : Nat) : Int) = (args.length : Int)
     ·refine uG (.bool true) rfl (ex_eql rfl rfl rfl (qT hb58)) (uW k57 ?_)
      refine cT rfl (sK fun _ k59 => ?_)
      refine rL (uG (.agg #[vI 0, vI 0, vI 0]) rfl (ex_buildN (vs := #[]) rfl (by simp only [List.map_toArray, List.map_nil]) (by kernel_rfl)) ?_)
      refine xS 1 rfl hv cs1sz124 rfl (by exact ⟨rfl, rfl, rfl, trivial⟩) (fun w60 hv => ?_)
      simp only [zS, zO, sp] at hv
      refine uA rfl (uW k59 ?_)
      refine rR (tR ?_)
      refine bZ (tR ?_)
      refine tR (bZ ?_)
      refine tR (bodyPost_ret (res_cell2 rfl rfl (lM 1 cs1wd124 hv rfl rfl rfl rfl)) rfl ?_)
      exact ⟨K19, _, _, _, _, (hBD.trans hK19), rfl, by omega, fun h9 => (by obtain ⟨h1, h2, h3, h4, h5, h6⟩ := hin h9; omega), (hv.kp [] 0 2)⟩
     refine uG (.bool false) rfl (ex_eql rfl rfl rfl (qF hb58)) (uW k57 ?_)
     refine cF rfl (kS ?_)
     refine tK k56 ?_
     obtain ⟨x2, hx2⟩ : ∃ y, args[i + 1]? = some y := ⟨_, List.getElem?_eq_getElem (by omega)⟩
     obtain ⟨ab9, ao9, had9, hrdx2⟩ := text_reads hra hx2
     cases had9
     refine rL (uM rfl ?_)
     refine uM rfl ?_
     refine uG (.pointer (some ⟨xb, xo + (i + 1 : Nat), none⟩)) rfl (ex_index rfl rfl rfl (run_idx1 (k := (i + 1 : Nat)) Tryz.underlying23 s9es23 (by omega))) ?_
     refine uL _ rfl (run_load1 s9na9 (hrdx2 _ _ _ (hBD.trans hK19) no_res hv 0 _ rfl)) (uA rfl ?_)
     refine uZ (bN ?_)
     refine tK k15 (rL ?_)
     refine uM rfl ?_
     refine uG (vI ((i + 2 : Nat) : Int)) rfl (ex_add rfl rfl rfl (by rw [i64_in (by omega)]; omega)) (uA rfl ?_)
     refine uZ (then_normal ?_)
     go_roundw
     case rel => exact ⟨i + 2, K19, x2, r, lf, rfl, rfl, (hBD.trans hK19), by omega, fun h9 => (by obtain ⟨h1, h2, h3, h4, h5, h6⟩ := hin h9; exact .inr ⟨by omega, h5, by omega, by omega⟩), ((hv.front 1 rfl).front 1 rfl)⟩
     case measure => simp only [intOf]; omega
    refine uG (.bool false) rfl (ex_eql rfl rfl rfl (qF hb54)) (uW k53 ?_)
    refine cF rfl (kS ?_)
    refine bN (tK k15 ?_)
    refine rL (uM rfl ?_)
    refine uG (vI ((i + 1 : Nat) : Int)) rfl (ex_add rfl rfl rfl (by rw [i64_in (by omega)]; omega)) (uA rfl ?_)
    refine uZ (then_normal ?_)
    go_roundw
    case rel => exact ⟨i + 1, K19, num, r, lf, rfl, rfl, (hBD.trans hK19), by omega, fun h9 => (by obtain ⟨h1, h2, h3, h4, h5, h6⟩ := hin h9; exact .inr ⟨by omega, h5, by omega, by omega⟩), ((hv.front 1 rfl).front 1 rfl)⟩
    case measure => simp only [intOf]; omega
   refine uG (.bool false) rfl (ex_eql rfl rfl rfl (qF hb45)) (uK rfl ?_)
   refine uW k28 (cF rfl ?_)
   refine kS (tK k27 ?_)
   refine sK fun _ k61 => sK fun _ k62 => rL (uM rfl ?_)
   refine uG (.pointer (some ⟨b5, 1, none⟩)) rfl (ex_nil rfl rfl) ?_
   refine uL _ rfl (run_load1 s2na3 (hv.load 0 1 rfl rfl)) ?_
   by_cases hb63 : lf ≠ (-1)
   ·refine uG (.bool true) rfl (ex_neq rfl rfl rfl (qT hb63)) (uW k62 ?_)
    refine cT rfl (sK fun _ k64 => ?_)
    refine rL (uG (.agg #[vI 0, vI 0, vI 0]) rfl (ex_buildN (vs := #[]) rfl (by simp only [List.map_toArray, List.map_nil]) (by kernel_rfl)) ?_)
    refine xS 1 rfl hv cs1sz124 rfl (by exact ⟨rfl, rfl, rfl, trivial⟩) (fun w65 hv => ?_)
    simp only [zS, zO, sp] at hv
    refine uA rfl (uW k64 ?_)
    refine rR (tR ?_)
    refine bZ (tR ?_)
    refine tR (bZ ?_)
    refine tR (bodyPost_ret (res_cell2 rfl rfl (lM 1 cs1wd124 hv rfl rfl rfl rfl)) rfl ?_)
    exact ⟨K19, _, _, _, _, (hBD.trans hK19), rfl, by omega, fun h9 => (by obtain ⟨h1, h2, h3, h4, h5, h6⟩ := hin h9; omega), (hv.kp [] 0 2)⟩
   refine uG (.bool false) rfl (ex_neq rfl rfl rfl (qF hb63)) (uW k62 ?_)
   refine cF rfl (kS ?_)
   refine tK k61 (sK fun _ k66 => ?_)
   refine rL (uM rfl ?_)
   refine uM rfl ?_
   refine uG (.pointer (some ⟨b5, 1, none⟩)) rfl (ex_nil rfl rfl) ?_
   refine xV 0 (vI r) rfl hv x3sz3 rfl rfl (fun w67 hv => ?_)
   simp only [zO, sp] at hv
   refine uW k66 (sK fun _ k68 => ?_)
   refine rL (uM rfl ?_)
   by_cases hb69 : r = 2
   ·refine uG (.bool true) rfl (ex_eql rfl rfl rfl (qT hb69)) (uW k68 ?_)
    refine cT rfl (sK fun _ k70 => ?_)
    refine rL (uM rfl ?_)
    refine uG (vI ((i + 1 : Nat) : Int)) rfl (ex_add rfl rfl rfl (by rw [i64_in (by omega)]; omega)) (uA rfl ?_)
    refine uW k70 (sK fun _ k71 => ?_)
    refine sK fun _ k72 => rL (uM rfl ?_)
    refine uM rfl ?_
    refine uG (vI (args.length : Int)) rfl (ex_len0 Tryz.underlying23 rfl rfl) ?_
    by_cases hb73 : ((i + 1 : Nat) : Int) = (args.length : Int)
    ·refine uG (.bool true) rfl (ex_eql rfl rfl rfl (qT hb73)) (uW k72 ?_)
     refine cT rfl (sK fun _ k74 => ?_)
     refine rL (uG (.agg #[vI 0, vI 0, vI 0]) rfl (ex_buildN (vs := #[]) rfl (by simp only [List.map_toArray, List.map_nil]) (by kernel_rfl)) ?_)
     refine xS 1 rfl hv cs1sz124 rfl (by exact ⟨rfl, rfl, rfl, trivial⟩) (fun w75 hv => ?_)
     simp only [zS, zO, sp] at hv
     refine uA rfl (uW k74 ?_)
     refine rR (tR ?_)
     refine bZ (tR ?_)
     refine tR (bZ ?_)
     refine tR (bodyPost_ret (res_cell2 rfl rfl (lM 1 cs1wd124 hv rfl rfl rfl rfl)) rfl ?_)
     exact ⟨K19, _, _, _, _, (hBD.trans hK19), rfl, by omega, fun h9 => (by obtain ⟨h1, h2, h3, h4, h5, h6⟩ := hin h9; omega), (hv.kp [] 0 2)⟩
    refine uG (.bool false) rfl (ex_eql rfl rfl rfl (qF hb73)) (uW k72 ?_)
    refine cF rfl (kS ?_)
    refine tK k71 ?_
    obtain ⟨x2, hx2⟩ : ∃ y, args[i + 1]? = some y := ⟨_, List.getElem?_eq_getElem (by omega)⟩
    obtain ⟨ab9, ao9, had9, hrdx2⟩ := text_reads hra hx2
    cases had9
    refine rL (uM rfl ?_)
    refine uM rfl ?_
    refine uG (.pointer (some ⟨xb, xo + (i + 1 : Nat), none⟩)) rfl (ex_index rfl rfl rfl (run_idx1 (k := (i + 1 : Nat)) Tryz.underlying23 s9es23 (by omega))) ?_
    refine uL _ rfl (run_load1 s9na9 (hrdx2 _ _ _ (hBD.trans hK19) no_res hv 0 _ rfl)) (uA rfl ?_)
    refine uZ (bN ?_)
    refine tK k15 (rL ?_)
    refine uM rfl ?_
    refine uG (vI ((i + 2 : Nat) : Int)) rfl (ex_add rfl rfl rfl (by rw [i64_in (by omega)]; omega)) (uA rfl ?_)
    refine uZ (then_normal ?_)
    go_roundw
    case rel => exact ⟨i + 2, K19, x2, cd, r, rfl, rfl, (hBD.trans hK19), by omega, fun h9 => (by obtain ⟨h1, h2, h3, h4, h5, h6⟩ := hin h9; exact .inr ⟨by omega, h5, by omega, by omega⟩), ((hv.front 1 rfl).front 1 rfl)⟩
    case measure => simp only [intOf]; omega
   refine uG (.bool false) rfl (ex_eql rfl rfl rfl (qF hb69)) (uW k68 ?_)
   refine cF rfl (kS ?_)
   refine bN (tK k15 ?_)
   refine rL (uM rfl ?_)
   refine uG (vI ((i + 1 : Nat) : Int)) rfl (ex_add rfl rfl rfl (by rw [i64_in (by omega)]; omega)) (uA rfl ?_)
   refine uZ (then_normal ?_)
   go_roundw
   case rel => exact ⟨i + 1, K19, num, cd, r, rfl, rfl, (hBD.trans hK19), by omega, fun h9 => (by obtain ⟨h1, h2, h3, h4, h5, h6⟩ := hin h9; exact .inr ⟨by omega, h5, by omega, by omega⟩), ((hv.front 1 rfl).front 1 rfl)⟩
   case measure => simp only [intOf]; omega
  refine uG (.bool false) rfl (ex_lss rfl rfl rfl (qF hb14)) (uW k13 ?_)
  refine cF rfl (xE ?_)
  refine tX (tX ?_)
  refine bH (tK k9 ?_)
  refine sK fun _ k76 => sK fun _ k77 => rL (uF (.pointer (some ⟨b5, 1, none⟩)) rfl (cs1fa124_1 _ _ _) ?_)
  refine uL _ rfl (run_load1 s2na3 (hv.load 0 1 rfl rfl)) ?_
  by_cases hb78 : lf = 2
  ·refine uG (.bool true) rfl (ex_eql rfl rfl rfl (qT hb78)) (uW k77 ?_)
   refine cT rfl (sK fun _ k79 => ?_)
   refine rL (uM rfl ?_)
   refine sl_rowOne (v := vS num) tV (wn rfl) rfl rfl hv cs1el23 rfl (fun b80 w81 hv => ?_)
   simp only [zP, po]
   obtain ⟨K82, hK82, hv, hrkK82, hokK82, -⟩ := (hv.cellRow (n := 1) (c := 1) (size := 1) rfl (by decide) (by decide)).rowBy
   refine xC cs1callable56 rfl ((viewInts K82 _ _ _ 1 [num] hrkK82 (Nat.le_of_ble_eq_true rfl) (hN.more (hBD.trans hK82)) hv).mono ?_) rfl
   rintro e w83 ⟨E, ja, jc, ns, ei, hE, rfl, hrj, hir, hv⟩
   refine ⟨_, rfl, ?_⟩
   rcases ints_one hir with ⟨rfl, n0, rfl, hn0⟩ | ⟨rfl, rfl, hn0⟩
   ·refine uG (.tuple #[.slice ja 1 jc, vI 0]) rfl (ex_move rfl rfl) ?_
    refine uG (.slice ja 1 jc) rfl (ex_extract rfl rfl rfl) (uE rfl ?_)
    refine uA rfl (uA rfl ?_)
    refine uW k79 (sK fun _ k84 => ?_)
    refine sK fun _ k85 => rL (uM rfl ?_)
    refine uG (.bool false) rfl (ex_neq rfl rfl rfl (by decide)) (uW k85 ?_)
    refine cF rfl (kS ?_)
    refine tK k84 ?_
    obtain ⟨jb, jo, had, hrd0⟩ := int_reads hrj (show [n0][0]? = some n0 from rfl)
    subst had
    have hfit : -9223372036854775808 ≤ n0 ∧ n0 ≤ 9223372036854775807 := hn0.elim (fun h => ⟨h.2.1, h.2.2.1⟩) (fun h => absurd h.1 (by decide))
    refine rL (uG (.slice (some ⟨jb, jo, none⟩) 1 jc) rfl (ex_move rfl rfl) ?_)
    refine uG (.pointer (some ⟨jb, jo + 0, none⟩)) rfl (ex_index rfl rfl rfl (run_idx1 (k := 0) Tryz.underlying126 s11es126 (by omega))) ?_
    refine uL _ rfl (run_load1 s2na3 (hrd0 _ _ _ (Base.Le.refl _) no_res hv 0 _ rfl)) ?_
    refine uF (.pointer (some ⟨b5, 2, none⟩)) rfl (cs1fa124_2 _ _ _) ?_
    refine xV 0 (vI n0) rfl hv x3sz3 rfl rfl (fun w86 hv => ?_)
    simp only [zO, sp] at hv
    refine uW k76 (sK fun _ k87 => ?_)
    refine rL (uL (.agg #[vI cd, vI lf, vI n0]) rfl (lM 0 cs1wd124 hv rfl rfl rfl rfl) ?_)
    refine xS 1 rfl hv cs1sz124 rfl (by exact ⟨rfl, rfl, rfl, trivial⟩) (fun w88 hv => ?_)
    simp only [zS, zO, sp] at hv
    refine uA rfl (uW k87 ?_)
    refine rR (bodyPost_ret (res_cell2 rfl rfl (lM 1 cs1wd124 hv rfl rfl rfl rfl)) rfl ?_)
    exact ⟨E, _, _, _, _, ((hBD.trans hK82).trans hE), rfl, hfit, fun h9 => (by have := hI h9; omega), (hv.kp [] 0 2)⟩
   refine uM rfl (uE rfl ?_)
   refine uE rfl (uA rfl ?_)
   refine uA rfl (uW k79 ?_)
   refine sK fun _ k89 => sK fun _ k90 => rL (uM rfl ?_)
   refine uG (.bool true) rfl (ex_neq rfl rfl rfl (by decide)) (uW k90 ?_)
   refine cT rfl (sK fun _ k91 => ?_)
   refine rL (uG (.agg #[vI 0, vI 0, vI 0]) rfl (ex_buildN (vs := #[]) rfl (by simp only [List.map_toArray, List.map_nil]) (by kernel_rfl)) ?_)
   refine uM rfl ?_
   refine xS 1 rfl hv cs1sz124 rfl (by exact ⟨rfl, rfl, rfl, trivial⟩) (fun w92 hv => ?_)
   simp only [zS, zO, sp] at hv
   refine uA rfl (uW k91 ?_)
   refine rR (tR ?_)
   refine tR (bodyPost_ret (res_cell2 rfl rfl (lM 1 cs1wd124 hv rfl rfl rfl rfl)) rfl ?_)
   exact ⟨E, _, _, _, _, ((hBD.trans hK82).trans hE), rfl, by omega, fun h9 => (by have := hI h9; omega), (hv.kp [] 0 2)⟩
  refine uG (.bool false) rfl (ex_eql rfl rfl rfl (qF hb78)) (uW k77 ?_)
  refine cF rfl (kS ?_)
  refine tK k76 (sK fun _ k93 => ?_)
  refine rL (uL (.agg #[vI cd, vI lf, vI 0]) rfl (lM 0 cs1wd124 hv rfl rfl rfl rfl) ?_)
  refine xS 1 rfl hv cs1sz124 rfl (by exact ⟨rfl, rfl, rfl, trivial⟩) (fun w94 hv => ?_)
  simp only [zS, zO, sp] at hv
  refine uA rfl (uW k93 ?_)
  refine rR (bodyPost_ret (res_cell2 rfl rfl (lM 1 cs1wd124 hv rfl rfl rfl rfl)) rfl ?_)
  exact ⟨D, _, _, _, _, hBD, rfl, by omega, fun h9 => ⟨rfl, opt_out hI (by omega) h9⟩, (hv.kp [] 0 2)⟩
def LayR (M : List (List UInt8 × Ver)) (clk : Int) (k x : List UInt8) (cd lf : Int) (M' : List (List UInt8 × Ver)) (done : Bool) (ec : Int) : Prop :=
 OkM M' ∧ (ec ≠ 0 → M' = M) ∧ (lf = -1 → cd = -1 → KeepI M clk k (textV x) 0 ec M' ∧ (done = true ↔ ec = 0)) ∧ (lf = -1 → cd = 0 → gotM M clk k ≠ none → done = false ∧ ec = 0 ∧ M' = M)
theorem got_alive {M : List (List UInt8 × Ver)} {clk : Int} {k : List UInt8} (h : ∃ y, lookA M k = some y ∧ aliveB y clk = true) : gotM M clk k ≠ none := by
 obtain ⟨y, h1, h2⟩ := h
 unfold gotM; rw [h1]; simp only [h2, if_true]; exact fun h => by cases h
theorem isF_none : ¬ IsF rNone := fun h => absurd (show (4 : Int) = 1 from h) (by decide)
theorem isF_text {s : List UInt8} : ¬ IsF (rText s) := fun h => absurd (show (0 : Int) = 1 from h) (by decide)
theorem isF_k {k n : Int} {s : List UInt8} (h : k ≠ 1) : ¬ IsF (.mk k s n []) := fun h9 => h h9
theorem cs2al81 : AL Tryz.prog 81 [vI 0, .bool false, vI 0, vI 0, vS [], vN, vN, vN] := fun w => by kernel_rfl
theorem cs2callable58 : Callable Tryz.prog 58 := cb Tryz.func58 (by kernel_rfl)
theorem cs2callable18 : Callable Tryz.prog 18 := cb Tryz.func18 (by kernel_rfl)
theorem cs2wd72 : Wide Tryz.prog 72 2 := wide_of (fun w => by kernel_rfl) (by kernel_rfl)
theorem cs2callable84 : Callable Tryz.prog 84 := cb Tryz.func84 (by kernel_rfl)
theorem cstrLay (B : Base) (H : List Res) (w : World) (v t m s p wb : Nat) (va : Option Addr) (vc : Nat) (sv : Value) (clk : Int) (es : List (List UInt8 × Value)) (M : List (List UInt8 × Ver)) (hM : VM B es M) (hO : OkM M) (h0c : 0 ≤ clk) (h1c : clk ≤ 1099511627776) (aa : Option Addr) (an ac : Nat) (k x : List UInt8) (cd lf lw : Int) (hlw : -9223372036854775808 ≤ lw ∧ lw ≤ 9223372036854775807) (hv : Inv B (Res.cell v [.iface 52 (vP t)] 79 :: txR t m s p wb va vc sv clk es :: H) w) :
  Calls Tryz.prog 54 #[.agg #[vP v, .slice aa an ac], vS k, vS x, .agg #[vI cd, vI lf, vI lw]] w fun e w' => ∃ C es' M' done ec, B.Le C ∧ e = .returned (.tuple #[.bool done, vI ec]) ∧ VM C es' M' ∧ LayR M clk k x cd lf M' done ec ∧ Inv C (Res.cell v [.iface 52 (vP t)] 79 :: txR t m s p wb va vc sv clk es' :: H) w' := by
 refine cW Tryz.func54 rfl Tryz.ntmps54 ?_
 simp only [al]
 refine sK fun _ k1 => rL (sl_box (L := [vP v, .slice aa an ac]) tV (wn rfl) rfl rfl hv (fun w => by kernel_rfl) (fun b2 w3 hv => ?_))
 simp only [zP, po]
 refine sl_box (L := [vI cd, vI lf, vI lw]) tV (wn rfl) rfl rfl hv (fun w => by kernel_rfl) (fun b4 w5 hv => ?_)
 refine uA rfl (uA rfl ?_)
 refine uW k1 (sK fun _ k6 => ?_)
 refine rL (uA rfl ?_)
 refine uW k6 (sK fun K7 k7 => ?_)
 have hJ7 : ∀ (xp : Int) (j8 j9 j11 j12 j16 j17 j18 j19 j20 j21 j22 j23 j24 j25 j26 j27 j28 j29 : Value) (w8 : World), (lf = -1 → xp = 0) → Inv B (Res.cell b4 [vI cd, vI lf, vI lw] 124 :: Res.cell b2 [vP v, .slice aa an ac] 72 :: Res.cell v [.iface 52 (vP t)] 79 :: txR t m s p wb va vc sv clk es :: H) w8 → K7 { tmps := List.toArray (.agg #[vP v, .slice aa an ac] :: vS k :: vS x :: .agg #[vI cd, vI lf, vI lw] :: vP b2 :: undef :: undef :: vP b4 :: j8 :: j9 :: vI xp :: j11 :: j12 :: undef :: undef :: undef :: j16 :: j17 :: j18 :: j19 :: j20 :: j21 :: j22 :: j23 :: j24 :: j25 :: j26 :: j27 :: j28 :: j29 :: undef :: undef :: undef :: undef :: undef :: undef :: undef :: undef :: undef :: undef :: undef :: undef :: undef :: undef :: undef :: undef :: undef :: undef :: undef :: undef :: undef :: undef :: undef :: undef :: undef :: undef :: undef :: undef :: undef :: undef :: undef :: undef :: undef :: undef :: undef :: undef :: undef :: undef :: undef :: undef :: undef :: undef :: undef :: []), defers := [] } w8 := by
  intro xp j8 j9 j11 j12 j16 j17 j18 j19 j20 j21 j22 j23 j24 j25 j26 j27 j28 j29 w8 hxp hv
  refine k7 _ _ (sK fun _ k9 => ?_)
  refine rL (uF (vP b2) rfl (cs0fa72_0 _ _ _) ?_)
  refine uL _ rfl (run_load1 cs0na28 (hv.load 1 0 rfl rfl)) ?_
  refine uG (vP v) rfl (ex_nil rfl rfl) ?_
  refine uF (vP v) rfl (v1fa79_0 _ _ _) ?_
  refine uL _ rfl (run_load1 v1na77 (hv.load 2 0 rfl rfl)) (uM rfl ?_)
  replace hv := hv.front 3 rfl
  simp only [eS, eZ] at hv
  refine wpi_callI v1callable172 tV wideC rfl (wn rfl) rfl rfl (r := vP t) (fun w => by kernel_rfl) (args := #[vS k]) (by simp only [List.map_toArray, List.map_cons, List.map_nil]; rfl) ((txnGet B _ _ t m s p wb va vc sv clk es M k (hM.more (Base.Le.refl _)) hv).mono ?_)
  rintro e w10 ⟨G, y, yp, yt, yz, oky, hG, rfl, hgot, hyv, hv⟩
  refine ⟨_, rfl, ?_⟩
  rcases got_of hgot with ⟨rfl, hg⟩ | ⟨rfl, rfl, hg⟩
  ·refine uM rfl (uE rfl ?_)
   refine uE rfl ?_
   refine sl_alloc tV (wn rfl) rfl hv cs2al81 (fun b11 w12 hv => ?_)
   simp only [zP, po]
   refine xS 0 rfl hv x0sz81 rfl (by exact ⟨rfl, rfl, rfl, rfl, rfl, hyv.p.one, hyv.t.one, hyv.z.one, trivial⟩) (fun w13 hv => ?_)
   simp only [zO, sp] at hv
   refine uA rfl (uW k9 ?_)
   refine sK fun K14 k14 => ?_
   have hJ14 : ∀ (j8 j9 j40 j41 j42 j43 j44 j45 j46 j47 j48 j49 j50 j51 j52 j53 j54 : Value) (w15 : World), (cd = 0 → gotM M clk k = none) → Inv G (Res.cell b11 [vI y.stamp, .bool y.gone, vI y.expire, vI y.val.kind, vS y.val.text, yp, yt, yz] 81 :: txR t m s p wb va vc sv clk es :: Res.cell b4 [vI cd, vI lf, vI lw] 124 :: Res.cell b2 [vP v, .slice aa an ac] 72 :: Res.cell v [.iface 52 (vP t)] 79 :: H) w15 → K14 { tmps := List.toArray (.agg #[vP v, .slice aa an ac] :: vS k :: vS x :: .agg #[vI cd, vI lf, vI lw] :: vP b2 :: undef :: undef :: vP b4 :: j8 :: j9 :: vI xp :: j11 :: j12 :: vP b11 :: .bool true :: undef :: j16 :: j17 :: j18 :: j19 :: j20 :: j21 :: j22 :: j23 :: j24 :: j25 :: j26 :: j27 :: j28 :: j29 :: .tuple #[.agg #[vI y.stamp, .bool y.gone, vI y.expire, vI y.val.kind, vS y.val.text, yp, yt, yz], .bool true] :: vP b2 :: vP v :: vP v :: vP v :: .iface 52 (vP t) :: vS k :: .tuple #[.agg #[vI y.stamp, .bool y.gone, vI y.expire, vI y.val.kind, vS y.val.text, yp, yt, yz], .bool true] :: .agg #[vI y.stamp, .bool y.gone, vI y.expire, vI y.val.kind, vS y.val.text, yp, yt, yz] :: .bool true :: j40 :: j41 :: j42 :: j43 :: j44 :: j45 :: j46 :: j47 :: j48 :: j49 :: j50 :: j51 :: j52 :: j53 :: j54 :: undef :: undef :: undef :: undef :: undef :: undef :: undef :: undef :: undef :: undef :: undef :: undef :: undef :: undef :: undef :: undef :: undef :: undef :: []), defers := [] } w15 := by
    intro j8 j9 j40 j41 j42 j43 j44 j45 j46 j47 j48 j49 j50 j51 j52 j53 j54 w15 hcd hv
    refine k14 _ _ (sK fun K16 k16 => ?_)
    have hJ16 : ∀ (xq : Int) (j55 j56 j57 j58 j59 j60 j61 j62 : Value) (w17 : World), (lf = -1 → xq = 0) → Inv G (Res.cell b11 [vI y.stamp, .bool y.gone, vI y.expire, vI y.val.kind, vS y.val.text, yp, yt, yz] 81 :: txR t m s p wb va vc sv clk es :: Res.cell b4 [vI cd, vI lf, vI lw] 124 :: Res.cell b2 [vP v, .slice aa an ac] 72 :: Res.cell v [.iface 52 (vP t)] 79 :: H) w17 → K16 { tmps := List.toArray (.agg #[vP v, .slice aa an ac] :: vS k :: vS x :: .agg #[vI cd, vI lf, vI lw] :: vP b2 :: undef :: undef :: vP b4 :: j8 :: j9 :: vI xq :: j11 :: j12 :: vP b11 :: .bool true :: undef :: j16 :: j17 :: j18 :: j19 :: j20 :: j21 :: j22 :: j23 :: j24 :: j25 :: j26 :: j27 :: j28 :: j29 :: .tuple #[.agg #[vI y.stamp, .bool y.gone, vI y.expire, vI y.val.kind, vS y.val.text, yp, yt, yz], .bool true] :: vP b2 :: vP v :: vP v :: vP v :: .iface 52 (vP t) :: vS k :: .tuple #[.agg #[vI y.stamp, .bool y.gone, vI y.expire, vI y.val.kind, vS y.val.text, yp, yt, yz], .bool true] :: .agg #[vI y.stamp, .bool y.gone, vI y.expire, vI y.val.kind, vS y.val.text, yp, yt, yz] :: .bool true :: j40 :: j41 :: j42 :: j43 :: j44 :: j45 :: j46 :: j47 :: j48 :: j49 :: j50 :: j51 :: j52 :: j53 :: j54 :: j55 :: j56 :: j57 :: j58 :: j59 :: j60 :: j61 :: j62 :: undef :: undef :: undef :: undef :: undef :: undef :: undef :: undef :: undef :: undef :: []), defers := [] } w17 := by
     intro xq j55 j56 j57 j58 j59 j60 j61 j62 w17 hxq hv
     refine k16 _ _ (sK fun _ k18 => ?_)
     refine rW mixed [4, 6] [0,1,2,3,5,4,6,7] 73 rfl (by kernel_rfl) hv ?_
     simp only [qm, opAt]
     refine dG (vP b2) rfl (ex_field rfl rfl (cs0fa72_0 _ _ _)) (dF _ rfl (fun hv => ex_load rfl rfl (run_load1 cs0na28 (hv.load 3 0 rfl rfl))) fun f19 hf19 => ?_)
     refine dM (vS k) rfl ?_
     simp only [zP, po]
     refine dM (vS x) rfl (dM (vI xq) rfl ?_)
     refine dS rfl fun w20 hv => mC cs2callable58 rfl ((cstrText G _ _ x hv).mono ?_) rfl
     rintro e w21 ⟨rfl, hv⟩
     refine ⟨_, rfl, dV hv (fC (fun ww hv => hf19 ww (ex_load rfl rfl (run_load1 cs0na28 (hv.load 3 0 rfl rfl)))) fN) ?_⟩
     simp only [zP, po]
     refine dS rfl fun w22 hv => ?_
     replace hv := hv.front 1 rfl
     simp only [eS, eZ] at hv
     replace hv := hv.front 4 rfl
     simp only [eS, eZ] at hv
     refine mC cs2callable18 rfl ((viewKeep G _ _ v t m s p wb va vc sv clk es M k (textV x) _ _ _ xq (hM.more hG) (textV_at _) hv).mono ?_) rfl
     rintro e w29 ⟨G24, es28, Mk27, e23, hG24, rfl, hMk26, hkp25, hv⟩
     refine ⟨_, rfl, dV hv (fK rfl fN) ?_⟩
     refine dA (vI e23) rfl (dE fun w30 hv => ?_)
     simp only [zP, po]
     refine tK k18 (sK fun _ k31 => ?_)
     refine rL (uM rfl ?_)
     by_cases hb32 : e23 = 0
     ·refine uG (.bool true) rfl (ex_eql rfl rfl rfl (qT hb32)) (uM rfl ?_)
      refine uA rfl (uA rfl ?_)
      refine uW k31 (rR ?_)
      refine bodyPost_ret (results_tmp2 rfl _ _ _) rfl (⟨G24, es28, Mk27, true, e23, (hG.trans hG24), rfl, hMk26.more (Base.Le.refl _), ⟨hO.keep hkp25, fun h9 => keep_not hkp25 h9, fun h8 h9 => ⟨by have h7 := hkp25; rw [hxq h8] at h7; exact h7, by constructor <;> intro h7 <;> first | rfl | omega | cases h7⟩, fun h8 h9 h7 => absurd (hcd h9) h7⟩, (hv.kp [1, 1] 2 3)⟩)
     refine uG (.bool false) rfl (ex_eql rfl rfl rfl (qF hb32)) (uM rfl ?_)
     refine uA rfl (uA rfl ?_)
     refine uW k31 (rR ?_)
     refine bodyPost_ret (results_tmp2 rfl _ _ _) rfl (⟨G24, es28, Mk27, false, e23, (hG.trans hG24), rfl, hMk26.more (Base.Le.refl _), ⟨hO.keep hkp25, fun h9 => keep_not hkp25 h9, fun h8 h9 => ⟨by have h7 := hkp25; rw [hxq h8] at h7; exact h7, by constructor <;> intro h7 <;> first | rfl | omega | cases h7⟩, fun h8 h9 h7 => absurd (hcd h9) h7⟩, (hv.kp [1, 1] 2 3)⟩)
    refine sK fun _ k33 => rL (uF (.pointer (some ⟨b4, 1, none⟩)) rfl (cs1fa124_1 _ _ _) ?_)
    refine uL _ rfl (run_load1 s2na3 (hv.load 2 1 rfl rfl)) ?_
    by_cases hb34 : lf = 3
    ·refine uG (.bool true) rfl (ex_eql rfl rfl rfl (qT hb34)) (uM rfl ?_)
     refine uM rfl (uK rfl ?_)
     refine uW k33 (cT rfl ?_)
     refine rL (uF (.pointer (some ⟨b11, 2, none⟩)) rfl (s2fa81_2 _ _ _) ?_)
     refine uL _ rfl (run_load1 s2na3 (hv.load 0 2 rfl rfl)) (uA rfl ?_)
     refine uZ (then_normal (hJ16 y.expire _ _ _ _ _ _ _ _ _ (fun h => by first | exact hxp h | omega) ((((((hv.front 4 rfl).front 4 rfl).front 4 rfl).front 4 rfl).front 4 rfl))))
    refine uG (.bool false) rfl (ex_eql rfl rfl rfl (qF hb34)) (uM rfl ?_)
    refine uP rfl (uK rfl ?_)
    refine uW k33 (cF rfl ?_)
    refine kS (then_normal (hJ16 xp _ _ _ _ _ _ _ _ _ (fun h => by first | exact hxp h | omega) ((((((hv.front 4 rfl).front 4 rfl).front 4 rfl).front 4 rfl).front 4 rfl))))
   refine sK fun _ k35 => rL (uF (vP b4) rfl (cs1fa124_0 _ _ _) ?_)
   refine uL _ rfl (run_load1 s2na3 (hv.load 2 0 rfl rfl)) ?_
   by_cases hb36 : cd = 0
   ·refine uG (.bool true) rfl (ex_eql rfl rfl rfl (qT hb36)) (uM rfl ?_)
    refine uM rfl (uK rfl ?_)
    refine uM rfl ?_
    iterate 7 refine uP rfl ?_
    refine uK rfl (uW k35 ?_)
    refine cT rfl (sK fun _ k37 => ?_)
    refine rL (uA rfl ?_)
    refine uA rfl (uW k37 ?_)
    refine rR (tR ?_)
    clear hJ14
    refine bodyPost_ret (results_tmp2 rfl _ _ _) rfl (⟨G, es, M, _, _, hG, rfl, hM.more hG, ⟨hO, fun _ => rfl, fun h8 h9 => by omega, fun h8 h9 h7 => by first | omega | exact ⟨rfl, rfl, rfl⟩⟩, (hv.kp [1, 4] 2 3)⟩)
   refine uG (.bool false) rfl (ex_eql rfl rfl rfl (qF hb36)) (uM rfl ?_)
   refine uP rfl (uK rfl ?_)
   refine uM rfl ?_
   refine uF (vP b4) rfl (cs1fa124_0 _ _ _) ?_
   refine uL _ rfl (run_load1 s2na3 (hv.load 2 0 rfl rfl)) ?_
   by_cases hb38 : cd = 1
   ·refine uG (.bool true) rfl (ex_eql rfl rfl rfl (qT hb38)) ?_
    refine uM rfl ?_
    refine uM rfl ?_
    refine uG (.bool false) rfl (ex_not rfl rfl rfl) ?_
    refine uK rfl (uK rfl ?_)
    refine uW k35 (cF rfl ?_)
    refine kS (then_normal (hJ14 _ _ _ _ _ _ _ _ _ _ _ _ _ _ _ _ _ _ (fun h => by first | exact hg | omega) ((((((hv.front 4 rfl).front 4 rfl).front 4 rfl).front 4 rfl).front 4 rfl))))
   refine uG (.bool false) rfl (ex_eql rfl rfl rfl (qF hb38)) ?_
   refine uM rfl ?_
   refine uP rfl ?_
   refine uP rfl ?_
   refine uK rfl (uK rfl ?_)
   refine uW k35 (cF rfl ?_)
   refine kS (then_normal (hJ14 _ _ _ _ _ _ _ _ _ _ _ _ _ _ _ _ _ _ (fun h => by first | exact hg | omega) ((((((hv.front 4 rfl).front 4 rfl).front 4 rfl).front 4 rfl).front 4 rfl))))
  refine uM rfl (uE rfl ?_)
  refine uE rfl ?_
  refine sl_alloc tV (wn rfl) rfl hv cs2al81 (fun b39 w40 hv => ?_)
  simp only [zP, po]
  refine xS 0 rfl hv x0sz81 rfl (by exact ⟨rfl, rfl, rfl, rfl, rfl, hyv.p.one, hyv.t.one, hyv.z.one, trivial⟩) (fun w41 hv => ?_)
  simp only [zO, sp] at hv
  refine uA rfl (uW k9 ?_)
  refine sK fun K42 k42 => ?_
  have hJ42 : ∀ (j8 j9 j40 j41 j42 j43 j44 j45 j46 j47 j48 j49 j50 j51 j52 j53 j54 : Value) (w43 : World), (cd = 0 → gotM M clk k = none) → Inv G (Res.cell b39 [vI zver0.stamp, .bool zver0.gone, vI zver0.expire, vI zver0.val.kind, vS zver0.val.text, yp, yt, yz] 81 :: txR t m s p wb va vc sv clk es :: Res.cell b4 [vI cd, vI lf, vI lw] 124 :: Res.cell b2 [vP v, .slice aa an ac] 72 :: Res.cell v [.iface 52 (vP t)] 79 :: H) w43 → K42 { tmps := List.toArray (.agg #[vP v, .slice aa an ac] :: vS k :: vS x :: .agg #[vI cd, vI lf, vI lw] :: vP b2 :: undef :: undef :: vP b4 :: j8 :: j9 :: vI xp :: j11 :: j12 :: vP b39 :: .bool false :: undef :: j16 :: j17 :: j18 :: j19 :: j20 :: j21 :: j22 :: j23 :: j24 :: j25 :: j26 :: j27 :: j28 :: j29 :: .tuple #[.agg #[vI zver0.stamp, .bool zver0.gone, vI zver0.expire, vI zver0.val.kind, vS zver0.val.text, yp, yt, yz], .bool false] :: vP b2 :: vP v :: vP v :: vP v :: .iface 52 (vP t) :: vS k :: .tuple #[.agg #[vI zver0.stamp, .bool zver0.gone, vI zver0.expire, vI zver0.val.kind, vS zver0.val.text, yp, yt, yz], .bool false] :: .agg #[vI zver0.stamp, .bool zver0.gone, vI zver0.expire, vI zver0.val.kind, vS zver0.val.text, yp, yt, yz] :: .bool false :: j40 :: j41 :: j42 :: j43 :: j44 :: j45 :: j46 :: j47 :: j48 :: j49 :: j50 :: j51 :: j52 :: j53 :: j54 :: undef :: undef :: undef :: undef :: undef :: undef :: undef :: undef :: undef :: undef :: undef :: undef :: undef :: undef :: undef :: undef :: undef :: undef :: []), defers := [] } w43 := by
   intro j8 j9 j40 j41 j42 j43 j44 j45 j46 j47 j48 j49 j50 j51 j52 j53 j54 w43 hcd hv
   refine k42 _ _ (sK fun K44 k44 => ?_)
   have hJ44 : ∀ (xq : Int) (j55 j56 j57 j58 j59 j60 j61 j62 : Value) (w45 : World), (lf = -1 → xq = 0) → Inv G (Res.cell b39 [vI zver0.stamp, .bool zver0.gone, vI zver0.expire, vI zver0.val.kind, vS zver0.val.text, yp, yt, yz] 81 :: txR t m s p wb va vc sv clk es :: Res.cell b4 [vI cd, vI lf, vI lw] 124 :: Res.cell b2 [vP v, .slice aa an ac] 72 :: Res.cell v [.iface 52 (vP t)] 79 :: H) w45 → K44 { tmps := List.toArray (.agg #[vP v, .slice aa an ac] :: vS k :: vS x :: .agg #[vI cd, vI lf, vI lw] :: vP b2 :: undef :: undef :: vP b4 :: j8 :: j9 :: vI xq :: j11 :: j12 :: vP b39 :: .bool false :: undef :: j16 :: j17 :: j18 :: j19 :: j20 :: j21 :: j22 :: j23 :: j24 :: j25 :: j26 :: j27 :: j28 :: j29 :: .tuple #[.agg #[vI zver0.stamp, .bool zver0.gone, vI zver0.expire, vI zver0.val.kind, vS zver0.val.text, yp, yt, yz], .bool false] :: vP b2 :: vP v :: vP v :: vP v :: .iface 52 (vP t) :: vS k :: .tuple #[.agg #[vI zver0.stamp, .bool zver0.gone, vI zver0.expire, vI zver0.val.kind, vS zver0.val.text, yp, yt, yz], .bool false] :: .agg #[vI zver0.stamp, .bool zver0.gone, vI zver0.expire, vI zver0.val.kind, vS zver0.val.text, yp, yt, yz] :: .bool false :: j40 :: j41 :: j42 :: j43 :: j44 :: j45 :: j46 :: j47 :: j48 :: j49 :: j50 :: j51 :: j52 :: j53 :: j54 :: j55 :: j56 :: j57 :: j58 :: j59 :: j60 :: j61 :: j62 :: undef :: undef :: undef :: undef :: undef :: undef :: undef :: undef :: undef :: undef :: []), defers := [] } w45 := by
    intro xq j55 j56 j57 j58 j59 j60 j61 j62 w45 hxq hv
    refine k44 _ _ (sK fun _ k46 => ?_)
    refine rW mixed [4, 6] [0,1,2,3,5,4,6,7] 73 rfl (by kernel_rfl) hv ?_
    simp only [qm, opAt]
    refine dG (vP b2) rfl (ex_field rfl rfl (cs0fa72_0 _ _ _)) (dF _ rfl (fun hv => ex_load rfl rfl (run_load1 cs0na28 (hv.load 3 0 rfl rfl))) fun f47 hf47 => ?_)
    refine dM (vS k) rfl ?_
    simp only [zP, po]
    refine dM (vS x) rfl (dM (vI xq) rfl ?_)
    refine dS rfl fun w48 hv => mC cs2callable58 rfl ((cstrText G _ _ x hv).mono ?_) rfl
    rintro e w49 ⟨rfl, hv⟩
    refine ⟨_, rfl, dV hv (fC (fun ww hv => hf47 ww (ex_load rfl rfl (run_load1 cs0na28 (hv.load 3 0 rfl rfl)))) fN) ?_⟩
    simp only [zP, po]
    refine dS rfl fun w50 hv => ?_
    replace hv := hv.front 1 rfl
    simp only [eS, eZ] at hv
    replace hv := hv.front 4 rfl
    simp only [eS, eZ] at hv
    refine mC cs2callable18 rfl ((viewKeep G _ _ v t m s p wb va vc sv clk es M k (textV x) _ _ _ xq (hM.more hG) (textV_at _) hv).mono ?_) rfl
    rintro e w57 ⟨G52, es56, Mk55, e51, hG52, rfl, hMk54, hkp53, hv⟩
    refine ⟨_, rfl, dV hv (fK rfl fN) ?_⟩
    refine dA (vI e51) rfl (dE fun w58 hv => ?_)
    simp only [zP, po]
    refine tK k46 (sK fun _ k59 => ?_)
    refine rL (uM rfl ?_)
    by_cases hb60 : e51 = 0
    ·refine uG (.bool true) rfl (ex_eql rfl rfl rfl (qT hb60)) (uM rfl ?_)
     refine uA rfl (uA rfl ?_)
     refine uW k59 (rR ?_)
     refine bodyPost_ret (results_tmp2 rfl _ _ _) rfl (⟨G52, es56, Mk55, true, e51, (hG.trans hG52), rfl, hMk54.more (Base.Le.refl _), ⟨hO.keep hkp53, fun h9 => keep_not hkp53 h9, fun h8 h9 => ⟨by have h7 := hkp53; rw [hxq h8] at h7; exact h7, by constructor <;> intro h7 <;> first | rfl | omega | cases h7⟩, fun h8 h9 h7 => absurd (hcd h9) h7⟩, (hv.kp [1, 1] 2 3)⟩)
    refine uG (.bool false) rfl (ex_eql rfl rfl rfl (qF hb60)) (uM rfl ?_)
    refine uA rfl (uA rfl ?_)
    refine uW k59 (rR ?_)
    refine bodyPost_ret (results_tmp2 rfl _ _ _) rfl (⟨G52, es56, Mk55, false, e51, (hG.trans hG52), rfl, hMk54.more (Base.Le.refl _), ⟨hO.keep hkp53, fun h9 => keep_not hkp53 h9, fun h8 h9 => ⟨by have h7 := hkp53; rw [hxq h8] at h7; exact h7, by constructor <;> intro h7 <;> first | rfl | omega | cases h7⟩, fun h8 h9 h7 => absurd (hcd h9) h7⟩, (hv.kp [1, 1] 2 3)⟩)
   refine sK fun _ k61 => rL (uF (.pointer (some ⟨b4, 1, none⟩)) rfl (cs1fa124_1 _ _ _) ?_)
   refine uL _ rfl (run_load1 s2na3 (hv.load 2 1 rfl rfl)) ?_
   by_cases hb62 : lf = 3
   ·refine uG (.bool true) rfl (ex_eql rfl rfl rfl (qT hb62)) (uM rfl ?_)
    refine uM rfl (uK rfl ?_)
    refine uW k61 (cF rfl ?_)
    refine kS (then_normal (hJ44 xp _ _ _ _ _ _ _ _ _ (fun h => by first | exact hxp h | omega) ((((((hv.front 4 rfl).front 4 rfl).front 4 rfl).front 4 rfl).front 4 rfl))))
   refine uG (.bool false) rfl (ex_eql rfl rfl rfl (qF hb62)) (uM rfl ?_)
   refine uP rfl (uK rfl ?_)
   refine uW k61 (cF rfl ?_)
   refine kS (then_normal (hJ44 xp _ _ _ _ _ _ _ _ _ (fun h => by first | exact hxp h | omega) ((((((hv.front 4 rfl).front 4 rfl).front 4 rfl).front 4 rfl).front 4 rfl))))
  refine sK fun _ k63 => rL (uF (vP b4) rfl (cs1fa124_0 _ _ _) ?_)
  refine uL _ rfl (run_load1 s2na3 (hv.load 2 0 rfl rfl)) ?_
  by_cases hb64 : cd = 0
  ·refine uG (.bool true) rfl (ex_eql rfl rfl rfl (qT hb64)) (uM rfl ?_)
   refine uM rfl (uK rfl ?_)
   refine uM rfl ?_
   refine uF (vP b4) rfl (cs1fa124_0 _ _ _) ?_
   refine uL _ rfl (run_load1 s2na3 (hv.load 2 0 rfl rfl)) ?_
   by_cases hb65 : cd = 1
   ·refine uG (.bool true) rfl (ex_eql rfl rfl rfl (qT hb65)) ?_
    refine uM rfl ?_
    refine uM rfl ?_
    refine uG (.bool true) rfl (ex_not rfl rfl rfl) ?_
    refine uK rfl (uK rfl ?_)
    refine uW k63 (cT rfl ?_)
    refine sK fun _ k66 => rL (uA rfl ?_)
    refine uA rfl (uW k66 ?_)
    refine rR (tR ?_)
    clear hJ42
    refine bodyPost_ret (results_tmp2 rfl _ _ _) rfl (⟨G, es, M, _, _, hG, rfl, hM.more hG, ⟨hO, fun _ => rfl, fun h8 h9 => by omega, fun h8 h9 h7 => by first | omega | exact ⟨rfl, rfl, rfl⟩⟩, (hv.kp [1, 4] 2 3)⟩)
   refine uG (.bool false) rfl (ex_eql rfl rfl rfl (qF hb65)) ?_
   refine uM rfl ?_
   refine uP rfl ?_
   refine uP rfl ?_
   refine uK rfl (uK rfl ?_)
   refine uW k63 (cF rfl ?_)
   refine kS (then_normal (hJ42 _ _ _ _ _ _ _ _ _ _ _ _ _ _ _ _ _ _ (fun h => by first | exact hg | omega) ((((((hv.front 4 rfl).front 4 rfl).front 4 rfl).front 4 rfl).front 4 rfl))))
  refine uG (.bool false) rfl (ex_eql rfl rfl rfl (qF hb64)) (uM rfl ?_)
  refine uP rfl (uK rfl ?_)
  refine uM rfl ?_
  refine uF (vP b4) rfl (cs1fa124_0 _ _ _) ?_
  refine uL _ rfl (run_load1 s2na3 (hv.load 2 0 rfl rfl)) ?_
  by_cases hb67 : cd = 1
  ·refine uG (.bool true) rfl (ex_eql rfl rfl rfl (qT hb67)) ?_
   refine uM rfl ?_
   refine uM rfl ?_
   refine uG (.bool true) rfl (ex_not rfl rfl rfl) ?_
   refine uK rfl (uK rfl ?_)
   refine uW k63 (cT rfl ?_)
   refine sK fun _ k68 => rL (uA rfl ?_)
   refine uA rfl (uW k68 ?_)
   refine rR (tR ?_)
   clear hJ42
   refine bodyPost_ret (results_tmp2 rfl _ _ _) rfl (⟨G, es, M, _, _, hG, rfl, hM.more hG, ⟨hO, fun _ => rfl, fun h8 h9 => by omega, fun h8 h9 h7 => by first | omega | exact ⟨rfl, rfl, rfl⟩⟩, (hv.kp [1, 4] 2 3)⟩)
  refine uG (.bool false) rfl (ex_eql rfl rfl rfl (qF hb67)) ?_
  refine uM rfl ?_
  refine uP rfl ?_
  refine uP rfl ?_
  refine uK rfl (uK rfl ?_)
  refine uW k63 (cF rfl ?_)
  refine kS (then_normal (hJ42 _ _ _ _ _ _ _ _ _ _ _ _ _ _ _ _ _ _ (fun h => by first | exact hg | omega) ((((((hv.front 4 rfl).front 4 rfl).front 4 rfl).front 4 rfl).front 4 rfl))))
 refine sK fun _ k69 => rL (uF (.pointer (some ⟨b4, 1, none⟩)) rfl (cs1fa124_1 _ _ _) ?_)
 refine uL _ rfl (run_load1 s2na3 (hv.load 0 1 rfl rfl)) ?_
 by_cases hb70 : lf = 2
 ·refine uG (.bool true) rfl (ex_eql rfl rfl rfl (qT hb70)) (uW k69 ?_)
  refine cT rfl (sK fun _ k71 => ?_)
  refine rL (uL (.agg #[vP v, .slice aa an ac]) rfl (lM 1 cs2wd72 hv rfl rfl rfl rfl) ?_)
  refine uF (.pointer (some ⟨b4, 2, none⟩)) rfl (cs1fa124_2 _ _ _) ?_
  refine uL _ rfl (run_load1 s2na3 (hv.load 0 2 rfl rfl)) ?_
  replace hv := hv.front 3 rfl
  simp only [eS, eZ] at hv
  replace hv := hv.front 3 rfl
  simp only [eS, eZ] at hv
  refine xC cs2callable84 rfl ((cstrUntil B _ _ v t m s p wb va vc sv clk es h0c h1c aa an ac lw (by omega) hv).mono ?_) rfl
  rintro e w75 ⟨G74, un72, ue73, hG74, rfl, hv⟩
  refine ⟨_, rfl, uM rfl ?_⟩
  refine uE rfl (uE rfl ?_)
  refine uA rfl (uA rfl ?_)
  refine uW k71 (sK fun _ k76 => ?_)
  refine sK fun _ k77 => rL (uM rfl ?_)
  by_cases hb78 : ue73 ≠ 0
  ·refine uG (.bool true) rfl (ex_neq rfl rfl rfl (qT hb78)) (uW k77 ?_)
   refine cT rfl (sK fun _ k79 => ?_)
   refine rL (uM rfl ?_)
   refine uA rfl (uA rfl ?_)
   refine uW k79 (rR ?_)
   refine tR (tR ?_)
   clear hJ7
   refine bodyPost_ret (results_tmp2 rfl _ _ _) rfl (⟨G74, es, M, _, _, hG74, rfl, hM.more hG74, ⟨hO, fun _ => rfl, fun h8 h9 => by omega, fun h8 h9 h7 => by first | omega | exact ⟨rfl, rfl, rfl⟩⟩, (hv.kp [1, 1] 2 2)⟩)
  refine uG (.bool false) rfl (ex_neq rfl rfl rfl (qF hb78)) (uW k77 ?_)
  refine cF rfl (kS ?_)
  refine tK k76 (rL ?_)
  refine uM rfl (uA rfl ?_)
  refine uZ (then_normal (hJ7 un72 _ _ _ _ _ _ _ _ _ _ _ _ _ _ _ _ _ _ _ (fun h => by omega) ((((((hv.front 1 rfl).front 1 rfl).front 3 rfl).front 3 rfl)).weak hG74)))
 refine uG (.bool false) rfl (ex_eql rfl rfl rfl (qF hb70)) (uW k69 ?_)
 refine cF rfl (kS ?_)
 exact then_normal (hJ7 0 _ _ _ _ _ _ _ _ _ _ _ _ _ _ _ _ _ _ _ (fun h => by omega) (((((hv.front 3 rfl).front 3 rfl).front 3 rfl).front 3 rfl)))
theorem cs2al38 : AL Tryz.prog 38 [vI 0, vS [], vI 0, vN] := fun w => by kernel_rfl
theorem cs2callable83 : Callable Tryz.prog 83 := cb Tryz.func83 (by kernel_rfl)
theorem cs2al124 : AL Tryz.prog 124 [vI 0, vI 0, vI 0] := fun w => by kernel_rfl
theorem cs2callable54 : Callable Tryz.prog 54 := cb Tryz.func54 (by kernel_rfl)
theorem cs2callable57 : Callable Tryz.prog 57 := cb Tryz.func57 (by kernel_rfl)
theorem cstrSet (B : Base) (H : List Res) (w : World) (v t m s p wb : Nat) (va : Option Addr) (vc : Nat) (sv : Value) (clk : Int) (es : List (List UInt8 × Value)) (M : List (List UInt8 × Ver)) (hM : VM B es M) (hO : OkM M) (h0c : 0 ≤ clk) (h1c : clk ≤ 1099511627776) (aa : Option Addr) (an ac : Nat) (k x : List UInt8) (xa : Option Addr) (xc : Nat) (ws : List (List UInt8)) (hrw : RdV B [] xa (textCells ws)) (hmw : ws.length ≤ 10000) (hwl : ∀ x ∈ ws, x.length ≤ 9223372036854775807) (hN : NumB B) (hv : Inv B (Res.cell v [.iface 52 (vP t)] 79 :: txR t m s p wb va vc sv clk es :: H) w) :
  Calls Tryz.prog 53 #[.agg #[vP v, .slice aa an ac], vS k, vS x, .slice xa ws.length xc] w fun e w' => ∃ C es' M' r cs, B.Le C ∧ e = .returned (.agg cs.toArray) ∧ RpAt C r cs ∧ VM C es' M' ∧ (CmdR M M' r ∧ SetR M clk k x ws M' r) ∧ Inv C (Res.cell v [.iface 52 (vP t)] 79 :: txR t m s p wb va vc sv clk es' :: H) w' := by
 refine cW Tryz.func53 rfl Tryz.ntmps53 ?_
 simp only [al]
 refine sK fun _ k1 => rL (sl_box (L := [vP v, .slice aa an ac]) tV (wn rfl) rfl rfl hv (fun w => by kernel_rfl) (fun b2 w3 hv => ?_))
 refine sl_alloc tV (wn rfl) rfl hv cs2al38 (fun b4 w5 hv => ?_)
 refine uW k1 (sK fun _ k6 => ?_)
 refine rL (uM rfl ?_)
 refine sl_rowN (pv := #[(0, vI 0), (1, vI 1), (2, vI 2), (3, vI 3)]) (L := [vI 0, vI 1, vI 2, vI 3]) (e := 3) tV (wn rfl) rfl (by simp only [List.map_toArray, List.map_cons, List.map_nil]; rfl) hv (fun w => by kernel_rfl) (fun b7 w8 hv => ?_)
 obtain ⟨K9, hK9, hv, hrkK9, hokK9, -⟩ := (hv.cellRow (n := 4) (c := 4) (size := 1) rfl (by decide) (by decide)).rowBy
 refine xC cs2callable83 rfl ((cstrOptions K9 _ _ xa xc ws (hrw.more hK9 (fun _ h => h)) (by omega) hwl _ 4 [0, 1, 2, 3] hrkK9 (Nat.le_of_ble_eq_true rfl) (hN.more hK9) (ws = [] ∨ ws = [[78, 88]]) (fun h => h.imp id (fun h => ⟨h, by decide⟩)) hv).mono ?_) rfl
 rintro e w17 ⟨E10, oc11, ol12, on13, oe14, hE10, rfl, hof16, hop15, hv⟩
 refine ⟨_, rfl, uM rfl ?_⟩
 refine uE rfl (uE rfl ?_)
 refine sl_alloc tV (wn rfl) rfl hv cs2al124 (fun b18 w19 hv => ?_)
 refine xS 0 rfl hv cs1sz124 rfl (by exact ⟨rfl, rfl, rfl, trivial⟩) (fun w20 hv => ?_)
 simp only [zO, sp] at hv
 refine uA rfl (uW k6 ?_)
 refine sK fun _ k21 => sK fun _ k22 => rL (uM rfl ?_)
 by_cases hb23 : oe14 ≠ 0
 ·refine uG (.bool true) rfl (ex_neq rfl rfl rfl (qT hb23)) (uW k22 ?_)
  refine cT rfl (sK fun _ k24 => ?_)
  refine rL (uM rfl ?_)
  refine xC rscallable22 rfl ((viewWrong E10 _ _ oe14 hv).mono ?_) rfl
  rintro e w26 ⟨s25, rfl, hv⟩
  refine ⟨_, rfl, ?_⟩
  refine xS 1 rfl hv rssz38 rfl (by exact ⟨rfl, rfl, rfl, rfl, trivial⟩) (fun w27 hv => ?_)
  simp only [zS, zO, sp] at hv
  refine uW k24 (rR ?_)
  refine tR (bC 1 rswd38 hv rfl rfl rfl rfl ?_)
  exact ⟨E10, es, M, (.mk 1 s25 0 []), _, (hK9.trans hE10), rfl, rpAt_leaf, hM.more (hK9.trans hE10), ⟨⟨hO, fun _ => rfl⟩, fun h9 => absurd (hop15 (.inl h9)).1 (by omega), fun h9 => absurd (hop15 (.inr h9)).1 (by omega)⟩, (hv.kp [4, 4] 2 3)⟩
 refine uG (.bool false) rfl (ex_neq rfl rfl rfl (qF hb23)) (uW k22 ?_)
 refine cF rfl (kS ?_)
 refine tK k21 (sK fun _ k28 => ?_)
 refine rL (uL (.agg #[vP v, .slice aa an ac]) rfl (lM 2 cs2wd72 hv rfl rfl rfl rfl) ?_)
 refine uM rfl (uM rfl ?_)
 refine uL (.agg #[vI oc11, vI ol12, vI on13]) rfl (lM 0 cs1wd124 hv rfl rfl rfl rfl) ?_
 replace hv := hv.front 4 rfl
 simp only [eS, eZ] at hv
 replace hv := hv.front 4 rfl
 simp only [eS, eZ] at hv
 refine xC cs2callable54 rfl ((cstrLay E10 _ _ v t m s p wb va vc sv clk es M (hM.more (hK9.trans hE10)) hO h0c h1c aa an ac k x oc11 ol12 on13 hof16 hv).mono ?_) rfl
 rintro e w36 ⟨G29, es30, Mk31, dn32, le33, hG29, rfl, hMk35, hl34, hv⟩
 refine ⟨_, rfl, uM rfl ?_⟩
 refine uE rfl (uE rfl ?_)
 refine uA rfl (uA rfl ?_)
 refine uW k28 (sK fun _ k37 => ?_)
 refine sK fun _ k38 => rL (uM rfl ?_)
 by_cases hb39 : le33 ≠ 0
 ·refine uG (.bool true) rfl (ex_neq rfl rfl rfl (qT hb39)) (uW k38 ?_)
  refine cT rfl (sK fun _ k40 => ?_)
  refine rL (uM rfl ?_)
  refine xC rscallable22 rfl ((viewWrong G29 _ _ le33 hv).mono ?_) rfl
  rintro e w42 ⟨s41, rfl, hv⟩
  refine ⟨_, rfl, ?_⟩
  refine xS 3 rfl hv rssz38 rfl (by exact ⟨rfl, rfl, rfl, rfl, trivial⟩) (fun w43 hv => ?_)
  simp only [zS, zO, sp] at hv
  refine uW k40 (rR ?_)
  refine tR (bC 3 rswd38 hv rfl rfl rfl rfl ?_)
  exact ⟨G29, es30, Mk31, (.mk 1 s41 0 []), _, ((hK9.trans hE10).trans hG29), rfl, rpAt_leaf, hMk35.more (Base.Le.refl _), ⟨⟨hl34.1, fun _ => hl34.2.1 (by omega)⟩, fun h9 => ⟨_, (hl34.2.2.1 (hop15 (.inl h9)).2.1 ((hop15 (.inl h9)).2.2.1 h9)).1, .inr ⟨by omega, rfl⟩⟩, fun h9 h8 => absurd (hl34.2.2.2 (hop15 (.inr h9)).2.1 ((hop15 (.inr h9)).2.2.2 (by rw [h9]; exact fun h => by cases h)) (got_alive h8)).2.1 (by omega)⟩, (hv.kp [1, 1] 2 3)⟩
 refine uG (.bool false) rfl (ex_neq rfl rfl rfl (qF hb39)) (uW k38 ?_)
 refine cF rfl (kS ?_)
 refine tK k37 (sK fun _ k44 => ?_)
 refine sK fun _ k45 => rL (uM rfl ?_)
 refine uG (.bool (!dn32)) rfl (ex_not rfl rfl rfl) (uW k45 ?_)
 refine wpIn_cond_split (t := !dn32) rfl (fun hc46 => ?_) (fun hc46 => ?_)
 ·refine sK fun _ k47 => rL (xC cs0callable76 rfl ((respNone G29 _ _ hv).mono ?_) rfl)
  rintro e w48 ⟨rfl, hv⟩
  refine ⟨_, rfl, ?_⟩
  refine xS 3 rfl hv rssz38 rfl (by exact ⟨rfl, rfl, rfl, rfl, trivial⟩) (fun w49 hv => ?_)
  simp only [zS, zO, sp] at hv
  refine uW k47 (rR ?_)
  refine tR (bC 3 rswd38 hv rfl rfl rfl rfl ?_)
  exact ⟨G29, es30, Mk31, (.mk 4 ([] : List UInt8) 0 []), _, ((hK9.trans hE10).trans hG29), rfl, rpAt_leaf, hMk35.more (Base.Le.refl _), ⟨⟨hl34.1, fun h9 => absurd h9 isF_none⟩, fun h9 => absurd ((hl34.2.2.1 (hop15 (.inl h9)).2.1 ((hop15 (.inl h9)).2.2.1 h9)).2.2 (by omega)) (by simpa using hc46), fun h9 h8 => ⟨(hl34.2.2.2 (hop15 (.inr h9)).2.1 ((hop15 (.inr h9)).2.2.2 (by rw [h9]; exact fun h => by cases h)) (got_alive h8)).2.2, rfl⟩⟩, (hv.kp [1, 1] 2 3)⟩
 refine kS (tK k44 ?_)
 refine sK fun _ k50 => rL (xC cs2callable57 rfl ((respText G29 _ _ ([79, 75] : List UInt8) hv).mono ?_) rfl)
 rintro e w51 ⟨rfl, hv⟩
 refine ⟨_, rfl, ?_⟩
 refine xS 3 rfl hv rssz38 rfl (by exact ⟨rfl, rfl, rfl, rfl, trivial⟩) (fun w52 hv => ?_)
 simp only [zS, zO, sp] at hv
 refine uW k50 (rR ?_)
 refine bC 3 rswd38 hv rfl rfl rfl rfl (⟨G29, es30, Mk31, (.mk 0 ([79, 75] : List UInt8) 0 []), _, ((hK9.trans hE10).trans hG29), rfl, rpAt_leaf, hMk35.more (Base.Le.refl _), ⟨⟨hl34.1, fun h9 => absurd h9 isF_text⟩, fun h9 => ⟨_, (hl34.2.2.1 (hop15 (.inl h9)).2.1 ((hop15 (.inl h9)).2.2.1 h9)).1, .inl ⟨by omega, rfl⟩⟩, fun h9 h8 => (by have h7 := (hl34.2.2.2 (hop15 (.inr h9)).2.1 ((hop15 (.inr h9)).2.2.2 (by rw [h9]; exact fun h => by cases h)) (got_alive h8)).1; rw [show dn32 = true by simpa using hc46] at h7; cases h7)⟩, (hv.kp [1, 1] 2 3)⟩)
theorem cs2callable44 : Callable Tryz.prog 44 := cb Tryz.func44 (by kernel_rfl)
theorem cs2callable46 : Callable Tryz.prog 46 := cb Tryz.func46 (by kernel_rfl)
theorem cs2callable45 : Callable Tryz.prog 45 := cb Tryz.func45 (by kernel_rfl)
theorem cstrGetex (B : Base) (H : List Res) (w : World) (v t m s p wb : Nat) (va : Option Addr) (vc : Nat) (sv : Value) (clk : Int) (es : List (List UInt8 × Value)) (M : List (List UInt8 × Ver)) (hM : VM B es M) (hO : OkM M) (h0c : 0 ≤ clk) (h1c : clk ≤ 1099511627776) (aa : Option Addr) (an ac : Nat) (k : List UInt8) (xa : Option Addr) (xc : Nat) (ws : List (List UInt8)) (hrw : RdV B [] xa (textCells ws)) (hmw : ws.length ≤ 10000) (hwl : ∀ x ∈ ws, x.length ≤ 9223372036854775807) (hN : NumB B) (hv : Inv B (Res.cell v [.iface 52 (vP t)] 79 :: txR t m s p wb va vc sv clk es :: H) w) :
  Calls Tryz.prog 60 #[.agg #[vP v, .slice aa an ac], vS k, .slice xa ws.length xc] w fun e w' => ∃ C es' M' r cs, B.Le C ∧ e = .returned (.agg cs.toArray) ∧ RpAt C r cs ∧ VM C es' M' ∧ CmdR M M' r ∧ Inv C (Res.cell v [.iface 52 (vP t)] 79 :: txR t m s p wb va vc sv clk es' :: H) w' := by
 refine cW Tryz.func60 rfl Tryz.ntmps60 ?_
 simp only [al]
 refine sK fun _ k1 => rL (sl_box (L := [vP v, .slice aa an ac]) tV (wn rfl) rfl rfl hv (fun w => by kernel_rfl) (fun b2 w3 hv => ?_))
 refine sl_alloc tV (wn rfl) rfl hv cs2al38 (fun b4 w5 hv => ?_)
 refine uW k1 (sK fun _ k6 => ?_)
 refine rL (uM rfl ?_)
 refine sl_rowN (pv := #[(0, vI 2), (1, vI 4)]) (L := [vI 2, vI 4]) (e := 3) tV (wn rfl) rfl (by simp only [List.map_toArray, List.map_cons, List.map_nil]; rfl) hv (fun w => by kernel_rfl) (fun b7 w8 hv => ?_)
 obtain ⟨K9, hK9, hv, hrkK9, hokK9, -⟩ := (hv.cellRow (n := 2) (c := 2) (size := 1) rfl (by decide) (by decide)).rowBy
 refine xC cs2callable83 rfl ((cstrOptions K9 _ _ xa xc ws (hrw.more hK9 (fun _ h => h)) (by omega) hwl _ 2 [2, 4] hrkK9 (Nat.le_of_ble_eq_true rfl) (hN.more hK9) (False) (fun h => absurd h id) hv).mono ?_) rfl
 rintro e w17 ⟨E10, oc11, ol12, on13, oe14, hE10, rfl, hof16, hop15, hv⟩
 refine ⟨_, rfl, uM rfl ?_⟩
 refine uE rfl (uE rfl ?_)
 refine sl_alloc tV (wn rfl) rfl hv cs2al124 (fun b18 w19 hv => ?_)
 refine xS 0 rfl hv cs1sz124 rfl (by exact ⟨rfl, rfl, rfl, trivial⟩) (fun w20 hv => ?_)
 simp only [zO, sp] at hv
 refine uA rfl (uW k6 ?_)
 refine sK fun _ k21 => sK fun _ k22 => rL (uM rfl ?_)
 by_cases hb23 : oe14 ≠ 0
 ·refine uG (.bool true) rfl (ex_neq rfl rfl rfl (qT hb23)) (uW k22 ?_)
  refine cT rfl (sK fun _ k24 => ?_)
  refine rL (uM rfl ?_)
  refine xC rscallable22 rfl ((viewWrong E10 _ _ oe14 hv).mono ?_) rfl
  rintro e w26 ⟨s25, rfl, hv⟩
  refine ⟨_, rfl, ?_⟩
  refine xS 1 rfl hv rssz38 rfl (by exact ⟨rfl, rfl, rfl, rfl, trivial⟩) (fun w27 hv => ?_)
  simp only [zS, zO, sp] at hv
  refine uW k24 (rR ?_)
  refine tR (bC 1 rswd38 hv rfl rfl rfl rfl ?_)
  exact ⟨E10, es, M, (.mk 1 s25 0 []), _, (hK9.trans hE10), rfl, rpAt_leaf, hM.more (hK9.trans hE10), ⟨hO, fun _ => rfl⟩, (hv.kp [4, 4] 2 3)⟩
 refine uG (.bool false) rfl (ex_neq rfl rfl rfl (qF hb23)) (uW k22 ?_)
 refine cF rfl (kS ?_)
 refine tK k21 (sK fun _ k28 => ?_)
 refine rL (uF (vP b2) rfl (cs0fa72_0 _ _ _) ?_)
 refine uL _ rfl (run_load1 cs0na28 (hv.load 2 0 rfl rfl)) (uM rfl ?_)
 replace hv := hv.front 4 rfl
 simp only [eS, eZ] at hv
 replace hv := hv.front 4 rfl
 simp only [eS, eZ] at hv
 refine xC cs2callable44 rfl ((viewText E10 _ _ v t m s p wb va vc sv clk es M k (hM.more (hK9.trans hE10)) hv).mono ?_) rfl
 rintro e w29 ⟨C, y, yp, yt, yz, ec, hC, rfl, hyv, hof, hv⟩
 refine ⟨_, rfl, ?_⟩
 obtain ⟨pa, pc, sa, sc, za, zc, rfl, rfl, rfl, hokp, hrp, hoks, hrs, hokz, hrz⟩ := valAt_open hyv
 refine uM rfl (uE rfl ?_)
 refine uE rfl ?_
 refine sl_alloc tV (wn rfl) rfl hv cs2al81 (fun b30 w31 hv => ?_)
 refine xS 0 rfl hv x0sz81 rfl (by exact ⟨rfl, rfl, rfl, rfl, rfl, rfl, rfl, rfl, trivial⟩) (fun w32 hv => ?_)
 simp only [zO, sp] at hv
 refine uA rfl (uW k28 ?_)
 refine sK fun _ k33 => sK fun _ k34 => rL (uM rfl ?_)
 by_cases hb35 : ec ≠ 0
 ·refine uG (.bool true) rfl (ex_neq rfl rfl rfl (qT hb35)) (uW k34 ?_)
  refine cT rfl (sK fun _ k36 => ?_)
  refine rL (uM rfl ?_)
  refine xC rscallable22 rfl ((viewWrong C _ _ ec hv).mono ?_) rfl
  rintro e w38 ⟨s37, rfl, hv⟩
  refine ⟨_, rfl, ?_⟩
  refine xS 4 rfl hv rssz38 rfl (by exact ⟨rfl, rfl, rfl, rfl, trivial⟩) (fun w39 hv => ?_)
  simp only [zS, zO, sp] at hv
  refine uW k36 (rR ?_)
  refine tR (bC 4 rswd38 hv rfl rfl rfl rfl ?_)
  exact ⟨C, es, M, (.mk 1 s37 0 []), _, ((hK9.trans hE10).trans hC), rfl, rpAt_leaf, hM.more ((hK9.trans hE10).trans hC), ⟨hO, fun _ => rfl⟩, (hv.kp [2, 2] 2 4)⟩
 refine uG (.bool false) rfl (ex_neq rfl rfl rfl (qF hb35)) (uW k34 ?_)
 refine cF rfl (kS ?_)
 refine tK k33 (sK fun _ k40 => ?_)
 refine rL (uA rfl ?_)
 refine uW k40 (sK fun _ k41 => ?_)
 refine sK fun _ k42 => rL (uF (.pointer (some ⟨b18, 1, none⟩)) rfl (cs1fa124_1 _ _ _) ?_)
 refine uL _ rfl (run_load1 s2na3 (hv.load 3 1 rfl rfl)) ?_
 by_cases hb43 : ol12 = 2
 ·refine uG (.bool true) rfl (ex_eql rfl rfl rfl (qT hb43)) (uW k42 ?_)
  refine cT rfl (sK fun _ k44 => ?_)
  refine rL (uL (.agg #[vP v, .slice aa an ac]) rfl (lM 5 cs2wd72 hv rfl rfl rfl rfl) ?_)
  refine uF (.pointer (some ⟨b18, 2, none⟩)) rfl (cs1fa124_2 _ _ _) ?_
  refine uL _ rfl (run_load1 s2na3 (hv.load 3 2 rfl rfl)) ?_
  replace hv := hv.front 2 rfl
  simp only [eS, eZ] at hv
  replace hv := hv.front 2 rfl
  simp only [eS, eZ] at hv
  refine xC cs2callable84 rfl ((cstrUntil C _ _ v t m s p wb va vc sv clk es h0c h1c aa an ac on13 (by omega) hv).mono ?_) rfl
  rintro e w48 ⟨G47, un45, ue46, hG47, rfl, hv⟩
  refine ⟨_, rfl, uM rfl ?_⟩
  refine uE rfl (uE rfl ?_)
  refine uA rfl (uA rfl ?_)
  refine uW k44 (sK fun _ k49 => ?_)
  refine rL (uM rfl ?_)
  by_cases hb50 : ue46 ≠ 0
  ·refine uG (.bool true) rfl (ex_neq rfl rfl rfl (qT hb50)) (uW k49 ?_)
   refine cT rfl (sK fun _ k51 => ?_)
   refine rL (uM rfl ?_)
   refine xC rscallable22 rfl ((viewWrong G47 _ _ ue46 hv).mono ?_) rfl
   rintro e w53 ⟨s52, rfl, hv⟩
   refine ⟨_, rfl, ?_⟩
   refine xS 4 rfl hv rssz38 rfl (by exact ⟨rfl, rfl, rfl, rfl, trivial⟩) (fun w54 hv => ?_)
   simp only [zS, zO, sp] at hv
   refine uW k51 (rR ?_)
   refine tR (bC 4 rswd38 hv rfl rfl rfl rfl ?_)
   exact ⟨G47, es, M, (.mk 1 s52 0 []), _, (((hK9.trans hE10).trans hC).trans hG47), rfl, rpAt_leaf, hM.more (((hK9.trans hE10).trans hC).trans hG47), ⟨hO, fun _ => rfl⟩, (hv.kp [1, 1] 2 4)⟩
  refine uG (.bool false) rfl (ex_neq rfl rfl rfl (qF hb50)) (uW k49 ?_)
  refine cF rfl (kS ?_)
  refine tK k41 (sK fun _ k55 => ?_)
  refine sK fun _ k56 => rL (uF (.pointer (some ⟨b18, 1, none⟩)) rfl (cs1fa124_1 _ _ _) ?_)
  refine uL _ rfl (run_load1 s2na3 (hv.load 3 1 rfl rfl)) ?_
  by_cases hb57 : ol12 = (-1)
  ·refine uG (.bool true) rfl (ex_eql rfl rfl rfl (qT hb57)) (uM rfl ?_)
   iterate 4 refine uP rfl ?_
   refine uK rfl (uW k56 ?_)
   refine cT rfl (sK fun _ k58 => ?_)
   refine rL (uL (.agg #[vI y.stamp, .bool y.gone, vI y.expire, vI y.val.kind, vS y.val.text, .slice pa y.val.pairs.length pc, .slice sa y.val.texts.length sc, .slice za y.val.zset.length zc]) rfl (lM 2 x0wd81 hv rfl rfl rfl rfl) ?_)
   refine xC cs2callable46 rfl ((cstrReply G47 _ _ y.stamp y.gone y.expire y.val.kind y.val.text pa y.val.pairs.length pc sa y.val.texts.length sc za y.val.zset.length zc hv).mono ?_) rfl
   rintro e w62 ⟨rk59, rs60, rfl, hrk61, hv⟩
   refine ⟨_, rfl, ?_⟩
   refine xS 4 rfl hv rssz38 rfl (by exact ⟨rfl, rfl, rfl, rfl, trivial⟩) (fun w63 hv => ?_)
   simp only [zS, zO, sp] at hv
   refine uW k58 (rR ?_)
   refine tR (bC 4 rswd38 hv rfl rfl rfl rfl ?_)
   exact ⟨G47, es, M, (.mk rk59 rs60 0 []), _, (((hK9.trans hE10).trans hC).trans hG47), rfl, rpAt_leaf, hM.more (((hK9.trans hE10).trans hC).trans hG47), ⟨hO, fun _ => rfl⟩, (hv.kp [1, 1] 2 4)⟩
  refine uG (.bool false) rfl (ex_eql rfl rfl rfl (qF hb57)) (uM rfl ?_)
  refine uF (.pointer (some ⟨b30, 3, none⟩)) rfl (x2fa81_3 _ _ _) ?_
  refine uF (.pointer (some ⟨b30, 3, none⟩)) rfl (s12fa60_0 _ _ _) ?_
  refine uL _ rfl (run_load1 s2na3 (hv.load 2 3 rfl rfl)) ?_
  by_cases hb64 : y.val.kind ≠ 1
  ·refine uG (.bool true) rfl (ex_neq rfl rfl rfl (qT hb64)) (uK rfl ?_)
   refine uW k56 (cT rfl ?_)
   refine sK fun _ k65 => rL (uL (.agg #[vI y.stamp, .bool y.gone, vI y.expire, vI y.val.kind, vS y.val.text, .slice pa y.val.pairs.length pc, .slice sa y.val.texts.length sc, .slice za y.val.zset.length zc]) rfl (lM 2 x0wd81 hv rfl rfl rfl rfl) ?_)
   refine xC cs2callable46 rfl ((cstrReply G47 _ _ y.stamp y.gone y.expire y.val.kind y.val.text pa y.val.pairs.length pc sa y.val.texts.length sc za y.val.zset.length zc hv).mono ?_) rfl
   rintro e w69 ⟨rk66, rs67, rfl, hrk68, hv⟩
   refine ⟨_, rfl, ?_⟩
   refine xS 4 rfl hv rssz38 rfl (by exact ⟨rfl, rfl, rfl, rfl, trivial⟩) (fun w70 hv => ?_)
   simp only [zS, zO, sp] at hv
   refine uW k65 (rR ?_)
   refine tR (bC 4 rswd38 hv rfl rfl rfl rfl ?_)
   exact ⟨G47, es, M, (.mk rk66 rs67 0 []), _, (((hK9.trans hE10).trans hC).trans hG47), rfl, rpAt_leaf, hM.more (((hK9.trans hE10).trans hC).trans hG47), ⟨hO, fun _ => rfl⟩, (hv.kp [1, 1] 2 4)⟩
  refine uG (.bool false) rfl (ex_neq rfl rfl rfl (qF hb64)) (uK rfl ?_)
  refine uW k56 (cF rfl ?_)
  refine kS (tK k55 ?_)
  refine sK fun _ k71 => rW mixed [6, 8, 9, 10] [0,1,2,3,4,5,7,6,8,9,10] 67 rfl (by kernel_rfl) hv ?_
  simp only [qm, opAt]
  refine dG (vP b2) rfl (ex_field rfl rfl (cs0fa72_0 _ _ _)) (dL _ rfl (fun hv => ex_load rfl rfl (run_load1 cs0na28 (hv.load 5 0 rfl rfl))) ?_)
  refine dM (vS k) rfl ?_
  simp only [zP, po]
  refine dG (.pointer (some ⟨b30, 3, none⟩)) rfl (ex_field rfl rfl (x2fa81_3 _ _ _)) (dL (.agg #[vI y.val.kind, vS y.val.text, .slice pa y.val.pairs.length pc, .slice sa y.val.texts.length sc, .slice za y.val.zset.length zc]) rfl (fun hv => ex_load rfl rfl (lM 2 s1wd60 hv rfl rfl rfl rfl)) ?_)
  refine dM (vI un45) rfl ?_
  simp only [zP, po]
  refine dF (.agg #[vI y.stamp, .bool y.gone, vI y.expire, vI y.val.kind, vS y.val.text, .slice pa y.val.pairs.length pc, .slice sa y.val.texts.length sc, .slice za y.val.zset.length zc]) rfl (fun hv => ex_load rfl rfl (lM 2 x0wd81 hv rfl rfl rfl rfl)) fun f72 hf72 => dS rfl fun w73 hv => ?_
  replace hv := hv.front 1 rfl
  simp only [eS, eZ] at hv
  replace hv := hv.front 1 rfl
  simp only [eS, eZ] at hv
  refine mC cs2callable18 rfl ((viewKeep G47 _ _ v t m s p wb va vc sv clk es M k y.val _ _ _ un45 (hM.more (((hK9.trans hE10).trans hC).trans hG47)) (hyv.more hG47) hv).mono ?_) rfl
  rintro e w74 ⟨G, es1, M1, e1, hG, rfl, hM1, hkp, hv⟩
  refine ⟨_, rfl, dV hv (fC (fun ww hv => hf72 ww ?_) fN) ?_⟩
  ·exact ex_load rfl rfl (lM 2 x0wd81 hv rfl rfl rfl rfl)
  refine dS rfl fun w75 hv => mC cs2callable46 rfl ((cstrReply G _ _ y.stamp y.gone y.expire y.val.kind y.val.text pa y.val.pairs.length pc sa y.val.texts.length sc za y.val.zset.length zc hv).mono ?_) rfl
  rintro e w79 ⟨rk76, rs77, rfl, hrk78, hv⟩
  refine ⟨_, rfl, dV hv (fK rfl fN) ?_⟩
  simp only [zP, po]
  refine dS rfl fun w80 hv => mC cs2callable45 rfl ((viewDone G _ _ e1 rk76 0 rs77 (vN) rfl rfl hv).mono ?_) rfl
  rintro e w81 ⟨xr, hxr, rfl, hv⟩
  rcases hxr with ⟨hec0, rfl⟩ | ⟨hec0, s82, rfl⟩
  ·refine ⟨_, rfl, dV hv (fK rfl fN) ?_⟩
   refine dS rfl fun w83 hv => mS 4 rfl hv rssz38 rfl (by exact ⟨rfl, rfl, rfl, rfl, trivial⟩) (fun w84 hv => ?_)
   simp only [zS, zO, sp] at hv
   refine dV hv (fK rfl fN) (dE fun w85 hv => ?_)
   simp only [zP, po]
   refine tK k71 (rR ?_)
   refine bC 4 rswd38 hv rfl rfl rfl rfl (⟨G, es1, M1, (.mk rk76 rs77 0 []), _, ((((hK9.trans hE10).trans hC).trans hG47).trans hG), rfl, rpAt_leaf, hM1.more (Base.Le.refl _), DoneR.keep (r0 := (.mk rk76 rs77 0 [])) hO hkp (.inl ⟨by omega, rfl⟩) (isF_k hrk78), (hv.kp [1, 1] 2 4)⟩)
  refine ⟨_, rfl, dV hv (fK rfl fN) ?_⟩
  refine dS rfl fun w86 hv => mS 4 rfl hv rssz38 rfl (by exact ⟨rfl, rfl, rfl, rfl, trivial⟩) (fun w87 hv => ?_)
  simp only [zS, zO, sp] at hv
  refine dV hv (fK rfl fN) (dE fun w88 hv => ?_)
  simp only [zP, po]
  refine tK k71 (rR ?_)
  refine bC 4 rswd38 hv rfl rfl rfl rfl (⟨G, es1, M1, (.mk 1 s82 0 []), _, ((((hK9.trans hE10).trans hC).trans hG47).trans hG), rfl, rpAt_leaf, hM1.more (Base.Le.refl _), DoneR.keep (r0 := (.mk rk76 rs77 0 [])) hO hkp (.inr ⟨by omega, rfl⟩) (isF_k hrk78), (hv.kp [1, 1] 2 4)⟩)
 refine uG (.bool false) rfl (ex_eql rfl rfl rfl (qF hb43)) (uW k42 ?_)
 refine cF rfl (kS ?_)
 refine tK k41 (sK fun _ k89 => ?_)
 refine sK fun _ k90 => rL (uF (.pointer (some ⟨b18, 1, none⟩)) rfl (cs1fa124_1 _ _ _) ?_)
 refine uL _ rfl (run_load1 s2na3 (hv.load 3 1 rfl rfl)) ?_
 by_cases hb91 : ol12 = (-1)
 ·refine uG (.bool true) rfl (ex_eql rfl rfl rfl (qT hb91)) (uM rfl ?_)
  iterate 4 refine uP rfl ?_
  refine uK rfl (uW k90 ?_)
  refine cT rfl (sK fun _ k92 => ?_)
  refine rL (uL (.agg #[vI y.stamp, .bool y.gone, vI y.expire, vI y.val.kind, vS y.val.text, .slice pa y.val.pairs.length pc, .slice sa y.val.texts.length sc, .slice za y.val.zset.length zc]) rfl (lM 0 x0wd81 hv rfl rfl rfl rfl) ?_)
  refine xC cs2callable46 rfl ((cstrReply C _ _ y.stamp y.gone y.expire y.val.kind y.val.text pa y.val.pairs.length pc sa y.val.texts.length sc za y.val.zset.length zc hv).mono ?_) rfl
  rintro e w96 ⟨rk93, rs94, rfl, hrk95, hv⟩
  refine ⟨_, rfl, ?_⟩
  refine xS 4 rfl hv rssz38 rfl (by exact ⟨rfl, rfl, rfl, rfl, trivial⟩) (fun w97 hv => ?_)
  simp only [zS, zO, sp] at hv
  refine uW k92 (rR ?_)
  refine tR (bC 4 rswd38 hv rfl rfl rfl rfl ?_)
  exact ⟨C, es, M, (.mk rk93 rs94 0 []), _, ((hK9.trans hE10).trans hC), rfl, rpAt_leaf, hM.more ((hK9.trans hE10).trans hC), ⟨hO, fun _ => rfl⟩, (hv.kp [2, 2] 2 4)⟩
 refine uG (.bool false) rfl (ex_eql rfl rfl rfl (qF hb91)) (uM rfl ?_)
 refine uF (.pointer (some ⟨b30, 3, none⟩)) rfl (x2fa81_3 _ _ _) ?_
 refine uF (.pointer (some ⟨b30, 3, none⟩)) rfl (s12fa60_0 _ _ _) ?_
 refine uL _ rfl (run_load1 s2na3 (hv.load 0 3 rfl rfl)) ?_
 by_cases hb98 : y.val.kind ≠ 1
 ·refine uG (.bool true) rfl (ex_neq rfl rfl rfl (qT hb98)) (uK rfl ?_)
  refine uW k90 (cT rfl ?_)
  refine sK fun _ k99 => rL (uL (.agg #[vI y.stamp, .bool y.gone, vI y.expire, vI y.val.kind, vS y.val.text, .slice pa y.val.pairs.length pc, .slice sa y.val.texts.length sc, .slice za y.val.zset.length zc]) rfl (lM 0 x0wd81 hv rfl rfl rfl rfl) ?_)
  refine xC cs2callable46 rfl ((cstrReply C _ _ y.stamp y.gone y.expire y.val.kind y.val.text pa y.val.pairs.length pc sa y.val.texts.length sc za y.val.zset.length zc hv).mono ?_) rfl
  rintro e w103 ⟨rk100, rs101, rfl, hrk102, hv⟩
  refine ⟨_, rfl, ?_⟩
  refine xS 4 rfl hv rssz38 rfl (by exact ⟨rfl, rfl, rfl, rfl, trivial⟩) (fun w104 hv => ?_)
  simp only [zS, zO, sp] at hv
  refine uW k99 (rR ?_)
  refine tR (bC 4 rswd38 hv rfl rfl rfl rfl ?_)
  exact ⟨C, es, M, (.mk rk100 rs101 0 []), _, ((hK9.trans hE10).trans hC), rfl, rpAt_leaf, hM.more ((hK9.trans hE10).trans hC), ⟨hO, fun _ => rfl⟩, (hv.kp [2, 2] 2 4)⟩
 refine uG (.bool false) rfl (ex_neq rfl rfl rfl (qF hb98)) (uK rfl ?_)
 refine uW k90 (cF rfl ?_)
 refine kS (tK k89 ?_)
 refine sK fun _ k105 => rW mixed [6, 8, 9, 10] [0,1,2,3,4,5,7,6,8,9,10] 67 rfl (by kernel_rfl) hv ?_
 simp only [qm, opAt]
 refine dG (vP b2) rfl (ex_field rfl rfl (cs0fa72_0 _ _ _)) (dL _ rfl (fun hv => ex_load rfl rfl (run_load1 cs0na28 (hv.load 5 0 rfl rfl))) ?_)
 refine dM (vS k) rfl ?_
 simp only [zP, po]
 refine dG (.pointer (some ⟨b30, 3, none⟩)) rfl (ex_field rfl rfl (x2fa81_3 _ _ _)) (dL (.agg #[vI y.val.kind, vS y.val.text, .slice pa y.val.pairs.length pc, .slice sa y.val.texts.length sc, .slice za y.val.zset.length zc]) rfl (fun hv => ex_load rfl rfl (lM 0 s1wd60 hv rfl rfl rfl rfl)) ?_)
 refine dM (vI 0) rfl ?_
 simp only [zP, po]
 refine dF (.agg #[vI y.stamp, .bool y.gone, vI y.expire, vI y.val.kind, vS y.val.text, .slice pa y.val.pairs.length pc, .slice sa y.val.texts.length sc, .slice za y.val.zset.length zc]) rfl (fun hv => ex_load rfl rfl (lM 0 x0wd81 hv rfl rfl rfl rfl)) fun f106 hf106 => dS rfl fun w107 hv => ?_
 replace hv := hv.front 2 rfl
 simp only [eS, eZ] at hv
 replace hv := hv.front 2 rfl
 simp only [eS, eZ] at hv
 refine mC cs2callable18 rfl ((viewKeep C _ _ v t m s p wb va vc sv clk es M k y.val _ _ _ 0 (hM.more ((hK9.trans hE10).trans hC)) (hyv.more (Base.Le.refl _)) hv).mono ?_) rfl
 rintro e w108 ⟨G, es1, M1, e1, hG, rfl, hM1, hkp, hv⟩
 refine ⟨_, rfl, dV hv (fC (fun ww hv => hf106 ww ?_) fN) ?_⟩
 ·exact ex_load rfl rfl (lM 2 x0wd81 hv rfl rfl rfl rfl)
 refine dS rfl fun w109 hv => mC cs2callable46 rfl ((cstrReply G _ _ y.stamp y.gone y.expire y.val.kind y.val.text pa y.val.pairs.length pc sa y.val.texts.length sc za y.val.zset.length zc hv).mono ?_) rfl
 rintro e w113 ⟨rk110, rs111, rfl, hrk112, hv⟩
 refine ⟨_, rfl, dV hv (fK rfl fN) ?_⟩
 simp only [zP, po]
 refine dS rfl fun w114 hv => mC cs2callable45 rfl ((viewDone G _ _ e1 rk110 0 rs111 (vN) rfl rfl hv).mono ?_) rfl
 rintro e w115 ⟨xr, hxr, rfl, hv⟩
 rcases hxr with ⟨hec0, rfl⟩ | ⟨hec0, s116, rfl⟩
 ·refine ⟨_, rfl, dV hv (fK rfl fN) ?_⟩
  refine dS rfl fun w117 hv => mS 4 rfl hv rssz38 rfl (by exact ⟨rfl, rfl, rfl, rfl, trivial⟩) (fun w118 hv => ?_)
  simp only [zS, zO, sp] at hv
  refine dV hv (fK rfl fN) (dE fun w119 hv => ?_)
  simp only [zP, po]
  refine tK k105 (rR ?_)
  refine bC 4 rswd38 hv rfl rfl rfl rfl (⟨G, es1, M1, (.mk rk110 rs111 0 []), _, (((hK9.trans hE10).trans hC).trans hG), rfl, rpAt_leaf, hM1.more (Base.Le.refl _), DoneR.keep (r0 := (.mk rk110 rs111 0 [])) hO hkp (.inl ⟨by omega, rfl⟩) (isF_k hrk112), (hv.kp [1, 1] 2 4)⟩)
 refine ⟨_, rfl, dV hv (fK rfl fN) ?_⟩
 refine dS rfl fun w120 hv => mS 4 rfl hv rssz38 rfl (by exact ⟨rfl, rfl, rfl, rfl, trivial⟩) (fun w121 hv => ?_)
 simp only [zS, zO, sp] at hv
 refine dV hv (fK rfl fN) (dE fun w122 hv => ?_)
 simp only [zP, po]
 refine tK k105 (rR ?_)
 refine bC 4 rswd38 hv rfl rfl rfl rfl (⟨G, es1, M1, (.mk 1 s116 0 []), _, (((hK9.trans hE10).trans hC).trans hG), rfl, rpAt_leaf, hM1.more (Base.Le.refl _), DoneR.keep (r0 := (.mk rk110 rs111 0 [])) hO hkp (.inr ⟨by omega, rfl⟩) (isF_k hrk112), (hv.kp [1, 1] 2 4)⟩)
def PairsTo (ps : List (List UInt8)) (n : Nat) : Prop := ∀ j, j < n → j % 2 = 0 → (∀ k, ps[j]? = some k → k.length ≤ 256) ∧ ∀ x, ps[j + 1]? = some x → x.length ≤ 4096
theorem may_none {k : List UInt8} (h : ¬ (if [k].any (fun s : List UInt8 => decide (s.length > 256)) = true then (2 : Int) else 0) ≠ 0) : k.length ≤ 256 := by
 simp only [List.any_cons, List.any_nil, Bool.or_false, decide_eq_true_eq] at h
 split at h
 ·exact absurd (by decide) h
 omega
theorem keep_text0 {M M' : List (List UInt8 × Ver)} {clk e : Int} {k x : List UInt8} (hk : k.length ≤ 256) (hx : x.length ≤ 4096) (h : KeepI M clk k (textV x) 0 e M') : e = 0 :=
 (keep_ok hk (fun _ => ⟨hk, .inl ⟨rfl, hx, rfl, rfl, rfl⟩, Int.le_refl _, by decide⟩) h).1
theorem cs3al38 : AL Tryz.prog 38 [vI 0, vS [], vI 0, vN] := fun w => by kernel_rfl
theorem cs3mk38 : (Tryz.prog.info? 38).map (fun i => (i.zero, i.size, i.bytes)) = some (some (.agg #[vI 0, vS [], vI 0, vN]), 4, 56) := by kernel_rfl
theorem cs3el36 : Elem Tryz.prog 36 38 (.agg #[vI 0, vS [], vI 0, vN]) 4 56 := elem_of Tryz.underlying36 cs3mk38 (by rfl) (by decide)
theorem cs3al81 : AL Tryz.prog 81 [vI 0, .bool false, vI 0, vI 0, vS [], vN, vN, vN] := fun w => by kernel_rfl
theorem cs3callable78 : Callable Tryz.prog 78 := cb Tryz.func78 (by kernel_rfl)
theorem cstrMget (B : Base) (H : List Res) (w : World) (v t m s p wb : Nat) (va : Option Addr) (vc : Nat) (sv : Value) (clk : Int) (es : List (List UInt8 × Value)) (M : List (List UInt8 × Ver)) (hM : VM B es M) (aa : Option Addr) (an ac : Nat) (xa : Option Addr) (xc : Nat) (ps : List (List UInt8)) (hrp : RdV B [] xa (textCells ps)) (hmp : ps.length ≤ 1000) (hv : Inv B (Res.cell v [.iface 52 (vP t)] 79 :: txR t m s p wb va vc sv clk es :: H) w) :
  Calls Tryz.prog 47 #[.agg #[vP v, .slice aa an ac], .slice xa ps.length xc] w fun e w' => ∃ C r cs, B.Le C ∧ e = .returned (.agg cs.toArray) ∧ RpAt C r cs ∧ Inv C (Res.cell v [.iface 52 (vP t)] 79 :: txR t m s p wb va vc sv clk es :: H) w' := by
 refine cW Tryz.func47 rfl Tryz.ntmps47 ?_
 simp only [al]
 refine sK fun _ k1 => rL (sl_box (L := [vP v, .slice aa an ac]) tV (wn rfl) rfl rfl hv (fun w => by kernel_rfl) (fun b2 w3 hv => ?_))
 refine sl_alloc tV (wn rfl) rfl hv cs3al38 (fun b4 w5 hv => ?_)
 refine uW k1 (sK fun _ k6 => ?_)
 refine rL (uM rfl ?_)
 refine uG (vI (ps.length : Int)) rfl (ex_len0 Tryz.underlying23 rfl rfl) ?_
 refine sl_makeRow (cap := ps.length) tV (wn rfl) rfl rfl rfl cs3el36 (by unfold maxLen; omega) (by omega) hv (fun b7 w8 hv => ?_)
 refine uA rfl (uW k6 ?_)
 refine sK fun _ k9 => sK fun _ k10 => rL (uM rfl ?_)
 refine uG (vI (ps.length : Int)) rfl (ex_len0 Tryz.underlying23 rfl rfl) (uM rfl ?_)
 refine uW k10 (bB ?_)
 gi_loopw [15, 5] (fun x15 x5 wr => ∃ (i : Nat) (D : Base) (ls : List Leaf) (ra : Option Addr) (rc : Nat), x15 = vI i ∧ x5 = .slice ra ls.length rc ∧ B.Le D ∧ i ≤ ps.length ∧ ls.length = i ∧ Inv D (Res.row 38 4 (.slice ra ls.length rc) ls.length (ls.flatMap leafN) :: Res.cell b4 [vI 0, vS [], vI 0, vN] 38 :: Res.cell b2 [vP v, .slice aa an ac] 72 :: Res.cell v [.iface 52 (vP t)] 79 :: txR t m s p wb va vc sv clk es :: H) wr) (fun x15 x5 _ => ps.length - (intOf x15).toNat)
 case atStart => exact ⟨0, B, [], _, _, rfl, rfl, Base.Le.refl _, Nat.zero_le _, rfl, (((((hv.front 4 rfl).front 4 rfl).front 4 rfl).front 4 rfl).front 4 rfl)⟩
 case round =>
  obtain ⟨i, D, ls, ra, rc, rfl, rfl, hBD, hi, hll, hv⟩ := hrel
  refine sK fun _ k12 => rL ?_
  by_cases hb13 : (i : Int) < (ps.length : Int)
  ·refine uG (.bool true) rfl (ex_lss rfl rfl rfl (qT hb13)) (uW k12 ?_)
   refine sK fun _ k14 => cT rfl (kS ?_)
   refine tK k14 (sK fun _ k15 => ?_)
   refine bB (sK fun _ k16 => ?_)
   have hv9 := hv
   obtain ⟨key, hkey⟩ : ∃ x, ps[i]? = some x := ⟨_, List.getElem?_eq_getElem (show i < ps.length by omega)⟩
   obtain ⟨xb, xo, had, hrdkey⟩ := text_reads hrp hkey
   subst had
   have hv := hv9
   clear hv9
   refine rL (uG (.pointer (some ⟨xb, xo + i, none⟩)) rfl (ex_index rfl rfl rfl (run_idx1 (k := i) Tryz.underlying23 s9es23 (by omega))) ?_)
   refine uL _ rfl (run_load1 s9na9 (hrdkey _ _ _ hBD no_res hv 0 _ rfl)) (uA rfl ?_)
   refine uW k16 (sK fun _ k17 => ?_)
   refine rL (uF (vP b2) rfl (cs0fa72_0 _ _ _) ?_)
   refine uL _ rfl (run_load1 cs0na28 (hv.load 2 0 rfl rfl)) (uM rfl ?_)
   replace hv := hv.front 4 rfl
   simp only [eS, eZ] at hv
   replace hv := hv.front 4 rfl
   simp only [eS, eZ] at hv
   refine xC cs2callable44 rfl ((viewText D _ _ v t m s p wb va vc sv clk es M key (hM.more hBD) hv).mono ?_) rfl
   rintro e w18 ⟨C, y, yp, yt, yz, ec, hC, rfl, hyv, hof, hv⟩
   refine ⟨_, rfl, ?_⟩
   obtain ⟨pa, pc, sa, sc, za, zc, rfl, rfl, rfl, hokp, hrp, hoks, hrs, hokz, hrz⟩ := valAt_open hyv
   refine uM rfl (uE rfl ?_)
   refine uE rfl ?_
   refine sl_alloc tV (wn rfl) rfl hv cs3al81 (fun b19 w20 hv => ?_)
   refine xS 0 rfl hv x0sz81 rfl (by exact ⟨rfl, rfl, rfl, rfl, rfl, rfl, rfl, rfl, trivial⟩) (fun w21 hv => ?_)
   simp only [zO, sp] at hv
   refine uA rfl (uW k17 ?_)
   refine sK fun _ k22 => sK fun _ k23 => rL (uM rfl ?_)
   by_cases hb24 : ec ≠ 0
   ·refine uG (.bool true) rfl (ex_neq rfl rfl rfl (qT hb24)) (uW k23 ?_)
    refine cT rfl (sK fun _ k25 => ?_)
    refine rL (uM rfl ?_)
    refine xC cs0callable76 rfl ((respNone C _ _ hv).mono ?_) rfl
    rintro e w26 ⟨rfl, hv⟩
    refine ⟨_, rfl, ?_⟩
    refine sl_rowAgg (L := [vI 4, vS [], vI 0, vN]) tV (wn rfl) rfl rfl hv cs3el36 rfl (by decide) (fun b27 w28 hv => ?_)
    simp only [zP, po]
    replace hv := hv.front 4 rfl
    simp only [eS, eZ] at hv
    refine sl_append (news := [vI 4, vS [], vI 0, vN]) tV (wn rfl) rfl rfl rfl cs3el36 hv (ok_full (by omega)) rfl (rd_all (hv.get 1 rfl)) (by intro u hu; simp only [List.mem_cons, List.not_mem_nil, or_false] at hu; rcases hu with rfl | rfl | rfl | rfl <;> rfl) (by unfold maxLen; omega) (by omega) (fun rv29 w32 hv => ?_)
    obtain ⟨ra30, rc31, rfl⟩ := row_slice hv.head
    refine uA rfl (uW k25 ?_)
    refine xE (tX ?_)
    refine bH (tK k15 ?_)
    refine rL (uG (vI ((i + 1 : Nat) : Int)) rfl (ex_add rfl rfl rfl (by rw [i64_in (by omega)]; omega)) ?_)
    refine uM rfl (uZ ?_)
    refine then_normal ?_
    go_roundw
    case rel => exact ⟨i + 1, C, ls ++ [⟨4, [], 0⟩], _, _, rfl, by rw [List.length_append, List.length_singleton], (hBD.trans hC), by omega, by rw [List.length_append, List.length_singleton, hll], by rw [List.length_append, List.length_singleton, List.flatMap_append]; exact (hv.kp [4, 4, 6, 6, 4] 5 2)⟩
    case measure => show ps.length - (((i + 1 : Nat) : Int)).toNat < ps.length - ((i : Int)).toNat; omega
   refine uG (.bool false) rfl (ex_neq rfl rfl rfl (qF hb24)) (uW k23 ?_)
   refine cF rfl (kS ?_)
   refine tK k22 (rL ?_)
   refine uM rfl ?_
   refine uL (.agg #[vI y.stamp, .bool y.gone, vI y.expire, vI y.val.kind, vS y.val.text, .slice pa y.val.pairs.length pc, .slice sa y.val.texts.length sc, .slice za y.val.zset.length zc]) rfl (lM 0 x0wd81 hv rfl rfl rfl rfl) ?_
   refine xC cs2callable46 rfl ((cstrReply C _ _ y.stamp y.gone y.expire y.val.kind y.val.text pa y.val.pairs.length pc sa y.val.texts.length sc za y.val.zset.length zc hv).mono ?_) rfl
   rintro e w36 ⟨rk33, rs34, rfl, hrk35, hv⟩
   refine ⟨_, rfl, ?_⟩
   simp only [zP, po]
   refine sl_rowAgg (L := [vI rk33, vS rs34, vI 0, vN]) tV (wn rfl) rfl rfl hv cs3el36 rfl (by decide) (fun b37 w38 hv => ?_)
   replace hv := hv.front 4 rfl
   simp only [eS, eZ] at hv
   refine sl_append (news := [vI rk33, vS rs34, vI 0, vN]) tV (wn rfl) rfl rfl rfl cs3el36 hv (ok_full (by omega)) rfl (rd_all (hv.get 1 rfl)) (by intro u hu; simp only [List.mem_cons, List.not_mem_nil, or_false] at hu; rcases hu with rfl | rfl | rfl | rfl <;> rfl) (by unfold maxLen; omega) (by omega) (fun rv39 w42 hv => ?_)
   obtain ⟨ra40, rc41, rfl⟩ := row_slice hv.head
   refine uA rfl (uZ ?_)
   refine bN (tK k15 ?_)
   refine rL (uG (vI ((i + 1 : Nat) : Int)) rfl (ex_add rfl rfl rfl (by rw [i64_in (by omega)]; omega)) ?_)
   refine uM rfl (uZ ?_)
   refine then_normal ?_
   go_roundw
   case rel => exact ⟨i + 1, C, ls ++ [⟨rk33, rs34, 0⟩], _, _, rfl, by rw [List.length_append, List.length_singleton], (hBD.trans hC), by omega, by rw [List.length_append, List.length_singleton, hll], by rw [List.length_append, List.length_singleton, List.flatMap_append]; exact (hv.kp [4, 4, 6, 6, 4] 5 2)⟩
   case measure => show ps.length - (((i + 1 : Nat) : Int)).toNat < ps.length - ((i : Int)).toNat; omega
  refine uG (.bool false) rfl (ex_lss rfl rfl rfl (qF hb13)) (uW k12 ?_)
  refine sK fun _ k43 => cF rfl (xE ?_)
  refine tX (tX ?_)
  refine bH (tK k9 ?_)
  refine sK fun _ k44 => rL (uM rfl ?_)
  obtain ⟨E, hE, hv, hre, hoke, -⟩ := hv.rowBy
  refine xC cs3callable78 rfl ((respList E _ _ ra ls.length rc _ (rList (ls.map leafR)) hoke hre (.inl ⟨ls, rfl, rfl, rfl⟩) (by omega) hv).mono ?_) rfl
  rintro e w48 ⟨J45, lw46, hJ45, rfl, hrw47, hv⟩
  refine ⟨_, rfl, ?_⟩
  refine xS 0 rfl hv rssz38 rfl (by exact ⟨rfl, rfl, rfl, hrw47.lv.2, trivial⟩) (fun w49 hv => ?_)
  simp only [zO, sp] at hv
  refine uW k44 (rR ?_)
  refine bC 0 rswd38 hv rfl rfl rfl rfl (⟨J45, rList (ls.map leafR), _, ((hBD.trans hE).trans hJ45), rfl, (hrw47.more (Base.Le.refl _)), (hv.kp [3, 3] 2 2)⟩)
theorem cs3mk9 : (Tryz.prog.info? 9).map (fun i => (i.zero, i.size, i.bytes)) = some (some (vS []), 1, 16) := by kernel_rfl
theorem cs3el23 : Elem Tryz.prog 23 9 (vS []) 1 16 := elem_of Tryz.underlying23 cs3mk9 (by rfl) (by decide)
theorem cs3callable105 : Callable Tryz.prog 105 := cb Tryz.func105 (by kernel_rfl)
theorem cstrRefusal (B : Base) (H : List Res) (w : World) (xa : Option Addr) (xc : Nat) (ps : List (List UInt8)) (hrp : RdV B [] xa (textCells ps)) (hmp : ps.length ≤ 1000) (hev : ps.length % 2 = 0) (hv : Inv B H w) :
  Calls Tryz.prog 86 #[.slice xa ps.length xc] w fun e w' => ∃ C ec, B.Le C ∧ e = .returned (vI ec) ∧ (ec = 0 → PairsTo ps ps.length) ∧ Inv C H w' := by
 refine cW Tryz.func86 rfl Tryz.ntmps86 ?_
 simp only [al]
 refine sK fun _ k1 => rL (uA rfl ?_)
 refine uW k1 (sK fun _ k2 => ?_)
 refine sK fun _ k3 => rL (uA rfl ?_)
 refine uW k3 (bB ?_)
 gi_loopw [3] (fun x3 wr => ∃ (i : Nat) (D : Base), x3 = vI i ∧ B.Le D ∧ i ≤ ps.length ∧ i % 2 = 0 ∧ PairsTo ps i ∧ Inv D H wr) (fun x3 _ => ps.length - (intOf x3).toNat)
 case atStart => exact ⟨0, B, rfl, Base.Le.refl _, Nat.zero_le _, rfl, fun j hj => absurd hj (Nat.not_lt_zero _), hv⟩
 case round =>
  obtain ⟨i, D, rfl, hBD, hi, hi2, hpt, hv⟩ := hrel
  refine sK fun _ k5 => sK fun _ k6 => rL (uM rfl ?_)
  refine uM rfl ?_
  refine uG (vI (ps.length : Int)) rfl (ex_len0 Tryz.underlying23 rfl rfl) ?_
  by_cases hb7 : (i : Int) < (ps.length : Int)
  ·refine uG (.bool true) rfl (ex_lss rfl rfl rfl (qT hb7)) (uW k6 ?_)
   refine cT rfl (kS ?_)
   refine tK k5 (sK fun _ k8 => ?_)
   refine bB (sK fun _ k9 => ?_)
   refine sK fun _ k10 => ?_
   have hv9 := hv
   obtain ⟨key, hkey⟩ : ∃ x, ps[i]? = some x := ⟨_, List.getElem?_eq_getElem (show i < ps.length by omega)⟩
   obtain ⟨xb, xo, had, hrdkey⟩ := text_reads hrp hkey
   subst had
   have hv := hv9
   clear hv9
   refine rL (uM rfl ?_)
   refine uM rfl ?_
   refine uG (.pointer (some ⟨xb, xo + i, none⟩)) rfl (ex_index rfl rfl rfl (run_idx1 (k := i) Tryz.underlying23 s9es23 (by omega))) ?_
   refine uL _ rfl (run_load1 s9na9 (hrdkey _ _ _ hBD no_res hv 0 _ rfl)) ?_
   refine sl_rowOne (v := vS key) tV (wn rfl) rfl rfl hv cs3el23 rfl (fun b11 w12 hv => ?_)
   obtain ⟨K13, hK13, hv, hrkK13, hokK13, -⟩ := (hv.cellRow (n := 1) (c := 1) (size := 1) rfl (by decide) (by decide)).rowBy
   refine xC cs3callable105 rfl ((viewMay K13 _ _ _ 1 [key] hrkK13 (Nat.le_of_ble_eq_true rfl) hv).mono ?_) rfl
   rintro e w14 ⟨rfl, hv⟩
   refine ⟨_, rfl, ?_⟩
   obtain ⟨me, hme⟩ : ∃ q : Int, q = (if [key].any (fun s : List UInt8 => decide (s.length > 256)) = true then (2 : Int) else 0) := ⟨_, rfl⟩
   rw [← hme]
   refine uA rfl (uW k10 ?_)
   refine sK fun _ k15 => rL (uM rfl ?_)
   by_cases hb16 : me ≠ 0
   ·refine uG (.bool true) rfl (ex_neq rfl rfl rfl (qT hb16)) (uW k15 ?_)
    refine cT rfl (sK fun _ k17 => ?_)
    refine rL (uM rfl ?_)
    refine uA rfl (uW k17 ?_)
    refine rR (tR ?_)
    refine bZ (tR ?_)
    refine tR (bZ ?_)
    refine tR (bR rfl rfl ?_)
    exact ⟨K13, _, (hBD.trans hK13), rfl, fun h9 => absurd h9 (by omega), hv⟩
   refine uG (.bool false) rfl (ex_neq rfl rfl rfl (qF hb16)) (uW k15 ?_)
   refine cF rfl (kS ?_)
   refine tK k9 (sK fun _ k18 => ?_)
   obtain ⟨x, hx⟩ : ∃ y, ps[i + 1]? = some y := ⟨_, List.getElem?_eq_getElem (by omega)⟩
   obtain ⟨ab9, ao9, had9, hrdx2⟩ := text_reads hrp hx
   cases had9
   refine rL (uM rfl ?_)
   refine uM rfl ?_
   refine uG (vI ((i + 1 : Nat) : Int)) rfl (ex_add rfl rfl rfl (by rw [i64_in (by omega)]; omega)) ?_
   refine uG (.pointer (some ⟨xb, xo + (i + 1 : Nat), none⟩)) rfl (ex_index rfl rfl rfl (run_idx1 (k := (i + 1 : Nat)) Tryz.underlying23 s9es23 (by omega))) ?_
   refine uL _ rfl (run_load1 s9na9 (hrdx2 _ _ _ (hBD.trans hK13) no_res hv 0 _ rfl)) ?_
   refine uG (vI (x.length : Int)) rfl (ex_lenStr Tryz.underlying9 rfl rfl) ?_
   by_cases hb19 : (x.length : Int) > 4096
   ·refine uG (.bool true) rfl (ex_gtr rfl rfl rfl (qT hb19)) (uW k18 ?_)
    refine cT rfl (sK fun _ k20 => ?_)
    refine rL (uA rfl ?_)
    refine uW k20 (rR ?_)
    refine bZ (tR ?_)
    refine tR (bZ ?_)
    refine tR (bR rfl rfl ?_)
    exact ⟨K13, _, (hBD.trans hK13), rfl, fun h9 => absurd h9 (by omega), hv⟩
   refine uG (.bool false) rfl (ex_gtr rfl rfl rfl (qF hb19)) (uW k18 ?_)
   refine cF rfl (kS ?_)
   refine bN (tK k8 ?_)
   refine rL (uM rfl ?_)
   refine uG (vI ((i + 2 : Nat) : Int)) rfl (ex_add rfl rfl rfl (by rw [i64_in (by omega)]; omega)) (uA rfl ?_)
   refine uZ (then_normal ?_)
   go_roundw
   case rel => exact ⟨i + 2, K13, rfl, (hBD.trans hK13), by omega, by omega, fun j hj hj2 => (by
      rcases Nat.lt_or_ge j i with h | h
      ·exact hpt j h hj2
      obtain rfl : j = i := by omega
      exact ⟨fun k hk => (by rw [hkey] at hk; cases hk; exact may_none (by rw [← hme]; exact hb16)), fun y hy => (by rw [hx] at hy; cases hy; omega)⟩), hv⟩
   case measure => show ps.length - (((i + 2 : Nat) : Int)).toNat < ps.length - ((i : Int)).toNat; omega
  refine uG (.bool false) rfl (ex_lss rfl rfl rfl (qF hb7)) (uW k6 ?_)
  refine cF rfl (xE ?_)
  refine tX (tX ?_)
  refine bH (tK k2 ?_)
  refine sK fun _ k21 => rL (uA rfl ?_)
  refine uW k21 (rR ?_)
  refine bR rfl rfl ?_
  obtain rfl : i = ps.length := by omega
  exact ⟨D, 0, hBD, rfl, fun _ => hpt, hv⟩
theorem cs3callable86 : Callable Tryz.prog 86 := cb Tryz.func86 (by kernel_rfl)
theorem cstrMset (B : Base) (H : List Res) (w : World) (v t m s p wb : Nat) (va : Option Addr) (vc : Nat) (sv : Value) (clk : Int) (es : List (List UInt8 × Value)) (M : List (List UInt8 × Ver)) (hM : VM B es M) (hO : OkM M) (aa : Option Addr) (an ac : Nat) (xa : Option Addr) (xc : Nat) (ps : List (List UInt8)) (hrp : RdV B [] xa (textCells ps)) (hmp : ps.length ≤ 1000) (hev : ps.length % 2 = 0) (hv : Inv B (Res.cell v [.iface 52 (vP t)] 79 :: txR t m s p wb va vc sv clk es :: H) w) :
  Calls Tryz.prog 61 #[.agg #[vP v, .slice aa an ac], .slice xa ps.length xc] w fun e w' => ∃ C es' M' ec, B.Le C ∧ e = .returned (vI ec) ∧ VM C es' M' ∧ OkM M' ∧ (ec ≠ 0 → M' = M) ∧ Inv C (Res.cell v [.iface 52 (vP t)] 79 :: txR t m s p wb va vc sv clk es' :: H) w' := by
 refine cW Tryz.func61 rfl Tryz.ntmps61 ?_
 simp only [al]
 refine sK fun _ k1 => rL (sl_box (L := [vP v, .slice aa an ac]) tV (wn rfl) rfl rfl hv (fun w => by kernel_rfl) (fun b2 w3 hv => ?_))
 refine uA rfl (uW k1 ?_)
 refine sK fun _ k4 => sK fun _ k5 => rL (uM rfl ?_)
 refine xC cs3callable86 rfl ((cstrRefusal B _ _ xa xc ps hrp hmp hev hv).mono ?_) rfl
 rintro e w6 ⟨F, fe, hF, rfl, hfe, hv⟩
 refine ⟨_, rfl, uA rfl ?_⟩
 refine uW k5 (sK fun _ k7 => ?_)
 refine rL (uM rfl ?_)
 by_cases hb8 : fe ≠ 0
 ·refine uG (.bool true) rfl (ex_neq rfl rfl rfl (qT hb8)) (uW k7 ?_)
  refine cT rfl (sK fun _ k9 => ?_)
  refine rL (uM rfl ?_)
  refine uA rfl (uW k9 ?_)
  refine rR (tR ?_)
  refine bR rfl rfl (⟨F, es, M, fe, hF, rfl, hM.more hF, hO, fun _ => rfl, (hv.kp [2, 2] 2 1)⟩)
 refine uG (.bool false) rfl (ex_neq rfl rfl rfl (qF hb8)) (uW k7 ?_)
 refine cF rfl (kS ?_)
 refine tK k4 (sK fun _ k10 => ?_)
 refine sK fun _ k11 => rL (uA rfl ?_)
 refine uW k11 (bB ?_)
 gi_loopw [6] (fun x6 wr => ∃ (i : Nat) (D : Base) (es' : List (List UInt8 × Value)) (M' : List (List UInt8 × Ver)), x6 = vI i ∧ B.Le D ∧ i ≤ ps.length ∧ i % 2 = 0 ∧ VM D es' M' ∧ OkM M' ∧ Inv D (Res.cell b2 [vP v, .slice aa an ac] 72 :: Res.cell v [.iface 52 (vP t)] 79 :: txR t m s p wb va vc sv clk es' :: H) wr) (fun x6 _ => ps.length - (intOf x6).toNat)
 case atStart => exact ⟨0, F, es, M, rfl, hF, Nat.zero_le _, rfl, hM.more hF, hO, (((hv.front 2 rfl).front 2 rfl).front 2 rfl)⟩
 case round =>
  obtain ⟨i, D, es', M', rfl, hBD, hi, hi2, hM', hO', hv⟩ := hrel
  have hfe0 := hfe (by omega)
  refine sK fun _ k13 => sK fun _ k14 => rL (uM rfl ?_)
  refine uM rfl ?_
  refine uG (vI (ps.length : Int)) rfl (ex_len0 Tryz.underlying23 rfl rfl) ?_
  by_cases hb15 : (i : Int) < (ps.length : Int)
  ·refine uG (.bool true) rfl (ex_lss rfl rfl rfl (qT hb15)) (uW k14 ?_)
   refine cT rfl (kS ?_)
   refine tK k13 (sK fun _ k16 => ?_)
   refine bB (sK fun _ k17 => ?_)
   have hv9 := hv
   obtain ⟨key, hkey⟩ : ∃ x, ps[i]? = some x := ⟨_, List.getElem?_eq_getElem (show i < ps.length by omega)⟩
   obtain ⟨xb, xo, had, hrdkey⟩ := text_reads hrp hkey
   subst had
   obtain ⟨x, hx⟩ : ∃ y, ps[i + 1]? = some y := ⟨_, List.getElem?_eq_getElem (by omega)⟩
   obtain ⟨ab9, ao9, had9, hrdx2⟩ := text_reads hrp hx
   cases had9
   have hv := hv9
   clear hv9
   obtain ⟨hp1, hp2⟩ := hfe0 i (by omega) hi2
   have hkl := hp1 key hkey
   have hxl := hp2 x hx
   refine rW mixed [11, 12] [0,1,2,3,4,5,6,7,8,9,10,11,12,13] 35 rfl (by kernel_rfl) hv ?_
   simp only [qm, opAt]
   refine dG (vP b2) rfl (ex_field rfl rfl (cs0fa72_0 _ _ _)) (dF _ rfl (fun hv => ex_load rfl rfl (run_load1 cs0na28 (hv.load 0 0 rfl rfl))) fun f18 hf18 => ?_)
   refine dM (.slice (some ⟨xb, xo, none⟩) ps.length xc) rfl ?_
   simp only [zP, po]
   refine dM (vI i) rfl (dG (.pointer (some ⟨xb, xo + i, none⟩)) rfl (ex_index rfl rfl rfl (run_idx1 (k := i) Tryz.underlying23 s9es23 (by omega))) ?_)
   refine dF _ rfl (fun hv => ex_load rfl rfl (run_load1 s9na9 (hrdkey _ _ _ hBD no_res hv 0 _ rfl))) fun f19 hf19 => ?_
   simp only [zP, po]
   refine dM (.slice (some ⟨xb, xo, none⟩) ps.length xc) rfl (dM (vI i) rfl ?_)
   refine dG (vI ((i + 1 : Nat) : Int)) rfl (ex_add rfl rfl rfl (by rw [i64_in (by omega)]; omega)) ?_
   simp only [zP, po]
   refine dG (.pointer (some ⟨xb, xo + (i + 1 : Nat), none⟩)) rfl (ex_index rfl rfl rfl (run_idx1 (k := (i + 1 : Nat)) Tryz.underlying23 s9es23 (by omega))) (dL _ rfl (fun hv => ex_load rfl rfl (run_load1 s9na9 (hrdx2 _ _ _ hBD no_res hv 0 _ rfl))) ?_)
   refine dS rfl fun w20 hv => mC cs2callable58 rfl ((cstrText D _ _ x hv).mono ?_) rfl
   rintro e w21 ⟨rfl, hv⟩
   refine ⟨_, rfl, dV hv (fC (fun ww hv => hf19 ww (ex_load rfl rfl (run_load1 s9na9 (hrdkey _ _ _ hBD no_res hv 0 _ rfl)))) (fC (fun ww hv => hf18 ww (ex_load rfl rfl (run_load1 cs0na28 (hv.load 0 0 rfl rfl)))) fN)) ?_⟩
   simp only [zP, po]
   refine dS rfl fun w22 hv => ?_
   replace hv := hv.front 2 rfl
   simp only [eS, eZ] at hv
   replace hv := hv.front 2 rfl
   simp only [eS, eZ] at hv
   refine mC cs2callable18 rfl ((viewKeep D _ _ v t m s p wb va vc sv clk es' M' key (textV x) _ _ _ 0 (hM'.more (Base.Le.refl _)) (textV_at _) hv).mono ?_) rfl
   rintro e w23 ⟨G, es1, M1, e1, hG, rfl, hM1, hkp, hv⟩
   obtain rfl : e1 = 0 := keep_text0 hkl hxl hkp
   refine ⟨_, rfl, dV hv (fK rfl (fK rfl fN)) ?_⟩
   refine dA (vI 0) rfl (dE fun w24 hv => ?_)
   simp only [zP, po]
   refine tK k17 (sK fun _ k25 => ?_)
   refine rL (uM rfl ?_)
   refine uG (.bool false) rfl (ex_neq rfl rfl rfl (by decide)) (uW k25 ?_)
   refine cF rfl (kS ?_)
   refine bN (tK k16 ?_)
   refine rL (uM rfl ?_)
   refine uG (vI ((i + 2 : Nat) : Int)) rfl (ex_add rfl rfl rfl (by rw [i64_in (by omega)]; omega)) (uA rfl ?_)
   refine uZ (then_normal ?_)
   go_roundw
   case rel => exact ⟨i + 2, G, es1, M1, rfl, (hBD.trans hG), by omega, by omega, hM1.more (Base.Le.refl _), hO'.keep hkp, (((hv.front 1 rfl).front 1 rfl).front 2 rfl)⟩
   case measure => show ps.length - (((i + 2 : Nat) : Int)).toNat < ps.length - ((i : Int)).toNat; omega
  refine uG (.bool false) rfl (ex_lss rfl rfl rfl (qF hb15)) (uW k14 ?_)
  refine cF rfl (xE ?_)
  refine tX (tX ?_)
  refine bH (tK k10 ?_)
  refine sK fun _ k26 => rL (uA rfl ?_)
  refine uW k26 (rR ?_)
  refine bR rfl rfl (⟨D, es', M', 0, hBD, rfl, hM', hO', fun h9 => absurd rfl h9, (hv.kp [2, 2] 2 1)⟩)
theorem cs3callable61 : Callable Tryz.prog 61 := cb Tryz.func61 (by kernel_rfl)
theorem cstrMsetnx (B : Base) (H : List Res) (w : World) (v t m s p wb : Nat) (va : Option Addr) (vc : Nat) (sv : Value) (clk : Int) (es : List (List UInt8 × Value)) (M : List (List UInt8 × Ver)) (hM : VM B es M) (hO : OkM M) (aa : Option Addr) (an ac : Nat) (xa : Option Addr) (xc : Nat) (ps : List (List UInt8)) (hrp : RdV B [] xa (textCells ps)) (hmp : ps.length ≤ 1000) (hev : ps.length % 2 = 0) (hv : Inv B (Res.cell v [.iface 52 (vP t)] 79 :: txR t m s p wb va vc sv clk es :: H) w) :
  Calls Tryz.prog 62 #[.agg #[vP v, .slice aa an ac], .slice xa ps.length xc] w fun e w' => ∃ C es' M' r cs, B.Le C ∧ e = .returned (.agg cs.toArray) ∧ RpAt C r cs ∧ VM C es' M' ∧ CmdR M M' r ∧ Inv C (Res.cell v [.iface 52 (vP t)] 79 :: txR t m s p wb va vc sv clk es' :: H) w' := by
 refine cW Tryz.func62 rfl Tryz.ntmps62 ?_
 simp only [al]
 refine sK fun _ k1 => rL (sl_box (L := [vP v, .slice aa an ac]) tV (wn rfl) rfl rfl hv (fun w => by kernel_rfl) (fun b2 w3 hv => ?_))
 refine sl_alloc tV (wn rfl) rfl hv cs3al38 (fun b4 w5 hv => ?_)
 refine uW k1 (sK fun _ k6 => ?_)
 refine sK fun _ k7 => rL (uM rfl ?_)
 refine xC cs3callable86 rfl ((cstrRefusal B _ _ xa xc ps hrp hmp hev hv).mono ?_) rfl
 rintro e w8 ⟨F, fe, hF, rfl, hfe, hv⟩
 refine ⟨_, rfl, uA rfl ?_⟩
 refine uW k7 (sK fun _ k9 => ?_)
 refine rL (uM rfl ?_)
 by_cases hb10 : fe ≠ 0
 ·refine uG (.bool true) rfl (ex_neq rfl rfl rfl (qT hb10)) (uW k9 ?_)
  refine cT rfl (sK fun _ k11 => ?_)
  refine rL (uM rfl ?_)
  refine xC rscallable22 rfl ((viewWrong F _ _ fe hv).mono ?_) rfl
  rintro e w13 ⟨s12, rfl, hv⟩
  refine ⟨_, rfl, ?_⟩
  refine xS 0 rfl hv rssz38 rfl (by exact ⟨rfl, rfl, rfl, rfl, trivial⟩) (fun w14 hv => ?_)
  simp only [zO, sp] at hv
  refine uW k11 (rR ?_)
  refine tR (bC 0 rswd38 hv rfl rfl rfl rfl ?_)
  exact ⟨F, es, M, (.mk 1 s12 0 []), _, hF, rfl, rpAt_leaf, hM.more hF, ⟨hO, fun _ => rfl⟩, (hv.kp [3, 3] 2 2)⟩
 refine uG (.bool false) rfl (ex_neq rfl rfl rfl (qF hb10)) (uW k9 ?_)
 refine cF rfl (kS ?_)
 refine tK k6 (sK fun _ k15 => ?_)
 refine sK fun _ k16 => rL (uA rfl ?_)
 refine uW k16 (bB ?_)
 gi_loopw [6] (fun x6 wr => ∃ (i : Nat) (D : Base), x6 = vI i ∧ B.Le D ∧ i ≤ ps.length ∧ i % 2 = 0 ∧ Inv D (Res.cell b4 [vI 0, vS [], vI 0, vN] 38 :: Res.cell b2 [vP v, .slice aa an ac] 72 :: Res.cell v [.iface 52 (vP t)] 79 :: txR t m s p wb va vc sv clk es :: H) wr) (fun x6 _ => ps.length - (intOf x6).toNat)
 case atStart => exact ⟨0, F, rfl, hF, Nat.zero_le _, rfl, hv⟩
 case round =>
  obtain ⟨i, D, rfl, hBD, hi, hi2, hv⟩ := hrel
  refine sK fun _ k18 => sK fun _ k19 => rL (uM rfl ?_)
  refine uM rfl ?_
  refine uG (vI (ps.length : Int)) rfl (ex_len0 Tryz.underlying23 rfl rfl) ?_
  by_cases hb20 : (i : Int) < (ps.length : Int)
  ·refine uG (.bool true) rfl (ex_lss rfl rfl rfl (qT hb20)) (uW k19 ?_)
   refine cT rfl (kS ?_)
   refine tK k18 (sK fun _ k21 => ?_)
   refine bB (sK fun _ k22 => ?_)
   have hv9 := hv
   obtain ⟨key, hkey⟩ : ∃ x, ps[i]? = some x := ⟨_, List.getElem?_eq_getElem (show i < ps.length by omega)⟩
   obtain ⟨xb, xo, had, hrdkey⟩ := text_reads hrp hkey
   subst had
   have hv := hv9
   clear hv9
   refine rT mixed (fun az wz => ∃ (G : Base) (y : Ver) (yp yt yz : Value) (ok : Bool) (b29 : Nat), (D.Le G) ∧ (ValAt G y.val yp yt yz) ∧ az = { tmps := List.toArray (.agg #[vP v, .slice aa an ac] :: .slice (some ⟨xb, xo, none⟩) ps.length xc :: vP b2 :: undef :: vP b4 :: vI fe :: vI i :: vP b29 :: .bool ok :: .slice (some ⟨xb, xo, none⟩) ps.length xc :: vI fe :: vI fe :: .bool false :: undef :: undef :: vI i :: .slice (some ⟨xb, xo, none⟩) ps.length xc :: vI (ps.length : Int) :: .bool true :: u19 :: u20 :: .tuple #[.agg #[vI y.stamp, .bool y.gone, vI y.expire, vI y.val.kind, vS y.val.text, yp, yt, yz], .bool ok] :: vP b2 :: vP v :: vP v :: vP v :: .iface 52 (vP t) :: .slice (some ⟨xb, xo, none⟩) ps.length xc :: vI i :: .pointer (some ⟨xb, xo + i, none⟩) :: vS key :: .iface 52 (vP t) :: .iface 52 (vP t) :: .tuple #[.agg #[vI y.stamp, .bool y.gone, vI y.expire, vI y.val.kind, vS y.val.text, yp, yt, yz], .bool ok] :: .agg #[vI y.stamp, .bool y.gone, vI y.expire, vI y.val.kind, vS y.val.text, yp, yt, yz] :: .bool ok :: u36 :: u37 :: undef :: undef :: undef :: undef :: undef :: []), defers := [] } ∧ Inv G (Res.cell b29 [vI y.stamp, .bool y.gone, vI y.expire, vI y.val.kind, vS y.val.text, yp, yt, yz] 81 :: txR t m s p wb va vc sv clk es :: Res.cell b4 [vI 0, vS [], vI 0, vN] 38 :: Res.cell b2 [vP v, .slice aa an ac] 72 :: Res.cell v [.iface 52 (vP t)] 79 :: H) wz) [11, 15, 16] [0,1,2,3,4,5,6,7,8,9,10] [12,13,14,15,16,17] [11,12,13,14,16,17] 11 15 43 rfl (by kernel_rfl) hv ?_ ?_
   ·intro R2 l1 l2 hR2 hl1 hl2
    simp only [qm, opAt]
    refine tG (vP b2) rfl (ex_field rfl rfl (cs0fa72_0 _ _ _)) (tF (vP v) rfl (fun hv => ex_load rfl rfl (run_load1 cs0na28 (hv.load 1 0 rfl rfl))) fun f23 hf23 => ?_)
    simp only [zP, po]
    refine tG (vP v) rfl (ex_nil rfl rfl) (tG (vP v) rfl (ex_field rfl rfl (v1fa79_0 _ _ _)) ?_)
    simp only [zP, po]
    refine tF (.iface 52 (vP t)) rfl (fun hv => ex_load rfl rfl (run_load1 v1na77 (hv.load 2 0 rfl rfl))) fun f24 hf24 => tG (.slice (some ⟨xb, xo, none⟩) ps.length xc) rfl (ex_move rfl rfl) ?_
    simp only [zP, po]
    refine tG (vI i) rfl (ex_move rfl rfl) (tG (.pointer (some ⟨xb, xo + i, none⟩)) rfl (ex_index rfl rfl rfl (run_idx1 (k := i) Tryz.underlying23 s9es23 (by omega))) ?_)
    simp only [zP, po]
    refine tF (vS key) rfl (fun hv => ex_load rfl rfl (run_load1 s9na9 (hrdkey _ _ _ hBD no_res hv 0 _ rfl))) fun f25 hf25 => tG (.iface 52 (vP t)) rfl (ex_nilI rfl rfl) ?_
    simp only [zP, po]
    refine tG (.iface 52 (vP t)) rfl (ex_move rfl rfl) ?_
    simp only [zP, po]
    refine tB ?_ ?_
    ·rw [hl1]; clear hl1 hl2
     simp only [qm, opAt]
     refine dS rfl fun w26 hv => ?_
     replace hv := hv.front 3 rfl
     simp only [eS, eZ] at hv
     refine stepMem_callI v1callable172 rfl rfl rfl (r := vP t) (fun w => by kernel_rfl) (args := #[vS key]) (by simp only [List.map_toArray, List.map_cons, List.map_nil]; rfl) ((txnGet D _ _ t m s p wb va vc sv clk es M key (hM.more hBD) hv).mono ?_)
     rintro e w27 ⟨G, y, yp, yt, yz, ok, hG, rfl, -, hyv, hv⟩
     refine ⟨_, rfl, dV hv (fK rfl (fK rfl (fK rfl fN))) ?_⟩
     refine dM (.tuple #[.agg #[vI y.stamp, .bool y.gone, vI y.expire, vI y.val.kind, vS y.val.text, yp, yt, yz], .bool ok]) rfl (dG (.agg #[vI y.stamp, .bool y.gone, vI y.expire, vI y.val.kind, vS y.val.text, yp, yt, yz]) rfl (ex_extract rfl rfl rfl) ?_)
     simp only [zP, po]
     refine dG (.bool ok) rfl (ex_extract rfl rfl rfl) (dS rfl fun w28 hv => ?_)
     refine mem_alloc rfl rfl hv cs3al81 (fun b29 w30 hv => ?_)
     refine dV hv (fC (fun ww hv => hf25 ww (ex_load rfl rfl (run_load1 s9na9 (hrdkey _ _ _ (hBD.trans hG) no_res hv 0 _ rfl)))) (fC (fun ww hv => hf24 ww (ex_load rfl rfl (run_load1 v1na77 (hv.load 4 0 rfl rfl)))) (fC (fun ww hv => hf23 ww (ex_load rfl rfl (run_load1 cs0na28 (hv.load 3 0 rfl rfl)))) fN))) (dS rfl fun w31 hv => ?_)
     refine mS 0 rfl hv x0sz81 rfl (by exact ⟨rfl, rfl, rfl, rfl, rfl, hyv.p.one, hyv.t.one, hyv.z.one, trivial⟩) (fun w32 hv => ?_)
     simp only [zO, sp] at hv
     refine dV hv (fK rfl (fK rfl (fK rfl fN))) ?_
     simp only [zP, po]
     refine dA (.bool ok) rfl (dE fun wz hv => ?_)
     simp only [zP, po]
     exact hR2 _ _ ⟨G, y, yp, yt, yz, ok, b29, hG, hyv, rfl, (((((hv.front 4 rfl).front 4 rfl).front 4 rfl).front 4 rfl).front 4 rfl)⟩
    rw [hl2]; clear hl1 hl2
    simp only [qm, opAt]
    refine dS rfl fun w33 hv => mem_alloc rfl rfl hv cs3al81 (fun b34 w35 hv => ?_)
    refine dV hv (fC (fun ww hv => hf25 ww (ex_load rfl rfl (run_load1 s9na9 (hrdkey _ _ _ hBD no_res hv 0 _ rfl)))) (fC (fun ww hv => hf24 ww (ex_load rfl rfl (run_load1 v1na77 (hv.load 3 0 rfl rfl)))) (fC (fun ww hv => hf23 ww (ex_load rfl rfl (run_load1 cs0na28 (hv.load 2 0 rfl rfl)))) fN))) (dS rfl fun w36 hv => ?_)
    replace hv := hv.front 4 rfl
    simp only [eS, eZ] at hv
    refine stepMem_callI v1callable172 rfl rfl rfl (r := vP t) (fun w => by kernel_rfl) (args := #[vS key]) (by simp only [List.map_toArray, List.map_cons, List.map_nil]; rfl) ((txnGet D _ _ t m s p wb va vc sv clk es M key (hM.more hBD) hv).mono ?_)
    rintro e w37 ⟨G, y, yp, yt, yz, ok, hG, rfl, -, hyv, hv⟩
    refine ⟨_, rfl, dV hv (fK rfl (fK rfl (fK rfl fN))) ?_⟩
    refine dM (.tuple #[.agg #[vI y.stamp, .bool y.gone, vI y.expire, vI y.val.kind, vS y.val.text, yp, yt, yz], .bool ok]) rfl ?_
    simp only [zP, po]
    refine dG (.agg #[vI y.stamp, .bool y.gone, vI y.expire, vI y.val.kind, vS y.val.text, yp, yt, yz]) rfl (ex_extract rfl rfl rfl) (dG (.bool ok) rfl (ex_extract rfl rfl rfl) ?_)
    refine dS rfl fun w38 hv => mS 1 rfl hv x0sz81 rfl (by exact ⟨rfl, rfl, rfl, rfl, rfl, hyv.p.one, hyv.t.one, hyv.z.one, trivial⟩) (fun w39 hv => ?_)
    simp only [zS, zO, sp] at hv
    refine dV hv (fK rfl (fK rfl (fK rfl fN))) ?_
    simp only [zP, po]
    refine dA (.bool ok) rfl (dE fun wz hv => ?_)
    simp only [zP, po]
    exact hR2 _ _ ⟨G, y, yp, yt, yz, ok, b34, hG, hyv, rfl, (((((hv.front 4 rfl).front 4 rfl).front 4 rfl).front 3 rfl).front 4 rfl)⟩
   rintro _ w40 ⟨G, y, yp, yt, yz, ok, b29, hG, hyv, rfl, hv⟩
   refine tK k22 (sK fun _ k41 => ?_)
   refine rL (uM rfl ?_)
   refine uW k41 (wpIn_cond_split (t := ok) rfl (fun hc42 => ?_) (fun hc42 => ?_))
   ·refine sK fun _ k43 => rL (xC cs0callable48 rfl ((respInt G _ _ 0 hv).mono ?_) rfl)
    rintro e w44 ⟨rfl, hv⟩
    refine ⟨_, rfl, ?_⟩
    refine xS 2 rfl hv rssz38 rfl (by exact ⟨rfl, rfl, rfl, rfl, trivial⟩) (fun w45 hv => ?_)
    simp only [zS, zO, sp] at hv
    refine uW k43 (rR ?_)
    refine bZ (tR ?_)
    refine tR (bZ ?_)
    refine tR (bC 2 rswd38 hv rfl rfl rfl rfl ?_)
    exact ⟨G, es, M, (.mk 2 ([] : List UInt8) 0 []), _, (hBD.trans hG), rfl, rpAt_leaf, hM.more (hBD.trans hG), ⟨hO, fun _ => rfl⟩, (hv.kp [1, 4] 2 3)⟩
   refine kS (bN ?_)
   refine tK k21 (rL ?_)
   refine uM rfl ?_
   refine uG (vI ((i + 2 : Nat) : Int)) rfl (ex_add rfl rfl rfl (by rw [i64_in (by omega)]; omega)) (uA rfl ?_)
   refine uZ (then_normal ?_)
   simp only [vP, vI, vS, vN]
   go_roundw
   case rel => exact ⟨i + 2, G, rfl, (hBD.trans hG), by omega, by omega, (hv.kp [1, 4, 4, 4] 4 1)⟩
   case measure => show ps.length - (((i + 2 : Nat) : Int)).toNat < ps.length - ((i : Int)).toNat; omega
  refine uG (.bool false) rfl (ex_lss rfl rfl rfl (qF hb20)) (uW k19 ?_)
  refine cF rfl (xE ?_)
  refine tX (tX ?_)
  refine bH (tK k15 ?_)
  refine sK fun _ k46 => rL (uL (.agg #[vP v, .slice aa an ac]) rfl (lM 1 cs2wd72 hv rfl rfl rfl rfl) ?_)
  refine uM rfl ?_
  replace hv := hv.front 3 rfl
  simp only [eS, eZ] at hv
  replace hv := hv.front 3 rfl
  simp only [eS, eZ] at hv
  refine xC cs3callable61 rfl ((cstrMset D _ _ v t m s p wb va vc sv clk es M (hM.more hBD) hO aa an ac xa xc ps (hrp.more hBD (fun _ h => h)) hmp hev hv).mono ?_) rfl
  rintro e w47 ⟨Q, es', M', me, hQ, rfl, hM', hO', hme, hv⟩
  refine ⟨_, rfl, ?_⟩
  simp only [zP, po]
  refine xC cs0callable48 rfl ((respInt Q _ _ 1 hv).mono ?_) rfl
  rintro e w48 ⟨rfl, hv⟩
  refine ⟨_, rfl, ?_⟩
  refine xC cs2callable45 rfl ((viewDone Q _ _ me 2 1 ([] : List UInt8) (vN) rfl rfl hv).mono ?_) rfl
  rintro e w49 ⟨xr, hxr, rfl, hv⟩
  refine ⟨_, rfl, ?_⟩
  rcases hxr with ⟨hec0, rfl⟩ | ⟨hec0, s50, rfl⟩
  ·refine xS 2 rfl hv rssz38 rfl (by exact ⟨rfl, rfl, rfl, rfl, trivial⟩) (fun w51 hv => ?_)
   simp only [zS, zO, sp] at hv
   refine uW k46 (rR ?_)
   refine bC 2 rswd38 hv rfl rfl rfl rfl (⟨Q, es', M', (.mk 2 ([] : List UInt8) 1 []), _, (hBD.trans hQ), rfl, rpAt_leaf, hM'.more (Base.Le.refl _), ⟨hO', fun h9 => absurd h9 isF_int⟩, (hv.kp [1, 1] 2 2)⟩)
  refine xS 2 rfl hv rssz38 rfl (by exact ⟨rfl, rfl, rfl, rfl, trivial⟩) (fun w52 hv => ?_)
  simp only [zS, zO, sp] at hv
  refine uW k46 (rR ?_)
  refine bC 2 rswd38 hv rfl rfl rfl rfl (⟨Q, es', M', (.mk 1 s50 0 []), _, (hBD.trans hQ), rfl, rpAt_leaf, hM'.more (Base.Le.refl _), ⟨hO', fun _ => hme (by omega)⟩, (hv.kp [1, 1] 2 2)⟩)
end Go.Proofs.YtmpackidbgfoiaaGreatDoor
