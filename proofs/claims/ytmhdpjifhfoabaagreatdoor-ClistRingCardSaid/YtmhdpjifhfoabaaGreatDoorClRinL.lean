/- ClistRing: the law's walk. -/
import Derived.Test.YtmhdpjifhfoabaaGreatDoorClRinB
import Derived.Test.YtmhdpjifhfoabaaGreatDoorClRinK
import Derived.Test.YtmhdpjifhfoabaaGreatDoorRows
import Derived.Test.YtmhdpjifhfoabaaGreatDoorClRinH
import Derived.Lib.LaidTab
import Derived.LaidSub
import Derived.Lib.ItoaNum
import Derived.Deep.LoopGhost
import Derived.Test.YtmhdpjifhfoabaaGreatDoorClRinE
import Derived.Lib.ParseIntBTie
set_option maxRecDepth 100000
set_option maxHeartbeats 16000000
set_option synthInstance.maxSize 4096
set_option synthInstance.maxHeartbeats 400000
namespace Go.Proofs.YtmhdpjifhfoabaaGreatDoor
open Go.RowKit Go.Pm
def ringAt (left : Bool) (l : Tx) (i : Nat) : Tx := if left = true then turned l i else turned l (l.length - i)
section
variable {left : Bool} {l : Tx} {i : Nat} {x : List UInt8}
theorem ring_zero : ringAt left l 0 = l := by unfold ringAt; split; exact turned_zero l; exact turned_all l
theorem ring_all : ringAt left l l.length = l := by unfold ringAt; split; exact turned_all l; rw [Nat.sub_self]; exact turned_zero l
theorem ringL (h : left = true) (hx : l[i]? = some x) : ringAt left l i = x :: (l.drop (i + 1) ++ l.take i) ∧ ringAt left l (i + 1) = (l.drop (i + 1) ++ l.take i) ++ [x] := by
 unfold ringAt; rw [if_pos h, if_pos h]; exact turned_next hx
theorem ringR (h : ¬ left = true) (hi : i < l.length) : ∃ y t, ringAt left l i = t ++ [y] ∧ ringAt left l (i + 1) = y :: t := by
 unfold ringAt; rw [if_neg h, if_neg h]
 obtain ⟨j, hj⟩ : ∃ j, l.length - i = j + 1 := ⟨l.length - i - 1, by omega⟩
 obtain ⟨y, hy⟩ : ∃ y, l[j]? = some y := ⟨_, List.getElem?_eq_getElem (by omega)⟩
 obtain ⟨h1, h2⟩ := turned_back hy
 exact ⟨y, _, by rw [hj]; exact h1, by rw [show l.length - (i + 1) = j by omega]; exact h2⟩
theorem gargs_push (n : Nat) (h : 1 ≤ n) : GArgs [82, 80, 85, 83, 72] (n + 1) := ⟨([82, 80, 85, 83, 72], 2, -1), by decide, rfl, by show (2 : Int) ≤ _; omega, fun h9 => absurd h9 (by decide)⟩
theorem row_one {l : List (List UInt8)} {x : List UInt8} : textCells l ++ [strV x] = textCells (l ++ [x]) := by simp [textCells]
end
theorem jFcallable6 : Callable Tryz.prog 6 := cb Tryz.func6 (by kernel_rfl)
theorem jFmk9 : (Tryz.prog.info? 9).map (fun i => (i.zero, i.size, i.bytes)) = some (some (vS []), 1, 16) := by kernel_rfl
theorem jFel22 : Elem Tryz.prog 22 9 (vS []) 1 16 := elem_of Tryz.underlying22 jFmk9 (by rfl) (by decide)
theorem jFcallable8 : Callable Tryz.prog 8 := cb Tryz.func8 (by kernel_rfl)
theorem jFcallable193 : Callable Tryz.prog 193 := cb Tryz.func193 (by kernel_rfl)
theorem clistRingMain (B : Base) (H : List Res) (w : World) (fa : Option Addr) (fc : Nat) (fs : List (List UInt8)) (hokf : SliceOk fa fs.length fc) (hrf : RdV B [] fa (textCells fs)) (left : Bool) (hN : NumB B) (hv : Inv B H w) :
  Calls Tryz.prog 3 #[.slice fa fs.length fc, .bool left] w fun e w' => e = .returned (.bool true) ∧ Inv B H w' := by
 refine cW Tryz.func3 rfl Tryz.ntmps3 ?_
 simp only [al]
 refine sK fun _ k1 => rL (uA rfl ?_)
 refine uW k1 (sK fun _ k2 => ?_)
 refine sK fun _ k3 => rL (xC jFcallable6 rfl ((gAwake B _ _ (hN.more (Base.Le.refl _)) hv).mono ?_) rfl)
 rintro e w4 ⟨rfl, hv⟩
 refine ⟨_, rfl, uG (.bool false) rfl (ex_not rfl rfl rfl) ?_⟩
 refine uM rfl ?_
 refine uM rfl ?_
 refine uG (vI (fs.length : Int)) rfl (ex_len0 Tryz.underlying22 rfl rfl) ?_
 by_cases hb5 : (fs.length : Int) = 0
 ·refine uG (.bool true) rfl (ex_eql rfl rfl rfl (qT hb5)) (uK rfl ?_)
  refine uM rfl ?_
  iterate 3 refine uP rfl ?_
  refine uK rfl (uW k3 ?_)
  refine cT rfl (sK fun _ k6 => ?_)
  refine rL (xC jFcallable6 rfl ((gAwake B _ _ (hN.more (Base.Le.refl _)) hv).mono ?_) rfl)
  rintro e w7 ⟨rfl, hv⟩
  refine ⟨_, rfl, uA rfl ?_⟩
  refine uW k6 (rR ?_)
  refine tR (bR rfl rfl ?_)
  exact ⟨rfl, (hv).weak (Base.Le.refl _)⟩
 refine uG (.bool false) rfl (ex_eql rfl rfl rfl (qF hb5)) (uK rfl ?_)
 refine uM rfl ?_
 refine uM rfl ?_
 refine uG (vI (fs.length : Int)) rfl (ex_len0 Tryz.underlying22 rfl rfl) ?_
 by_cases hb8 : (fs.length : Int) > 20
 ·refine uG (.bool true) rfl (ex_gtr rfl rfl rfl (qT hb8)) (uK rfl ?_)
  refine uW k3 (cT rfl ?_)
  refine sK fun _ k9 => rL (xC jFcallable6 rfl ((gAwake B _ _ (hN.more (Base.Le.refl _)) hv).mono ?_) rfl)
  rintro e w10 ⟨rfl, hv⟩
  refine ⟨_, rfl, uA rfl ?_⟩
  refine uW k9 (rR ?_)
  refine tR (bR rfl rfl ?_)
  exact ⟨rfl, (hv).weak (Base.Le.refl _)⟩
 refine uG (.bool false) rfl (ex_gtr rfl rfl rfl (qF hb8)) (uK rfl ?_)
 refine uW k3 (cF rfl ?_)
 refine kS (tK k2 ?_)
 refine sK fun _ k11 => rL (xC jCcallable7 rfl ((lawOpened B _ _ 0 (by omega) (by omega) hv).mono ?_) rfl)
 rintro e w12 ⟨v, t, m, s, p, wb, va, vc, sv, rfl, hv⟩
 refine ⟨_, rfl, uA rfl ?_⟩
 refine uW k11 (sK fun _ k13 => ?_)
 refine rL (sl_rowN (pv := #[(0, vS [82, 80, 85, 83, 72]), (1, vS [108])]) (L := [vS [82, 80, 85, 83, 72], vS [108]]) (e := 9) tV (wn rfl) rfl (by simp only [List.map_toArray, List.map_cons, List.map_nil]; rfl) hv (fun w => by kernel_rfl) (fun b14 w15 hv => ?_))
 refine uA rfl (uW k13 ?_)
 refine sK fun _ k16 => sK fun _ k17 => ?_
 replace hv := hv.cellRow (n := 2) (c := 2) (size := 1) rfl (by decide) (by decide)
 have hfl1 : 1 ≤ fs.length := by omega
 refine rL (uA rfl ?_)
 refine uW k17 (bB ?_)
 gi_loopw [6, 7] (fun x6 x7 wr => ∃ (i : Nat) (da : Option Addr) (dc : Nat), x6 = .slice da (2 + i) dc ∧ x7 = vI i ∧ i ≤ fs.length ∧ (∀ x ∈ fs.take i, x.length ≤ 300) ∧ Inv B (Res.row 9 1 (.slice da (2 + i) dc) (2 + i) (textCells ([82, 80, 85, 83, 72] :: kL :: fs.take i)) :: Res.cell v [.iface 62 (vP t)] 36 :: txR t m s p wb va vc sv 0 [] :: H) wr) (fun x6 x7 _ => fs.length - (intOf x7).toNat)
 case atStart => exact ⟨0, _, _, rfl, rfl, Nat.zero_le _, fun x h => (by cases h), (((hv.front 2 rfl).front 2 rfl).front 2 rfl)⟩
 case round =>
  obtain ⟨i, da, dc, rfl, rfl, hi, hall, hv⟩ := hrel
  refine sK fun _ k19 => sK fun _ k20 => rL (uM rfl ?_)
  refine uM rfl ?_
  refine uG (vI (fs.length : Int)) rfl (ex_len0 Tryz.underlying22 rfl rfl) ?_
  by_cases hb21 : (i : Int) < (fs.length : Int)
  ·refine uG (.bool true) rfl (ex_lss rfl rfl rfl (qT hb21)) (uW k20 ?_)
   refine cT rfl (kS ?_)
   refine tK k19 (sK fun _ k22 => ?_)
   refine bB (sK fun _ k23 => ?_)
   refine sK fun _ k24 => ?_
   obtain ⟨x, hx⟩ : ∃ x, fs[i]? = some x := ⟨_, List.getElem?_eq_getElem (show i < fs.length by omega)⟩
   obtain ⟨fb, fo, had, hrdx⟩ := text_reads hrf hx
   subst had
   refine rL (uM rfl ?_)
   refine uM rfl ?_
   refine uG (.pointer (some ⟨fb, fo + i, none⟩)) rfl (ex_index rfl rfl rfl (run_idx1 (k := i) Tryz.underlying22 s9es22 (by omega))) ?_
   refine uL _ rfl (run_load1 s9na9 (hrdx _ _ _ (Base.Le.refl _) no_res hv 0 _ rfl)) ?_
   refine uG (vI (x.length : Int)) rfl (ex_lenStr Tryz.underlying9 rfl rfl) ?_
   by_cases hb25 : (x.length : Int) > 300
   ·refine uG (.bool true) rfl (ex_gtr rfl rfl rfl (qT hb25)) (uW k24 ?_)
    refine cT rfl (sK fun _ k26 => ?_)
    refine rL (uA rfl ?_)
    refine uW k26 (rR ?_)
    refine tR (bZ ?_)
    refine tR (tR ?_)
    refine bZ (tR ?_)
    refine bR rfl rfl (⟨rfl, ((hv.kp [] 0 3)).weak (Base.Le.refl _)⟩)
   refine uG (.bool false) rfl (ex_gtr rfl rfl rfl (qF hb25)) (uW k24 ?_)
   refine cF rfl (kS ?_)
   refine tK k23 (rL ?_)
   refine uM rfl (uM rfl ?_)
   refine uM rfl ?_
   refine uG (.pointer (some ⟨fb, fo + i, none⟩)) rfl (ex_index rfl rfl rfl (run_idx1 (k := i) Tryz.underlying22 s9es22 (by omega))) ?_
   refine uL _ rfl (run_load1 s9na9 (hrdx _ _ _ (Base.Le.refl _) no_res hv 0 _ rfl)) ?_
   refine sl_rowOne (v := vS x) tV (wn rfl) rfl rfl hv jFel22 rfl (fun b27 w28 hv => ?_)
   simp only [zP, po]
   replace hv := hv.front 1 rfl
   simp only [eS, eZ] at hv
   refine sl_append (news := [vS x]) tV (wn rfl) rfl rfl rfl jFel22 hv (ok_full (by omega)) rfl (rd_all (hv.get 1 rfl)) (by intro u hu; simp only [List.mem_cons, List.not_mem_nil, or_false] at hu; rcases hu with rfl <;> rfl) (by unfold maxLen; omega) (by omega) (fun rv29 w32 hv => ?_)
   obtain ⟨ra30, rc31, rfl⟩ := row_slice hv.head
   refine uA rfl (uZ ?_)
   refine bN (tK k22 ?_)
   refine rL (uM rfl ?_)
   refine uG (vI ((i + 1 : Nat) : Int)) rfl (ex_add rfl rfl rfl (by rw [i64_in (by omega)]; omega)) (uA rfl ?_)
   refine uZ (then_normal ?_)
   go_roundw
   case rel => exact ⟨i + 1, _, _, by rw [show 2 + (i + 1) = 2 + i + 1 by omega], rfl, by omega, fun y hy => (by rw [take_next hx] at hy; rcases List.mem_append.1 hy with h9 | h9; exact hall y h9; rw [List.mem_singleton.1 h9]; omega), by rw [show 2 + (i + 1) = 2 + i + 1 by omega, take_next hx, ← List.cons_append, ← List.cons_append, ← row_one]; exact (hv.kp [3, 3, 2] 3 1)⟩
   case measure => show fs.length - (((i + 1 : Nat) : Int)).toNat < fs.length - ((i : Int)).toNat; omega
  refine uG (.bool false) rfl (ex_lss rfl rfl rfl (qF hb21)) (uW k20 ?_)
  refine cF rfl (xE ?_)
  refine tX (tX ?_)
  refine bH (tK k16 ?_)
  refine sK fun _ k33 => sK fun _ k34 => ?_
  obtain rfl : i = fs.length := by omega
  rw [List.take_length] at hall hv
  refine rL (uM rfl ?_)
  refine uM rfl ?_
  obtain ⟨K1, hK1, hv, hrK1, hoK1, -⟩ := hv.rowBy
  have hxl : ∀ x ∈ (kL :: fs), x.length ≤ 1000000 := fun x hx => by
   rcases List.mem_cons.1 hx with rfl | hx
   ·decide
   have := hall x hx; omega
  have hln : (kL :: fs).length = fs.length + 1 := rfl
  replace hv := hv.front 1 rfl
  simp only [eS, eZ] at hv
  replace hv := hv.front 1 rfl
  simp only [eS, eZ] at hv
  have hcl := lawDo K1 _ _ v t m s p wb va vc sv 0 [] [] ((vmNil B).more hK1) OkM.nil da dc [82, 80, 85, 83, 72] (kL :: fs) hrK1 (by rw [hln]; have h9 := hoK1; rw [show 2 + fs.length = fs.length + 1 + 1 by omega] at h9; exact h9) (by rw [hln]; omega) hxl (hN.more hK1) hv
  rw [hln, show fs.length + 1 + 1 = 2 + fs.length by omega] at hcl
  refine xC jFcallable8 rfl ((hcl).mono ?_) rfl
  rintro e w35 ⟨C1, es1, M1, r1, cs1, hC1, rfl, hrp1, hM1, hO1, hrel1, hv⟩
  refine ⟨_, rfl, ?_⟩
  obtain ⟨k9, e9, hd9⟩ := (hrel1 (gargs_push _ hfl1)).1 rfl
  cases e9
  obtain ⟨hS1, rfl⟩ := push_nil (fs := fs) (by omega) (fun x hx => by have := hall x hx; omega) hd9
  obtain ⟨v1, rfl⟩ := rp_int hrp1
  refine uG (vI (fs.length : Int)) rfl (ex_fieldv rfl rfl (fun w => by kernel_rfl)) (uM rfl ?_)
  refine uG (vI (fs.length : Int)) rfl (ex_len0 Tryz.underlying22 rfl rfl) ?_
  refine uG (.bool false) rfl (ex_neq rfl rfl rfl (qF (fun h9 => h9 rfl))) (uW k34 ?_)
  refine cF rfl (kS ?_)
  refine tK k33 (sK fun _ k36 => ?_)
  refine sK fun _ k37 => rL (uA rfl ?_)
  refine uW k37 (bB ?_)
  gi_loopw [8] (fun x8 wr => ∃ (i : Nat) (D : Base) (es : List (List UInt8 × Value)) (M : List (List UInt8 × Ver)), x8 = vI i ∧ i ≤ fs.length ∧ B.Le D ∧ VM D es M ∧ OkM M ∧ HasL M (ringAt left fs i) ∧ Inv D (Res.cell v [.iface 62 (vP t)] 36 :: txR t m s p wb va vc sv 0 es :: H) wr) (fun x8 _ => fs.length - (intOf x8).toNat)
  case atStart => exact ⟨0, C1, es1, M1, rfl, Nat.zero_le _, (hK1.trans hC1), hM1.more (Base.Le.refl _), hO1, by rw [ring_zero]; exact hS1, ((hv.front 1 rfl).front 1 rfl)⟩
  case round =>
   obtain ⟨i, D, es, M, rfl, hi, hBD, hM, hO, hS, hv⟩ := hrel
   refine sK fun _ k39 => sK fun _ k40 => rL (uM rfl ?_)
   refine uM rfl ?_
   refine uG (vI (fs.length : Int)) rfl (ex_len0 Tryz.underlying22 rfl rfl) ?_
   by_cases hb41 : (i : Int) < (fs.length : Int)
   ·refine uG (.bool true) rfl (ex_lss rfl rfl rfl (qT hb41)) (uW k40 ?_)
    refine cT rfl (kS ?_)
    refine tK k39 (sK fun _ k42 => ?_)
    refine bB (sK fun _ k43 => ?_)
    refine rL (uM rfl ?_)
    refine uW k43 (wpIn_cond_split (t := left) rfl (fun hc44 => ?_) (fun hc44 => ?_))
    ·refine rL (uM rfl ?_)
     refine sl_rowN (pv := #[(0, vS [76, 77, 79, 86, 69]), (1, vS [108]), (2, vS [108]), (3, vS [76, 69, 70, 84]), (4, vS [82, 73, 71, 72, 84])]) (L := [vS [76, 77, 79, 86, 69], vS [108], vS [108], vS [76, 69, 70, 84], vS [82, 73, 71, 72, 84]]) (e := 9) tV (wn rfl) rfl (by simp only [List.map_toArray, List.map_cons, List.map_nil]; rfl) hv (fun w => by kernel_rfl) (fun b45 w46 hv => ?_)
     simp only [zP, po]
     obtain ⟨K47, hK47, hv, hrK47, hoK47, -⟩ := (hv.cellRow (n := 5) (c := 5) (size := 1) rfl (by decide) (by decide)).rowBy
     replace hv := hv.front 1 rfl
     simp only [eS, eZ] at hv
     replace hv := hv.front 1 rfl
     simp only [eS, eZ] at hv
     refine xC jFcallable8 rfl ((lawDo K47 _ _ v t m s p wb va vc sv 0 es M (hM.more hK47) hO _ _ ([76, 77, 79, 86, 69] : List UInt8) [([108] : List UInt8), ([108] : List UInt8), ([76, 69, 70, 84] : List UInt8), ([82, 73, 71, 72, 84] : List UInt8)] hrK47 hoK47 (by decide) (all1 (by decide) (all1 (by decide) (all1 (by decide) (all1 (by decide) all0)))) (hN.more (hBD.trans hK47)) hv).mono ?_) rfl
     rintro e w48 ⟨C17, es17, M17, r17, cs17, hC17, rfl, hrp17, hM17, hO17, hrel17, hv⟩
     refine ⟨_, rfl, ?_⟩
     obtain ⟨k9, l9, a9, b9, e9, e8, e7, e6, hd9⟩ := (hrel17 (by unfold GArgs; decide)).2.1 rfl
     cases e9; cases e8; cases e7; cases e6
     obtain ⟨x, hx⟩ : ∃ x, fs[i]? = some x := ⟨_, List.getElem?_eq_getElem (by omega)⟩
     obtain ⟨hq1, hq2⟩ := ringL hc44 hx
     rw [hq1] at hS
     have hS17 := (HasL.turnL hS (mov_left hd9)).1
     rw [← hq2] at hS17
     obtain ⟨rk9, rs9, rn9, v9, rfl⟩ := rp_parts hrp17
     refine uZ (bN ?_)
     refine tK k42 (rL ?_)
     refine uM rfl ?_
     refine uG (vI ((i + 1 : Nat) : Int)) rfl (ex_add rfl rfl rfl (by rw [i64_in (by omega)]; omega)) (uA rfl ?_)
     refine uZ (then_normal ?_)
     go_roundw
     case rel => exact ⟨i + 1, C17, es17, M17, rfl, by omega, ((hBD.trans hK47).trans hC17), hM17, hO17, hS17, ((hv.front 1 rfl).front 1 rfl)⟩
     case measure => show fs.length - (((i + 1 : Nat) : Int)).toNat < fs.length - ((i : Int)).toNat; omega
    refine rL (uM rfl ?_)
    refine sl_rowN (pv := #[(0, vS [82, 80, 79, 80, 76, 80, 85, 83, 72]), (1, vS [108]), (2, vS [108])]) (L := [vS [82, 80, 79, 80, 76, 80, 85, 83, 72], vS [108], vS [108]]) (e := 9) tV (wn rfl) rfl (by simp only [List.map_toArray, List.map_cons, List.map_nil]; rfl) hv (fun w => by kernel_rfl) (fun b49 w50 hv => ?_)
    simp only [zP, po]
    obtain ⟨K51, hK51, hv, hrK51, hoK51, -⟩ := (hv.cellRow (n := 3) (c := 3) (size := 1) rfl (by decide) (by decide)).rowBy
    replace hv := hv.front 1 rfl
    simp only [eS, eZ] at hv
    replace hv := hv.front 1 rfl
    simp only [eS, eZ] at hv
    refine xC jFcallable8 rfl ((lawDo K51 _ _ v t m s p wb va vc sv 0 es M (hM.more hK51) hO _ _ ([82, 80, 79, 80, 76, 80, 85, 83, 72] : List UInt8) [([108] : List UInt8), ([108] : List UInt8)] hrK51 hoK51 (by decide) (all1 (by decide) (all1 (by decide) all0)) (hN.more (hBD.trans hK51)) hv).mono ?_) rfl
    rintro e w52 ⟨C18, es18, M18, r18, cs18, hC18, rfl, hrp18, hM18, hO18, hrel18, hv⟩
    refine ⟨_, rfl, ?_⟩
    obtain ⟨k9, l9, e9, e8, hd9⟩ := (hrel18 (by unfold GArgs; decide)).2.2.1 rfl
    cases e9; cases e8
    obtain ⟨y9, t9, hq1, hq2⟩ := ringR (left := left) (l := fs) (i := i) (by rw [hc44]; decide) (by omega)
    rw [hq1] at hS
    have hS18 := (HasL.turnR hS hd9).1
    rw [← hq2] at hS18
    obtain ⟨rk9, rs9, rn9, v9, rfl⟩ := rp_parts hrp18
    refine uZ (bN ?_)
    refine tK k42 (rL ?_)
    refine uM rfl ?_
    refine uG (vI ((i + 1 : Nat) : Int)) rfl (ex_add rfl rfl rfl (by rw [i64_in (by omega)]; omega)) (uA rfl ?_)
    refine uZ (then_normal ?_)
    go_roundw
    case rel => exact ⟨i + 1, C18, es18, M18, rfl, by omega, ((hBD.trans hK51).trans hC18), hM18, hO18, hS18, ((hv.front 1 rfl).front 1 rfl)⟩
    case measure => show fs.length - (((i + 1 : Nat) : Int)).toNat < fs.length - ((i : Int)).toNat; omega
   refine uG (.bool false) rfl (ex_lss rfl rfl rfl (qF hb41)) (uW k40 ?_)
   refine cF rfl (xE ?_)
   refine tX (tX ?_)
   refine bH (tK k36 ?_)
   refine sK fun _ k53 => sK fun _ k54 => rL (uM rfl ?_)
   refine sl_rowN (pv := #[(0, vS [76, 82, 65, 78, 71, 69]), (1, vS [108]), (2, vS [48]), (3, vS [45, 49])]) (L := [vS [76, 82, 65, 78, 71, 69], vS [108], vS [48], vS [45, 49]]) (e := 9) tV (wn rfl) rfl (by simp only [List.map_toArray, List.map_cons, List.map_nil]; rfl) hv (fun w => by kernel_rfl) (fun b55 w56 hv => ?_)
   simp only [zP, po]
   obtain ⟨K57, hK57, hv, hrK57, hoK57, -⟩ := (hv.cellRow (n := 4) (c := 4) (size := 1) rfl (by decide) (by decide)).rowBy
   replace hv := hv.front 1 rfl
   simp only [eS, eZ] at hv
   replace hv := hv.front 1 rfl
   simp only [eS, eZ] at hv
   refine xC jFcallable8 rfl ((lawDo K57 _ _ v t m s p wb va vc sv 0 es M (hM.more hK57) hO _ _ ([76, 82, 65, 78, 71, 69] : List UInt8) [([108] : List UInt8), ([48] : List UInt8), ([45, 49] : List UInt8)] hrK57 hoK57 (by decide) (all1 (by decide) (all1 (by decide) (all1 (by decide) all0))) (hN.more (hBD.trans hK57)) hv).mono ?_) rfl
   rintro e w58 ⟨C19, es19, M19, r19, cs19, hC19, rfl, hrp19, hM19, hO19, hrel19, hv⟩
   refine ⟨_, rfl, ?_⟩
   obtain ⟨k9, e9, hd9⟩ := (hrel19 (by unfold GArgs; decide)).2.2.2.1 rfl
   cases e9
   obtain rfl : i = fs.length := by omega
   rw [ring_all] at hS
   obtain ⟨hMe, rfl⟩ := HasL.range hS hd9
   have hS19 : HasL M19 fs := by rw [hMe]; exact hS
   obtain ⟨a3, c3, rfl⟩ := rp_strs hrp19
   refine uM rfl ?_
   refine xC jCcallable10 rfl ((ref20Strs C19 _ _ fa fc fs (hrf.more ((hBD.trans hK57).trans hC19) (fun _ h => h)) (by omega) hv).mono ?_) rfl
   rintro e w59 ⟨E, ve, hE, rfl, hrpE, hv⟩
   refine ⟨_, rfl, ?_⟩
   simp only [zP, po]
   refine xC l0callable9 rfl (((sameR_strs (B := E) (l := fs) (by omega)) _ _ (rpCells 5 [] 0 (.slice a3 fs.length c3)) (rpCells 5 [] 0 ve) (hrp19.more hE) (hrpE.more (Base.Le.refl _)) hv).mono ?_) rfl
   rintro e w60 ⟨rfl, hv⟩
   refine ⟨_, rfl, uG (.bool false) rfl (ex_not rfl rfl rfl) ?_⟩
   refine uW k54 (cF rfl ?_)
   refine kS (tK k53 ?_)
   refine sK fun _ k61 => sK fun _ k62 => rL (uA rfl ?_)
   refine uW k62 (bB ?_)
   gi_loopw [9] (fun x9 wr => ∃ (i : Nat) (D : Base) (es : List (List UInt8 × Value)) (M : List (List UInt8 × Ver)), x9 = vI i ∧ i ≤ fs.length ∧ B.Le D ∧ VM D es M ∧ OkM M ∧ HasL M (fs.drop i) ∧ Inv D (Res.cell v [.iface 62 (vP t)] 36 :: txR t m s p wb va vc sv 0 es :: H) wr) (fun x9 _ => fs.length - (intOf x9).toNat)
   case atStart => exact ⟨0, E, es19, M19, rfl, Nat.zero_le _, (((hBD.trans hK57).trans hC19).trans hE), hM19.more hE, hO19, by rw [List.drop_zero]; exact hS19, ((hv.front 1 rfl).front 1 rfl)⟩
   case round =>
    obtain ⟨i, D, es, M, rfl, hi, hBD, hM, hO, hS, hv⟩ := hrel
    refine sK fun _ k64 => sK fun _ k65 => rL (uM rfl ?_)
    refine uM rfl ?_
    refine uG (vI (fs.length : Int)) rfl (ex_len0 Tryz.underlying22 rfl rfl) ?_
    by_cases hb66 : (i : Int) < (fs.length : Int)
    ·refine uG (.bool true) rfl (ex_lss rfl rfl rfl (qT hb66)) (uW k65 ?_)
     refine cT rfl (kS ?_)
     refine tK k64 (sK fun _ k67 => ?_)
     refine bB (sK fun _ k68 => ?_)
     obtain ⟨x, hx⟩ : ∃ x, fs[i]? = some x := ⟨_, List.getElem?_eq_getElem (show i < fs.length by omega)⟩
     obtain ⟨fb, fo, had, hrdx⟩ := text_reads hrf hx
     subst had
     refine rW mixed [1, 2] [0,4,5,6,7,1,2,3,8] 93 rfl (by kernel_rfl) hv ?_
     simp only [qm, opAt]
     refine dM (vP v) rfl (dM (.slice (some ⟨fb, fo, none⟩) fs.length fc) rfl ?_)
     refine dM (vI i) rfl ?_
     simp only [zP, po]
     refine dG (.pointer (some ⟨fb, fo + i, none⟩)) rfl (ex_index rfl rfl rfl (run_idx1 (k := i) Tryz.underlying22 s9es22 (by omega))) (dF _ rfl (fun hv => ex_load rfl rfl (run_load1 s9na9 (hrdx _ _ _ hBD no_res hv 0 _ rfl))) fun f69 hf69 => ?_)
     refine dS rfl fun w70 hv => mem_row2 (v1 := vS [76, 80, 79, 80]) (v2 := vS [108]) (e := 9) rfl rfl rfl rfl hv (fun w => by kernel_rfl) (fun b71 w72 hv => ?_)
     refine dV hv (fC (fun ww hv => hf69 ww (ex_load rfl rfl (run_load1 s9na9 (hrdx _ _ _ hBD no_res hv 0 _ rfl)))) fN) ?_
     simp only [zP, po]
     refine dS rfl fun w73 hv => ?_
     obtain ⟨K74, hK74, hv, hrK74, hoK74, -⟩ := (hv.cellRow (n := 2) (c := 2) (size := 1) rfl (by decide) (by decide)).rowBy
     replace hv := hv.front 1 rfl
     simp only [eS, eZ] at hv
     replace hv := hv.front 1 rfl
     simp only [eS, eZ] at hv
     refine mC jFcallable8 rfl ((lawDo K74 _ _ v t m s p wb va vc sv 0 es M (hM.more hK74) hO _ _ ([76, 80, 79, 80] : List UInt8) [([108] : List UInt8)] hrK74 hoK74 (by decide) (all1 (by decide) all0) (hN.more (hBD.trans hK74)) hv).mono ?_) rfl
     rintro e w75 ⟨C24, es24, M24, r24, cs24, hC24, rfl, hrp24, hM24, hO24, hrel24, hv⟩
     obtain ⟨k9, e9, hd9⟩ := (hrel24 (by unfold GArgs; decide)).2.2.2.2 rfl
     cases e9
     have hdr : fs.drop i = x :: fs.drop (i + 1) := by obtain ⟨h8, rfl⟩ := List.getElem?_eq_some_iff.1 hx; exact List.drop_eq_getElem_cons h8
     rw [hdr] at hS
     obtain ⟨hS24, rfl⟩ := HasL.pop hS hd9
     obtain ⟨v9, rfl⟩ := rp_str hrp24
     refine ⟨_, rfl, dV hv (fC (fun ww hv => hf69 ww (ex_load rfl rfl (run_load1 s9na9 (hrdx _ _ _ ((hBD.trans hK74).trans hC24) no_res hv 0 _ rfl)))) fN) ?_⟩
     refine dG (vS x) rfl (ex_fieldv rfl rfl (fun w => by kernel_rfl)) (dG (.bool false) rfl (ex_sneq rfl rfl rfl (qF (fun h9 => h9 rfl))) ?_)
     refine dE fun w76 hv => ?_
     simp only [zP, po]
     refine tK k68 (cF rfl ?_)
     refine kS (bN ?_)
     refine tK k67 (rL ?_)
     refine uM rfl ?_
     refine uG (vI ((i + 1 : Nat) : Int)) rfl (ex_add rfl rfl rfl (by rw [i64_in (by omega)]; omega)) (uA rfl ?_)
     refine uZ (then_normal ?_)
     go_roundw
     case rel => exact ⟨i + 1, C24, es24, M24, rfl, by omega, ((hBD.trans hK74).trans hC24), hM24, hO24, hS24, ((hv.front 1 rfl).front 1 rfl)⟩
     case measure => show fs.length - (((i + 1 : Nat) : Int)).toNat < fs.length - ((i : Int)).toNat; omega
    refine uG (.bool false) rfl (ex_lss rfl rfl rfl (qF hb66)) (uW k65 ?_)
    refine cF rfl (xE ?_)
    refine tX (tX ?_)
    refine bH (tK k61 ?_)
    refine sK fun _ k77 => ?_
    obtain rfl : i = fs.length := by omega
    rw [List.drop_length] at hS
    have hn3 : namesT M 0 = [] := hS.names
    refine rL (uM rfl ?_)
    refine uG (vP v) rfl (ex_nil rfl rfl) ?_
    refine uF (vP v) rfl (v1fa36_0 _ _ _) ?_
    refine uL _ rfl (run_load1 v1na34 (hv.load 0 0 rfl rfl)) ?_
    replace hv := hv.front 1 rfl
    simp only [eS, eZ] at hv
    refine wpi_callI jFcallable193 tV wideC rfl (wn rfl) rfl rfl (r := vP t) (fun w => by kernel_rfl) (args := #[]) (by simp only [List.map_toArray, List.map_nil]) ((txnNamesB D _ _ t m s p wb va vc sv 0 es M (hM.more (Base.Le.refl _)) hS.short (by have := hS.few; omega) hv).mono ?_)
    rintro e w78 ⟨P, qa, qc, hP, rfl, -, hv⟩
    refine ⟨_, rfl, uG (vI (((namesT M 0).length) : Int)) rfl (ex_len0 Tryz.underlying22 rfl rfl) ?_⟩
    refine uG (.bool true) rfl (ex_eql rfl rfl rfl (qT (by rw [hn3]; rfl))) (uA rfl ?_)
    refine uW k77 (rR ?_)
    refine bR rfl rfl (⟨rfl, ((hv.kp [] 0 2)).weak (hBD.trans hP)⟩)
end Go.Proofs.YtmhdpjifhfoabaaGreatDoor
namespace Go.Pm
open Go.RowKit
def All2 {α β : Type} (R : α → β → Prop) : List α → List β → Prop
 | [], [] => True
 | a :: k, b :: l => R a b ∧ All2 R k l
 | _, _ => False
theorem rep_rowAux {W : World} {S : Nat → Prop} {t : Ty} {a : Option Addr} : ∀ (l : List t.den) (k : Nat), (∀ i (h : i < l.length), ∃ b off xs, a = some ⟨b, off, none⟩ ∧ S b ∧ xs.length = t.size ∧ (∀ j (h : j < xs.length), W.cell? ⟨b, off + (k + i) * t.size + j, none⟩ = some xs[j]) ∧ Rep W S t xs l[i]) →
  ∃ xss : List (List Value), All2 (fun xs d => xs.length = t.size ∧ Rep W S t xs d) xss l ∧ ∀ j (h : j < xss.flatten.length), ∃ b off, a = some ⟨b, off, none⟩ ∧ W.cell? ⟨b, off + k * t.size + j, none⟩ = some xss.flatten[j]
 | [], k, _ => ⟨[], trivial, fun j h => by simp at h⟩
 | d :: l, k, h => by
  obtain ⟨xss, h1, h2⟩ := rep_rowAux l (k + 1) (fun i hi => by
   obtain ⟨b, off, xs, e1, e2, e3, e4, e5⟩ := h (i + 1) (by simpa using hi)
   refine ⟨b, off, xs, e1, e2, e3, fun j hj => ?_, e5⟩
   rw [show k + 1 + i = k + (i + 1) by omega]
   exact e4 j hj)
  obtain ⟨b, off, xs, e1, e2, e3, e4, e5⟩ := h 0 (by simp)
  refine ⟨xs :: xss, ⟨⟨e3, e5⟩, h1⟩, fun j hj => ?_⟩
  rcases Nat.lt_or_ge j xs.length with hx | hx
  ·refine ⟨b, off, e1, ?_⟩
   have := e4 j hx
   rw [Nat.add_zero] at this
   rw [this]
   simp only [List.flatten_cons]
   rw [List.getElem_append_left hx]
  have hj' : j - xs.length < xss.flatten.length := by
   simp only [List.flatten_cons, List.length_append] at hj
   omega
  obtain ⟨b', off', f1, f2⟩ := h2 (j - xs.length) hj'
  refine ⟨b', off', f1, ?_⟩
  rw [show off' + k * t.size + j = off' + (k + 1) * t.size + (j - xs.length) by rw [Nat.succ_mul]; omega, f2]
  simp only [List.flatten_cons]
  rw [List.getElem_append_right hx]
theorem rep_row {W : World} {S : Nat → Prop} {t : Ty} {cs : List Value} {l : List t.den} (h : Rep W S (.slice t) cs l) :
  ∃ a cap xss, cs = [.slice a l.length cap] ∧ SliceOk a l.length cap ∧ RdV (Base.of W) [] a xss.flatten ∧ All2 (fun xs d => xs.length = t.size ∧ Rep W S t xs d) xss l := by
 obtain ⟨a, cap, h1, h2, h4⟩ := h
 obtain ⟨xss, h5, h6⟩ := rep_rowAux (t := t) l 0 (fun i hi => by
  obtain ⟨b, off, xs, e1, e2, e3, e4, e5⟩ := h4 i hi
  refine ⟨b, off, xs, e1, e2, e3, fun j hj => ?_, e5⟩
  rw [Nat.zero_add]
  exact e4 j hj)
 refine ⟨a, cap, xss, h1, h2, rdV_of W fun j hj => ?_, h5⟩
 obtain ⟨b, off, f1, f2⟩ := h6 j hj
 exact ⟨b, off, f1, by rw [← f2, Nat.zero_mul, Nat.add_zero]⟩
theorem rep_texts {W : World} {S : Nat → Prop} : ∀ {xss : List (List Value)} {l : List (List UInt8)}, All2 (fun xs (d : Ty.str.den) => xs.length = Ty.str.size ∧ Rep W S .str xs d) xss l → xss.flatten = textCells l
 | [], [], _ => rfl
 | xs :: xss, d :: l, ⟨⟨h1, h2⟩, h⟩ => by
  have := rep_texts h
  match xs, h1 with
  | [x0], _ =>
   obtain ⟨k1, _⟩ := h2
   have k1' : [x0] = _ := k1
   simp only [List.cons.injEq, and_true] at k1'
   subst k1'
   simp only [List.flatten_cons, this, textCells, List.map_cons]
   rfl
end Go.Pm
namespace Go.Proofs.YtmhdpjifhfoabaaGreatDoor
open Go
theorem tabOf {W : World} {l : List (String × DataW Unit)} (hl : l.filter (fun x => x.1 == "internal/strconv.uint64pow10") = [("internal/strconv.uint64pow10", Lib.tabData .u64 Lib.pow10Tab)]) (hL : laidMetH Tryz.prog l W) : Lib.TabIs Tryz.prog W "internal/strconv.uint64pow10" .u64 Lib.pow10Tab := by
 have h := hL.filter (fun x => x.1 == "internal/strconv.uint64pow10")
 rw [hl] at h
 have h2 := (laidMetH_iff.1 h).1
 have e : ([("internal/strconv.uint64pow10", (Lib.tabData .u64 Lib.pow10Tab : DataW Unit))].filter fun x => x.2.handleName?.isNone) = [("internal/strconv.uint64pow10", Lib.tabData .u64 Lib.pow10Tab)] := by kernel_rfl
 rw [e] at h2
 exact Lib.tabIs_of_head (g := 2) (t := 243) (e := 214) (n := 20) (by kernel_rfl) (by kernel_rfl) Tryz.underlying243 Tryz.underlying214 (by kernel_rfl) (by kernel_rfl) h2
open Go.RowKit Go.Pm
theorem parsesAny (B : Base) (H : List Res) (h1 : HasErr B 0) (h2 : HasErr B 1) : ParsesAny B H := fun w s hs hv => by
 obtain ⟨t1, v1, h1⟩ := h1
 obtain ⟨t2, v2, h2⟩ := h2
 have c1 := h1 B H w (Base.Le.refl _) hv
 have c2 := h2 B H w (Base.Le.refl _) hv
 have hmax : (ByteArray.mk s.toArray).size ≤ 20 := by show s.toArray.size ≤ 20; simpa using hs
 cases hp : Lib.parseIntB 64 s
 case ok n =>
  have hb := Lib.parseIntB_bounds hp
  have h : Calls Tryz.prog 107 #[vS s, vI 10, vI 64] w _ := Any.strconv_ParseInt_10_at64_ok Tryz.laysPI ⟨s.toArray⟩ (by omega) n hp w
  refine h.mono ?_
  rintro e w' ⟨rfl, hw⟩
  refine ⟨n, .nilIface, rfl, .inl rfl, by omega, fun m m0 m1 e9 => ⟨rfl, ?_⟩, ?_⟩
  ·rw [e9, parse_itoa m m0 m1] at hp
   cases hp; rfl
  rcases hw with rfl | ⟨t, rfl⟩
  ·exact hv
  exact hv.ext (bytesWorld_ext w _ t)
 ·skip
  have h : Calls Tryz.prog 107 #[vS s, vI 10, vI 64] w _ := Any.strconv_ParseInt_10_at64_syntax Tryz.laysPI ⟨s.toArray⟩ (by omega) hp _ w c1 (.inr ⟨_, _, rfl⟩)
  refine h.mono ?_
  rintro e w' ⟨N, rfl, -, -, hx⟩
  refine ⟨0, _, rfl, .inr ⟨_, _, rfl⟩, by omega, fun m m0 m1 e9 => ?_, hv.ext hx⟩
  rw [e9, parse_itoa m m0 m1] at hp
  cases hp
 case range =>
  have h : Calls Tryz.prog 107 #[vS s, vI 10, vI 64] w _ := Any.strconv_ParseInt_10_at64_range Tryz.laysPI ⟨s.toArray⟩ (by omega) hp _ w c2 (.inr ⟨_, _, rfl⟩)
  refine h.mono ?_
  rintro e w' ⟨N, rfl, -, -, hx⟩
  refine ⟨_, _, rfl, .inr ⟨_, _, rfl⟩, ?_, fun m m0 m1 e9 => ?_, hv.ext hx⟩
  ·unfold Lib.intSat
   split <;> decide
  rw [e9, parse_itoa m m0 m1] at hp
  cases hp
theorem numB {W : World} {l : List (String × DataW Unit)} (hl0 : l.filter (fun x => x.1 == "internal/strconv.uint64pow10") = [("internal/strconv.uint64pow10", Lib.tabData .u64 Lib.pow10Tab)])
  {n1 n2 : String} {d1 d2 : DataW Unit} (hl1 : l.filter (fun x => x.1 == "strconv.ErrSyntax") = [("strconv.ErrSyntax", .iface n1 d1)]) (he1 : ([("strconv.ErrSyntax", (DataW.iface n1 d1 : DataW Unit))].filter fun x => x.2.handleName?.isNone) = [("strconv.ErrSyntax", .iface n1 d1)])
  (hl2 : l.filter (fun x => x.1 == "strconv.ErrRange") = [("strconv.ErrRange", .iface n2 d2)]) (he2 : ([("strconv.ErrRange", (DataW.iface n2 d2 : DataW Unit))].filter fun x => x.2.handleName?.isNone) = [("strconv.ErrRange", .iface n2 d2)]) (hL : laidMetH Tryz.prog l W) : NumB (Base.of W) := by
 have ht := tabOf hl0 hL
 obtain ⟨u1, v1, h1⟩ := errOf hl1 he1 (g := 0) (t := 192) (by kernel_rfl) (by kernel_rfl) Tryz.underlying192 hL
 obtain ⟨u2, v2, h2⟩ := errOf hl2 he2 (g := 1) (t := 192) (by kernel_rfl) (by kernel_rfl) Tryz.underlying192 hL
 exact fun C H hC => ⟨formatsInt C H W hC ht, parsesAny C H ((hasErr_of h1).more hC) ((hasErr_of h2).more hC)⟩
end Go.Proofs.YtmhdpjifhfoabaaGreatDoor
namespace Go.Pm
open Go.RowKit
theorem rep_textsM {W : World} {S : Nat → Prop} {cs : List Value} {l : List (List UInt8)} (h : Rep W S (.slice .str) cs l) : ∃ a c, cs = [.slice a l.length c] ∧ SliceOk a l.length c ∧ RdV (Base.of W) [] a (textCells l) ∧ ∀ x ∈ l, x.length ≤ 9223372036854775807 := by
 have hb : ∀ x ∈ l, x.length ≤ 9223372036854775807 := by
  obtain ⟨a, cap, h1, h2, h4⟩ := h
  intro x hx
  obtain ⟨i, hi, rfl⟩ := List.getElem_of_mem hx
  obtain ⟨b, off, xs, e1, e2, e3, e4, e5⟩ := h4 i hi
  exact e5.2
 obtain ⟨a, c, xss, h1, h2, h3, h4⟩ := rep_row h
 rw [rep_texts h4] at h3
 exact ⟨a, c, h1, h2, h3, hb⟩
end Go.Pm
namespace Go.Proofs.YtmhdpjifhfoabaaGreatDoor
open Go.RowKit Go.Pm
def laidAll : List (String × DataW Unit) := [("math/bits.deBruijn32tab", Rows.laid_math_bits_deBruijn32tab), ("math/bits.deBruijn64tab", Rows.laid_math_bits_deBruijn64tab), ("internal/strconv.uint64pow10", Rows.laid_internal_strconv_uint64pow10), ("strconv.ErrRange", Rows.laid_strconv_ErrRange), ("strconv.ErrSyntax", Rows.laid_strconv_ErrSyntax)]
abbrev dSyn : DataW Unit := .ptr (.agg [.lit (.string [105, 110, 118, 97, 108, 105, 100, 32, 115, 121, 110, 116, 97, 120])])
abbrev dRan : DataW Unit := .ptr (.agg [.lit (.string [118, 97, 108, 117, 101, 32, 111, 117, 116, 32, 111, 102, 32, 114, 97, 110, 103, 101])])
theorem numAll {W : World} (hL : laidMetH Tryz.prog laidAll W) : NumB (Base.of W) :=
 numB (l := laidAll) (n1 := "*errors.errorString") (d1 := dSyn) (n2 := "*errors.errorString") (d2 := dRan) (by kernel_rfl) (by kernel_rfl) (by kernel_rfl) (by kernel_rfl) (by kernel_rfl) hL
end Go.Proofs.YtmhdpjifhfoabaaGreatDoor
