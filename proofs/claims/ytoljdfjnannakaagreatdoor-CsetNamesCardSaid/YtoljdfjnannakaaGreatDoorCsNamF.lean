/- Sets: cut, met, joined in numbers. -/
import Derived.Test.YtoljdfjnannakaaGreatDoorCsNamB
import Derived.Test.YtoljdfjnannakaaGreatDoorCsNamE
import Derived.Test.YtoljdfjnannakaaGreatDoorRows
import Derived.Shelf.Strconv.ParseIntPublic10
import Derived.Shelf.Strconv.Itoa4
import Derived.Ground.NamesProg
import Derived.Lib.ItoaNum
import Derived.Lib.AtoiAll
import Derived.Lib.ParseIntBTie
import Derived.Test.YtoljdfjnannakaaGreatDoorCsNamA
import Derived.LaidLaws
import Derived.LaidSub
import Derived.Test.YtoljdfjnannakaaGreatDoorCsNamC
set_option maxRecDepth 100000
namespace Go.Proofs.YtoljdfjnannakaaGreatDoor
open Go.RowKit Go.Pm Go.Sort
theorem t3es143 (w : World) : (sizeOf (Tryz.prog.elem 143)).run Tryz.prog w = .ok 1 w := by kernel_rfl
theorem t3callable67 : Callable Tryz.prog 67 := ⟨_, Tryz.func67, by kernel_rfl, by kernel_rfl⟩
set_option maxHeartbeats 2000000 in
theorem setAnywhere (B : Base) (H : List Res) (w : World) (x : List UInt8) (ta : Option Addr) (tc : Nat) (ss : List (List (List UInt8))) (txs : List Value) (htx : TxsAt B ss txs) (hrt : RdV B [] ta txs) (hmt : ss.length ≤ 10000) (hso : ∀ s ∈ ss, SortedT s ∧ s.length ≤ 1000000) (hv : Inv B H w) :
  Calls Tryz.prog 92 #[vS x, .slice ta ss.length tc] w fun e w' => e = .returned (.bool (ss.any fun l => decide (x ∈ l))) ∧ Inv B H w' := by
 refine cW Tryz.func92 rfl Tryz.ntmps92 ?_
 simp only [al]
 refine sK fun _ k1 => rL (xA (.bool false) rfl ?_)
 simp only [zP, po]
 refine wK k1 (sK fun _ k2 => ?_)
 refine sK fun _ k3 => rL (xM (.slice ta ss.length tc) rfl ?_)
 refine xG (vI (ss.length : Int)) rfl (ex_len0 Tryz.underlying143 rfl rfl) (xM (vI 0) rfl ?_)
 simp only [zP, po]
 refine wK k3 (bB ?_)
 gi_loopw [9] (fun x9 wr => ∃ (i : Nat), x9 = vI i ∧ i ≤ ss.length ∧ (∀ j q, j < i → ss[j]? = some q → ¬ x ∈ q) ∧ Inv B H wr) (fun x9 _ => ss.length - (intOf x9).toNat)
 case atStart => exact ⟨0, rfl, Nat.zero_le _, fun j x h => by omega, hv⟩
 case round =>
  obtain ⟨i, rfl, hi, hno, hv⟩ := hrel
  refine sK fun _ k5 => rL ?_
  by_cases hb6 : (i : Int) < (ss.length : Int)
  ·refine xG (.bool true) rfl (ex_lss rfl rfl rfl (qT hb6)) ?_
   simp only [zP, po]
   refine wK k5 (sK fun _ k7 => ?_)
   refine cT rfl (kS ?_)
   refine tK k7 (sK fun _ k8 => ?_)
   refine bB (sK fun _ k9 => ?_)
   obtain ⟨q, hq⟩ : ∃ x, ss[i]? = some x := ⟨_, List.getElem?_eq_getElem (show i < ss.length by omega)⟩
   obtain ⟨tb, to, qa, qc, had, hokq, hrq, hrdq⟩ := TxsAt.reads htx hrt hq
   subst had
   refine rL (xG (.pointer (some ⟨tb, to + i, none⟩)) rfl (ex_index rfl rfl rfl (run_idx1 (k := i) Tryz.underlying143 t3es143 (by omega))) ?_)
   refine xL _ rfl (run_load1 s1na22 (hrdq _ _ _ (Base.Le.refl _) no_res hv 0 _ rfl)) (xA (.slice qa q.length qc) rfl ?_)
   simp only [zP, po]
   refine wK k9 (sK fun _ k10 => ?_)
   refine rL (xM (.slice qa q.length qc) rfl ?_)
   refine xM (vS x) rfl ?_
   by_cases hq11 : x ∈ q
   ·refine xC t3callable67 rfl ((calls_bool (setHas B _ _ qa qc q x hrq (hso q (List.mem_of_getElem? hq)).2 (hso q (List.mem_of_getElem? hq)).1 hv) (qT hq11)).mono ?_) rfl
    rintro e w12 ⟨rfl, hv⟩
    refine ⟨_, rfl, ?_⟩
    simp only [zP, po]
    refine wK k10 (cT rfl ?_)
    refine sK fun _ k13 => rL (xA (.bool true) rfl ?_)
    simp only [zP, po]
    refine wK k13 (rR ?_)
    refine bZ (tR ?_)
    refine tR (bZ ?_)
    refine tR (bR rfl rfl ?_)
    exact ⟨congrArg (fun b => Ending.returned (Value.bool b)) (any_of hq (qT hq11)).symm, hv⟩
   refine xC t3callable67 rfl ((calls_bool (setHas B _ _ qa qc q x hrq (hso q (List.mem_of_getElem? hq)).2 (hso q (List.mem_of_getElem? hq)).1 hv) (qF hq11)).mono ?_) rfl
   rintro e w14 ⟨rfl, hv⟩
   refine ⟨_, rfl, ?_⟩
   simp only [zP, po]
   refine wK k10 (cF rfl ?_)
   refine kS (bN ?_)
   refine tK k8 (rL ?_)
   refine xG (vI ((i + 1 : Nat) : Int)) rfl (ex_add rfl rfl rfl (by rw [i64_in (by omega)]; omega)) (xM (vI ((i + 1 : Nat) : Int)) rfl ?_)
   refine wL ?_
   simp only [zP, po]
   refine then_normal ?_
   go_roundw
   case rel => exact ⟨i + 1, rfl, by omega, fun j q' hj hq' => (by
      rcases Nat.lt_or_ge j i with h | h
      ·exact hno j q' h hq'
      obtain rfl : j = i := by omega
      rw [hq] at hq'; cases hq'; exact hq11), hv⟩
   case measure => show ss.length - (((i + 1 : Nat) : Int)).toNat < ss.length - ((i : Int)).toNat; omega
  refine xG (.bool false) rfl (ex_lss rfl rfl rfl (qF hb6)) ?_
  simp only [zP, po]
  refine wK k5 (sK fun _ k15 => ?_)
  refine cF rfl (xE ?_)
  refine tX (tX ?_)
  refine bH (tK k2 ?_)
  refine sK fun _ k16 => rL (xA (.bool false) rfl ?_)
  simp only [zP, po]
  refine wK k16 (rR ?_)
  refine bR rfl rfl ?_
  obtain rfl : i = ss.length := by omega
  exact ⟨congrArg (fun b => Ending.returned (Value.bool b)) (any_none fun j q hq => qF (hno j q (List.getElem?_eq_some_iff.1 hq).1 hq)).symm, hv⟩
set_option maxHeartbeats 2000000 in
theorem setEverywhere (B : Base) (H : List Res) (w : World) (x : List UInt8) (ta : Option Addr) (tc : Nat) (ss : List (List (List UInt8))) (txs : List Value) (htx : TxsAt B ss txs) (hrt : RdV B [] ta txs) (hmt : ss.length ≤ 10000) (hso : ∀ s ∈ ss, SortedT s ∧ s.length ≤ 1000000) (hv : Inv B H w) :
  Calls Tryz.prog 93 #[vS x, .slice ta ss.length tc] w fun e w' => e = .returned (.bool (ss.all fun l => decide (x ∈ l))) ∧ Inv B H w' := by
 refine cW Tryz.func93 rfl Tryz.ntmps93 ?_
 simp only [al]
 refine sK fun _ k1 => rL (xA (.bool false) rfl ?_)
 simp only [zP, po]
 refine wK k1 (sK fun _ k2 => ?_)
 refine sK fun _ k3 => rL (xM (.slice ta ss.length tc) rfl ?_)
 refine xG (vI (ss.length : Int)) rfl (ex_len0 Tryz.underlying143 rfl rfl) (xM (vI 0) rfl ?_)
 simp only [zP, po]
 refine wK k3 (bB ?_)
 gi_loopw [9] (fun x9 wr => ∃ (i : Nat), x9 = vI i ∧ i ≤ ss.length ∧ (∀ j q, j < i → ss[j]? = some q → x ∈ q) ∧ Inv B H wr) (fun x9 _ => ss.length - (intOf x9).toNat)
 case atStart => exact ⟨0, rfl, Nat.zero_le _, fun j x h => by omega, hv⟩
 case round =>
  obtain ⟨i, rfl, hi, hno, hv⟩ := hrel
  refine sK fun _ k5 => rL ?_
  by_cases hb6 : (i : Int) < (ss.length : Int)
  ·refine xG (.bool true) rfl (ex_lss rfl rfl rfl (qT hb6)) ?_
   simp only [zP, po]
   refine wK k5 (sK fun _ k7 => ?_)
   refine cT rfl (kS ?_)
   refine tK k7 (sK fun _ k8 => ?_)
   refine bB (sK fun _ k9 => ?_)
   obtain ⟨q, hq⟩ : ∃ x, ss[i]? = some x := ⟨_, List.getElem?_eq_getElem (show i < ss.length by omega)⟩
   obtain ⟨tb, to, qa, qc, had, hokq, hrq, hrdq⟩ := TxsAt.reads htx hrt hq
   subst had
   refine rL (xG (.pointer (some ⟨tb, to + i, none⟩)) rfl (ex_index rfl rfl rfl (run_idx1 (k := i) Tryz.underlying143 t3es143 (by omega))) ?_)
   refine xL _ rfl (run_load1 s1na22 (hrdq _ _ _ (Base.Le.refl _) no_res hv 0 _ rfl)) (xA (.slice qa q.length qc) rfl ?_)
   simp only [zP, po]
   refine wK k9 (sK fun _ k10 => ?_)
   refine rL (xM (.slice qa q.length qc) rfl ?_)
   refine xM (vS x) rfl ?_
   by_cases hq11 : x ∈ q
   ·refine xC t3callable67 rfl ((calls_bool (setHas B _ _ qa qc q x hrq (hso q (List.mem_of_getElem? hq)).2 (hso q (List.mem_of_getElem? hq)).1 hv) (qT hq11)).mono ?_) rfl
    rintro e w12 ⟨rfl, hv⟩
    refine ⟨_, rfl, ?_⟩
    simp only [zP, po]
    refine xG (.bool false) rfl (ex_not rfl rfl rfl) ?_
    simp only [zP, po]
    refine wK k10 (cF rfl ?_)
    refine kS (bN ?_)
    refine tK k8 (rL ?_)
    refine xG (vI ((i + 1 : Nat) : Int)) rfl (ex_add rfl rfl rfl (by rw [i64_in (by omega)]; omega)) (xM (vI ((i + 1 : Nat) : Int)) rfl ?_)
    refine wL ?_
    simp only [zP, po]
    refine then_normal ?_
    go_roundw
    case rel => exact ⟨i + 1, rfl, by omega, fun j q' hj hq' => (by
       rcases Nat.lt_or_ge j i with h | h
       ·exact hno j q' h hq'
       obtain rfl : j = i := by omega
       rw [hq] at hq'; cases hq'; exact hq11), hv⟩
    case measure => show ss.length - (((i + 1 : Nat) : Int)).toNat < ss.length - ((i : Int)).toNat; omega
   refine xC t3callable67 rfl ((calls_bool (setHas B _ _ qa qc q x hrq (hso q (List.mem_of_getElem? hq)).2 (hso q (List.mem_of_getElem? hq)).1 hv) (qF hq11)).mono ?_) rfl
   rintro e w13 ⟨rfl, hv⟩
   refine ⟨_, rfl, ?_⟩
   simp only [zP, po]
   refine xG (.bool true) rfl (ex_not rfl rfl rfl) ?_
   simp only [zP, po]
   refine wK k10 (cT rfl ?_)
   refine sK fun _ k14 => rL (xA (.bool false) rfl ?_)
   simp only [zP, po]
   refine wK k14 (rR ?_)
   refine bZ (tR ?_)
   refine tR (bZ ?_)
   refine tR (bR rfl rfl ?_)
   exact ⟨congrArg (fun b => Ending.returned (Value.bool b)) (List.all_eq_false.2 ⟨q, List.mem_of_getElem? hq, by simpa using hq11⟩).symm, hv⟩
  refine xG (.bool false) rfl (ex_lss rfl rfl rfl (qF hb6)) ?_
  simp only [zP, po]
  refine wK k5 (sK fun _ k15 => ?_)
  refine cF rfl (xE ?_)
  refine tX (tX ?_)
  refine bH (tK k2 ?_)
  refine sK fun _ k16 => rL (xA (.bool true) rfl ?_)
  simp only [zP, po]
  refine wK k16 (rR ?_)
  refine bR rfl rfl ?_
  obtain rfl : i = ss.length := by omega
  exact ⟨congrArg (fun b => Ending.returned (Value.bool b)) (List.all_eq_true.2 fun q hq => (by
   obtain ⟨j, hj⟩ := List.mem_iff_getElem?.1 hq
   exact qT (hno j q (List.getElem?_eq_some_iff.1 hj).1 hj))).symm, hv⟩
theorem t3callable92 : Callable Tryz.prog 92 := ⟨_, Tryz.func92, by kernel_rfl, by kernel_rfl⟩
theorem t3mk9 : (Tryz.prog.info? 9).map (fun i => (i.zero, i.size, i.bytes)) = some (some (vS []), 1, 16) := by kernel_rfl
theorem t3el22 : Elem Tryz.prog 22 9 (vS []) 1 16 := elem_of Tryz.underlying22 t3mk9 (by rfl) (by decide)
set_option maxHeartbeats 4000000 in
theorem setDiff (B : Base) (H : List Res) (w : World) (sa : Option Addr) (sc : Nat) (s : List (List UInt8)) (hrs : RdV B [] sa (textCells s)) (hms : s.length ≤ 1000000) (ta : Option Addr) (tc : Nat) (ss : List (List (List UInt8))) (txs : List Value) (htx : TxsAt B ss txs) (hrt : RdV B [] ta txs) (hmt : ss.length ≤ 10000) (hso : ∀ s ∈ ss, SortedT s ∧ s.length ≤ 1000000) (hv : Inv B H w) :
  Calls Tryz.prog 70 #[.slice sa s.length sc, .slice ta ss.length tc] w fun e w' => ∃ C oa oc out, B.Le C ∧ e = .returned (.slice oa out.length oc) ∧ SliceOk oa out.length oc ∧ RdV C [] oa (textCells out) ∧ out = diffS s ss ∧ Inv C H w' := by
 refine cW Tryz.func70 rfl Tryz.ntmps70 ?_
 simp only [al]
 refine sK fun _ k1 => rL (xA (vN) rfl ?_)
 simp only [zP, po]
 refine wK k1 (sK fun _ k2 => ?_)
 refine rL (xA (vN) rfl ?_)
 simp only [zP, po]
 refine wK k2 (sK fun _ k3 => ?_)
 refine sK fun _ k4 => rL (xM (.slice sa s.length sc) rfl ?_)
 refine xG (vI (s.length : Int)) rfl (ex_len0 Tryz.underlying22 rfl rfl) (xM (vI 0) rfl ?_)
 simp only [zP, po]
 refine wK k4 (bB ?_)
 gi_loopw [10, 5] (fun x10 x5 wr => ∃ (i : Nat) (out : List (List UInt8)) (ra : Option Addr) (rc : Nat), x10 = vI i ∧ x5 = .slice ra out.length rc ∧ i ≤ s.length ∧ out = (s.take i).filter (fun x => !(ss.any fun l => decide (x ∈ l))) ∧ Inv B (Res.row 9 1 (.slice ra out.length rc) out.length (textCells out) :: H) wr) (fun x10 x5 _ => s.length - (intOf x10).toNat)
 case atStart => exact ⟨0, [], none, 0, rfl, rfl, Nat.zero_le _, rfl, hv.rowNil 9 1⟩
 case round =>
  obtain ⟨i, out, ra, rc, rfl, rfl, hi, hout, hv⟩ := hrel
  have hle9 : out.length ≤ s.length := by rw [hout]; exact Nat.le_trans (List.length_filter_le _ _) (by rw [List.length_take]; omega)
  refine sK fun _ k6 => rL ?_
  by_cases hb7 : (i : Int) < (s.length : Int)
  ·refine xG (.bool true) rfl (ex_lss rfl rfl rfl (qT hb7)) ?_
   simp only [zP, po]
   refine wK k6 (sK fun _ k8 => ?_)
   refine cT rfl (kS ?_)
   refine tK k8 (sK fun _ k9 => ?_)
   refine bB (sK fun _ k10 => ?_)
   obtain ⟨x, hx⟩ : ∃ x, s[i]? = some x := ⟨_, List.getElem?_eq_getElem (show i < s.length by omega)⟩
   obtain ⟨bb, bo, had, hrdx⟩ := text_reads hrs hx
   subst had
   refine rL (xG (.pointer (some ⟨bb, bo + i, none⟩)) rfl (ex_index rfl rfl rfl (run_idx1 (k := i) Tryz.underlying22 s9es22 (by omega))) ?_)
   refine xL _ rfl (run_load1 s9na9 (hrdx _ _ _ (Base.Le.refl _) no_res hv 0 _ rfl)) (xA (vS x) rfl ?_)
   simp only [zP, po]
   refine wK k10 (sK fun _ k11 => ?_)
   refine rL (xM (vS x) rfl ?_)
   refine xM (.slice ta ss.length tc) rfl (xC t3callable92 rfl ((setAnywhere B _ _ x ta tc ss txs htx hrt hmt hso hv).mono ?_) rfl)
   rintro e w12 ⟨rfl, hv⟩
   refine ⟨_, rfl, ?_⟩
   simp only [zP, po]
   refine xG (.bool (!(ss.any fun l => decide (x ∈ l)))) rfl (ex_not rfl rfl rfl) ?_
   simp only [zP, po]
   refine wK k11 (wpIn_cond_split (t := !(ss.any fun l => decide (x ∈ l))) rfl (fun hc13 => ?_) (fun hc13 => ?_))
   ·refine rL (xM (.slice ra out.length rc) rfl ?_)
    refine xM (vS x) rfl (sl_rowOne (v := vS x) tV (wn rfl) rfl rfl hv t3el22 rfl (fun b14 w15 hv => ?_))
    simp only [zP, po]
    replace hv := hv.front 1 rfl
    simp only [eS, eZ] at hv
    refine sl_append (news := [vS x]) tV (wn rfl) rfl rfl rfl t3el22 hv (ok_full (by omega)) rfl (rd_all (hv.get 1 rfl)) (by intro u hu; simp only [List.mem_cons, List.not_mem_nil, or_false] at hu; rcases hu with rfl <;> rfl) (by unfold maxLen; omega) (by omega) (fun rv16 w19 hv => ?_)
    obtain ⟨ra17, rc18, rfl⟩ := row_slice hv.head
    refine xA (.slice ra17 (out.length + 1) rc18) rfl (wL ?_)
    simp only [zP, po]
    refine bN (tK k9 ?_)
    refine rL (xG (vI ((i + 1 : Nat) : Int)) rfl (ex_add rfl rfl rfl (by rw [i64_in (by omega)]; omega)) ?_)
    refine xM (vI ((i + 1 : Nat) : Int)) rfl (wL ?_)
    simp only [zP, po]
    refine then_normal ?_
    go_roundw
    case rel => exact ⟨i + 1, out ++ [x], _, _, rfl, by rw [List.length_append, List.length_singleton], by omega, by rw [hout]; exact (filter_yes (p := fun x => !(ss.any fun l => decide (x ∈ l))) hx hc13).symm, row_snoc (hv.kp [] 1 1)⟩
    case measure => show s.length - (((i + 1 : Nat) : Int)).toNat < s.length - ((i : Int)).toNat; omega
   refine kS (bN ?_)
   refine tK k9 (rL ?_)
   refine xG (vI ((i + 1 : Nat) : Int)) rfl (ex_add rfl rfl rfl (by rw [i64_in (by omega)]; omega)) (xM (vI ((i + 1 : Nat) : Int)) rfl ?_)
   refine wL ?_
   simp only [zP, po]
   refine then_normal ?_
   go_roundw
   case rel => exact ⟨i + 1, out, _, _, rfl, rfl, by omega, by rw [hout]; exact (filter_no (p := fun x => !(ss.any fun l => decide (x ∈ l))) hx (by rw [hc13]; decide)).symm, hv⟩
   case measure => show s.length - (((i + 1 : Nat) : Int)).toNat < s.length - ((i : Int)).toNat; omega
  refine xG (.bool false) rfl (ex_lss rfl rfl rfl (qF hb7)) ?_
  simp only [zP, po]
  refine wK k6 (sK fun _ k20 => ?_)
  refine cF rfl (xE ?_)
  refine tX (tX ?_)
  refine bH (tK k3 ?_)
  refine sK fun _ k21 => rL (xM (.slice ra out.length rc) rfl ?_)
  refine xA (.slice ra out.length rc) rfl ?_
  simp only [zP, po]
  refine wK k21 (rR ?_)
  refine bR rfl rfl ?_
  obtain rfl : i = s.length := by omega
  rw [List.take_length] at hout
  obtain ⟨D, hD, hv, hro, hoko, -⟩ := (hv).rowBy
  exact ⟨D, ra, rc, out, hD, rfl, hoko, hro, hout, hv⟩
theorem t3callable93 : Callable Tryz.prog 93 := ⟨_, Tryz.func93, by kernel_rfl, by kernel_rfl⟩
set_option maxHeartbeats 4000000 in
theorem setInter (B : Base) (H : List Res) (w : World) (ta : Option Addr) (tc : Nat) (ss : List (List (List UInt8))) (txs : List Value) (htx : TxsAt B ss txs) (hrt : RdV B [] ta txs) (hmt : ss.length ≤ 10000) (hso : ∀ s ∈ ss, SortedT s ∧ s.length ≤ 1000000) (hokt : SliceOk ta ss.length tc) (hv : Inv B H w) :
  Calls Tryz.prog 71 #[.slice ta ss.length tc] w fun e w' => ∃ C oa oc out, B.Le C ∧ e = .returned (.slice oa out.length oc) ∧ SliceOk oa out.length oc ∧ RdV C [] oa (textCells out) ∧ ((ss = [] ∧ out = []) ∨ ∃ q, ss[0]? = some q ∧ out = interS q (ss.drop 1)) ∧ Inv C H w' := by
 refine cW Tryz.func71 rfl Tryz.ntmps71 ?_
 simp only [al]
 refine sK fun _ k1 => rL (xA (vN) rfl ?_)
 simp only [zP, po]
 refine wK k1 (sK fun _ k2 => ?_)
 refine sK fun _ k3 => rL (xM (.slice ta ss.length tc) rfl ?_)
 refine xG (vI (ss.length : Int)) rfl (ex_len0 Tryz.underlying143 rfl rfl) ?_
 by_cases hb4 : (ss.length : Int) = 0
 ·refine xG (.bool true) rfl (ex_eql rfl rfl rfl (qT hb4)) ?_
  simp only [zP, po]
  refine wK k3 (cT rfl ?_)
  refine sK fun _ k5 => rL (xA (vN) rfl ?_)
  simp only [zP, po]
  refine wK k5 (rR ?_)
  refine tR (bR rfl rfl ?_)
  obtain rfl : ss = [] := List.eq_nil_of_length_eq_zero (by omega)
  exact ⟨B, none, 0, [], Base.Le.refl _, rfl, ok_nil, rdV_nil, .inl ⟨rfl, rfl⟩, hv⟩
 refine xG (.bool false) rfl (ex_eql rfl rfl rfl (qF hb4)) ?_
 simp only [zP, po]
 refine wK k3 (cF rfl ?_)
 refine kS (tK k2 ?_)
 refine sK fun _ k6 => ?_
 obtain ⟨a3, c3, ha3, ok3, hr3⟩ := sliced_fromV 1 hokt hrt (by rw [htx.len, Nat.mul_one]) (show 1 ≤ ss.length by omega) (by decide)
 have hd1 : (ss.drop 1).length = ss.length - 1 := List.length_drop
 refine rL (xA (vN) rfl ?_)
 simp only [zP, po]
 refine wK k6 (sK fun _ k7 => ?_)
 refine sK fun _ k8 => ?_
 obtain ⟨q, hq⟩ : ∃ x, ss[0]? = some x := ⟨_, List.getElem?_eq_getElem (show 0 < ss.length by omega)⟩
 obtain ⟨tb, to, qa, qc, had, hokq, hrq, hrdq⟩ := TxsAt.reads htx hrt hq
 subst had
 have hms := (hso q (List.mem_of_getElem? hq)).2
 refine rL (xM (.slice (some ⟨tb, to, none⟩) ss.length tc) rfl ?_)
 refine xG (.pointer (some ⟨tb, to + 0, none⟩)) rfl (ex_index rfl rfl rfl (run_idx1 (k := 0) Tryz.underlying143 t3es143 (by omega))) (xL _ rfl (run_load1 s1na22 (hrdq _ _ _ (Base.Le.refl _) no_res hv 0 _ rfl)) ?_)
 simp only [zP, po]
 refine xG (vI (q.length : Int)) rfl (ex_len0 Tryz.underlying22 rfl rfl) (xM (vI 0) rfl ?_)
 simp only [zP, po]
 refine wK k8 (bB ?_)
 gi_loopw [13, 3] (fun x13 x3 wr => ∃ (i : Nat) (out : List (List UInt8)) (ra : Option Addr) (rc : Nat), x13 = vI i ∧ x3 = .slice ra out.length rc ∧ i ≤ q.length ∧ out = (q.take i).filter (fun x => (ss.drop 1).all fun l => decide (x ∈ l)) ∧ Inv B (Res.row 9 1 (.slice ra out.length rc) out.length (textCells out) :: H) wr) (fun x13 x3 _ => q.length - (intOf x13).toNat)
 case atStart => exact ⟨0, [], none, 0, rfl, rfl, Nat.zero_le _, rfl, hv.rowNil 9 1⟩
 case round =>
  obtain ⟨i, out, ra, rc, rfl, rfl, hi, hout, hv⟩ := hrel
  have hle9 : out.length ≤ q.length := by rw [hout]; exact Nat.le_trans (List.length_filter_le _ _) (by rw [List.length_take]; omega)
  refine sK fun _ k10 => rL ?_
  by_cases hb11 : (i : Int) < (q.length : Int)
  ·refine xG (.bool true) rfl (ex_lss rfl rfl rfl (qT hb11)) ?_
   simp only [zP, po]
   refine wK k10 (sK fun _ k12 => ?_)
   refine cT rfl (kS ?_)
   refine tK k12 (sK fun _ k13 => ?_)
   refine bB (sK fun _ k14 => ?_)
   obtain ⟨x, hx⟩ : ∃ x, q[i]? = some x := ⟨_, List.getElem?_eq_getElem (show i < q.length by omega)⟩
   obtain ⟨qb, qo, had, hrdx⟩ := text_reads hrq hx
   subst had
   refine rL (xG (.pointer (some ⟨qb, qo + i, none⟩)) rfl (ex_index rfl rfl rfl (run_idx1 (k := i) Tryz.underlying22 s9es22 (by omega))) ?_)
   refine xL _ rfl (run_load1 s9na9 (hrdx _ _ _ (Base.Le.refl _) no_res hv 0 _ rfl)) (xA (vS x) rfl ?_)
   simp only [zP, po]
   refine wK k14 (sK fun _ k15 => ?_)
   refine rL (xM (vS x) rfl ?_)
   refine xM (.slice (some ⟨tb, to, none⟩) ss.length tc) rfl ?_
   skip
   refine xG (.slice a3 ((ss.drop 1).length) c3) rfl (ex_slice (lo' := some (vI ((1 : Nat) : Int))) rfl rfl (congrArg some rfl) rfl rfl ((run_fromAny Tryz.underlying143 t3es143 (by omega)).trans (by rw [ha3, hd1]))) ?_
   simp only [zP, po]
   refine xC t3callable93 rfl ((setEverywhere B _ _ x a3 c3 (ss.drop 1) (txs.drop 1) (htx.drop 1) (by rw [Nat.mul_one] at hr3; exact hr3) (by rw [List.length_drop]; omega) (fun s hs => hso s (List.mem_of_mem_drop hs)) (by first | exact hv | (rw [List.length_drop]; exact hv))).mono ?_) rfl
   rintro e w16 ⟨rfl, hv⟩
   refine ⟨_, rfl, ?_⟩
   simp only [zP, po]
   refine wK k15 (wpIn_cond_split (t := (ss.drop 1).all fun l => decide (x ∈ l)) rfl (fun hc17 => ?_) (fun hc17 => ?_))
   ·refine rL (xM (.slice ra out.length rc) rfl ?_)
    refine xM (vS x) rfl (sl_rowOne (v := vS x) tV (wn rfl) rfl rfl hv t3el22 rfl (fun b18 w19 hv => ?_))
    simp only [zP, po]
    replace hv := hv.front 1 rfl
    simp only [eS, eZ] at hv
    refine sl_append (news := [vS x]) tV (wn rfl) rfl rfl rfl t3el22 hv (ok_full (by omega)) rfl (rd_all (hv.get 1 rfl)) (by intro u hu; simp only [List.mem_cons, List.not_mem_nil, or_false] at hu; rcases hu with rfl <;> rfl) (by unfold maxLen; omega) (by omega) (fun rv20 w23 hv => ?_)
    obtain ⟨ra21, rc22, rfl⟩ := row_slice hv.head
    refine xA (.slice ra21 (out.length + 1) rc22) rfl (wL ?_)
    simp only [zP, po]
    refine bN (tK k13 ?_)
    refine rL (xG (vI ((i + 1 : Nat) : Int)) rfl (ex_add rfl rfl rfl (by rw [i64_in (by omega)]; omega)) ?_)
    refine xM (vI ((i + 1 : Nat) : Int)) rfl (wL ?_)
    simp only [zP, po]
    refine then_normal ?_
    go_roundw
    case rel => exact ⟨i + 1, out ++ [x], _, _, rfl, by rw [List.length_append, List.length_singleton], by omega, by rw [hout]; exact (filter_yes (p := fun x => (ss.drop 1).all fun l => decide (x ∈ l)) hx hc17).symm, row_snoc (hv.kp [] 1 1)⟩
    case measure => show q.length - (((i + 1 : Nat) : Int)).toNat < q.length - ((i : Int)).toNat; omega
   refine kS (bN ?_)
   refine tK k13 (rL ?_)
   refine xG (vI ((i + 1 : Nat) : Int)) rfl (ex_add rfl rfl rfl (by rw [i64_in (by omega)]; omega)) (xM (vI ((i + 1 : Nat) : Int)) rfl ?_)
   refine wL ?_
   simp only [zP, po]
   refine then_normal ?_
   go_roundw
   case rel => exact ⟨i + 1, out, _, _, rfl, rfl, by omega, by rw [hout]; exact (filter_no (p := fun x => (ss.drop 1).all fun l => decide (x ∈ l)) hx (by rw [hc17]; decide)).symm, hv⟩
   case measure => show q.length - (((i + 1 : Nat) : Int)).toNat < q.length - ((i : Int)).toNat; omega
  refine xG (.bool false) rfl (ex_lss rfl rfl rfl (qF hb11)) ?_
  simp only [zP, po]
  refine wK k10 (sK fun _ k24 => ?_)
  refine cF rfl (xE ?_)
  refine tX (tX ?_)
  refine bH (tK k7 ?_)
  refine sK fun _ k25 => rL (xM (.slice ra out.length rc) rfl ?_)
  refine xA (.slice ra out.length rc) rfl ?_
  simp only [zP, po]
  refine wK k25 (rR ?_)
  refine bR rfl rfl ?_
  obtain rfl : i = q.length := by omega
  rw [List.take_length] at hout
  obtain ⟨D, hD, hv, hro, hoko, -⟩ := (hv).rowBy
  exact ⟨D, ra, rc, out, hD, rfl, hoko, hro, .inr ⟨q, hq, hout⟩, hv⟩
theorem t3mk22 : (Tryz.prog.info? 22).map (fun i => (i.zero, i.size, i.bytes)) = some (some (vN), 1, 24) := by kernel_rfl
theorem t3el143 : Elem Tryz.prog 143 22 (vN) 1 24 := elem_of Tryz.underlying143 t3mk22 (by rfl) (by decide)
theorem t3callable70 : Callable Tryz.prog 70 := ⟨_, Tryz.func70, by kernel_rfl, by kernel_rfl⟩
set_option maxHeartbeats 2000000 in
theorem setDel (B : Base) (H : List Res) (w : World) (sa : Option Addr) (sc : Nat) (s : List (List UInt8)) (hrs : RdV B [] sa (textCells s)) (hms : s.length ≤ 1000000) (xa : Option Addr) (xc : Nat) (xs : List (List UInt8)) (hokx : SliceOk xa xs.length xc) (hrx : RdV B [] xa (textCells xs)) (hmx : xs.length ≤ 1000000) (hv : Inv B H w) :
  Calls Tryz.prog 65 #[.slice sa s.length sc, .slice xa xs.length xc] w fun e w' => ∃ C oa oc out, B.Le C ∧ e = .returned (.tuple #[.slice oa out.length oc, vI ((s.length : Int) - (out.length : Int))]) ∧ SliceOk oa out.length oc ∧ RdV C [] oa (textCells out) ∧ out = diffS s [xs] ∧ Inv C H w' := by
 refine cW Tryz.func65 rfl Tryz.ntmps65 ?_
 simp only [al]
 refine sK fun _ k1 => rL (xA (vN) rfl ?_)
 refine xA (vI 0) rfl ?_
 simp only [zP, po]
 refine wK k1 (sK fun _ k2 => ?_)
 refine rL (xM (.slice sa s.length sc) rfl ?_)
 refine xM (.slice xa xs.length xc) rfl (xC t2callable88 rfl ((setOrdered B _ _ xa xc xs hokx hrx hmx hv).mono ?_) rfl)
 rintro e w3 ⟨C, fa, fc, fr, hC, rfl, hokf, hrf, hsf, hmf, hlf, hv⟩
 refine ⟨_, rfl, ?_⟩
 simp only [zP, po]
 refine sl_rowOne (v := .slice fa fr.length fc) tV (wn rfl) rfl rfl hv t3el143 rfl (fun b4 w5 hv => ?_)
 obtain ⟨D, hD, hv, hrk, -, -⟩ := (hv.cellRow (n := 1) (c := 1) (size := 1) rfl (by decide) (by decide)).rowBy
 refine xC t3callable70 rfl ((setDiff D _ _ sa sc s (hrs.more (hC.trans hD) (fun _ h => h)) hms (some ⟨b4, 0, none⟩) 1 [fr] _ (TxsAt.single ⟨fa, fc, rfl, hokf, hrf.more hD (fun _ h => h)⟩) hrk (by simp) (fun s hs => by rw [List.mem_singleton.1 hs]; exact ⟨hsf, by omega⟩) hv).mono ?_) rfl
 rintro e w6 ⟨E, oa, oc, out, hE, rfl, hoko, hro, hout, hv⟩
 refine ⟨_, rfl, ?_⟩
 have hde : diffS s [fr] = diffS s [xs] := by unfold diffS; congr 1; funext x; simp [hmf]
 rw [hde] at hout
 have hle : out.length ≤ s.length := by rw [hout]; exact List.length_filter_le _ _
 refine xA (.slice oa out.length oc) rfl ?_
 simp only [zP, po]
 refine wK k2 (sK fun _ k7 => ?_)
 refine rL (xM (.slice oa out.length oc) rfl ?_)
 refine xM (.slice sa s.length sc) rfl (xG (vI (s.length : Int)) rfl (ex_len0 Tryz.underlying22 rfl rfl) ?_)
 simp only [zP, po]
 refine xM (.slice oa out.length oc) rfl (xG (vI (out.length : Int)) rfl (ex_len0 Tryz.underlying22 rfl rfl) ?_)
 refine xG (vI ((s.length : Int) - (out.length : Int))) rfl (ex_sub rfl rfl rfl (i64_in (by omega))) ?_
 simp only [zP, po]
 refine xA (.slice oa out.length oc) rfl (xA (vI ((s.length : Int) - (out.length : Int))) rfl ?_)
 simp only [zP, po]
 refine wK k7 (rR ?_)
 refine bodyPost_ret (results_tmp2 rfl _ _ _) rfl (⟨E, oa, oc, out, ((hC.trans hD).trans hE), rfl, hoko, hro, hout, hv⟩)
end Go.Proofs.YtoljdfjnannakaaGreatDoor
/- Sets: all of some joined. -/
namespace Go.Proofs.YtoljdfjnannakaaGreatDoor
open Go.RowKit Go.Pm Go.Sort
theorem t4mk9 : (Tryz.prog.info? 9).map (fun i => (i.zero, i.size, i.bytes)) = some (some (vS []), 1, 16) := by kernel_rfl
theorem t4el22 : Elem Tryz.prog 22 9 (vS []) 1 16 := elem_of Tryz.underlying22 t4mk9 (by rfl) (by decide)
set_option maxHeartbeats 2000000 in
theorem growTexts (B : Base) (H : List Res) (w : World) (n : Nat) (hn : n ≤ 1000000) (hv : Inv B H w) :
  Calls Tryz.prog 106 #[vN, vI n] w fun e w' => ∃ v, e = .returned v ∧ Inv B (Res.row 9 1 v 0 [] :: H) w' := by
 refine cW Tryz.func106 rfl Tryz.ntmps106 ?_
 simp only [al]
 refine sK fun _ k1 => rL (xA (vN) rfl ?_)
 simp only [zP, po]
 refine wK k1 (sK fun _ k2 => ?_)
 refine sK fun _ k3 => rL (xM (vI n) rfl ?_)
 refine xG (.bool false) rfl (ex_lss rfl rfl rfl (qF (by omega))) ?_
 simp only [zP, po]
 refine wK k3 (cF rfl ?_)
 refine kS (tK k2 ?_)
 refine sK fun _ k4 => sK fun _ k5 => rL (xM (vI n) rfl ?_)
 refine xM (vN) rfl (xG (vI 0) rfl (ex_cap0 Tryz.underlying22 rfl rfl) ?_)
 simp only [zP, po]
 refine xM (vN) rfl (xG (vI 0) rfl (ex_len0 Tryz.underlying22 rfl rfl) ?_)
 refine xG (vI 0) rfl (ex_sub rfl rfl rfl (i64_in (by omega))) ?_
 simp only [zP, po]
 refine xG (vI n) rfl (ex_sub rfl rfl rfl (by rw [i64_in (by omega)]; omega)) (xA (vI n) rfl ?_)
 simp only [zP, po]
 refine wK k5 (sK fun _ k6 => ?_)
 refine rL (xM (vI n) rfl ?_)
 by_cases hb7 : (n : Int) > 0
 ·refine xG (.bool true) rfl (ex_gtr rfl rfl rfl (qT hb7)) ?_
  simp only [zP, po]
  refine wK k6 (cT rfl ?_)
  refine rL (xM (vN) rfl ?_)
  refine xM (vN) rfl (xG (vI 0) rfl (ex_cap0 Tryz.underlying22 rfl rfl) ?_)
  simp only [zP, po]
  refine xG (vN) rfl (ex_slice (hi' := some (vI ((0 : Nat) : Int))) rfl rfl rfl (congrArg some rfl) rfl (run_hiAny (n := 0) (c := 0) (h := 0) Tryz.underlying22 s9es22 (Nat.le_refl _))) (xM (vI n) rfl ?_)
  refine sl_appendZ0 (k := n) tV (wn rfl) rfl rfl rfl t4el22 Tryz.underlying3 hv (by omega) (by omega) (by omega) (fun b8 c' zs w9 hc1 hc2 hz hv => ?_)
  simp only [zP, po]
  refine xM (vN) rfl (xG (vI 0) rfl (ex_len0 Tryz.underlying22 rfl rfl) ?_)
  refine xG (.slice (some ⟨b8, 0, none⟩) 0 c') rfl (ex_slice (hi' := some (vI 0)) rfl rfl rfl (congrArg some rfl) rfl (run_hi Tryz.underlying22 s9es22 (Nat.zero_le _))) ?_
  simp only [zP, po]
  refine xA (.slice (some ⟨b8, 0, none⟩) 0 c') rfl ?_
  simp only [zP, po]
  refine wK k4 (sK fun _ k10 => ?_)
  refine rL (xM (.slice (some ⟨b8, 0, none⟩) 0 c') rfl ?_)
  refine xA (.slice (some ⟨b8, 0, none⟩) 0 c') rfl ?_
  simp only [zP, po]
  refine wK k10 (rR ?_)
  refine bR rfl rfl ?_
  have hv2 := hv.cellRow (n := 0) (c := c') (size := 1) hz (Nat.zero_le _) hc2
  rw [Nat.zero_mul, List.take_zero] at hv2
  exact ⟨_, rfl, hv2⟩
 refine xG (.bool false) rfl (ex_gtr rfl rfl rfl (qF hb7)) ?_
 simp only [zP, po]
 refine wK k6 (cF rfl ?_)
 refine kS (tK k4 ?_)
 refine sK fun _ k11 => rL (xM (vN) rfl ?_)
 refine xA (vN) rfl ?_
 simp only [zP, po]
 refine wK k11 (rR ?_)
 refine bR rfl rfl (⟨_, rfl, hv.rowNil 9 1⟩)
theorem sum_next {ss : List (List (List UInt8))} {i : Nat} {q : List (List UInt8)} (h : ss[i]? = some q) : (ss.take (i + 1)).flatten = (ss.take i).flatten ++ q := by
 rw [take_next h, List.flatten_append]; simp
theorem flat_le {ss : List (List (List UInt8))} (h : ∀ s ∈ ss, s.length ≤ 512) : ss.flatten.length ≤ ss.length * 512 := by
 induction ss with
 | nil => simp
 | cons a l ih =>
  rw [List.flatten_cons, List.length_append, List.length_cons, Nat.succ_mul]
  have := ih fun s hs => h s (List.mem_cons_of_mem _ hs)
  have := h a List.mem_cons_self
  omega
theorem flat_take_le {ss : List (List (List UInt8))} (h : ∀ s ∈ ss, s.length ≤ 512) (hm : ss.length ≤ 1000) (i : Nat) : (ss.take i).flatten.length ≤ 512000 := by
 have h1 := flat_le (ss := ss.take i) (fun s hs => h s (List.mem_of_mem_take hs))
 rw [List.length_take] at h1
 have h2 : min i ss.length * 512 ≤ 1000 * 512 := Nat.mul_le_mul_right _ (by omega)
 omega
theorem t4callable106 : Callable Tryz.prog 106 := ⟨_, Tryz.func106, by kernel_rfl, by kernel_rfl⟩
set_option maxHeartbeats 4000000 in
theorem concatTexts (B : Base) (H : List Res) (w : World) (ta : Option Addr) (tc : Nat) (ss : List (List (List UInt8))) (txs : List Value) (htx : TxsAt B ss txs) (hrt : RdV B [] ta txs) (hmt : ss.length ≤ 1000) (hsm : ∀ s ∈ ss, s.length ≤ 512) (hv : Inv B H w) :
  Calls Tryz.prog 94 #[.slice ta ss.length tc] w fun e w' => ∃ C oa oc out, B.Le C ∧ e = .returned (.slice oa out.length oc) ∧ SliceOk oa out.length oc ∧ RdV C [] oa (textCells out) ∧ out = ss.flatten ∧ Inv C H w' := by
 refine cW Tryz.func94 rfl Tryz.ntmps94 ?_
 simp only [al]
 refine sK fun _ k1 => rL (xA (vN) rfl ?_)
 simp only [zP, po]
 refine wK k1 (sK fun _ k2 => ?_)
 refine rL (xA (vI 0) rfl ?_)
 simp only [zP, po]
 refine wK k2 (sK fun _ k3 => ?_)
 refine sK fun _ k4 => rL (xM (.slice ta ss.length tc) rfl ?_)
 refine xG (vI (ss.length : Int)) rfl (ex_len0 Tryz.underlying143 rfl rfl) (xM (vI 0) rfl ?_)
 simp only [zP, po]
 refine wK k4 (bB ?_)
 gi_loopw [11, 3] (fun x11 x3 wr => ∃ (i : Nat), x11 = vI i ∧ x3 = vI (((ss.take i).flatten.length : Nat) : Int) ∧ i ≤ ss.length ∧ Inv B H wr) (fun x11 x3 _ => ss.length - (intOf x11).toNat)
 case atStart => exact ⟨0, rfl, rfl, Nat.zero_le _, hv⟩
 case round =>
  obtain ⟨i, rfl, rfl, hi, hv⟩ := hrel
  have hf0 := flat_take_le hsm hmt i
  refine sK fun _ k6 => rL ?_
  by_cases hb7 : (i : Int) < (ss.length : Int)
  ·refine xG (.bool true) rfl (ex_lss rfl rfl rfl (qT hb7)) ?_
   simp only [zP, po]
   refine wK k6 (sK fun _ k8 => ?_)
   refine cT rfl (kS ?_)
   refine tK k8 (sK fun _ k9 => ?_)
   refine bB (sK fun _ k10 => ?_)
   obtain ⟨q, hq⟩ : ∃ x, ss[i]? = some x := ⟨_, List.getElem?_eq_getElem (show i < ss.length by omega)⟩
   obtain ⟨tb, to, qa, qc, had, hokq, hrq, hrdq⟩ := TxsAt.reads htx hrt hq
   subst had
   have hql := hsm q (List.mem_of_getElem? hq)
   refine rL (xG (.pointer (some ⟨tb, to + i, none⟩)) rfl (ex_index rfl rfl rfl (run_idx1 (k := i) Tryz.underlying143 t3es143 (by omega))) ?_)
   refine xL _ rfl (run_load1 s1na22 (hrdq _ _ _ (Base.Le.refl _) no_res hv 0 _ rfl)) (xA (.slice qa q.length qc) rfl ?_)
   simp only [zP, po]
   refine wK k10 (sK fun _ k11 => ?_)
   refine rL (xM (vI ((ss.take i).flatten.length : Int)) rfl ?_)
   refine xM (.slice qa q.length qc) rfl (xG (vI (q.length : Int)) rfl (ex_len0 Tryz.underlying22 rfl rfl) ?_)
   simp only [zP, po]
   refine xG (vI (((ss.take i).flatten.length + q.length : Nat) : Int)) rfl (ex_add rfl rfl rfl (by rw [i64_in (by omega)]; omega)) (xA (vI (((ss.take i).flatten.length + q.length : Nat) : Int)) rfl ?_)
   simp only [zP, po]
   refine wK k11 (sK fun _ k12 => ?_)
   refine rL (xM (vI (((ss.take i).flatten.length + q.length : Nat) : Int)) rfl ?_)
   refine xG (.bool false) rfl (ex_lss rfl rfl rfl (qF (by omega))) ?_
   simp only [zP, po]
   refine wK k12 (cF rfl ?_)
   refine kS (bN ?_)
   refine tK k9 (rL ?_)
   refine xG (vI ((i + 1 : Nat) : Int)) rfl (ex_add rfl rfl rfl (by rw [i64_in (by omega)]; omega)) (xM (vI ((i + 1 : Nat) : Int)) rfl ?_)
   refine wL ?_
   simp only [zP, po]
   refine then_normal ?_
   go_roundw
   case rel => exact ⟨i + 1, rfl, by rw [sum_next hq, List.length_append], by omega, hv⟩
   case measure => show ss.length - (((i + 1 : Nat) : Int)).toNat < ss.length - ((i : Int)).toNat; omega
  refine xG (.bool false) rfl (ex_lss rfl rfl rfl (qF hb7)) ?_
  simp only [zP, po]
  refine wK k6 (sK fun _ k13 => ?_)
  refine cF rfl (xE ?_)
  refine tX (tX ?_)
  refine bH (tK k3 ?_)
  refine sK fun _ k14 => rL (xM (vI ((ss.take i).flatten.length : Int)) rfl ?_)
  obtain rfl : i = ss.length := by omega
  rw [List.take_length] at hf0
  have htl : (ss.take ss.length).flatten.length = ss.flatten.length := by rw [List.take_length]
  refine xC t4callable106 rfl ((growTexts B _ _ (ss.take ss.length).flatten.length (by omega) hv).mono ?_) rfl
  rintro e w15 ⟨v, rfl, hv⟩
  refine ⟨_, rfl, ?_⟩
  obtain ⟨ra0, rc0, rfl⟩ := row_slice hv.head
  refine xA (.slice ra0 0 rc0) rfl ?_
  simp only [zP, po]
  refine wK k14 (sK fun _ k16 => ?_)
  refine sK fun _ k17 => rL (xM (.slice ta ss.length tc) rfl ?_)
  refine xG (vI (ss.length : Int)) rfl (ex_len0 Tryz.underlying143 rfl rfl) (xM (vI 0) rfl ?_)
  simp only [zP, po]
  refine wK k17 (bB ?_)
  gi_loopw [27, 6] (fun x27 x6 wr => ∃ (i : Nat) (out : List (List UInt8)) (ra : Option Addr) (rc : Nat), x27 = vI i ∧ x6 = .slice ra out.length rc ∧ i ≤ ss.length ∧ out = (ss.take i).flatten ∧ Inv B (Res.row 9 1 (.slice ra out.length rc) out.length (textCells out) :: H) wr) (fun x27 x6 _ => ss.length - (intOf x27).toNat)
  case atStart => exact ⟨0, [], ra0, rc0, rfl, rfl, Nat.zero_le _, rfl, hv⟩
  case round =>
   obtain ⟨i, out, ra, rc, rfl, rfl, hi, hout, hv⟩ := hrel
   have hf0 := flat_take_le hsm hmt i
   rw [← hout] at hf0
   refine sK fun _ k19 => rL ?_
   by_cases hb20 : (i : Int) < (ss.length : Int)
   ·refine xG (.bool true) rfl (ex_lss rfl rfl rfl (qT hb20)) ?_
    simp only [zP, po]
    refine wK k19 (sK fun _ k21 => ?_)
    refine cT rfl (kS ?_)
    refine tK k21 (sK fun _ k22 => ?_)
    refine bB (sK fun _ k23 => ?_)
    obtain ⟨q, hq⟩ : ∃ x, ss[i]? = some x := ⟨_, List.getElem?_eq_getElem (show i < ss.length by omega)⟩
    obtain ⟨tb, to, qa, qc, had, hokq, hrq, hrdq⟩ := TxsAt.reads htx hrt hq
    subst had
    have hql := hsm q (List.mem_of_getElem? hq)
    refine rL (xG (.pointer (some ⟨tb, to + i, none⟩)) rfl (ex_index rfl rfl rfl (run_idx1 (k := i) Tryz.underlying143 t3es143 (by omega))) ?_)
    refine xL _ rfl (run_load1 s1na22 (hrdq _ _ _ (Base.Le.refl _) no_res hv 0 _ rfl)) (xA (.slice qa q.length qc) rfl ?_)
    simp only [zP, po]
    refine wK k23 (rL ?_)
    refine xM (.slice ra out.length rc) rfl (xM (.slice qa q.length qc) rfl ?_)
    refine sl_append (news := textCells q) tV (wn rfl) rfl rfl rfl t4el22 hv hokq (textCells_len q) ((hrq.more (Base.Le.refl _) (fun _ h => by cases h) : RdV B _ _ _).src hv) (textCells_one q) (by unfold maxLen; omega) (by omega) (fun rv24 w27 hv => ?_)
    obtain ⟨ra25, rc26, rfl⟩ := row_slice hv.head
    simp only [zP, po]
    refine xA (.slice ra25 (out.length + q.length) rc26) rfl (wL ?_)
    simp only [zP, po]
    refine bN (tK k22 ?_)
    refine rL (xG (vI ((i + 1 : Nat) : Int)) rfl (ex_add rfl rfl rfl (by rw [i64_in (by omega)]; omega)) ?_)
    refine xM (vI ((i + 1 : Nat) : Int)) rfl (wL ?_)
    simp only [zP, po]
    refine then_normal ?_
    go_roundw
    case rel => exact ⟨i + 1, out ++ q, _, _, rfl, by rw [List.length_append], by omega, by rw [sum_next hq, hout], by rw [List.length_append, ← text_app]; exact hv⟩
    case measure => show ss.length - (((i + 1 : Nat) : Int)).toNat < ss.length - ((i : Int)).toNat; omega
   refine xG (.bool false) rfl (ex_lss rfl rfl rfl (qF hb20)) ?_
   simp only [zP, po]
   refine wK k19 (sK fun _ k28 => ?_)
   refine cF rfl (xE ?_)
   refine tX (tX ?_)
   refine bH (tK k16 ?_)
   refine sK fun _ k29 => rL (xM (.slice ra out.length rc) rfl ?_)
   refine xA (.slice ra out.length rc) rfl ?_
   simp only [zP, po]
   refine wK k29 (rR ?_)
   refine bR rfl rfl ?_
   obtain rfl : i = ss.length := by omega
   rw [List.take_length] at hout
   obtain ⟨D, hD, hv, hro, hoko, -⟩ := (hv).rowBy
   exact ⟨D, ra, rc, out, hD, rfl, hoko, hro, hout, hv⟩
theorem t4callable94 : Callable Tryz.prog 94 := ⟨_, Tryz.func94, by kernel_rfl, by kernel_rfl⟩
set_option maxHeartbeats 2000000 in
theorem setUnion (B : Base) (H : List Res) (w : World) (ta : Option Addr) (tc : Nat) (ss : List (List (List UInt8))) (txs : List Value) (htx : TxsAt B ss txs) (hrt : RdV B [] ta txs) (hmt : ss.length ≤ 1000) (hsm : ∀ s ∈ ss, s.length ≤ 512) (hv : Inv B H w) :
  Calls Tryz.prog 72 #[.slice ta ss.length tc] w fun e w' => ∃ C oa oc out ec, B.Le C ∧ e = .returned (.tuple #[.slice oa out.length oc, vI ec]) ∧ SliceOk oa out.length oc ∧ RdV C [] oa (textCells out) ∧ (∃ j, JoinAll ss j ∧ ((ec = 22 ∧ out = [] ∧ 512 < j.length) ∨ (ec = 0 ∧ j.length ≤ 512 ∧ out = j))) ∧ Inv C H w' := by
 refine cW Tryz.func72 rfl Tryz.ntmps72 ?_
 simp only [al]
 refine sK fun _ k1 => rL (xA (vN) rfl ?_)
 refine xA (vI 0) rfl ?_
 simp only [zP, po]
 refine wK k1 (sK fun _ k2 => ?_)
 refine rL (xM (.slice ta ss.length tc) rfl ?_)
 refine xC t4callable94 rfl ((concatTexts B _ _ ta tc ss txs htx hrt hmt hsm hv).mono ?_) rfl
 rintro e w3 ⟨C, ca, cc, fl, hC, rfl, hokc, hrc, hfl, hv⟩
 refine ⟨_, rfl, ?_⟩
 have hfle : fl.length ≤ 512000 := by have h9 := flat_take_le hsm hmt ss.length; rw [List.take_length, ← hfl] at h9; exact h9
 refine xC t2callable88 rfl ((setOrdered C _ _ ca cc fl hokc hrc (by omega) hv).mono ?_) rfl
 rintro e w4 ⟨D, fa, fc, fr, hD, rfl, hokf, hrf, hsf, hmf, hlf, hv⟩
 refine ⟨_, rfl, ?_⟩
 simp only [zP, po]
 refine xA (.slice fa fr.length fc) rfl ?_
 simp only [zP, po]
 refine wK k2 (sK fun _ k5 => ?_)
 refine sK fun _ k6 => rL (xM (.slice fa fr.length fc) rfl ?_)
 refine xG (vI (fr.length : Int)) rfl (ex_len0 Tryz.underlying22 rfl rfl) ?_
 by_cases hb7 : (fr.length : Int) > 512
 ·refine xG (.bool true) rfl (ex_gtr rfl rfl rfl (qT hb7)) ?_
  simp only [zP, po]
  refine wK k6 (cT rfl ?_)
  refine sK fun _ k8 => rL (xA (vN) rfl ?_)
  refine xA (vI 22) rfl ?_
  simp only [zP, po]
  refine wK k8 (rR ?_)
  refine tR (bodyPost_ret (results_tmp2 rfl _ _ _) rfl ?_)
  exact ⟨D, none, 0, [], 22, (hC.trans hD), rfl, ok_nil, rdV_nil, ⟨fr, ⟨hsf, fun x => by rw [hmf, hfl]; simp⟩, .inl ⟨rfl, rfl, by omega⟩⟩, hv⟩
 refine xG (.bool false) rfl (ex_gtr rfl rfl rfl (qF hb7)) ?_
 simp only [zP, po]
 refine wK k6 (cF rfl ?_)
 refine kS (tK k5 ?_)
 refine sK fun _ k9 => rL (xM (.slice fa fr.length fc) rfl ?_)
 refine xA (.slice fa fr.length fc) rfl (xA (vI 0) rfl ?_)
 simp only [zP, po]
 refine wK k9 (rR ?_)
 refine bodyPost_ret (results_tmp2 rfl _ _ _) rfl (⟨D, fa, fc, fr, 0, (hC.trans hD), rfl, hokf, hrf, ⟨fr, ⟨hsf, fun x => by rw [hmf, hfl]; simp⟩, .inr ⟨rfl, by omega, rfl⟩⟩, hv⟩)
end Go.Proofs.YtoljdfjnannakaaGreatDoor
/- The view's keys as sets: what they have, what commands do with them; plain law. -/
namespace Go.Proofs.YtoljdfjnannakaaGreatDoor
open Go.RowKit Go.Pm
theorem setOk_iff {l : List (List UInt8)} : SetOk l ↔ l.length ≤ 512 ∧ (∀ x ∈ l, x.length ≤ 4096) ∧ SortedT l := by
 constructor
 ·rintro ⟨h1, h2⟩
  refine ⟨h1, fun x hx => ?_, ?_⟩
  ·obtain ⟨i, hi⟩ := List.mem_iff_getElem?.1 hx
   exact (h2 i x hi).1
  have step : ∀ (i : Nat) x y, l[i]? = some x → l[i + 1]? = some y → Op.bytesLess x y = true := fun i x y hx hy => (h2 (i + 1) y hy).2 i x rfl hx
  have far : ∀ (d i : Nat) x y, l[i]? = some x → l[i + d + 1]? = some y → Op.bytesLess x y = true := by
   intro d
   induction d with
   | zero => intro i x y hx hy; exact step i x y hx hy
   | succ d ih =>
    intro i x y hx hy
    obtain ⟨z, hz⟩ : ∃ z, l[i + d + 1]? = some z := ⟨_, List.getElem?_eq_getElem (by have := (List.getElem?_eq_some_iff.1 hy).1; omega)⟩
    exact lt_trans _ _ _ (ih i x z hx hz) (step (i + d + 1) z y hz hy)
  refine List.pairwise_iff_getElem.2 fun i j hi hj hij => far (j - i - 1) i _ _ (List.getElem?_eq_getElem hi) ?_
  rw [show i + (j - i - 1) + 1 = j by omega]; exact List.getElem?_eq_getElem hj
 rintro ⟨h1, h2, h3⟩
 refine ⟨h1, fun i x hx => ⟨h2 x (List.mem_of_getElem? hx), fun j y hj hy => ?_⟩⟩
 exact pair_at h3 (show j < i by omega) hy hx
def OkM (M : List (List UInt8 × Ver)) : Prop := ∀ k y, lookA M k = some y → y.gone = true ∨ PutOk k y.val y.expire
section
variable {M M' : List (List UInt8 × Ver)} {clk exp ec : Int} {key : List UInt8} {x : Val} {y : Ver}
theorem OkM.nil : OkM [] := fun k y h => by cases h
theorem OkM.upd (h : OkM M) {k : List UInt8} {y : Ver} (hy : y.gone = true ∨ PutOk k y.val y.expire) : OkM (updA M k y) := fun k2 y2 h2 => by
 rw [look_upd] at h2
 split at h2
 ·rename_i e; cases h2; subst e; exact hy
 exact h k2 y2 h2
theorem OkM.keep (h : OkM M) (hk : KeepI M clk key x exp ec M') : OkM M' := by
 rcases hk with ⟨-, h1, -, rfl⟩ | ⟨-, -, -, rfl⟩ | ⟨-, -, -, rfl⟩ | ⟨-, -, ⟨-, -, rfl⟩ | ⟨-, -, rfl⟩⟩
 ·exact h.upd (.inr h1)
 ·exact h
 ·exact h
 ·exact h.upd (.inl rfl)
 exact h
theorem keep_not (hk : KeepI M clk key x exp ec M') (he : ec ≠ 0) : M' = M := by
 rcases hk with ⟨-, -, h, -⟩ | ⟨-, -, -, rfl⟩ | ⟨-, -, -, rfl⟩ | ⟨-, -, ⟨-, h, -⟩ | ⟨-, -, rfl⟩⟩
 ·exact absurd h he
 ·rfl
 ·rfl
 ·exact absurd h he
 rfl
theorem alive_gone {y : Ver} (h : aliveB y clk = true) : y.gone = false := by
 unfold aliveB at h
 cases hy : y.gone <;> simp [hy] at h ⊢
theorem OkM.alive (h : OkM M) (hl : lookA M key = some y) (ha : aliveB y clk = true) : PutOk key y.val y.expire := by
 rcases h key y hl with h1 | h1
 ·rw [alive_gone ha] at h1; cases h1
 exact h1
theorem valOk4 {v : Val} (h : ValOk v) (hk : v.kind = 4) : SetOk v.texts ∧ 0 < v.texts.length := by
 rcases h with ⟨h1, -⟩ | ⟨h1, -⟩ | ⟨h1, -⟩ | ⟨h1, h2, h3, -⟩ | ⟨h1, -⟩
 ·omega
 ·omega
 ·omega
 ·exact ⟨h3, h2⟩
 omega
theorem OkM.set (h : OkM M) (ho : OfI M clk key 4 y ec) : SetOk y.val.texts := by
 rcases ho with ⟨-, rfl, -⟩ | ⟨-, rfl, -⟩ | ⟨-, h1, h2, h3⟩
 ·exact ⟨Nat.zero_le _, fun i x hx => by simp [zver0] at hx⟩
 ·exact ⟨Nat.zero_le _, fun i x hx => by simp [zver0] at hx⟩
 exact (valOk4 (h.alive h1 h2).2.1 h3).1
theorem OkM.sorted (h : OkM M) (ho : OfI M clk key 4 y ec) : SortedT y.val.texts := (setOk_iff.1 (h.set ho)).2.2
end
def setV (l : List (List UInt8)) : Val := ⟨4, [], [], l, []⟩
def IsF (r : Rp) : Prop := r.kind = 1
def DoneR (ec : Int) (r0 r : Rp) : Prop := (ec = 0 ∧ r = r0) ∨ (ec ≠ 0 ∧ IsF r)
def ChangeR (M : List (List UInt8 × Ver)) (clk : Int) (key : List UInt8) (add : Bool) (xs : List (List UInt8)) (M' : List (List UInt8 × Ver)) (r : Rp) : Prop :=
 ∃ y ec, OfI M clk key 4 y ec ∧ ((ec ≠ 0 ∧ M' = M ∧ IsF r) ∨ (ec = 0 ∧ ∃ out n ec2, (if add then AddR y.val.texts xs out n ec2 else (out = diffS y.val.texts [xs] ∧ n = (y.val.texts.length : Int) - out.length ∧ ec2 = 0)) ∧
  ((ec2 = 0 ∧ 0 < n ∧ ∃ ec3, KeepI M clk key (setV out) y.expire ec3 M' ∧ DoneR ec3 (rInt n) r) ∨ (¬ (ec2 = 0 ∧ 0 < n) ∧ M' = M ∧ DoneR ec2 (rInt n) r))))
def CmdR (M M' : List (List UInt8 × Ver)) (r : Rp) : Prop := OkM M' ∧ (IsF r → M' = M)
theorem isF_int {n : Int} : ¬ IsF (rInt n) := fun h => absurd (show (2 : Int) = 1 from h) (by decide)
theorem DoneR.keep {M M' : List (List UInt8 × Ver)} {clk exp ec : Int} {key : List UInt8} {x : Val} {r0 r : Rp} (hM : OkM M) (hk : KeepI M clk key x exp ec M') (hd : DoneR ec r0 r) (h0 : ¬ IsF r0) : CmdR M M' r := by
 refine ⟨hM.keep hk, fun hf => ?_⟩
 rcases hd with ⟨-, rfl⟩ | ⟨he, -⟩
 ·exact absurd hf h0
 exact keep_not hk he
theorem ChangeR.cmd {M M' : List (List UInt8 × Ver)} {clk : Int} {key : List UInt8} {add : Bool} {xs : List (List UInt8)} {r : Rp} (hM : OkM M) (h : ChangeR M clk key add xs M' r) : CmdR M M' r := by
 obtain ⟨y, ec, ho, ⟨-, rfl, -⟩ | ⟨-, out, n, ec2, -, ⟨-, -, ec3, hk, hd⟩ | ⟨-, rfl, -⟩⟩⟩ := h
 ·exact ⟨hM, fun _ => rfl⟩
 ·exact hd.keep hM hk isF_int
 exact ⟨hM, fun _ => rfl⟩
abbrev nSADD : List UInt8 := [83, 65, 68, 68]
abbrev nSCARD : List UInt8 := [83, 67, 65, 82, 68]
abbrev nSISM : List UInt8 := [83, 73, 83, 77, 69, 77, 66, 69, 82]
abbrev nSMEM : List UInt8 := [83, 77, 69, 77, 66, 69, 82, 83]
abbrev nSDIFF : List UInt8 := [83, 68, 73, 70, 70]
abbrev nSINTER : List UInt8 := [83, 73, 78, 84, 69, 82]
def AskR (M : List (List UInt8 × Ver)) (clk : Int) (name key : List UInt8) (xs : List (List UInt8)) (r : Rp) : Prop :=
 ∃ y ec, OfI M clk key 4 y ec ∧ ((ec ≠ 0 ∧ IsF r) ∨ (ec = 0 ∧ ((name = nSCARD ∧ r = rInt (y.val.texts.length : Int)) ∨ (name = nSISM ∧ ∃ x, xs[0]? = some x ∧ r = rInt (if decide (x ∈ y.val.texts) then 1 else 0)) ∨ (name = nSMEM ∧ r = rStrs y.val.texts) ∨ (name ≠ nSCARD ∧ name ≠ nSISM ∧ name ≠ nSMEM ∧ r.kind = 5))))
def SetsR (M : List (List UInt8 × Ver)) (clk : Int) (keys : List (List UInt8)) (ss : List (List (List UInt8))) (ec : Int) : Prop :=
 (ec = 0 ∧ ss.length = keys.length ∧ ∀ (i : Nat) k s, keys[i]? = some k → ss[i]? = some s → ∃ y, OfI M clk k 4 y 0 ∧ s = y.val.texts) ∨ (ec ≠ 0 ∧ ss = [] ∧ ∃ k ∈ keys, ∃ y, OfI M clk k 4 y ec)
def CombR (M : List (List UInt8 × Ver)) (clk : Int) (name : List UInt8) (keys out : List (List UInt8)) (ec : Int) : Prop :=
 ∃ ss e1, SetsR M clk keys ss e1 ∧ ((e1 ≠ 0 ∧ ec = e1 ∧ out = []) ∨ (e1 = 0 ∧ ((name = nSDIFF ∧ ec = 0 ∧ ∃ q, ss[0]? = some q ∧ out = diffS q (ss.drop 1)) ∨ (name ≠ nSDIFF ∧ name = nSINTER ∧ ec = 0 ∧ ((ss = [] ∧ out = []) ∨ ∃ q, ss[0]? = some q ∧ out = interS q (ss.drop 1))) ∨
  (name ≠ nSDIFF ∧ name ≠ nSINTER ∧ ∃ j, JoinAll ss j ∧ ((ec = 22 ∧ out = [] ∧ 512 < j.length) ∨ (ec = 0 ∧ j.length ≤ 512 ∧ out = j))))))
def MoveR (M : List (List UInt8 × Ver)) (clk : Int) (k l x : List UInt8) (M' : List (List UInt8 × Ver)) (r : Rp) : Prop :=
 ∃ y1 e1, OfI M clk k 4 y1 e1 ∧ ((e1 ≠ 0 ∧ M' = M ∧ IsF r) ∨ (e1 = 0 ∧ ∃ y2 e2, OfI M clk l 4 y2 e2 ∧ ((e2 ≠ 0 ∧ M' = M ∧ IsF r) ∨ (e2 = 0 ∧
  (((k = l ∨ x ∉ y1.val.texts) ∧ M' = M ∧ r = rInt (if decide (x ∈ y1.val.texts) then 1 else 0)) ∨ (k ≠ l ∧ x ∈ y1.val.texts ∧ ∃ out n e3, AddR y2.val.texts [x] out n e3 ∧ ((e3 ≠ 0 ∧ M' = M ∧ IsF r) ∨ (e3 = 0 ∧ ∃ M1 e4, KeepI M clk l (setV out) y2.expire e4 M1 ∧
   ((e4 ≠ 0 ∧ M' = M1 ∧ IsF r) ∨ (e4 = 0 ∧ ∃ e5, KeepI M1 clk k (setV (diffS y1.val.texts [[x]])) y1.expire e5 M' ∧ DoneR e5 (rInt 1) r))))))))))
abbrev nSDIFFS : List UInt8 := [83, 68, 73, 70, 70, 83, 84, 79, 82, 69]
abbrev nSUNIONS : List UInt8 := [83, 85, 78, 73, 79, 78, 83, 84, 79, 82, 69]
abbrev nSMOVE : List UInt8 := [83, 77, 79, 86, 69]
end Go.Proofs.YtoljdfjnannakaaGreatDoor
/- Replies: resp's makers, view.Wrong and Done. -/
namespace Go.Proofs.YtoljdfjnannakaaGreatDoor
open Go.RowKit Go.Pm
theorem rsal28 (w : World) : (Instr.alloc 28 true (.tuple #[])).run Tryz.prog w = .ok (.pointer (some ⟨w.heap.size, 0, none⟩)) (w.alloc (.cells ([vI 0, vS [], vI 0, vN] : List Value).toArray 28)) := by kernel_rfl
theorem rssz28 : (Tryz.prog.info? 28).map (·.size) = some 4 := by kernel_rfl
theorem rswd28 : Wide Tryz.prog 28 4 := wide_of (fun w => by kernel_rfl) (by kernel_rfl)
set_option maxHeartbeats 2000000 in
theorem respInt (B : Base) (H : List Res) (w : World) (n : Int) (hv : Inv B H w) :
  Calls Tryz.prog 45 #[vI n] w fun e w' => e = .returned (.agg #[vI 2, vS [], vI n, vN]) ∧ Inv B H w' := by
 refine cW Tryz.func45 rfl Tryz.ntmps45 ?_
 simp only [al]
 refine sK fun _ k1 => rL (sl_alloc tV (wn rfl) rfl hv rsal28 (fun b2 w3 hv => ?_))
 simp only [zP, po]
 refine wK k1 (sK fun _ k4 => ?_)
 refine rL (xM (vI n) rfl ?_)
 refine xG (.agg #[vI 2, vS [], vI n, vN]) rfl (ex_buildN (vs := #[(0, vI 2), (2, vI n)]) rfl (by simp only [List.map_toArray, List.map_cons, List.map_nil]; rfl) (by kernel_rfl)) (xS 0 rfl hv rssz28 rfl (by exact ⟨rfl, rfl, rfl, rfl, trivial⟩) (fun w5 hv => ?_))
 simp only [zO, sp] at hv
 simp only [zP, po]
 refine wK k4 (rR ?_)
 refine bC 0 rswd28 hv rfl rfl rfl rfl (⟨rfl, (hv.kp [] 0 1)⟩)
set_option maxHeartbeats 2000000 in
theorem respStr (B : Base) (H : List Res) (w : World) (s : List UInt8) (hv : Inv B H w) :
  Calls Tryz.prog 73 #[vS s] w fun e w' => e = .returned (.agg #[vI 3, vS s, vI 0, vN]) ∧ Inv B H w' := by
 refine cW Tryz.func73 rfl Tryz.ntmps73 ?_
 simp only [al]
 refine sK fun _ k1 => rL (sl_alloc tV (wn rfl) rfl hv rsal28 (fun b2 w3 hv => ?_))
 simp only [zP, po]
 refine wK k1 (sK fun _ k4 => ?_)
 refine rL (xM (vS s) rfl ?_)
 refine xG (.agg #[vI 3, vS s, vI 0, vN]) rfl (ex_buildN (vs := #[(0, vI 3), (1, vS s)]) rfl (by simp only [List.map_toArray, List.map_cons, List.map_nil]; rfl) (by kernel_rfl)) (xS 0 rfl hv rssz28 rfl (by exact ⟨rfl, rfl, rfl, rfl, trivial⟩) (fun w5 hv => ?_))
 simp only [zO, sp] at hv
 simp only [zP, po]
 refine wK k4 (rR ?_)
 refine bC 0 rswd28 hv rfl rfl rfl rfl (⟨rfl, (hv.kp [] 0 1)⟩)
set_option maxHeartbeats 2000000 in
theorem respWrong (B : Base) (H : List Res) (w : World) (s : List UInt8) (hv : Inv B H w) :
  Calls Tryz.prog 38 #[vS s] w fun e w' => e = .returned (.agg #[vI 1, vS s, vI 0, vN]) ∧ Inv B H w' := by
 refine cW Tryz.func38 rfl Tryz.ntmps38 ?_
 simp only [al]
 refine sK fun _ k1 => rL (sl_alloc tV (wn rfl) rfl hv rsal28 (fun b2 w3 hv => ?_))
 simp only [zP, po]
 refine wK k1 (sK fun _ k4 => ?_)
 refine rL (xM (vS s) rfl ?_)
 refine xG (.agg #[vI 1, vS s, vI 0, vN]) rfl (ex_buildN (vs := #[(0, vI 1), (1, vS s)]) rfl (by simp only [List.map_toArray, List.map_cons, List.map_nil]; rfl) (by kernel_rfl)) (xS 0 rfl hv rssz28 rfl (by exact ⟨rfl, rfl, rfl, rfl, trivial⟩) (fun w5 hv => ?_))
 simp only [zO, sp] at hv
 simp only [zP, po]
 refine wK k4 (rR ?_)
 refine bC 0 rswd28 hv rfl rfl rfl rfl (⟨rfl, (hv.kp [] 0 1)⟩)
set_option maxHeartbeats 2000000 in
theorem respNone (B : Base) (H : List Res) (w : World) (hv : Inv B H w) :
  Calls Tryz.prog 76 #[] w fun e w' => e = .returned (.agg #[vI 4, vS [], vI 0, vN]) ∧ Inv B H w' := by
 refine cW Tryz.func76 rfl Tryz.ntmps76 ?_
 simp only [al]
 refine sK fun _ k1 => rL (sl_alloc tV (wn rfl) rfl hv rsal28 (fun b2 w3 hv => ?_))
 simp only [zP, po]
 refine wK k1 (sK fun _ k4 => ?_)
 refine rL (xG (.agg #[vI 4, vS [], vI 0, vN]) rfl (ex_buildN (vs := #[(0, vI 4)]) rfl (by simp only [List.map_toArray, List.map_cons, List.map_nil]; rfl) (by kernel_rfl)) ?_)
 refine xS 0 rfl hv rssz28 rfl (by exact ⟨rfl, rfl, rfl, rfl, trivial⟩) (fun w5 hv => ?_)
 simp only [zO, sp] at hv
 simp only [zP, po]
 refine wK k4 (rR ?_)
 refine bC 0 rswd28 hv rfl rfl rfl rfl (⟨rfl, (hv.kp [] 0 1)⟩)
theorem rscallable38 : Callable Tryz.prog 38 := ⟨_, Tryz.func38, by kernel_rfl, by kernel_rfl⟩
set_option maxHeartbeats 2000000 in
theorem viewWrong (B : Base) (H : List Res) (w : World) (n : Int) (hv : Inv B H w) :
  Calls Tryz.prog 24 #[vI n] w fun e w' => ∃ s : List UInt8, e = .returned (.agg #[vI 1, vS s, vI 0, vN]) ∧ Inv B H w' := by
 refine cW Tryz.func24 rfl Tryz.ntmps24 ?_
 simp only [al]
 refine sK fun _ k1 => rL (sl_alloc tV (wn rfl) rfl hv rsal28 (fun b2 w3 hv => ?_))
 simp only [zP, po]
 refine wK k1 (sK fun _ k4 => ?_)
 refine sK fun _ k5 => rL (xM (vI n) rfl ?_)
 simp only [zP, po]
 refine wK k5 (bB ?_)
 refine sK fun _ k6 => rL ?_
 by_cases hb7 : n = 40
 ·refine xG (.bool true) rfl (ex_eql rfl rfl rfl (qT hb7)) (xA (.bool true) rfl ?_)
  simp only [zP, po]
  refine wK k6 (cT rfl ?_)
  refine sK fun _ k8 => rL (xC rscallable38 rfl ((respWrong B _ _ ([87, 82, 79, 78, 71, 84, 89, 80, 69, 32, 116, 104, 101, 32, 107, 101, 121, 32, 104, 97, 115, 32, 97, 32, 118, 97, 108, 117, 101, 32, 111, 102, 32, 97, 110, 111, 116, 104, 101, 114, 32, 107, 105, 110, 100] : List UInt8) hv).mono ?_) rfl)
  rintro e w9 ⟨rfl, hv⟩
  refine ⟨_, rfl, ?_⟩
  refine xS 0 rfl hv rssz28 rfl (by exact ⟨rfl, rfl, rfl, rfl, trivial⟩) (fun w10 hv => ?_)
  simp only [zO, sp] at hv
  simp only [zP, po]
  refine wK k8 (rR ?_)
  refine bZ (tR ?_)
  refine bC 0 rswd28 hv rfl rfl rfl rfl (⟨_, rfl, (hv.kp [] 0 1)⟩)
 refine xG (.bool false) rfl (ex_eql rfl rfl rfl (qF hb7)) (xA (.bool false) rfl ?_)
 simp only [zP, po]
 refine wK k6 (cF rfl ?_)
 refine sK fun _ k11 => rL ?_
 by_cases hb12 : n = 41
 ·refine xG (.bool true) rfl (ex_eql rfl rfl rfl (qT hb12)) (xA (.bool true) rfl ?_)
  simp only [zP, po]
  refine wK k11 (cT rfl ?_)
  refine sK fun _ k13 => rL (xC rscallable38 rfl ((respWrong B _ _ ([69, 82, 82, 32, 105, 116, 32, 105, 115, 32, 110, 111, 32, 110, 117, 109, 98, 101, 114] : List UInt8) hv).mono ?_) rfl)
  rintro e w14 ⟨rfl, hv⟩
  refine ⟨_, rfl, ?_⟩
  refine xS 0 rfl hv rssz28 rfl (by exact ⟨rfl, rfl, rfl, rfl, trivial⟩) (fun w15 hv => ?_)
  simp only [zO, sp] at hv
  simp only [zP, po]
  refine wK k13 (rR ?_)
  refine bZ (tR ?_)
  refine bC 0 rswd28 hv rfl rfl rfl rfl (⟨_, rfl, (hv.kp [] 0 1)⟩)
 refine xG (.bool false) rfl (ex_eql rfl rfl rfl (qF hb12)) (xA (.bool false) rfl ?_)
 simp only [zP, po]
 refine wK k11 (cF rfl ?_)
 refine sK fun _ k16 => rL ?_
 by_cases hb17 : n = 13
 ·refine xG (.bool true) rfl (ex_eql rfl rfl rfl (qT hb17)) (xA (.bool true) rfl ?_)
  simp only [zP, po]
  refine wK k16 (cT rfl ?_)
  refine sK fun _ k18 => rL (xC rscallable38 rfl ((respWrong B _ _ ([69, 82, 82, 32, 116, 104, 101, 32, 110, 117, 109, 98, 101, 114, 32, 105, 115, 32, 116, 111, 111, 32, 103, 114, 101, 97, 116, 32, 111, 114, 32, 116, 111, 111, 32, 115, 109, 97, 108, 108] : List UInt8) hv).mono ?_) rfl)
  rintro e w19 ⟨rfl, hv⟩
  refine ⟨_, rfl, ?_⟩
  refine xS 0 rfl hv rssz28 rfl (by exact ⟨rfl, rfl, rfl, rfl, trivial⟩) (fun w20 hv => ?_)
  simp only [zO, sp] at hv
  simp only [zP, po]
  refine wK k18 (rR ?_)
  refine bZ (tR ?_)
  refine bC 0 rswd28 hv rfl rfl rfl rfl (⟨_, rfl, (hv.kp [] 0 1)⟩)
 refine xG (.bool false) rfl (ex_eql rfl rfl rfl (qF hb17)) (xA (.bool false) rfl ?_)
 simp only [zP, po]
 refine wK k16 (cF rfl ?_)
 refine sK fun _ k21 => rL ?_
 by_cases hb22 : n = 42
 ·refine xG (.bool true) rfl (ex_eql rfl rfl rfl (qT hb22)) (xA (.bool true) rfl ?_)
  simp only [zP, po]
  refine wK k21 (cT rfl ?_)
  refine sK fun _ k23 => rL (xC rscallable38 rfl ((respWrong B _ _ ([69, 82, 82, 32, 115, 121, 110, 116, 97, 120] : List UInt8) hv).mono ?_) rfl)
  rintro e w24 ⟨rfl, hv⟩
  refine ⟨_, rfl, ?_⟩
  refine xS 0 rfl hv rssz28 rfl (by exact ⟨rfl, rfl, rfl, rfl, trivial⟩) (fun w25 hv => ?_)
  simp only [zO, sp] at hv
  simp only [zP, po]
  refine wK k23 (rR ?_)
  refine bZ (tR ?_)
  refine bC 0 rswd28 hv rfl rfl rfl rfl (⟨_, rfl, (hv.kp [] 0 1)⟩)
 refine xG (.bool false) rfl (ex_eql rfl rfl rfl (qF hb22)) (xA (.bool false) rfl ?_)
 simp only [zP, po]
 refine wK k21 (cF rfl ?_)
 refine sK fun _ k26 => rL ?_
 by_cases hb27 : n = 43
 ·refine xG (.bool true) rfl (ex_eql rfl rfl rfl (qT hb27)) (xA (.bool true) rfl ?_)
  simp only [zP, po]
  refine wK k26 (cT rfl ?_)
  refine sK fun _ k28 => rL (xC rscallable38 rfl ((respWrong B _ _ ([69, 82, 82, 32, 119, 114, 111, 110, 103, 32, 110, 117, 109, 98, 101, 114, 32, 111, 102, 32, 97, 114, 103, 117, 109, 101, 110, 116, 115] : List UInt8) hv).mono ?_) rfl)
  rintro e w29 ⟨rfl, hv⟩
  refine ⟨_, rfl, ?_⟩
  refine xS 0 rfl hv rssz28 rfl (by exact ⟨rfl, rfl, rfl, rfl, trivial⟩) (fun w30 hv => ?_)
  simp only [zO, sp] at hv
  simp only [zP, po]
  refine wK k28 (rR ?_)
  refine bZ (tR ?_)
  refine bC 0 rswd28 hv rfl rfl rfl rfl (⟨_, rfl, (hv.kp [] 0 1)⟩)
 refine xG (.bool false) rfl (ex_eql rfl rfl rfl (qF hb27)) (xA (.bool false) rfl ?_)
 simp only [zP, po]
 refine wK k26 (cF rfl ?_)
 refine sK fun _ k31 => rL ?_
 by_cases hb32 : n = 44
 ·refine xG (.bool true) rfl (ex_eql rfl rfl rfl (qT hb32)) (xA (.bool true) rfl ?_)
  simp only [zP, po]
  refine wK k31 (cT rfl ?_)
  refine sK fun _ k33 => rL (xC rscallable38 rfl ((respWrong B _ _ ([69, 82, 82, 32, 116, 104, 101, 114, 101, 32, 105, 115, 32, 110, 111, 32, 115, 117, 99, 104, 32, 112, 108, 97, 99, 101] : List UInt8) hv).mono ?_) rfl)
  rintro e w34 ⟨rfl, hv⟩
  refine ⟨_, rfl, ?_⟩
  refine xS 0 rfl hv rssz28 rfl (by exact ⟨rfl, rfl, rfl, rfl, trivial⟩) (fun w35 hv => ?_)
  simp only [zO, sp] at hv
  simp only [zP, po]
  refine wK k33 (rR ?_)
  refine bZ (tR ?_)
  refine bC 0 rswd28 hv rfl rfl rfl rfl (⟨_, rfl, (hv.kp [] 0 1)⟩)
 refine xG (.bool false) rfl (ex_eql rfl rfl rfl (qF hb32)) (xA (.bool false) rfl ?_)
 simp only [zP, po]
 refine wK k31 (cF rfl ?_)
 refine sK fun _ k36 => rL ?_
 by_cases hb37 : n = 23
 ·refine xG (.bool true) rfl (ex_eql rfl rfl rfl (qT hb37)) (xA (.bool true) rfl ?_)
  simp only [zP, po]
  refine wK k36 (cT rfl ?_)
  refine sK fun _ k38 => rL (xC rscallable38 rfl ((respWrong B _ _ ([69, 82, 82, 32, 116, 104, 101, 114, 101, 32, 105, 115, 32, 110, 111, 32, 115, 117, 99, 104, 32, 107, 101, 121] : List UInt8) hv).mono ?_) rfl)
  rintro e w39 ⟨rfl, hv⟩
  refine ⟨_, rfl, ?_⟩
  refine xS 0 rfl hv rssz28 rfl (by exact ⟨rfl, rfl, rfl, rfl, trivial⟩) (fun w40 hv => ?_)
  simp only [zO, sp] at hv
  simp only [zP, po]
  refine wK k38 (rR ?_)
  refine bZ (tR ?_)
  refine bC 0 rswd28 hv rfl rfl rfl rfl (⟨_, rfl, (hv.kp [] 0 1)⟩)
 refine xG (.bool false) rfl (ex_eql rfl rfl rfl (qF hb37)) (xA (.bool false) rfl ?_)
 simp only [zP, po]
 refine wK k36 (cF rfl ?_)
 refine sK fun _ k41 => sK fun _ k42 => rL ?_
 by_cases hb43 : n = 12
 ·refine xG (.bool true) rfl (ex_eql rfl rfl rfl (qT hb43)) (xA (.bool true) rfl ?_)
  simp only [zP, po]
  refine wK k42 (cT rfl ?_)
  refine kS (tK k41 ?_)
  refine cT rfl (sK fun _ k44 => ?_)
  refine rL (xC rscallable38 rfl ((respWrong B _ _ ([69, 82, 82, 32, 105, 116, 32, 105, 115, 32, 116, 111, 111, 32, 109, 117, 99, 104] : List UInt8) hv).mono ?_) rfl)
  rintro e w45 ⟨rfl, hv⟩
  refine ⟨_, rfl, ?_⟩
  refine xS 0 rfl hv rssz28 rfl (by exact ⟨rfl, rfl, rfl, rfl, trivial⟩) (fun w46 hv => ?_)
  simp only [zO, sp] at hv
  simp only [zP, po]
  refine wK k44 (rR ?_)
  refine bZ (tR ?_)
  refine bC 0 rswd28 hv rfl rfl rfl rfl (⟨_, rfl, (hv.kp [] 0 1)⟩)
 refine xG (.bool false) rfl (ex_eql rfl rfl rfl (qF hb43)) (xA (.bool false) rfl ?_)
 simp only [zP, po]
 refine wK k42 (cF rfl ?_)
 refine rL ?_
 by_cases hb47 : n = 22
 ·refine xG (.bool true) rfl (ex_eql rfl rfl rfl (qT hb47)) (xA (.bool true) rfl ?_)
  simp only [zP, po]
  refine wK k41 (cT rfl ?_)
  refine sK fun _ k48 => rL (xC rscallable38 rfl ((respWrong B _ _ ([69, 82, 82, 32, 105, 116, 32, 105, 115, 32, 116, 111, 111, 32, 109, 117, 99, 104] : List UInt8) hv).mono ?_) rfl)
  rintro e w49 ⟨rfl, hv⟩
  refine ⟨_, rfl, ?_⟩
  refine xS 0 rfl hv rssz28 rfl (by exact ⟨rfl, rfl, rfl, rfl, trivial⟩) (fun w50 hv => ?_)
  simp only [zO, sp] at hv
  simp only [zP, po]
  refine wK k48 (rR ?_)
  refine bZ (tR ?_)
  refine bC 0 rswd28 hv rfl rfl rfl rfl (⟨_, rfl, (hv.kp [] 0 1)⟩)
 refine xG (.bool false) rfl (ex_eql rfl rfl rfl (qF hb47)) (xA (.bool false) rfl ?_)
 simp only [zP, po]
 refine wK k41 (cF rfl ?_)
 refine sK fun _ k51 => rL ?_
 by_cases hb52 : n = 32
 ·refine xG (.bool true) rfl (ex_eql rfl rfl rfl (qT hb52)) (xA (.bool true) rfl ?_)
  simp only [zP, po]
  refine wK k51 (cT rfl ?_)
  refine sK fun _ k53 => rL (xC rscallable38 rfl ((respWrong B _ _ ([82, 69, 65, 68, 79, 78, 76, 89, 32, 105, 116, 32, 109, 97, 121, 32, 114, 101, 97, 100, 32, 97, 108, 111, 110, 101] : List UInt8) hv).mono ?_) rfl)
  rintro e w54 ⟨rfl, hv⟩
  refine ⟨_, rfl, ?_⟩
  refine xS 0 rfl hv rssz28 rfl (by exact ⟨rfl, rfl, rfl, rfl, trivial⟩) (fun w55 hv => ?_)
  simp only [zO, sp] at hv
  simp only [zP, po]
  refine wK k53 (rR ?_)
  refine bZ (tR ?_)
  refine bC 0 rswd28 hv rfl rfl rfl rfl (⟨_, rfl, (hv.kp [] 0 1)⟩)
 refine xG (.bool false) rfl (ex_eql rfl rfl rfl (qF hb52)) (xA (.bool false) rfl ?_)
 simp only [zP, po]
 refine wK k51 (cF rfl ?_)
 refine kS (bN ?_)
 refine tK k4 (sK fun _ k56 => ?_)
 refine rL (xC rscallable38 rfl ((respWrong B _ _ ([69, 82, 82, 32, 105, 116, 32, 109, 97, 121, 32, 110, 111, 116, 32, 98, 101] : List UInt8) hv).mono ?_) rfl)
 rintro e w57 ⟨rfl, hv⟩
 refine ⟨_, rfl, ?_⟩
 refine xS 0 rfl hv rssz28 rfl (by exact ⟨rfl, rfl, rfl, rfl, trivial⟩) (fun w58 hv => ?_)
 simp only [zO, sp] at hv
 simp only [zP, po]
 refine wK k56 (rR ?_)
 refine bC 0 rswd28 hv rfl rfl rfl rfl (⟨_, rfl, (hv.kp [] 0 1)⟩)
theorem rscallable24 : Callable Tryz.prog 24 := ⟨_, Tryz.func24, by kernel_rfl, by kernel_rfl⟩
set_option maxHeartbeats 2000000 in
theorem viewDone (B : Base) (H : List Res) (w : World) (n k m : Int) (s0 : List UInt8) (v : Value) (_ : v.cells = #[v]) (h2 : v.oneCell' = true) (hv : Inv B H w) :
  Calls Tryz.prog 42 #[vI n, .agg #[vI k, vS s0, vI m, v]] w fun e w' => ∃ x, ((n = 0 ∧ x = .agg #[vI k, vS s0, vI m, v]) ∨ (n ≠ 0 ∧ ∃ s : List UInt8, x = .agg #[vI 1, vS s, vI 0, vN])) ∧ e = .returned x ∧ Inv B H w' := by
 refine cW Tryz.func42 rfl Tryz.ntmps42 ?_
 simp only [al]
 refine sK fun _ k1 => rL (sl_box (L := [vI k, vS s0, vI m, v]) tV (wn rfl) rfl rfl hv (fun w => by kernel_rfl) (fun b2 w3 hv => ?_))
 refine sl_alloc tV (wn rfl) rfl hv rsal28 (fun b4 w5 hv => ?_)
 simp only [zP, po]
 refine wK k1 (sK fun _ k6 => ?_)
 refine sK fun _ k7 => rL (xM (vI n) rfl ?_)
 by_cases hb8 : n ≠ 0
 ·refine xG (.bool true) rfl (ex_neq rfl rfl rfl (qT hb8)) ?_
  simp only [zP, po]
  refine wK k7 (cT rfl ?_)
  refine sK fun _ k9 => rL (xM (vI n) rfl ?_)
  refine xC rscallable24 rfl ((viewWrong B _ _ n hv).mono ?_) rfl
  rintro e w11 ⟨s10, rfl, hv⟩
  refine ⟨_, rfl, ?_⟩
  refine xS 0 rfl hv rssz28 rfl (by exact ⟨rfl, rfl, rfl, rfl, trivial⟩) (fun w12 hv => ?_)
  simp only [zO, sp] at hv
  simp only [zP, po]
  refine wK k9 (rR ?_)
  refine tR (bC 0 rswd28 hv rfl rfl rfl rfl ?_)
  exact ⟨_, .inr ⟨by omega, _, rfl⟩, rfl, (hv.kp [] 0 2)⟩
 refine xG (.bool false) rfl (ex_neq rfl rfl rfl (qF hb8)) ?_
 simp only [zP, po]
 refine wK k7 (cF rfl ?_)
 refine kS (tK k6 ?_)
 refine sK fun _ k13 => rL (xL (.agg #[vI k, vS s0, vI m, v]) rfl (lM 1 rswd28 hv rfl rfl rfl rfl) ?_)
 refine xS 0 rfl hv rssz28 rfl (by exact ⟨rfl, rfl, rfl, h2, trivial⟩) (fun w14 hv => ?_)
 simp only [zO, sp] at hv
 simp only [zP, po]
 refine wK k13 (rR ?_)
 refine bC 0 rswd28 hv rfl rfl rfl rfl (⟨_, .inl ⟨by omega, rfl⟩, rfl, (hv.kp [] 0 2)⟩)
end Go.Proofs.YtoljdfjnannakaaGreatDoor
/-
  DERIVED: THE SHELF's CONTRACTS AT THIS DUMP, IN PLAIN WORDS (tools/lay-plain.mjs out of 'YtoljdfjnannakaaGreatDoorShSoft.lean', which tools/lay-shelf.mjs wrote): THE SAME DECLARATIONS UNDER THE SAME NAMES: 'import', 'namespace', 'open', 'def', 'theorem' AND NOTHING ELSE: no command of the shelf's: FOR A HAND-IN. Each laying: the table of numbers ('.._ren') and one theorem, a field a fact of the dump's own or the kernel's comparison; each contract: ONE APPLICATION.
-/
namespace Go.Proofs
open Go.Shelf
def Tryz.laysPI_ren : Go.Shelf.Ren := ⟨fun | 174 => 107 | 247 => 114 | 245 => 115 | 287 => 133 | 279 => 134 | 280 => 135 | 281 => 136 | 282 => 137 | 321 => 151 | 322 => 152 | 316 => 153 | 171 => 155 | 205 => 154 | 243 => 159 | 246 => 110 | 283 => 119 | 284 => 120 | 285 => 121 | 286 => 122 | 129 => 132 | 317 => 142 | 318 => 143 | 319 => 144 | 320 => 145 | 337 => 156 | 338 => 157 | n => n, fun | 9 => 9 | 3 => 3 | 2 => 2 | 75 => 190 | 85 => 191 | 4 => 4 | 167 => 225 | 5 => 5 | 53 => 195 | 175 => 226 | 46 => 186 | 168 => 228 | 37 => 213 | 0 => 0 | 210 => 247 | 21 => 21 | 127 => 252 | 145 => 255 | 143 => 253 | 171 => 210 | 173 => 214 | 212 => 236 | 51 => 224 | 20 => 20 | 213 => 237 | 232 => 256 | 233 => 257 | 80 => 258 | n => n, fun | 15 => 1 | 16 => 2 | 17 => 0 | 18 => 3 | 19 => 4 | n => n⟩
theorem Tryz.laysPI : Go.Proofs.LaysC.n174 Tryz.prog Tryz.laysPI_ren := {
 mixed := by kernel_rfl
 f129 := Tryz.func132.trans (congrArg some (by kernel_rfl))
 f171 := Tryz.func155.trans (congrArg some (by kernel_rfl))
 f174 := Tryz.func107.trans (congrArg some (by kernel_rfl))
 f205 := Tryz.func154.trans (congrArg some (by kernel_rfl))
 f243 := Tryz.func159.trans (congrArg some (by kernel_rfl))
 f245 := Tryz.func115.trans (congrArg some (by kernel_rfl))
 f246 := Tryz.func110.trans (congrArg some (by kernel_rfl))
 f247 := Tryz.func114.trans (congrArg some (by kernel_rfl))
 f279 := Tryz.func134.trans (congrArg some (by kernel_rfl))
 f280 := Tryz.func135.trans (congrArg some (by kernel_rfl))
 f281 := Tryz.func136.trans (congrArg some (by kernel_rfl))
 f282 := Tryz.func137.trans (congrArg some (by kernel_rfl))
 f283 := Tryz.func119.trans (congrArg some (by kernel_rfl))
 f284 := Tryz.func120.trans (congrArg some (by kernel_rfl))
 f285 := Tryz.func121.trans (congrArg some (by kernel_rfl))
 f286 := Tryz.func122.trans (congrArg some (by kernel_rfl))
 f287 := Tryz.func133.trans (congrArg some (by kernel_rfl))
 f316 := Tryz.func153.trans (congrArg some (by kernel_rfl))
 f317 := Tryz.func142.trans (congrArg some (by kernel_rfl))
 f318 := Tryz.func143.trans (congrArg some (by kernel_rfl))
 f319 := Tryz.func144.trans (congrArg some (by kernel_rfl))
 f320 := Tryz.func145.trans (congrArg some (by kernel_rfl))
 f321 := Tryz.func151.trans (congrArg some (by kernel_rfl))
 f322 := Tryz.func152.trans (congrArg some (by kernel_rfl))
 f337 := Tryz.func156.trans (congrArg some (by kernel_rfl))
 f338 := Tryz.func157.trans (congrArg some (by kernel_rfl))
 t0 := Tryz.underlying0
 a0 := Tryz.isAgg0
 z0 := Tryz.sizeOf0
 v0 := Tryz.zeroValue0
 t2 := Tryz.underlying2
 a2 := Tryz.isAgg2
 z2 := Tryz.sizeOf2
 v2 := Tryz.zeroValue2
 t3 := Tryz.underlying3
 a3 := Tryz.isAgg3
 z3 := Tryz.sizeOf3
 v3 := Tryz.zeroValue3
 t4 := Tryz.underlying4
 a4 := Tryz.isAgg4
 z4 := Tryz.sizeOf4
 v4 := Tryz.zeroValue4
 t5 := Tryz.underlying5
 a5 := Tryz.isAgg5
 z5 := Tryz.sizeOf5
 v5 := Tryz.zeroValue5
 t9 := Tryz.underlying9
 a9 := Tryz.isAgg9
 z9 := Tryz.sizeOf9
 v9 := Tryz.zeroValue9
 t20 := Tryz.underlying20
 a20 := Tryz.isAgg20
 z20 := Tryz.sizeOf20
 v20 := Tryz.zeroValue20
 t21 := Tryz.underlying21
 a21 := Tryz.isAgg21
 z21 := Tryz.sizeOf21
 v21 := Tryz.zeroValue21
 t37 := Tryz.underlying213
 a37 := Tryz.isAgg213
 z37 := Tryz.sizeOf213
 v37 := Tryz.zeroValue213
 t46 := Tryz.underlying186
 a46 := Tryz.isAgg186
 z46 := Tryz.sizeOf186
 v46 := Tryz.zeroValue186
 t51 := Tryz.underlying224
 a51 := Tryz.isAgg224
 z51 := Tryz.sizeOf224
 v51 := Tryz.zeroValue224
 t53 := Tryz.underlying195
 a53 := Tryz.isAgg195
 z53 := Tryz.sizeOf195
 v53 := Tryz.zeroValue195
 t75 := Tryz.underlying190
 a75 := Tryz.isAgg190
 z75 := Tryz.sizeOf190
 v75 := Tryz.zeroValue190
 t85 := Tryz.underlying191
 a85 := Tryz.isAgg191
 z85 := Tryz.sizeOf191
 v85 := Tryz.zeroValue191
 t127 := Tryz.underlying252
 a127 := Tryz.isAgg252
 z127 := Tryz.sizeOf252
 v127 := Tryz.zeroValue252
 t143 := Tryz.underlying253
 a143 := Tryz.isAgg253
 z143 := Tryz.sizeOf253
 v143 := Tryz.zeroValue253
 t145 := Tryz.underlying255
 a145 := Tryz.isAgg255
 z145 := Tryz.sizeOf255
 v145 := Tryz.zeroValue255
 t167 := Tryz.underlying225
 a167 := Tryz.isAgg225
 z167 := Tryz.sizeOf225
 v167 := Tryz.zeroValue225
 t168 := Tryz.underlying228
 a168 := Tryz.isAgg228
 z168 := Tryz.sizeOf228
 v168 := Tryz.zeroValue228
 t171 := Tryz.underlying210
 a171 := Tryz.isAgg210
 z171 := Tryz.sizeOf210
 v171 := Tryz.zeroValue210
 t173 := Tryz.underlying214
 a173 := Tryz.isAgg214
 z173 := Tryz.sizeOf214
 v173 := Tryz.zeroValue214
 t175 := Tryz.underlying226
 a175 := Tryz.isAgg226
 z175 := Tryz.sizeOf226
 v175 := Tryz.zeroValue226
 t210 := Tryz.underlying247
 a210 := Tryz.isAgg247
 z210 := Tryz.sizeOf247
 v210 := Tryz.zeroValue247
 t212 := Tryz.underlying236
 a212 := Tryz.isAgg236
 z212 := Tryz.sizeOf236
 v212 := Tryz.zeroValue236
 t213 := Tryz.underlying237
 a213 := Tryz.isAgg237
 z213 := Tryz.sizeOf237
 t232 := Tryz.underlying256
 a232 := Tryz.isAgg256
 z232 := Tryz.sizeOf256
 v232 := Tryz.zeroValue256
 t233 := Tryz.underlying257
 a233 := Tryz.isAgg257
 z233 := Tryz.sizeOf257
 v233 := Tryz.zeroValue257
 g15 := by kernel_rfl
 g16 := by kernel_rfl
 g17 := by kernel_rfl
 g18 := by kernel_rfl
 g19 := by kernel_rfl
 t80 := Tryz.underlying258
 a80 := Tryz.isAgg258
 z80 := Tryz.sizeOf258
 v80 := Tryz.zeroValue258
 i0 := by kernel_rfl
 i2 := by kernel_rfl
 i3 := by kernel_rfl
 i4 := by kernel_rfl
 i5 := by kernel_rfl
 i9 := by kernel_rfl
 i20 := by kernel_rfl
 i21 := by kernel_rfl
 i37 := by kernel_rfl
 i46 := by kernel_rfl
 i51 := by kernel_rfl
 i53 := by kernel_rfl
 i75 := by kernel_rfl
 i80 := by kernel_rfl
 i85 := by kernel_rfl
 i127 := by kernel_rfl
 i143 := by kernel_rfl
 i145 := by kernel_rfl
 i167 := by kernel_rfl
 i168 := by kernel_rfl
 i171 := by kernel_rfl
 i173 := by kernel_rfl
 i175 := by kernel_rfl
 i210 := by kernel_rfl
 i212 := by kernel_rfl
 i232 := by kernel_rfl
 i233 := by kernel_rfl
 m15 := by kernel_rfl
 m16 := by kernel_rfl
 m17 := by kernel_rfl
 m18 := by kernel_rfl
 m19 := by kernel_rfl
 c0 := by kernel_rfl
 c2 := by kernel_rfl
 c3 := by kernel_rfl
 c4 := by kernel_rfl
 c5 := by kernel_rfl
 c9 := by kernel_rfl
 c20 := by kernel_rfl
 c21 := by kernel_rfl
 c37 := by kernel_rfl
 c46 := by kernel_rfl
 c51 := by kernel_rfl
 c53 := by kernel_rfl
 c75 := by kernel_rfl
 c80 := by kernel_rfl
 c85 := by kernel_rfl
 c127 := by kernel_rfl
 c143 := by kernel_rfl
 c145 := by kernel_rfl
 c167 := by kernel_rfl
 c168 := by kernel_rfl
 c171 := by kernel_rfl
 c173 := by kernel_rfl
 c175 := by kernel_rfl
 c210 := by kernel_rfl
 c212 := by kernel_rfl
 c213 := by kernel_rfl
 c232 := by kernel_rfl
 c233 := by kernel_rfl }
def Tryz.laysFI_ren : Go.Shelf.Ren := ⟨fun | 173 => 99 | 246 => 110 | 283 => 119 | 284 => 120 | 285 => 121 | 286 => 122 | 129 => 132 | 317 => 142 | 318 => 143 | 319 => 144 | 320 => 145 | 337 => 156 | 338 => 157 | n => n, fun | 2 => 2 | 3 => 3 | 9 => 9 | 4 => 4 | 171 => 210 | 0 => 0 | 53 => 195 | 37 => 213 | 5 => 5 | 173 => 214 | 212 => 236 | 51 => 224 | 20 => 20 | 213 => 237 | 46 => 186 | 232 => 256 | 233 => 257 | n => n, fun | 17 => 0 | 18 => 3 | 19 => 4 | n => n⟩
theorem Tryz.laysFI : Go.Proofs.LaysM.n173 Tryz.prog Tryz.laysFI_ren := {
 mixed := by kernel_rfl
 f129 := Tryz.func132.trans (congrArg some (by kernel_rfl))
 f173 := Tryz.func99.trans (congrArg some (by kernel_rfl))
 f246 := Tryz.func110.trans (congrArg some (by kernel_rfl))
 f283 := Tryz.func119.trans (congrArg some (by kernel_rfl))
 f284 := Tryz.func120.trans (congrArg some (by kernel_rfl))
 f285 := Tryz.func121.trans (congrArg some (by kernel_rfl))
 f286 := Tryz.func122.trans (congrArg some (by kernel_rfl))
 f317 := Tryz.func142.trans (congrArg some (by kernel_rfl))
 f318 := Tryz.func143.trans (congrArg some (by kernel_rfl))
 f319 := Tryz.func144.trans (congrArg some (by kernel_rfl))
 f320 := Tryz.func145.trans (congrArg some (by kernel_rfl))
 f337 := Tryz.func156.trans (congrArg some (by kernel_rfl))
 f338 := Tryz.func157.trans (congrArg some (by kernel_rfl))
 t0 := Tryz.underlying0
 a0 := Tryz.isAgg0
 z0 := Tryz.sizeOf0
 v0 := Tryz.zeroValue0
 t2 := Tryz.underlying2
 a2 := Tryz.isAgg2
 z2 := Tryz.sizeOf2
 v2 := Tryz.zeroValue2
 t3 := Tryz.underlying3
 a3 := Tryz.isAgg3
 z3 := Tryz.sizeOf3
 v3 := Tryz.zeroValue3
 t4 := Tryz.underlying4
 a4 := Tryz.isAgg4
 z4 := Tryz.sizeOf4
 v4 := Tryz.zeroValue4
 t5 := Tryz.underlying5
 a5 := Tryz.isAgg5
 z5 := Tryz.sizeOf5
 v5 := Tryz.zeroValue5
 t9 := Tryz.underlying9
 a9 := Tryz.isAgg9
 z9 := Tryz.sizeOf9
 v9 := Tryz.zeroValue9
 t20 := Tryz.underlying20
 a20 := Tryz.isAgg20
 z20 := Tryz.sizeOf20
 v20 := Tryz.zeroValue20
 t37 := Tryz.underlying213
 a37 := Tryz.isAgg213
 z37 := Tryz.sizeOf213
 v37 := Tryz.zeroValue213
 t46 := Tryz.underlying186
 a46 := Tryz.isAgg186
 z46 := Tryz.sizeOf186
 v46 := Tryz.zeroValue186
 t51 := Tryz.underlying224
 a51 := Tryz.isAgg224
 z51 := Tryz.sizeOf224
 v51 := Tryz.zeroValue224
 t53 := Tryz.underlying195
 a53 := Tryz.isAgg195
 z53 := Tryz.sizeOf195
 v53 := Tryz.zeroValue195
 t171 := Tryz.underlying210
 a171 := Tryz.isAgg210
 z171 := Tryz.sizeOf210
 v171 := Tryz.zeroValue210
 t173 := Tryz.underlying214
 a173 := Tryz.isAgg214
 z173 := Tryz.sizeOf214
 v173 := Tryz.zeroValue214
 t212 := Tryz.underlying236
 a212 := Tryz.isAgg236
 z212 := Tryz.sizeOf236
 v212 := Tryz.zeroValue236
 t213 := Tryz.underlying237
 a213 := Tryz.isAgg237
 z213 := Tryz.sizeOf237
 t232 := Tryz.underlying256
 a232 := Tryz.isAgg256
 z232 := Tryz.sizeOf256
 v232 := Tryz.zeroValue256
 t233 := Tryz.underlying257
 a233 := Tryz.isAgg257
 z233 := Tryz.sizeOf257
 v233 := Tryz.zeroValue257
 g17 := by kernel_rfl
 g18 := by kernel_rfl
 g19 := by kernel_rfl
 i0 := by kernel_rfl
 i2 := by kernel_rfl
 i3 := by kernel_rfl
 i4 := by kernel_rfl
 i5 := by kernel_rfl
 i9 := by kernel_rfl
 i20 := by kernel_rfl
 i37 := by kernel_rfl
 i46 := by kernel_rfl
 i51 := by kernel_rfl
 i53 := by kernel_rfl
 i171 := by kernel_rfl
 i173 := by kernel_rfl
 i212 := by kernel_rfl
 i232 := by kernel_rfl
 i233 := by kernel_rfl
 m17 := by kernel_rfl
 m18 := by kernel_rfl
 m19 := by kernel_rfl }
end Go.Proofs
/- Decimal forms: what is parsed of what is printed. No program in it. -/
namespace Go.Pm
open Go.Lib
theorem parseUint10_append {r : List UInt8} : ∀ (l : List UInt8) (a b : Nat), parseUint10 a l = .ok b → parseUint10 a (l ++ r) = parseUint10 b r
 | [], a, b, h => by
  simp only [parseUint10, NumEnd.ok.injEq] at h
  subst h; rfl
 | c :: l, a, b, h => by
  simp only [parseUint10] at h
  simp only [List.cons_append, parseUint10]
  split at h
  ·rename_i h1
   rw [if_pos h1]
   split at h
   ·cases h
   rename_i h2
   rw [if_neg h2]
   split at h
   ·cases h
   rename_i h3
   rw [if_neg h3]
   exact parseUint10_append l _ b h
  cases h
theorem dig_toNat {d : Nat} (h : d < 10) : (UInt8.ofNat (48 + d)).toNat = 48 + d := by
 rw [UInt8.toNat_ofNat']
 exact Nat.mod_eq_of_lt (by omega)
theorem parse_dec (u : Nat) (h : u < 18446744073709551616) : parseUint10 0 (decDigits u) = .ok u := by
 induction u using Nat.strongRecOn with
 | _ u ih =>
  rw [decDigits]
  split
  ·rename_i h1
   simp only [parseUint10, dig_toNat h1]
   rw [if_pos (by omega), if_neg (by omega), if_neg (by omega)]
   congr 1
   omega
  rename_i h1
  rw [parseUint10_append _ 0 (u / 10) (ih (u / 10) (by omega) (by omega))]
  have hd : u % 10 < 10 := Nat.mod_lt _ (by omega)
  simp only [parseUint10, dig_toNat hd]
  rw [if_pos (by omega), if_neg (by omega), if_neg (by omega)]
  congr 1
  omega
theorem dec_bytes (u : Nat) : ∀ c ∈ decDigits u, 48 ≤ c.toNat ∧ c.toNat ≤ 57 := by
 induction u using Nat.strongRecOn with
 | _ u ih =>
  intro c hc
  rw [decDigits] at hc
  split at hc
  ·rename_i h1
   simp only [List.mem_singleton] at hc
   subst hc
   rw [dig_toNat h1]; omega
  rename_i h1
  rcases List.mem_append.1 hc with hc | hc
  ·exact ih (u / 10) (by omega) c hc
  simp only [List.mem_singleton] at hc
  subst hc
  rw [dig_toNat (Nat.mod_lt _ (by omega))]; omega
theorem dec_ne (u : Nat) : decDigits u ≠ [] := by
 rw [decDigits]
 split <;> simp
theorem parseMag_dec (u : Nat) (h : u < 18446744073709551616) : parseMag (decDigits u) = .ok u := by
 unfold parseMag
 rw [if_neg (dec_ne u), parse_dec u h]
theorem parse_itoa (n : Int) (h0 : -9223372036854775808 ≤ n) (h1 : n ≤ 9223372036854775807) : parseIntB 64 (itoa n) = .ok n := by
 rw [parseIntB_64]
 unfold itoa
 split
 ·rename_i hn
  have h45 : (45 : UInt8).toNat = 45 := rfl
  simp only [atoiAll, h45]
  rw [if_pos (by simp), parseMag_dec _ (by omega)]
  simp only [not_true_eq_false, false_and, if_false, true_and, if_true]
  rw [if_neg (by omega)]
  congr 1
  omega
 rename_i hn
 have hm := parseMag_dec n.toNat (by omega)
 have hb := dec_bytes n.toNat
 cases hl : decDigits n.toNat with
 | nil => exact absurd hl (dec_ne _)
 | cons c r =>
  rw [hl] at hm hb
  have hc := hb c (by simp)
  have h43 : ¬ c.toNat = 43 := by omega
  have h45 : ¬ c.toNat = 45 := by omega
  simp only [atoiAll, h43, h45, or_self, if_false, hm, not_false_eq_true, true_and, false_and]
  rw [if_neg (by omega)]
  congr 1
  omega
theorem nDigits_le : ∀ (k u : Nat), u < 10 ^ (k + 1) → nDigits u ≤ k + 1
 | 0, u, h => by rw [nDigits_small (by simpa using h)]; exact Nat.le_refl _
 | k + 1, u, h => by
  by_cases hu : u < 10
  ·rw [nDigits_small hu]; omega
  rw [nDigits_big hu]
  have := nDigits_le k (u / 10) (by rw [Nat.pow_succ] at h; omega)
  omega
theorem itoa_length (n : Int) (h0 : -9223372036854775808 ≤ n) (h1 : n ≤ 9223372036854775807) : 1 ≤ (itoa n).length ∧ (itoa n).length ≤ 20 := by
 have hp : (10 : Nat) ^ 19 = 10000000000000000000 := by decide
 unfold itoa
 split
 ·have := nDigits_le 18 n.natAbs (by rw [hp]; omega)
  simp only [List.length_cons, decDigits_length]; omega
 have := nDigits_le 18 n.toNat (by rw [hp]; omega)
 have := nDigits_pos n.toNat
 rw [decDigits_length]; omega
end Go.Pm
/- num.Print and num.Parse over strconv. -/
namespace Go.Proofs.YtoljdfjnannakaaGreatDoor
open Go.RowKit Go.Pm
def FormatsInt (B : Base) (H : List Res) : Prop := ∀ (w : World) (n : Int), -9223372036854775808 ≤ n → n ≤ 9223372036854775807 → Inv B H w →
 Calls Tryz.prog 99 #[vI n, vI 10] w fun e w' => e = .returned (vS (Lib.itoa n)) ∧ Inv B H w'
theorem ex_ifaceNil {P : Program} {o : Oper} {a : Act} {w : World} {t u : TypeId} {x : Operand} {c : Value} (hu : P.underlying t = some (.interface (P.methodsAt t))) (ho : o.op = .binOp .neq t x (.const c) u) (hx : a.eval x = .nilIface) (hy : a.eval (.const c) = .nilIface) : Ex P a o w (.bool false) w := by
 have hg : (eqGuard .neq t x (.const c) .nilIface .nilIface).run P w = .ok () w := by simp [eqGuard]
 have hr : (binOp .neq t .nilIface .nilIface).run P w = .ok (.bool false) w := by simp [binOp, run_equal_nil_nil w t hu]
 unfold Ex; simp [execOp, ho, hx, hy, hg, hr]
theorem prcallable99 : Callable Tryz.prog 99 := ⟨_, Tryz.func99, by kernel_rfl, by kernel_rfl⟩
set_option maxHeartbeats 2000000 in
theorem numPrint (B : Base) (H : List Res) (hF : FormatsInt B H) (w : World) (n : Int) (h0 : -9223372036854775808 ≤ n) (h1 : n ≤ 9223372036854775807) (hv : Inv B H w) :
  Calls Tryz.prog 79 #[vI n] w fun e w' => e = .returned (vS (Lib.itoa n)) ∧ Inv B H w' := by
 refine cW Tryz.func79 rfl Tryz.ntmps79 ?_
 simp only [al]
 refine sK fun _ k1 => rL (xA (vS []) rfl ?_)
 simp only [zP, po]
 refine wK k1 (sK fun _ k2 => ?_)
 refine rL (xM (vI n) rfl ?_)
 refine xC prcallable99 rfl ((hF _ n h0 h1 hv).mono ?_) rfl
 rintro e w3 ⟨rfl, hv⟩
 refine ⟨_, rfl, ?_⟩
 refine xA (vS (Lib.itoa n)) rfl ?_
 simp only [zP, po]
 refine wK k2 (rR ?_)
 refine bR rfl rfl (⟨rfl, hv⟩)
end Go.Proofs.YtoljdfjnannakaaGreatDoor
/- What the held state needs of strconv: FormatInt and ParseInt in base ten, from the shelf. -/
namespace Go.Proofs.YtoljdfjnannakaaGreatDoor
open Go.RowKit Go.Pm
theorem bytesWorld_ext (w : World) (e : TypeId) (t : ByteArray) : Ext w (Lib.bytesWorld w e t) := by
 have h : ∀ k, k < w.heap.size → (Lib.bytesWorld w e t).heap[k]? = w.heap[k]? := by
  intro k hk
  unfold Lib.bytesWorld World.freeze
  split
  ·show (w.heap.push _)[k]? = _
   rw [Array.getElem?_push_lt hk, Array.getElem?_eq_getElem hk]
  show ((w.heap.push _).modify w.heap.size _)[k]? = _
  rw [Array.getElem?_modify, if_neg (by omega), Array.getElem?_push_lt hk, Array.getElem?_eq_getElem hk]
 have hs : w.heap.size ≤ (Lib.bytesWorld w e t).heap.size := by
  unfold Lib.bytesWorld World.freeze
  split
  ·show _ ≤ (w.heap.push _).size
   simp
  show _ ≤ ((w.heap.push _).modify _ _).size
  simp
 refine ⟨?_, ?_, ?_, hs, h⟩ <;> (unfold Lib.bytesWorld World.freeze; split <;> rfl)
theorem growN_ext (w : World) (k : Nat) (os : Array Obj) : Ext w (Go.Sort.grow (w.drewN k) os) := by
 refine ⟨rfl, rfl, rfl, ?_, fun b hb => ?_⟩
 ·show _ ≤ (w.heap ++ os).size
  simp
 show (w.heap ++ os)[b]? = _
 rw [Array.getElem?_append_left hb]
theorem tab_below {P : Program} {W w : World} {n : String} {k : IntKind} {l : List Int} (h : Lib.TabIs P W n k l) (hb : Below W.heap.size W w) : Lib.TabIs P w n k l := by
 unfold Lib.TabIs World.var? at h ⊢
 cases hg : P.globalNamed n with
 | none => rw [hg] at h; cases h
 | some g =>
  rw [hg] at h
  simp only [Option.bind_some] at h ⊢
  have hlt : g < W.heap.size := by
   rcases Nat.lt_or_ge g W.heap.size with hlt | hge
   ·exact hlt
   rw [Array.getElem?_eq_none hge] at h; cases h
  rw [hb.block g hlt]; exact h
theorem formatsInt (B : Base) (H : List Res) (W : World) (hB : (Base.of W).Le B) (ht : Lib.TabIs Tryz.prog W "internal/strconv.uint64pow10" .u64 Lib.pow10Tab) : FormatsInt B H := fun w n h0 h1 hv => by
 have h : Calls Tryz.prog 99 #[vI n, vI 10] w _ := Any.strconv_FormatInt_10 Tryz.laysFI n h0 h1 w (tab_below ht (hv.below hB))
 refine h.mono ?_
 rintro e w' ⟨rfl, k, os, rfl⟩
 exact ⟨rfl, hv.ext (growN_ext w k os)⟩
end Go.Proofs.YtoljdfjnannakaaGreatDoor
/- num.Parse of any text; what it needs of strconv, from the shelf. -/
namespace Go.Proofs.YtoljdfjnannakaaGreatDoor
open Go.RowKit Go.Pm
def NumP (s : List UInt8) (n : Int) (b : Bool) : Prop := (b = true ∧ -9223372036854775808 ≤ n ∧ n ≤ 9223372036854775807 ∧ s = Lib.itoa n) ∨ (b = false ∧ n = 0 ∧ ∀ m : Int, -9223372036854775808 ≤ m → m ≤ 9223372036854775807 → s ≠ Lib.itoa m)
def ParsesAny (B : Base) (H : List Res) : Prop := ∀ (w : World) (s : List UInt8), s.length ≤ 20 → Inv B H w →
 Calls Tryz.prog 107 #[vS s, vI 10, vI 64] w fun e w' => ∃ (n : Int) (ev : Value), e = .returned (.tuple #[vI n, ev]) ∧ (ev = .nilIface ∨ ∃ t v, ev = .iface t v) ∧ (-9223372036854775808 ≤ n ∧ n ≤ 9223372036854775807) ∧ (∀ m : Int, -9223372036854775808 ≤ m → m ≤ 9223372036854775807 → s = Lib.itoa m → ev = .nilIface ∧ n = m) ∧ Inv B H w'
theorem ex_ifaceNe {P : Program} {o : Oper} {a : Act} {w : World} {t u d : TypeId} {v : Value} {ms : Array (String × TypeId)} {x : Operand} {c : Value} (hu : P.underlying t = some (.interface ms)) (ho : o.op = .binOp .neq t x (.const c) u) (hx : a.eval x = .iface d v) (hc : c = .nilIface) : Ex P a o w (.bool true) w := by
 subst hc
 have hg : (eqGuard .neq t x (.const .nilIface) (.iface d v) .nilIface).run P w = .ok () w := by simp [eqGuard]
 have h : ∀ k : Nat, (Op.equalIn (k + 1) t (.iface d v) .nilIface).run P w = .ok false w := fun k => by simp [Op.equalIn, run_underlying hu]
 have hr : (binOp .neq t (.iface d v) .nilIface).run P w = .ok (.bool true) w := by
  simp only [binOp]; simp [Op.equal, Op.maxDepth, h 9999]
 have hy : a.eval (.const .nilIface) = .nilIface := rfl
 unfold Ex; simp [execOp, ho, hx, hy, hg, hr]
def HasErr (B : Base) (g : Nat) : Prop := ∃ t v, ∀ C K w, B.Le C → Inv C K w → w.cell? ⟨g, 0, none⟩ = some (.iface t v)
theorem HasErr.more {B C : Base} {g : Nat} (h : HasErr B g) (hB : B.Le C) : HasErr C g := by
 obtain ⟨t, v, h⟩ := h
 exact ⟨t, v, fun D K w hD hv => h D K w (hB.trans hD) hv⟩
theorem hasErr_of {W : World} {g : Nat} {t : TypeId} {v : Value} (h : W.cell? ⟨g, 0, none⟩ = some (.iface t v)) : HasErr (Base.of W) g := by
 have hlt : g < W.heap.size := Lib.lt_of_cell h
 exact ⟨t, v, fun C K w hC hv => ((hv.below hC).cell (show (⟨g, 0, none⟩ : Addr).block < W.heap.size from hlt)).trans h⟩
theorem errOf {W : World} {l : List (String × DataW Unit)} {name nm : String} {d : DataW Unit} {g t : Nat} {ms : Array (String × TypeId)} (hl : l.filter (fun x => x.1 == name) = [(name, .iface nm d)]) (he : ([(name, (DataW.iface nm d : DataW Unit))].filter fun x => x.2.handleName?.isNone) = [(name, .iface nm d)])
  (hg : Tryz.prog.globalNamed name = some g) (hty : (Tryz.prog.globals[g]?).map (·.type) = some t) (ht : Tryz.prog.underlying t = some (.interface ms)) (hL : laidMetH Tryz.prog l W) : ∃ u v, W.cell? ⟨g, 0, none⟩ = some (.iface u v) := by
 have h := hL.filter (fun x => x.1 == name)
 rw [hl] at h
 have h2 := (laidMetH_iff.1 h).1
 rw [he] at h2
 obtain ⟨ps, ⟨g', t', cs, fuel, p, q, hg', ht', hvar, hd, _, _⟩, _⟩ := h2
 obtain rfl := Option.some.inj (hg.symm.trans hg')
 obtain rfl := Option.some.inj (hty.symm.trans ht')
 obtain ⟨f', u, v, hcs, -, -⟩ := iface_of_trod ht hd
 refine ⟨u, v, ?_⟩
 have := World.var?_cell hg hvar 0
 rw [this]
 have hcs' : cs.toList = [.iface u v] := hcs
 rw [← Array.getElem?_toList, hcs']; rfl
theorem pzcallable107 : Callable Tryz.prog 107 := ⟨_, Tryz.func107, by kernel_rfl, by kernel_rfl⟩
theorem pzcallable79 : Callable Tryz.prog 79 := ⟨_, Tryz.func79, by kernel_rfl, by kernel_rfl⟩
set_option maxHeartbeats 2000000 in
theorem numParseAny (B : Base) (H : List Res) (hF : FormatsInt B H) (hP : ParsesAny B H) (w : World) (s : List UInt8) (hv : Inv B H w) :
  Calls Tryz.prog 95 #[vS s] w fun e w' => ∃ n b, e = .returned (.tuple #[vI n, .bool b]) ∧ NumP s n b ∧ Inv B H w' := by
 refine cW Tryz.func95 rfl Tryz.ntmps95 ?_
 simp only [al]
 refine sK fun _ k1 => rL (xA (vI 0) rfl ?_)
 refine xA (.bool false) rfl ?_
 simp only [zP, po]
 refine wK k1 (sK fun _ k2 => ?_)
 refine sK fun _ k3 => rL (xM (vS s) rfl ?_)
 refine xG (vI (s.length : Int)) rfl (ex_lenStr Tryz.underlying9 rfl rfl) ?_
 by_cases hb4 : (s.length : Int) > 20
 ·refine xG (.bool true) rfl (ex_gtr rfl rfl rfl (qT hb4)) ?_
  simp only [zP, po]
  refine wK k3 (cT rfl ?_)
  refine sK fun _ k5 => rL (xA (vI 0) rfl ?_)
  refine xA (.bool false) rfl ?_
  simp only [zP, po]
  refine wK k5 (rR ?_)
  refine tR (bodyPost_ret (results_tmp2 rfl _ _ _) rfl ?_)
  exact ⟨_, _, rfl, .inr ⟨rfl, rfl, fun m h0 h1 e9 => by have := itoa_length m h0 h1; rw [← e9] at this; omega⟩, hv⟩
 refine xG (.bool false) rfl (ex_gtr rfl rfl rfl (qF hb4)) ?_
 simp only [zP, po]
 refine wK k3 (cF rfl ?_)
 refine kS (tK k2 ?_)
 refine sK fun _ k6 => rL (xM (vS s) rfl ?_)
 refine xC pzcallable107 rfl ((hP _ s (by omega) hv).mono ?_) rfl
 rintro e w7 ⟨n, ev, rfl, hev, hn, hno, hv⟩
 refine ⟨_, rfl, ?_⟩
 rcases hev with rfl | ⟨t9, v9, rfl⟩
 ·refine xM (.tuple #[vI n, .nilIface]) rfl ?_
  simp only [zP, po]
  refine xG (vI n) rfl (ex_extract rfl rfl rfl) (xG (.nilIface) rfl (ex_extract rfl rfl rfl) ?_)
  refine xA (vI n) rfl ?_
  simp only [zP, po]
  refine xA (.nilIface) rfl ?_
  simp only [zP, po]
  refine wK k6 (sK fun _ k8 => ?_)
  refine sK fun _ k9 => rL (xM (.nilIface) rfl ?_)
  refine xG (.bool false) rfl (ex_ifaceNil Tryz.underlying190 rfl rfl rfl) ?_
  simp only [zP, po]
  refine wK k9 (cF rfl ?_)
  refine kS (tK k8 ?_)
  refine sK fun _ k10 => rL (xM (vI n) rfl ?_)
  refine xA (vI n) rfl ?_
  simp only [zP, po]
  refine wK k10 (sK fun _ k11 => ?_)
  refine sK fun _ k12 => rL (xM (vI n) rfl ?_)
  refine xC pzcallable79 rfl ((numPrint B H hF _ n hn.1 hn.2 hv).mono ?_) rfl
  rintro e w13 ⟨rfl, hv⟩
  refine ⟨_, rfl, ?_⟩
  refine xM (vS s) rfl ?_
  simp only [zP, po]
  by_cases hb14 : (Lib.itoa n) ≠ s
  ·refine xG (.bool true) rfl (ex_sneq rfl rfl rfl (qT hb14)) ?_
   simp only [zP, po]
   refine wK k12 (cT rfl ?_)
   refine sK fun _ k15 => rL (xA (vI 0) rfl ?_)
   refine xA (.bool false) rfl ?_
   simp only [zP, po]
   refine wK k15 (rR ?_)
   refine tR (bodyPost_ret (results_tmp2 rfl _ _ _) rfl ?_)
   exact ⟨_, _, rfl, .inr ⟨rfl, rfl, fun m h0 h1 e9 => by have h8 := (hno m h0 h1 e9).2; subst h8; exact hb14 e9.symm⟩, hv⟩
  refine xG (.bool false) rfl (ex_sneq rfl rfl rfl (qF hb14)) ?_
  simp only [zP, po]
  refine wK k12 (cF rfl ?_)
  refine kS (tK k11 ?_)
  refine sK fun _ k16 => rL (xM (vI n) rfl ?_)
  refine xA (vI n) rfl (xA (.bool true) rfl ?_)
  simp only [zP, po]
  refine wK k16 (rR ?_)
  refine bodyPost_ret (results_tmp2 rfl _ _ _) rfl (⟨_, _, rfl, .inl ⟨rfl, hn.1, hn.2, (Classical.byContradiction fun h9 => hb14 (fun e9 => h9 e9.symm))⟩, hv⟩)
 refine xM (.tuple #[vI n, .iface t9 v9]) rfl ?_
 simp only [zP, po]
 refine xG (vI n) rfl (ex_extract rfl rfl rfl) (xG (.iface t9 v9) rfl (ex_extract rfl rfl rfl) ?_)
 refine xA (vI n) rfl ?_
 simp only [zP, po]
 refine xA (.iface t9 v9) rfl ?_
 simp only [zP, po]
 refine wK k6 (sK fun _ k17 => ?_)
 refine sK fun _ k18 => rL (xM (.iface t9 v9) rfl ?_)
 refine xG (.bool true) rfl (ex_ifaceNe Tryz.underlying190 rfl rfl rfl) ?_
 simp only [zP, po]
 refine wK k18 (cT rfl ?_)
 refine sK fun _ k19 => rL (xA (vI 0) rfl ?_)
 refine xA (.bool false) rfl ?_
 simp only [zP, po]
 refine wK k19 (rR ?_)
 refine tR (bodyPost_ret (results_tmp2 rfl _ _ _) rfl ?_)
 exact ⟨_, _, rfl, .inr ⟨rfl, rfl, fun m h0 h1 e9 => by have := (hno m h0 h1 e9).1; cases this⟩, hv⟩
end Go.Proofs.YtoljdfjnannakaaGreatDoor
/- resp.Strs; view.Ints. -/
namespace Go.Proofs.YtoljdfjnannakaaGreatDoor
open Go.RowKit Go.Pm
theorem rtal28 (w : World) : (Instr.alloc 28 true (.tuple #[])).run Tryz.prog w = .ok (.pointer (some ⟨w.heap.size, 0, none⟩)) (w.alloc (.cells ([vI 0, vS [], vI 0, vN] : List Value).toArray 28)) := by kernel_rfl
theorem rtes22 (w : World) : (sizeOf (Tryz.prog.elem 22)).run Tryz.prog w = .ok 1 w := by kernel_rfl
theorem rtna9 (w : World) : (isAgg 9).run Tryz.prog w = .ok false w := by kernel_rfl
theorem rtfa28_3 (w : World) (b o : Nat) : (Instr.fieldAt 28 (.pointer (some ⟨b, o, none⟩)) 3).run Tryz.prog w = .ok (.pointer (some ⟨b, o + 3, none⟩)) w := by kernel_rfl
theorem rtna26 (w : World) : (isAgg 26).run Tryz.prog w = .ok false w := by kernel_rfl
theorem rtcallable73 : Callable Tryz.prog 73 := ⟨_, Tryz.func73, by kernel_rfl, by kernel_rfl⟩
theorem rtmk28 : (Tryz.prog.info? 28).map (fun i => (i.zero, i.size, i.bytes)) = some (some (.agg #[vI 0, vS [], vI 0, vN]), 4, 56) := by kernel_rfl
theorem rtel26 : Elem Tryz.prog 26 28 (.agg #[vI 0, vS [], vI 0, vN]) 4 56 := elem_of Tryz.underlying26 rtmk28 (by rfl) (by decide)
theorem rtsz26 : (Tryz.prog.info? 26).map (·.size) = some 1 := by kernel_rfl
set_option maxHeartbeats 4000000 in
theorem respStrsR (B : Base) (H : List Res) (w : World) (sa : Option Addr) (sc : Nat) (ss : List (List UInt8)) (hr : RdV B [] sa (textCells ss)) (hm : ss.length ≤ 1000000) (hv : Inv B H w) :
  Calls Tryz.prog 43 #[.slice sa ss.length sc] w fun e w' => ∃ C da dc, B.Le C ∧ e = .returned (.agg #[vI 5, vS (([] : List UInt8)), vI 0, .slice da ss.length dc]) ∧ SliceOk da ss.length dc ∧ RdV C [] da (strsCells ss) ∧ Inv C H w' := by
 refine cW Tryz.func43 rfl Tryz.ntmps43 ?_
 simp only [al]
 refine sK fun _ k1 => rL (sl_alloc tV (wn rfl) rfl hv rtal28 (fun b2 w3 hv => ?_))
 simp only [zP, po]
 refine wK k1 (sK fun _ k4 => ?_)
 refine rL (xG (.agg #[vI 5, vS [], vI 0, vN]) rfl (ex_buildN (vs := #[(0, vI 5)]) rfl (by simp only [List.map_toArray, List.map_cons, List.map_nil]; rfl) (by kernel_rfl)) ?_)
 refine sl_alloc tV (wn rfl) rfl hv rtal28 (fun b5 w6 hv => ?_)
 refine xS 0 rfl hv rssz28 rfl (by exact ⟨rfl, rfl, rfl, rfl, trivial⟩) (fun w7 hv => ?_)
 simp only [zO, sp] at hv
 simp only [zP, po]
 refine wK k4 (sK fun _ k8 => ?_)
 refine sK fun _ k9 => rL (xM (.slice sa ss.length sc) rfl ?_)
 refine xG (vI (ss.length : Int)) rfl (ex_len0 Tryz.underlying22 rfl rfl) (xM (vI 0) rfl ?_)
 simp only [zP, po]
 refine wK k9 (bB ?_)
 gi_loopw [9] (fun x9 wr => ∃ (i : Nat) (ra : Option Addr) (rc : Nat), x9 = vI i ∧ i ≤ ss.length ∧ Inv B (Res.row 28 4 (.slice ra i rc) i (strsCells (ss.take i)) :: Res.cell b5 [vI 5, vS [], vI 0, .slice ra i rc] 28 :: Res.cell b2 [vI 0, vS [], vI 0, vN] 28 :: H) wr) (fun x9 _ => ss.length - (intOf x9).toNat)
 case atStart => exact ⟨0, none, 0, rfl, Nat.zero_le _, (((hv.front 1 rfl).front 1 rfl)).rowNil 28 4⟩
 case round =>
  obtain ⟨i, ra, rc, rfl, hi, hv⟩ := hrel
  refine sK fun _ k11 => rL ?_
  by_cases hb12 : (i : Int) < (ss.length : Int)
  ·refine xG (.bool true) rfl (ex_lss rfl rfl rfl (qT hb12)) ?_
   simp only [zP, po]
   refine wK k11 (sK fun _ k13 => ?_)
   refine cT rfl (kS ?_)
   refine tK k13 (sK fun _ k14 => ?_)
   refine bB (sK fun _ k15 => ?_)
   obtain ⟨x, hx⟩ : ∃ x, ss[i]? = some x := ⟨_, List.getElem?_eq_getElem (show i < ss.length by omega)⟩
   obtain ⟨bb, bo, had, hrdx⟩ := text_reads hr hx
   subst had
   refine rL (xG (.pointer (some ⟨bb, bo + i, none⟩)) rfl (ex_index rfl rfl rfl (run_idx1 (k := i) Tryz.underlying22 rtes22 (by omega))) ?_)
   refine xL _ rfl (run_load1 rtna9 (hrdx _ _ _ (Base.Le.refl _) no_res hv 0 _ rfl)) (xA (vS x) rfl ?_)
   simp only [zP, po]
   refine wK k15 (rW mixed [3, 4, 5, 7] [0,1,2,3,4,5,6,7] 22 rfl (by kernel_rfl) hv ?_)
   simp only [qm, opAt]
   refine dG (.pointer (some ⟨b5, 3, none⟩)) rfl (ex_field rfl rfl (rtfa28_3 _ _ _)) (dF _ rfl (fun hv => ex_load rfl rfl (run_load1 rtna26 (hv.load 1 3 rfl rfl))) fun f16 hf16 => ?_)
   refine dM (vS x) rfl ?_
   simp only [zP, po]
   refine dS rfl fun w17 hv => mC rtcallable73 rfl ((respStr B _ _ x hv).mono ?_) rfl
   rintro e w18 ⟨rfl, hv⟩
   refine ⟨_, rfl, dV hv (fC (fun ww hv => hf16 ww (ex_load rfl rfl (run_load1 rtna26 (hv.load 1 3 rfl rfl)))) fN) ?_⟩
   refine dS rfl fun w19 hv => mem_rowAgg (L := [vI 3, vS x, vI 0, vN]) rfl rfl rfl hv rtel26 rfl (by decide) (fun b20 w21 hv => ?_)
   refine dV hv (fC (fun ww hv => hf16 ww (ex_load rfl rfl (run_load1 rtna26 (hv.load 2 3 rfl rfl)))) fN) (dS rfl fun w22 hv => ?_)
   replace hv := hv.front 1 rfl
   simp only [eS, eZ] at hv
   refine mem_append (news := [vI 3, vS x, vI 0, vN]) rfl rfl rfl rfl rtel26 hv (ok_full (by omega)) rfl (rd_all (hv.get 1 rfl)) (by intro u hu; simp only [List.mem_cons, List.not_mem_nil, or_false] at hu; rcases hu with rfl | rfl | rfl | rfl <;> rfl) (by unfold maxLen; omega) (by omega) (fun rv23 w26 hv => ?_)
   obtain ⟨ra24, rc25, rfl⟩ := row_slice hv.head
   refine dV hv (fK rfl fN) ?_
   simp only [zP, po]
   refine dG (.pointer (some ⟨b5, 3, none⟩)) rfl (ex_field rfl rfl (rtfa28_3 _ _ _)) (dS rfl fun w27 hv => ?_)
   refine mV 2 (.slice ra24 (i + 1) rc25) rfl hv rtsz26 rfl rfl (fun w28 hv => ?_)
   simp only [zS, zO, sp] at hv
   refine dV hv (fK rfl fN) (dE fun w29 hv => ?_)
   simp only [zP, po]
   refine bN (tK k14 ?_)
   refine rL (xG (vI ((i + 1 : Nat) : Int)) rfl (ex_add rfl rfl rfl (by rw [i64_in (by omega)]; omega)) ?_)
   refine xM (vI ((i + 1 : Nat) : Int)) rfl (wL ?_)
   simp only [zP, po]
   refine then_normal ?_
   go_roundw
   case rel => exact ⟨i + 1, _, _, rfl, by omega, by rw [strsCells_next hx]; exact (hv.kp [3, 3, 2] 3 1)⟩
   case measure => show ss.length - (((i + 1 : Nat) : Int)).toNat < ss.length - ((i : Int)).toNat; omega
  refine xG (.bool false) rfl (ex_lss rfl rfl rfl (qF hb12)) ?_
  simp only [zP, po]
  refine wK k11 (sK fun _ k30 => ?_)
  refine cF rfl (xE ?_)
  refine tX (tX ?_)
  refine bH (tK k8 ?_)
  refine sK fun _ k31 => rL (xL (.agg #[vI 5, vS [], vI 0, .slice ra i rc]) rfl (lM 1 rswd28 hv rfl rfl rfl rfl) ?_)
  refine xS 2 rfl hv rssz28 rfl (by exact ⟨rfl, rfl, rfl, rfl, trivial⟩) (fun w32 hv => ?_)
  simp only [zS, zO, sp] at hv
  simp only [zP, po]
  refine wK k31 (rR ?_)
  refine bC 2 rswd28 hv rfl rfl rfl rfl ?_
  obtain rfl : i = ss.length := by omega
  obtain ⟨C, hC, hv, hro, hoko, -⟩ := ((hv.sub (sC _ (sD _ (sD _ (sR _)))))).rowBy
  rw [List.take_length] at hro
  exact ⟨C, ra, rc, hC, rfl, hoko, hro, hv⟩
theorem rpAt_strs {C : Base} {l : List (List UInt8)} {a : Option Addr} {c : Nat} (hok : SliceOk a l.length c) (hr : RdV C [] a (strsCells l)) : RpAt C (rStrs l) (rpCells 5 [] 0 (.slice a l.length c)) :=
 rpAt_of (l := l.map rStr) ⟨a, c, by rw [List.length_map], by rw [List.length_map]; exact hok, hr⟩ (strsCells_at l)
theorem respStrs (B : Base) (H : List Res) (w : World) (sa : Option Addr) (sc : Nat) (ss : List (List UInt8)) (hr : RdV B [] sa (textCells ss)) (hm : ss.length ≤ 1000000) (hv : Inv B H w) : Calls Tryz.prog 43 #[.slice sa ss.length sc] w fun e w' => ∃ C v, B.Le C ∧ e = .returned (.agg #[vI 5, vS (([] : List UInt8)), vI 0, v]) ∧ RpAt C (rStrs ss) (rpCells 5 [] 0 v) ∧ Inv C H w' := by
 refine (respStrsR B H w sa sc ss hr hm hv).mono ?_
 rintro e w' ⟨C, da, dc, hC, rfl, h1, h2, hv⟩
 exact ⟨C, _, hC, rfl, rpAt_strs h1 h2, hv⟩
def NumB (B : Base) : Prop := ∀ C H, B.Le C → FormatsInt C H ∧ ParsesAny C H
theorem NumB.more {B C : Base} (h : NumB B) (hB : B.Le C) : NumB C := fun D H hD => h D H (hB.trans hD)
def intCells (l : List Int) : List Value := l.flatMap fun n => [vI n]
theorem int_reads {B : Base} {l : List Int} {ad : Option Addr} {i : Nat} {x : Int} (hr : RdV B [] ad (intCells l)) (hx : l[i]? = some x) : ∃ b off, ad = some ⟨b, off, none⟩ ∧ Reads B [] b (off + i) [vI x] := by
 have := rowk_reads (f := fun n : Int => [vI n]) (k := 1) (fun _ => rfl) (by decide) hr hx
 simpa using this
theorem int_snoc (l : List Int) (x : Int) : intCells l ++ [vI x] = intCells (l ++ [x]) := by simp [intCells]
def IntsR (ts : List (List UInt8)) (ns : List Int) (ec : Int) : Prop := (ec = 0 ∧ ns.length = ts.length ∧ ∀ (i : Nat) t n, ts[i]? = some t → ns[i]? = some n → NumP t n true) ∨ (ec = 41 ∧ ns = [] ∧ ∃ t ∈ ts, NumP t 0 false)
theorem rtmk3 : (Tryz.prog.info? 3).map (fun i => (i.zero, i.size, i.bytes)) = some (some (vI 0), 1, 8) := by kernel_rfl
theorem rtel149 : Elem Tryz.prog 149 3 (vI 0) 1 8 := elem_of Tryz.underlying149 rtmk3 (by rfl) (by decide)
theorem rtcallable95 : Callable Tryz.prog 95 := ⟨_, Tryz.func95, by kernel_rfl, by kernel_rfl⟩
set_option maxHeartbeats 4000000 in
theorem viewInts (B : Base) (H : List Res) (w : World) (ta : Option Addr) (tc : Nat) (ts : List (List UInt8)) (hr : RdV B [] ta (textCells ts)) (hm : ts.length ≤ 1000000) (hN : NumB B) (hv : Inv B H w) :
  Calls Tryz.prog 74 #[.slice ta ts.length tc] w fun e w' => ∃ C oa oc ns ec, B.Le C ∧ e = .returned (.tuple #[.slice oa ns.length oc, vI ec]) ∧ RdV C [] oa (intCells ns) ∧ IntsR ts ns ec ∧ Inv C H w' := by
 refine cW Tryz.func74 rfl Tryz.ntmps74 ?_
 simp only [al]
 refine sK fun _ k1 => rL (xA (vN) rfl ?_)
 refine xA (vI 0) rfl ?_
 simp only [zP, po]
 refine wK k1 (sK fun _ k2 => ?_)
 refine rL (xM (.slice ta ts.length tc) rfl ?_)
 refine xG (vI (ts.length : Int)) rfl (ex_len0 Tryz.underlying22 rfl rfl) (sl_makeRow (cap := ts.length) tV (wn rfl) rfl rfl rfl rtel149 (by unfold maxLen; omega) (by omega) hv (fun b3 w4 hv => ?_))
 simp only [zP, po]
 refine xA (.slice (some ⟨b3, 0, none⟩) 0 ts.length) rfl ?_
 simp only [zP, po]
 refine wK k2 (sK fun _ k5 => ?_)
 refine sK fun _ k6 => rL (xM (.slice ta ts.length tc) rfl ?_)
 refine xG (vI (ts.length : Int)) rfl (ex_len0 Tryz.underlying22 rfl rfl) (xM (vI 0) rfl ?_)
 simp only [zP, po]
 refine wK k6 (bB ?_)
 gi_loopw [14, 4] (fun x14 x4 wr => ∃ (i : Nat) (ns : List Int) (ra : Option Addr) (rc : Nat), x14 = vI i ∧ x4 = .slice ra ns.length rc ∧ i ≤ ts.length ∧ ns.length = i ∧ (∀ (j : Nat) t n, ts[j]? = some t → ns[j]? = some n → NumP t n true) ∧ Inv B (Res.row 3 1 (.slice ra ns.length rc) ns.length (intCells ns) :: H) wr) (fun x14 x4 _ => ts.length - (intOf x14).toNat)
 case atStart => exact ⟨0, [], _, _, rfl, rfl, Nat.zero_le _, rfl, fun j t n _ h => by simp at h, hv⟩
 case round =>
  obtain ⟨i, ns, ra, rc, rfl, rfl, hi, hnl, hall, hv⟩ := hrel
  refine sK fun _ k8 => rL ?_
  by_cases hb9 : (i : Int) < (ts.length : Int)
  ·refine xG (.bool true) rfl (ex_lss rfl rfl rfl (qT hb9)) ?_
   simp only [zP, po]
   refine wK k8 (sK fun _ k10 => ?_)
   refine cT rfl (kS ?_)
   refine tK k10 (sK fun _ k11 => ?_)
   refine bB (sK fun _ k12 => ?_)
   obtain ⟨x, hx⟩ : ∃ x, ts[i]? = some x := ⟨_, List.getElem?_eq_getElem (show i < ts.length by omega)⟩
   obtain ⟨bb, bo, had, hrdx⟩ := text_reads hr hx
   subst had
   refine rL (xG (.pointer (some ⟨bb, bo + i, none⟩)) rfl (ex_index rfl rfl rfl (run_idx1 (k := i) Tryz.underlying22 rtes22 (by omega))) ?_)
   refine xL _ rfl (run_load1 rtna9 (hrdx _ _ _ (Base.Le.refl _) no_res hv 0 _ rfl)) (xA (vS x) rfl ?_)
   simp only [zP, po]
   refine wK k12 (sK fun _ k13 => ?_)
   refine rL (xM (vS x) rfl ?_)
   refine xC rtcallable95 rfl ((numParseAny B _ (hN B _ (Base.Le.refl _)).1 (hN B _ (Base.Le.refl _)).2 _ x hv).mono ?_) rfl
   rintro e w14 ⟨n, b, rfl, hnp, hv⟩
   refine ⟨_, rfl, ?_⟩
   cases b
   ·refine xM (.tuple #[vI n, .bool false]) rfl ?_
    simp only [zP, po]
    refine xG (vI n) rfl (ex_extract rfl rfl rfl) (xG (.bool false) rfl (ex_extract rfl rfl rfl) ?_)
    refine xA (vI n) rfl ?_
    simp only [zP, po]
    refine xA (.bool false) rfl ?_
    simp only [zP, po]
    refine wK k13 (sK fun _ k15 => ?_)
    refine sK fun _ k16 => rL (xM (.bool false) rfl ?_)
    refine xG (.bool true) rfl (ex_not rfl rfl rfl) ?_
    simp only [zP, po]
    refine wK k16 (cT rfl ?_)
    refine sK fun _ k17 => rL (xA (vN) rfl ?_)
    refine xA (vI 41) rfl ?_
    simp only [zP, po]
    refine wK k17 (rR ?_)
    refine tR (bZ ?_)
    refine tR (tR ?_)
    refine bZ (tR ?_)
    refine bodyPost_ret (results_tmp2 rfl _ _ _) rfl ?_
    obtain rfl : n = 0 := hnp.elim (fun h => absurd h.1 (by decide)) (fun h => h.2.1)
    exact ⟨B, none, 0, [], 41, Base.Le.refl _, rfl, rdV_nil, .inr ⟨rfl, rfl, x, List.mem_of_getElem? hx, hnp⟩, (hv.kp [] 0 1)⟩
   refine xM (.tuple #[vI n, .bool true]) rfl ?_
   simp only [zP, po]
   refine xG (vI n) rfl (ex_extract rfl rfl rfl) (xG (.bool true) rfl (ex_extract rfl rfl rfl) ?_)
   refine xA (vI n) rfl ?_
   simp only [zP, po]
   refine xA (.bool true) rfl ?_
   simp only [zP, po]
   refine wK k13 (sK fun _ k18 => ?_)
   refine sK fun _ k19 => rL (xM (.bool true) rfl ?_)
   refine xG (.bool false) rfl (ex_not rfl rfl rfl) ?_
   simp only [zP, po]
   refine wK k19 (cF rfl ?_)
   refine kS (tK k18 ?_)
   refine rL (xM (.slice ra ns.length rc) rfl ?_)
   refine xM (vI n) rfl (sl_rowOne (v := vI n) tV (wn rfl) rfl rfl hv rtel149 rfl (fun b20 w21 hv => ?_))
   simp only [zP, po]
   replace hv := hv.front 1 rfl
   simp only [eS, eZ] at hv
   refine sl_append (news := [vI n]) tV (wn rfl) rfl rfl rfl rtel149 hv (ok_full (by omega)) rfl (rd_all (hv.get 1 rfl)) (by intro u hu; simp only [List.mem_cons, List.not_mem_nil, or_false] at hu; rcases hu with rfl <;> rfl) (by unfold maxLen; omega) (by omega) (fun rv22 w25 hv => ?_)
   obtain ⟨ra23, rc24, rfl⟩ := row_slice hv.head
   refine xA (.slice ra23 (ns.length + 1) rc24) rfl (wL ?_)
   simp only [zP, po]
   refine bN (tK k11 ?_)
   refine rL (xG (vI ((i + 1 : Nat) : Int)) rfl (ex_add rfl rfl rfl (by rw [i64_in (by omega)]; omega)) ?_)
   refine xM (vI ((i + 1 : Nat) : Int)) rfl (wL ?_)
   simp only [zP, po]
   refine then_normal ?_
   go_roundw
   case rel => exact ⟨i + 1, ns ++ [n], _, _, rfl, by rw [List.length_append, List.length_singleton], by omega, by rw [List.length_append, List.length_singleton, hnl], fun j t' n' ht' hn' => (by
      rcases Nat.lt_or_ge j ns.length with h | h
      ·rw [List.getElem?_append_left h] at hn'; exact hall j t' n' ht' hn'
      have hj := (List.getElem?_eq_some_iff.1 hn').1
      rw [List.length_append, List.length_singleton] at hj
      obtain rfl : j = ns.length := by omega
      rw [List.getElem?_append_right (Nat.le_refl _), Nat.sub_self] at hn'
      rw [hnl, hx] at ht'
      cases ht'; cases hn'; exact hnp), by rw [List.length_append, List.length_singleton, ← int_snoc]; exact (hv.kp [] 1 1)⟩
   case measure => show ts.length - (((i + 1 : Nat) : Int)).toNat < ts.length - ((i : Int)).toNat; omega
  refine xG (.bool false) rfl (ex_lss rfl rfl rfl (qF hb9)) ?_
  simp only [zP, po]
  refine wK k8 (sK fun _ k26 => ?_)
  refine cF rfl (xE ?_)
  refine tX (tX ?_)
  refine bH (tK k5 ?_)
  refine sK fun _ k27 => rL (xM (.slice ra ns.length rc) rfl ?_)
  refine xA (.slice ra ns.length rc) rfl (xA (vI 0) rfl ?_)
  simp only [zP, po]
  refine wK k27 (rR ?_)
  refine bodyPost_ret (results_tmp2 rfl _ _ _) rfl ?_
  obtain rfl : i = ts.length := by omega
  obtain ⟨D, hD, hv, hro, hoko, -⟩ := (hv).rowBy
  exact ⟨D, ra, rc, ns, 0, hD, rfl, hro, .inl ⟨rfl, hnl, hall⟩, hv⟩
end Go.Proofs.YtoljdfjnannakaaGreatDoor
