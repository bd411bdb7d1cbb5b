/- slices.IndexFunc and DeleteFunc of texts, a row of one's own. -/
import Derived.Test.YtffmbdagjpdieaaSpB
import Derived.Test.YtffmbdagjpdieaaSpK
import Derived.Test.YtffmbdagjpdieaaRows
import Derived.Test.YtffmbdagjpdieaaSpH
import Derived.Test.YtffmbdagjpdieaaSpI
import Derived.Test.YtffmbdagjpdieaaSpJ
import Derived.Test.YtffmbdagjpdieaaSpC
import Derived.Laws.Strings2
import Derived.Laws.IdiomStrings
set_option maxRecDepth 100000
namespace Go.Proofs.Ytffmbdagjpdieaa
open Go.RowKit Go.Pm
theorem s24es33 (w : World) : (sizeOf (Try.prog.elem 33)).run Try.prog w = .ok 1 w := by kernel_rfl
theorem s24na9 (w : World) : (isAgg 9).run Try.prog w = .ok false w := by kernel_rfl
set_option maxHeartbeats 2000000 in
theorem indexFuncO (B : Base) (H : List Res) (w : World) (f : FuncId) (cb : Array Value) (ra : Option Addr) (rc : Nat) (l : List (List UInt8)) (pr : List UInt8 → Bool) (hm : l.length ≤ 1000000) (hcal : Callable Try.prog f) (hf : ∀ (x : List UInt8) (r : Res) (w : World), Inv B (r :: H) w → Calls Try.prog f (#[.string ⟨x.toArray⟩] ++ cb) w fun e w' => e = .returned (.bool (pr x)) ∧ Inv B (r :: H) w') (hv : Inv B (Res.row 9 1 (.slice ra l.length rc) l.length (textCells l) :: H) w) :
  Calls Try.prog 48 #[.slice ra l.length rc, .func (.func f) #[] cb] w fun e w' => ∃ r : Int, e = .returned (.int .i64 r) ∧ ((r = -1 ∧ ∀ y ∈ l, pr y = false) ∨ ∃ (i : Nat) (x : List UInt8), r = (i : Int) ∧ l[i]? = some x ∧ pr x = true ∧ ∀ y ∈ l.take i, pr y = false) ∧ Inv B (Res.row 9 1 (.slice ra l.length rc) l.length (textCells l) :: H) w' := by
 refine (callsIn_wide (n := 5)).1 ?_
 refine callsIn_of_wp Try.func48 rfl trivial ?_
 simp only [Try.ntmps48, List.size_toArray, List.length_cons, List.length_nil, Nat.reduceAdd, Nat.reduceSub, Array.replicate_succ, Array.replicate_zero, List.push_toArray, List.append_toArray, List.nil_append, List.cons_append]
 refine sK fun K1 hK1 => rL ?_
 refine xA (.int .i64 0) rfl rfl rfl ?_
 refine wL ?_
 simp only [zP, zI, zS, zO]
 refine tN (hK1 _ _ ?_)
 clear hK1 K1
 refine sK fun K2 hK2 => ?_
 refine sK fun K3 hK3 => rL ?_
 refine xM (.slice ra l.length rc) rfl rfl rfl ?_
 refine xG (.int .i64 (l.length : Int)) rfl rfl (ex_len0 Try.underlying33 rfl rfl) ?_
 refine xM (.int .i64 0) rfl rfl rfl ?_
 refine wL ?_
 simp only [zP, zI, zS, zO]
 refine tN (hK3 _ _ ?_)
 clear hK3 K3
 refine wpIn_block ?_
 gi_loopw [8] (fun x8 wr => ∃ (i : Nat), x8 = .int .i64 (i : Int) ∧ i ≤ l.length ∧ (∀ j x, j < i → l[j]? = some x → pr x = false) ∧ Inv B (Res.row 9 1 (.slice ra l.length rc) l.length (textCells l) :: H) wr) (fun x8 _ => l.length - (intOf x8).toNat)
 case atStart => exact ⟨0, rfl, Nat.zero_le _, fun j x h => by omega, hv⟩
 case round =>
  obtain ⟨i, rfl, hi, hno, hv⟩ := hrel
  refine sK fun K5 hK5 => rL ?_
  by_cases hb6 : (i : Int) < (l.length : Int)
  ·refine xG (.bool true) rfl rfl (ex_lss (k := .i64) (m := (i : Int)) (n := (l.length : Int)) rfl rfl rfl (decide_eq_true hb6)) ?_
   refine wL ?_
   simp only [zP, zI, zS, zO]
   refine tN (hK5 _ _ ?_)
   clear hK5 K5
   refine sK fun K7 hK7 => ?_
   refine wpIn_cond_true rfl ?_
   refine wpIn_skip ?_
   refine tN (hK7 _ _ ?_)
   clear hK7 K7
   refine sK fun K8 hK8 => ?_
   refine wpIn_block ?_
   refine sK fun K9 hK9 => rL ?_
   refine xM (.int .i64 (i : Int)) rfl rfl rfl ?_
   refine xA (.int .i64 (i : Int)) rfl rfl rfl ?_
   refine wL ?_
   simp only [zP, zI, zS, zO]
   refine tN (hK9 _ _ ?_)
   clear hK9 K9
   refine sK fun K10 hK10 => ?_
   obtain ⟨x, hx⟩ : ∃ x, l[i]? = some x := ⟨_, List.getElem?_eq_getElem (show i < l.length by omega)⟩
   obtain ⟨b, rfl⟩ := row_some hv.head (by omega)
   refine rL ?_
   refine xM (.func (.func f) #[] cb) rfl rfl rfl ?_
   refine xM (.slice (some ⟨b, 0, none⟩) l.length rc) rfl rfl rfl ?_
   refine xM (.int .i64 (i : Int)) rfl rfl rfl ?_
   simp only [zP, zI, zS, zO]
   refine xG (.pointer (some ⟨b, 0 + i, none⟩)) rfl rfl (ex_index rfl rfl rfl (run_idx1 (k := i) Try.underlying33 s24es33 (by omega))) ?_
   refine xL (.string ⟨x.toArray⟩) rfl rfl rfl (run_load1 s24na9 (row_load (hv.get 0 rfl) (textCells_get hx))) ?_
   refine wpi_callV hcal tV wideC rfl (wn rfl) rfl rfl (args := #[.string ⟨x.toArray⟩]) (by simp only [yA, yB, yC]; rfl) ((hf x _ _ hv).mono ?_)
   rintro e w11 ⟨rfl, hv⟩
   refine ⟨_, rfl, ?_⟩
   refine wL ?_
   simp only [zP, zI, zS, zO]
   refine tN (hK10 _ _ ?_)
   clear hK10 K10
   refine wpIn_cond_split (t := pr x) rfl (fun hc12 => ?_) (fun hc12 => ?_)
   ·refine sK fun K13 hK13 => rL ?_
    refine xM (.int .i64 (i : Int)) rfl rfl rfl ?_
    refine xA (.int .i64 (i : Int)) rfl rfl rfl ?_
    refine wL ?_
    simp only [zP, zI, zS, zO]
    refine tN (hK13 _ _ ?_)
    clear hK13 K13
    refine wpIn_ret ?_
    refine blk_ret ?_
    refine then_ret ?_
    clear hK8 K8
    refine then_ret ?_
    refine blk_ret ?_
    refine then_ret ?_
    clear hK2 K2
    refine bR rfl rfl ?_
    exact ⟨_, rfl, .inr ⟨i, x, rfl, hx, by simpa using hc12, fun y hy => (by obtain ⟨j, hj⟩ := List.mem_iff_getElem?.1 hy; have h9 := (List.getElem?_eq_some_iff.1 hj).1; rw [List.length_take] at h9; rw [List.getElem?_take_of_lt (by omega)] at hj; exact hno j y (by omega) hj)⟩, hv⟩
   refine wpIn_skip ?_
   refine blk_normal ?_
   refine tN (hK8 _ _ ?_)
   clear hK8 K8
   refine rL ?_
   refine xG (.int .i64 ((i + 1 : Nat) : Int)) rfl rfl (ex_add (m := (i : Int)) (n := 1) rfl rfl rfl (by rw [i64_in (by omega)]; omega)) ?_
   refine xM (.int .i64 ((i + 1 : Nat) : Int)) rfl rfl rfl ?_
   refine wL ?_
   simp only [zP, zI, zS, zO]
   refine then_normal ?_
   go_roundw
   case rel => exact ⟨i + 1, rfl, by omega, fun j x' hj hx' => (by
      rcases Nat.lt_or_ge j i with h | h
      ·exact hno j x' h hx'
      obtain rfl : j = i := by omega
      rw [hx] at hx'; cases hx'
      simpa using hc12), hv⟩
   case measure => show l.length - (((i + 1 : Nat) : Int)).toNat < l.length - ((i : Int)).toNat; omega
  refine xG (.bool false) rfl rfl (ex_lss (k := .i64) (m := (i : Int)) (n := (l.length : Int)) rfl rfl rfl (decide_eq_false hb6)) ?_
  refine wL ?_
  simp only [zP, zI, zS, zO]
  refine tN (hK5 _ _ ?_)
  clear hK5 K5
  refine sK fun K14 hK14 => ?_
  refine wpIn_cond_false rfl ?_
  refine wpIn_exit ?_
  refine then_exit ?_
  clear hK14 K14
  refine then_exit ?_
  refine blk_hit ?_
  refine tN (hK2 _ _ ?_)
  clear hK2 K2
  refine sK fun K15 hK15 => rL ?_
  refine xA (.int .i64 (-1)) rfl rfl rfl ?_
  refine wL ?_
  simp only [zP, zI, zS, zO]
  refine tN (hK15 _ _ ?_)
  clear hK15 K15
  refine wpIn_ret ?_
  refine bR rfl rfl ?_
  obtain rfl : i = l.length := by omega
  exact ⟨_, rfl, .inl ⟨rfl, fun y hy => (by obtain ⟨j, hj⟩ := List.mem_iff_getElem?.1 hy; exact hno j y (List.getElem?_eq_some_iff.1 hj).1 hj)⟩, hv⟩
theorem s24callable48 : Callable Try.prog 48 := ⟨_, Try.func48, by kernel_rfl, by kernel_rfl⟩
theorem s24sz9 : (Try.prog.info? 9).map (·.size) = some 1 := by kernel_rfl
theorem s24mk9 : (Try.prog.info? 9).map (fun i => (i.zero, i.size, i.bytes)) = some (some (.string ⟨([] : List UInt8).toArray⟩), 1, 16) := by kernel_rfl
theorem s24el33 : Elem Try.prog 33 9 (.string ⟨([] : List UInt8).toArray⟩) 1 16 := elem_of Try.underlying33 s24mk9 (by rfl) (by decide)
set_option maxHeartbeats 4000000 in
theorem deleteFunc (B : Base) (H : List Res) (w : World) (f : FuncId) (cb : Array Value) (ra : Option Addr) (rc : Nat) (l : List (List UInt8)) (pr : List UInt8 → Bool) (hm : l.length ≤ 1000000) (hcal : Callable Try.prog f) (hf : ∀ (x : List UInt8) (r : Res) (w : World), Inv B (r :: H) w → Calls Try.prog f (#[.string ⟨x.toArray⟩] ++ cb) w fun e w' => e = .returned (.bool (pr x)) ∧ Inv B (r :: H) w') (hv : Inv B (Res.row 9 1 (.slice ra l.length rc) l.length (textCells l) :: H) w) :
  Calls Try.prog 32 #[.slice ra l.length rc, .func (.func f) #[] cb] w fun e w' => ∃ ra' rc', e = .returned (.slice ra' (l.filter fun y => !pr y).length rc') ∧ Inv B (Res.row 9 1 (.slice ra' (l.filter fun y => !pr y).length rc') (l.filter fun y => !pr y).length (textCells (l.filter fun y => !pr y)) :: H) w' := by
 refine (callsIn_wide (n := 5)).1 ?_
 refine callsIn_of_wp Try.func32 rfl trivial ?_
 simp only [Try.ntmps32, List.size_toArray, List.length_cons, List.length_nil, Nat.reduceAdd, Nat.reduceSub, Array.replicate_succ, Array.replicate_zero, List.push_toArray, List.append_toArray, List.nil_append, List.cons_append]
 refine sK fun K1 hK1 => rL ?_
 refine xA (.slice none 0 0) rfl rfl rfl ?_
 refine wL ?_
 simp only [zP, zI, zS, zO]
 refine tN (hK1 _ _ ?_)
 clear hK1 K1
 refine sK fun K2 hK2 => rL ?_
 refine xM (.slice ra l.length rc) rfl rfl rfl ?_
 refine xM (.func (.func f) #[] cb) rfl rfl rfl ?_
 refine xC s24callable48 rfl rfl (l := [.slice ra l.length rc, .func (.func f) #[] cb]) rfl ((indexFuncO B H _ f cb ra rc l pr hm hcal hf hv).mono ?_)
 rintro e w3 ⟨r, rfl, hor, hv⟩
 refine ⟨_, rfl, ?_⟩
 rcases hor with ⟨rfl, hno⟩ | ⟨i0, x0, rfl, hx0, hp0, hno⟩
 ·simp only [zP, zI, zS, zO]
  refine xA (.int .i64 (-1)) rfl rfl rfl ?_
  refine wL ?_
  simp only [zP, zI, zS, zO]
  refine tN (hK2 _ _ ?_)
  clear hK2 K2
  refine sK fun K4 hK4 => ?_
  refine sK fun K5 hK5 => rL ?_
  refine xM (.int .i64 (-1)) rfl rfl rfl ?_
  refine xG (.bool true) rfl rfl (ex_eql (k := .i64) (m := (-1)) (n := (-1)) rfl rfl rfl (by decide)) ?_
  refine wL ?_
  simp only [zP, zI, zS, zO]
  refine tN (hK5 _ _ ?_)
  clear hK5 K5
  refine wpIn_cond_true rfl ?_
  refine sK fun K6 hK6 => rL ?_
  refine xM (.slice ra l.length rc) rfl rfl rfl ?_
  refine xA (.slice ra l.length rc) rfl rfl rfl ?_
  refine wL ?_
  simp only [zP, zI, zS, zO]
  refine tN (hK6 _ _ ?_)
  clear hK6 K6
  refine wpIn_ret ?_
  refine then_ret ?_
  clear hK4 K4
  refine bR rfl rfl ?_
  have hfl : l.filter (fun y => !pr y) = l := List.filter_eq_self.2 (fun y hy => by rw [hno y hy]; rfl)
  rw [hfl]
  exact ⟨_, _, rfl, hv⟩
 have hi0 : i0 < l.length := (List.getElem?_eq_some_iff.1 hx0).1
 obtain ⟨b, rfl⟩ := row_some hv.head (by omega)
 obtain ⟨hst, hsl⟩ := df_start hx0 hp0 hno
 simp only [zP, zI, zS, zO]
 refine xA (.int .i64 (i0 : Int)) rfl rfl rfl ?_
 refine wL ?_
 simp only [zP, zI, zS, zO]
 refine tN (hK2 _ _ ?_)
 clear hK2 K2
 refine sK fun K7 hK7 => ?_
 refine sK fun K8 hK8 => rL ?_
 refine xM (.int .i64 (i0 : Int)) rfl rfl rfl ?_
 refine xG (.bool false) rfl rfl (ex_eql (k := .i64) (m := (i0 : Int)) (n := (-1)) rfl rfl rfl (decide_eq_false (by omega))) ?_
 refine wL ?_
 simp only [zP, zI, zS, zO]
 refine tN (hK8 _ _ ?_)
 clear hK8 K8
 refine wpIn_cond_false rfl ?_
 refine wpIn_skip ?_
 refine tN (hK7 _ _ ?_)
 clear hK7 K7
 refine sK fun K9 hK9 => ?_
 refine sK fun K10 hK10 => rL ?_
 refine xM (.int .i64 (i0 : Int)) rfl rfl rfl ?_
 refine xG (.int .i64 ((i0 + 1 : Nat) : Int)) rfl rfl (ex_add (m := (i0 : Int)) (n := 1) rfl rfl rfl (by rw [i64_in (by omega)]; omega)) ?_
 refine xA (.int .i64 ((i0 + 1 : Nat) : Int)) rfl rfl rfl ?_
 refine wL ?_
 simp only [zP, zI, zS, zO]
 refine tN (hK10 _ _ ?_)
 clear hK10 K10
 refine wpIn_block ?_
 gi_loopw [5, 6] (fun x5 x6 wr => ∃ (i j : Nat) (kept mid : List (List UInt8)), x5 = .int .i64 (i : Int) ∧ x6 = .int .i64 (j : Int) ∧ j ≤ l.length ∧ kept = (l.take j).filter (fun y => !pr y) ∧ i = kept.length ∧ 0 < mid.length ∧ i + mid.length = j ∧ Inv B (Res.row 9 1 (.slice (some ⟨b, 0, none⟩) l.length rc) l.length (textCells (kept ++ mid ++ l.drop j)) :: H) wr) (fun x5 x6 _ => l.length - (intOf x6).toNat)
 case atStart => exact ⟨i0, i0 + 1, l.take i0, [x0], rfl, rfl, by omega, hst.symm, by rw [List.length_take]; omega, by simp, by simp, by rw [← hsl]; exact hv⟩
 case round =>
  obtain ⟨i, j, kept, mid, rfl, rfl, hj, hkept, hik, hmid, hij, hv⟩ := hrel
  refine sK fun K12 hK12 => ?_
  refine sK fun K13 hK13 => rL ?_
  refine xM (.int .i64 (j : Int)) rfl rfl rfl ?_
  refine xM (.slice (some ⟨b, 0, none⟩) l.length rc) rfl rfl rfl ?_
  refine xG (.int .i64 (l.length : Int)) rfl rfl (ex_len0 Try.underlying33 rfl rfl) ?_
  simp only [zP, zI, zS, zO]
  by_cases hb14 : (j : Int) < (l.length : Int)
  ·refine xG (.bool true) rfl rfl (ex_lss (k := .i64) (m := (j : Int)) (n := (l.length : Int)) rfl rfl rfl (decide_eq_true hb14)) ?_
   refine wL ?_
   simp only [zP, zI, zS, zO]
   refine tN (hK13 _ _ ?_)
   clear hK13 K13
   refine wpIn_cond_true rfl ?_
   refine wpIn_skip ?_
   refine tN (hK12 _ _ ?_)
   clear hK12 K12
   refine sK fun K15 hK15 => ?_
   refine wpIn_block ?_
   refine sK fun K16 hK16 => ?_
   obtain ⟨x, hx⟩ : ∃ x, l[j]? = some x := ⟨_, List.getElem?_eq_getElem (show j < l.length by omega)⟩
   refine rL ?_
   refine xM (.slice (some ⟨b, 0, none⟩) l.length rc) rfl rfl rfl ?_
   refine xM (.int .i64 (j : Int)) rfl rfl rfl ?_
   refine xG (.pointer (some ⟨b, 0 + j, none⟩)) rfl rfl (ex_index rfl rfl rfl (run_idx1 (k := j) Try.underlying33 s24es33 (by omega))) ?_
   simp only [zP, zI, zS, zO]
   refine xL (.string ⟨x.toArray⟩) rfl rfl rfl (run_load1 s24na9 (row_load (hv.get 0 rfl) (df_get (kept := kept) (mid := mid) hx (by omega)))) ?_
   refine xA (.string ⟨x.toArray⟩) rfl rfl rfl ?_
   refine wL ?_
   simp only [zP, zI, zS, zO]
   refine tN (hK16 _ _ ?_)
   clear hK16 K16
   refine sK fun K17 hK17 => rL ?_
   refine xM (.func (.func f) #[] cb) rfl rfl rfl ?_
   refine xM (.string ⟨x.toArray⟩) rfl rfl rfl ?_
   refine wpi_callV hcal tV wideC rfl (wn rfl) rfl rfl (args := #[.string ⟨x.toArray⟩]) (by simp only [yA, yB, yC]; rfl) ((hf x _ _ hv).mono ?_)
   rintro e w18 ⟨rfl, hv⟩
   refine ⟨_, rfl, ?_⟩
   simp only [zP, zI, zS, zO]
   refine xG (.bool (!(pr x))) rfl rfl (ex_not (b := (pr x)) rfl rfl rfl) ?_
   refine wL ?_
   simp only [zP, zI, zS, zO]
   refine tN (hK17 _ _ ?_)
   clear hK17 K17
   refine wpIn_cond_split (t := !(pr x)) rfl (fun hc19 => ?_) (fun hc19 => ?_)
   ·refine sK fun K20 hK20 => ?_
    have hpx : pr x = false := by simpa using hc19
    obtain ⟨g0, mid2, hmg⟩ : ∃ g0 m2, mid = g0 :: m2 := (by cases mid with | nil => simp at hmid | cons a m => exact ⟨a, m, rfl⟩)
    subst hmg
    refine rL ?_
    refine xM (.slice (some ⟨b, 0, none⟩) l.length rc) rfl rfl rfl ?_
    refine xM (.int .i64 (i : Int)) rfl rfl rfl ?_
    refine xM (.string ⟨x.toArray⟩) rfl rfl rfl ?_
    simp only [zP, zI, zS, zO]
    refine xG (.pointer (some ⟨b, 0 + i, none⟩)) rfl rfl (ex_index rfl rfl rfl (run_idx1 (k := i) Try.underlying33 s24es33 (by omega))) ?_
    refine sl_storeRow (v := .string ⟨x.toArray⟩) tV (wn rfl) rfl rfl rfl hv s24sz9 (by rw [textCells_n]; simp only [List.length_append, List.length_cons, List.length_drop]; omega) rfl rfl (fun w21 hv => ?_)
    rw [Nat.zero_add] at hv
    refine wL ?_
    simp only [zP, zN, zI, zS, zO]
    refine tN (hK20 _ _ ?_)
    clear hK20 K20
    refine rL ?_
    refine xM (.int .i64 (i : Int)) rfl rfl rfl ?_
    refine xG (.int .i64 ((i + 1 : Nat) : Int)) rfl rfl (ex_add (m := (i : Int)) (n := 1) rfl rfl rfl (by rw [i64_in (by omega)]; omega)) ?_
    refine xA (.int .i64 ((i + 1 : Nat) : Int)) rfl rfl rfl ?_
    refine wL ?_
    simp only [zP, zI, zS, zO]
    refine blk_normal ?_
    refine tN (hK15 _ _ ?_)
    clear hK15 K15
    refine rL ?_
    refine xM (.int .i64 (j : Int)) rfl rfl rfl ?_
    refine xG (.int .i64 ((j + 1 : Nat) : Int)) rfl rfl (ex_add (m := (j : Int)) (n := 1) rfl rfl rfl (by rw [i64_in (by omega)]; omega)) ?_
    refine xA (.int .i64 ((j + 1 : Nat) : Int)) rfl rfl rfl ?_
    refine wL ?_
    simp only [zP, zI, zS, zO]
    refine then_normal ?_
    go_roundw
    case rel => exact ⟨i + 1, j + 1, kept ++ [x], mid2 ++ [x], rfl, rfl, by omega, by rw [df_filter hx, ← hkept, hpx]; rfl, by rw [List.length_append]; simp; exact hik, by simp, by simp at hij ⊢; omega, by rw [hik, df_set hx] at hv; exact hv⟩
    case measure => show l.length - (((j + 1 : Nat) : Int)).toNat < l.length - ((j : Int)).toNat; omega
   refine wpIn_skip ?_
   refine blk_normal ?_
   refine tN (hK15 _ _ ?_)
   clear hK15 K15
   have hpx : pr x = true := by simpa using hc19
   refine rL ?_
   refine xM (.int .i64 (j : Int)) rfl rfl rfl ?_
   refine xG (.int .i64 ((j + 1 : Nat) : Int)) rfl rfl (ex_add (m := (j : Int)) (n := 1) rfl rfl rfl (by rw [i64_in (by omega)]; omega)) ?_
   refine xA (.int .i64 ((j + 1 : Nat) : Int)) rfl rfl rfl ?_
   refine wL ?_
   simp only [zP, zI, zS, zO]
   refine then_normal ?_
   go_roundw
   case rel => exact ⟨i, j + 1, kept, mid ++ [x], rfl, rfl, by omega, by rw [df_filter hx, ← hkept, hpx]; simp, hik, by simp, by simp; omega, by rw [← df_skip hx]; exact hv⟩
   case measure => show l.length - (((j + 1 : Nat) : Int)).toNat < l.length - ((j : Int)).toNat; omega
  refine xG (.bool false) rfl rfl (ex_lss (k := .i64) (m := (j : Int)) (n := (l.length : Int)) rfl rfl rfl (decide_eq_false hb14)) ?_
  refine wL ?_
  simp only [zP, zI, zS, zO]
  refine tN (hK13 _ _ ?_)
  clear hK13 K13
  refine wpIn_cond_false rfl ?_
  refine wpIn_exit ?_
  refine then_exit ?_
  clear hK12 K12
  refine then_exit ?_
  refine blk_hit ?_
  refine tN (hK9 _ _ ?_)
  clear hK9 K9
  refine sK fun K22 hK22 => ?_
  obtain rfl : j = l.length := by omega
  rw [List.drop_length, List.append_nil, textCells_app] at hv
  rw [List.take_length] at hkept
  obtain ⟨L, hL1, hL2, hL3, hL4, hv⟩ := hv.rowCell
  obtain ⟨tl, hLe⟩ : ∃ tl, L = textCells kept ++ textCells mid ++ tl := ⟨L.drop (l.length * 1), by rw [← hL2, List.take_append_drop]⟩
  subst hLe
  have hkn : (textCells kept).length = i := by rw [textCells_n]; exact hik.symm
  refine rL ?_
  refine xM (.slice (some ⟨b, 0, none⟩) l.length rc) rfl rfl rfl ?_
  refine xM (.int .i64 (i : Int)) rfl rfl rfl ?_
  refine xG (.slice (some ⟨b, 0 + i, none⟩) (l.length - i) (rc - i)) rfl rfl (ex_slice (lo' := some (.int .i64 (i : Int))) rfl rfl (congrArg some rfl) rfl rfl (run_from1 Try.underlying33 s24es33 (by omega) (by omega))) ?_
  simp only [zP, zI, zS, zO]
  refine sl_clearAt 0 (pre := textCells kept) (mid := textCells mid) (post := tl) (m := l.length - i) tV (wn rfl) rfl rfl s24el33 (one_cons rfl one_nil) hv rfl rfl (by rw [hkn, Nat.zero_add]) (by rw [textCells_n]; omega) (fun zs w23 hzs hv => ?_)
  simp only [List.set_cons_zero] at hv
  refine wL ?_
  simp only [zN]
  refine tN (hK22 _ _ ?_)
  clear hK22 K22
  refine sK fun K24 hK24 => rL ?_
  refine xM (.slice (some ⟨b, 0, none⟩) l.length rc) rfl rfl rfl ?_
  refine xM (.int .i64 (i : Int)) rfl rfl rfl ?_
  refine xG (.slice (some ⟨b, 0, none⟩) i rc) rfl rfl (ex_slice (hi' := some (.int .i64 (i : Int))) rfl rfl rfl (congrArg some rfl) rfl (run_hi Try.underlying33 s24es33 (by omega))) ?_
  simp only [zP, zI, zS, zO]
  refine xA (.slice (some ⟨b, 0, none⟩) i rc) rfl rfl rfl ?_
  refine wL ?_
  simp only [zP, zI, zS, zO]
  refine tN (hK24 _ _ ?_)
  clear hK24 K24
  refine wpIn_ret ?_
  refine bR rfl rfl ?_
  have h8 := hv.cellRow (n := i) (c := rc) (size := 1) (by simp only [List.length_append, hzs] at hL1 ⊢; exact hL1) (by omega) hL4
  rw [List.append_assoc, Nat.mul_one, List.take_left' hkn, hik, hkept] at h8
  rw [hik, hkept]
  exact ⟨_, _, rfl, h8⟩
end Go.Proofs.Ytffmbdagjpdieaa
/- store.Names and Dump. -/
namespace Go.Proofs.Ytffmbdagjpdieaa
open Go.RowKit Go.Pm
theorem storeReadV (B : Base) (H : List Res) (w : World) (s p : Nat) (v : Value) (X : List (List Ent)) (bvs : List Value) (M : Model) (last mark stamp clock : Int) (key : List UInt8) (hx : IxM B X M) (hasc : AscM M) (hv : Inv B (Res.cell s [.pointer (some ⟨p, 0, none⟩), .int .i64 last, .int .i64 mark] 60 :: ixS 81 93 92 p v (M.length : Int) X bvs :: H) w) : Calls Try.prog 11 #[.pointer (some ⟨s, 0, none⟩), .string ⟨key.toArray⟩, .int .i64 stamp, .int .i64 clock] w
  fun e w' => ∃ C x p' t' z' ok, B.Le C ∧ e = .returned (.tuple #[.agg (verCells x p' t' z').toArray, .bool ok]) ∧ ((ok = true ∧ readV (getM M key) stamp clock = some x) ∨ (ok = false ∧ readV (getM M key) stamp clock = none)) ∧ ValAt C x.val p' t' z' ∧ Inv C (Res.cell s [.pointer (some ⟨p, 0, none⟩), .int .i64 last, .int .i64 mark] 60 :: ixS 81 93 92 p v (M.length : Int) X bvs :: H) w' := by
 refine (storeRead B H w s p v X bvs M last mark stamp clock key hx hv).mono ?_
 rintro e w' ⟨C, x, p', t', z', ok, h1, h2, h3, h4, h5⟩
 exact ⟨C, x, p', t', z', ok, h1, h2, readV_of (hasc key) h3, h4, h5⟩
theorem s26na24 (w : World) : (isAgg 24).run Try.prog w = .ok false w := by kernel_rfl
theorem s26callable11 : Callable Try.prog 11 := ⟨_, Try.func11, by kernel_rfl, by kernel_rfl⟩
theorem s26al38 (w : World) : (Instr.alloc 38 true (.tuple #[])).run Try.prog w = .ok (.pointer (some ⟨w.heap.size, 0, none⟩)) (w.alloc (.cells ([.int .i64 0, .bool false, .int .i64 0, .int .i64 0, .string ⟨([] : List UInt8).toArray⟩, .slice none 0 0, .slice none 0 0, .slice none 0 0] : List Value).toArray 38)) := by kernel_rfl
set_option maxHeartbeats 2000000 in
theorem namesFn (B : Base) (H : List Res) (w : World) (s p : Nat) (v : Value) (X : List (List Ent)) (bvs : List Value) (M : Model) (last mark stamp clock : Int) (g3 g4 g5 : Nat) (key : List UInt8) (hx : IxM B X M) (hasc : AscM M) (hv : Inv B (Res.cell g5 [.int .i64 clock] 3 :: Res.cell g4 [.int .i64 stamp] 3 :: Res.cell g3 [.pointer (some ⟨s, 0, none⟩)] 24 :: Res.cell s [.pointer (some ⟨p, 0, none⟩), .int .i64 last, .int .i64 mark] 60 :: ixS 81 93 92 p v (M.length : Int) X bvs :: H) w) :
  Calls Try.prog 33 #[.string ⟨key.toArray⟩, .pointer (some ⟨g3, 0, none⟩), .pointer (some ⟨g4, 0, none⟩), .pointer (some ⟨g5, 0, none⟩)] w fun e w' => e = .returned (.bool (!(readV (getM M key) stamp clock).isSome)) ∧ Inv B (Res.cell g5 [.int .i64 clock] 3 :: Res.cell g4 [.int .i64 stamp] 3 :: Res.cell g3 [.pointer (some ⟨s, 0, none⟩)] 24 :: Res.cell s [.pointer (some ⟨p, 0, none⟩), .int .i64 last, .int .i64 mark] 60 :: ixS 81 93 92 p v (M.length : Int) X bvs :: H) w' := by
 refine (callsIn_wide (n := 5)).1 ?_
 refine callsIn_of_wp Try.func33 rfl trivial ?_
 simp only [Try.ntmps33, List.size_toArray, List.length_cons, List.length_nil, Nat.reduceAdd, Nat.reduceSub, Array.replicate_succ, Array.replicate_zero, List.push_toArray, List.append_toArray, List.nil_append, List.cons_append]
 refine sK fun K1 hK1 => rL ?_
 refine xA (.bool false) rfl rfl rfl ?_
 refine wL ?_
 simp only [zP, zI, zS, zO]
 refine tN (hK1 _ _ ?_)
 clear hK1 K1
 refine sK fun K2 hK2 => rL ?_
 refine xL (.pointer (some ⟨s, 0, none⟩)) rfl rfl rfl (run_load1 s26na24 (hv.load 2 0 rfl rfl)) ?_
 refine xM (.string ⟨key.toArray⟩) rfl rfl rfl ?_
 refine xL (.int .i64 stamp) rfl rfl rfl (run_load1 s2na3 (hv.load 1 0 rfl rfl)) ?_
 simp only [zP, zI, zS, zO]
 refine xL (.int .i64 clock) rfl rfl rfl (run_load1 s2na3 (hv.load 0 0 rfl rfl)) ?_
 replace hv := hv.front 4 rfl
 simp only [List.eraseIdx_cons_succ, List.eraseIdx_cons_zero] at hv
 replace hv := hv.front 4 rfl
 simp only [List.eraseIdx_cons_succ, List.eraseIdx_cons_zero] at hv
 refine xC s26callable11 rfl rfl (l := [.pointer (some ⟨s, 0, none⟩), .string ⟨key.toArray⟩, .int .i64 stamp, .int .i64 clock]) rfl ((storeReadV B _ _ s p v X bvs M last mark stamp clock key hx hasc hv).mono ?_)
 rintro e w3 ⟨C, y, p3, t3, z3, ok, hBC, rfl, hrd, hvy, hv⟩
 refine ⟨_, rfl, ?_⟩
 rcases hrd with ⟨rfl, hrd⟩ | ⟨rfl, hrd⟩
 ·refine xM (.tuple #[.agg #[.int .i64 y.stamp, .bool y.gone, .int .i64 y.expire, .int .i64 y.val.kind, .string ⟨y.val.text.toArray⟩, p3, t3, z3], .bool true]) rfl rfl rfl ?_
  simp only [zP, zI, zS, zO]
  refine xG (.agg #[.int .i64 y.stamp, .bool y.gone, .int .i64 y.expire, .int .i64 y.val.kind, .string ⟨y.val.text.toArray⟩, p3, t3, z3]) rfl rfl (ex_extract rfl rfl rfl) ?_
  refine xG (.bool true) rfl rfl (ex_extract rfl rfl rfl) ?_
  refine sl_alloc tV (wn rfl) rfl hv s26al38 (fun b4 w5 hv => ?_)
  simp only [zP, zI, zS, zO]
  refine sl_storeNAt 0 (new := [.int .i64 y.stamp, .bool y.gone, .int .i64 y.expire, .int .i64 y.val.kind, .string ⟨y.val.text.toArray⟩, p3, t3, z3]) (pre := []) (mid := [.int .i64 0, .bool false, .int .i64 0, .int .i64 0, .string ⟨([] : List UInt8).toArray⟩, .slice none 0 0, .slice none 0 0, .slice none 0 0]) (post := []) (L' := [.int .i64 y.stamp, .bool y.gone, .int .i64 y.expire, .int .i64 y.val.kind, .string ⟨y.val.text.toArray⟩, p3, t3, z3]) tV (wn rfl) rfl rfl rfl hv rfl s1sz38 rfl rfl rfl (one_cons rfl (one_cons rfl (one_cons rfl (one_cons rfl (one_cons rfl (one_cons hvy.p.one (one_cons hvy.t.one (one_cons hvy.z.one one_nil)))))))) rfl (fun w6 hv => ?_)
  simp only [List.set_cons_zero] at hv
  refine xA (.bool true) rfl rfl rfl ?_
  refine wL ?_
  simp only [zP, zN, zI, zS, zO]
  refine tN (hK2 _ _ ?_)
  clear hK2 K2
  refine sK fun K7 hK7 => rL ?_
  refine xM (.bool true) rfl rfl rfl ?_
  refine xG (.bool false) rfl rfl (ex_not (b := true) rfl rfl rfl) ?_
  refine xA (.bool false) rfl rfl rfl ?_
  refine wL ?_
  simp only [zP, zI, zS, zO]
  refine tN (hK7 _ _ ?_)
  clear hK7 K7
  refine wpIn_ret ?_
  refine bR rfl rfl ?_
  exact ⟨by rw [hrd]; rfl, (((((((hv.front 2 rfl).front 2 rfl).front 5 rfl).front 5 rfl).front 5 rfl).sub (List.Sublist.cons_cons _ (List.Sublist.cons_cons _ (List.Sublist.cons_cons _ (List.Sublist.cons_cons _ (List.Sublist.cons_cons _ (List.Sublist.cons _ (List.Sublist.refl _))))))))).weak hBC⟩
 refine xM (.tuple #[.agg #[.int .i64 y.stamp, .bool y.gone, .int .i64 y.expire, .int .i64 y.val.kind, .string ⟨y.val.text.toArray⟩, p3, t3, z3], .bool false]) rfl rfl rfl ?_
 simp only [zP, zI, zS, zO]
 refine xG (.agg #[.int .i64 y.stamp, .bool y.gone, .int .i64 y.expire, .int .i64 y.val.kind, .string ⟨y.val.text.toArray⟩, p3, t3, z3]) rfl rfl (ex_extract rfl rfl rfl) ?_
 refine xG (.bool false) rfl rfl (ex_extract rfl rfl rfl) ?_
 refine sl_alloc tV (wn rfl) rfl hv s26al38 (fun b8 w9 hv => ?_)
 simp only [zP, zI, zS, zO]
 refine sl_storeNAt 0 (new := [.int .i64 y.stamp, .bool y.gone, .int .i64 y.expire, .int .i64 y.val.kind, .string ⟨y.val.text.toArray⟩, p3, t3, z3]) (pre := []) (mid := [.int .i64 0, .bool false, .int .i64 0, .int .i64 0, .string ⟨([] : List UInt8).toArray⟩, .slice none 0 0, .slice none 0 0, .slice none 0 0]) (post := []) (L' := [.int .i64 y.stamp, .bool y.gone, .int .i64 y.expire, .int .i64 y.val.kind, .string ⟨y.val.text.toArray⟩, p3, t3, z3]) tV (wn rfl) rfl rfl rfl hv rfl s1sz38 rfl rfl rfl (one_cons rfl (one_cons rfl (one_cons rfl (one_cons rfl (one_cons rfl (one_cons hvy.p.one (one_cons hvy.t.one (one_cons hvy.z.one one_nil)))))))) rfl (fun w10 hv => ?_)
 simp only [List.set_cons_zero] at hv
 refine xA (.bool false) rfl rfl rfl ?_
 refine wL ?_
 simp only [zP, zN, zI, zS, zO]
 refine tN (hK2 _ _ ?_)
 clear hK2 K2
 refine sK fun K11 hK11 => rL ?_
 refine xM (.bool false) rfl rfl rfl ?_
 refine xG (.bool true) rfl rfl (ex_not (b := false) rfl rfl rfl) ?_
 refine xA (.bool true) rfl rfl rfl ?_
 refine wL ?_
 simp only [zP, zI, zS, zO]
 refine tN (hK11 _ _ ?_)
 clear hK11 K11
 refine wpIn_ret ?_
 refine bR rfl rfl ?_
 exact ⟨by rw [hrd]; rfl, (((((((hv.front 2 rfl).front 2 rfl).front 5 rfl).front 5 rfl).front 5 rfl).sub (List.Sublist.cons_cons _ (List.Sublist.cons_cons _ (List.Sublist.cons_cons _ (List.Sublist.cons_cons _ (List.Sublist.cons_cons _ (List.Sublist.cons _ (List.Sublist.refl _))))))))).weak hBC⟩
theorem deleteFuncN (B : Base) (H : List Res) (w : World) (f : FuncId) (cb : Array Value) (ra : Option Addr) (rc n : Nat) (l : List (List UInt8)) (pr : List UInt8 → Bool) (hn : n = l.length) (hm : n ≤ 1000000) (hcal : Callable Try.prog f) (hf : ∀ (x : List UInt8) (r : Res) (w : World), Inv B (r :: H) w → Calls Try.prog f (#[.string ⟨x.toArray⟩] ++ cb) w fun e w' => e = .returned (.bool (!pr x)) ∧ Inv B (r :: H) w') (hv : Inv B (Res.row 9 1 (.slice ra n rc) n (textCells l) :: H) w) :
  Calls Try.prog 32 #[.slice ra n rc, .func (.func f) #[] cb] w fun e w' => ∃ ra' rc', e = .returned (.slice ra' (l.filter pr).length rc') ∧ Inv B (Res.row 9 1 (.slice ra' (l.filter pr).length rc') (l.filter pr).length (textCells (l.filter pr)) :: H) w' := by
 subst hn
 have h := deleteFunc B H w f cb ra rc l (fun x => !pr x) hm hcal hf hv
 simp only [Bool.not_not] at h
 exact h
theorem s26callable31 : Callable Try.prog 31 := ⟨_, Try.func31, by kernel_rfl, by kernel_rfl⟩
theorem s26callable33 : Callable Try.prog 33 := ⟨_, Try.func33, by kernel_rfl, by kernel_rfl⟩
theorem s26callable32 : Callable Try.prog 32 := ⟨_, Try.func32, by kernel_rfl, by kernel_rfl⟩
set_option maxHeartbeats 2000000 in
theorem storeNames (B : Base) (H : List Res) (w : World) (s p : Nat) (v : Value) (X : List (List Ent)) (bvs : List Value) (M : Model) (last mark stamp clock : Int) (hx : IxM B X M) (hasc : AscM M) (hv : Inv B (Res.cell s [.pointer (some ⟨p, 0, none⟩), .int .i64 last, .int .i64 mark] 60 :: ixS 81 93 92 p v (M.length : Int) X bvs :: H) w) :
  Calls Try.prog 14 #[.pointer (some ⟨s, 0, none⟩), .int .i64 stamp, .int .i64 clock] w fun e w' => ∃ ra rc, e = .returned (.slice ra (namesM M stamp clock).length rc) ∧ Inv B (Res.row 9 1 (.slice ra (namesM M stamp clock).length rc) (namesM M stamp clock).length (textCells (namesM M stamp clock)) :: Res.cell s [.pointer (some ⟨p, 0, none⟩), .int .i64 last, .int .i64 mark] 60 :: ixS 81 93 92 p v (M.length : Int) X bvs :: H) w' := by
 refine (callsIn_wide (n := 5)).1 ?_
 refine callsIn_of_wp Try.func14 rfl trivial ?_
 simp only [Try.ntmps14, List.size_toArray, List.length_cons, List.length_nil, Nat.reduceAdd, Nat.reduceSub, Array.replicate_succ, Array.replicate_zero, List.push_toArray, List.append_toArray, List.nil_append, List.cons_append]
 refine sK fun K1 hK1 => rL ?_
 refine sl_box (L := [.pointer (some ⟨s, 0, none⟩)]) tV (wn rfl) rfl (p := .pointer (some ⟨s, 0, none⟩)) rfl hv (fun w => by kernel_rfl) (fun b2 w3 hv => ?_)
 refine sl_box (L := [.int .i64 stamp]) tV (wn rfl) rfl (p := .int .i64 stamp) rfl hv (fun w => by kernel_rfl) (fun b4 w5 hv => ?_)
 refine sl_box (L := [.int .i64 clock]) tV (wn rfl) rfl (p := .int .i64 clock) rfl hv (fun w => by kernel_rfl) (fun b6 w7 hv => ?_)
 simp only [zP, zI, zS, zO]
 refine xA (.slice none 0 0) rfl rfl rfl ?_
 refine wL ?_
 simp only [zP, zI, zS, zO]
 refine tN (hK1 _ _ ?_)
 clear hK1 K1
 refine sK fun K8 hK8 => rL ?_
 refine xL (.pointer (some ⟨s, 0, none⟩)) rfl rfl rfl (run_load1 s26na24 (hv.load 2 0 rfl rfl)) ?_
 refine xG (.pointer (some ⟨s, 0, none⟩)) rfl rfl (ex_nil rfl rfl) ?_
 refine xF (.pointer (some ⟨s, 0, none⟩)) rfl rfl rfl (s15fa60_0 _ _ _) ?_
 simp only [zP, zI, zS, zO]
 refine xL (.pointer (some ⟨p, 0, none⟩)) rfl rfl rfl (run_load1 s3na57 (hv.load 3 0 rfl rfl)) ?_
 replace hv := hv.front 4 rfl
 simp only [List.eraseIdx_cons_succ, List.eraseIdx_cons_zero] at hv
 refine xC s26callable31 rfl rfl (l := [.pointer (some ⟨p, 0, none⟩), .string ⟨([] : List UInt8).toArray⟩, .int .i64 0]) rfl ((ixKeys B _ _ p v X bvs M hx hv).mono ?_)
 rintro e w9 ⟨ka, kc, rfl, hv⟩
 refine ⟨_, rfl, ?_⟩
 refine xG (.func (.func 33) #[] #[.pointer (some ⟨b2, 0, none⟩), .pointer (some ⟨b4, 0, none⟩), .pointer (some ⟨b6, 0, none⟩)]) rfl rfl (ex_makeFunc (c' := #[.pointer (some ⟨b2, 0, none⟩), .pointer (some ⟨b4, 0, none⟩), .pointer (some ⟨b6, 0, none⟩)]) rfl (by simp only [yA, yC]) (by simp only [yA, yB, yC]; rfl)) ?_
 simp only [zP, zI, zS, zO]
 have hfn : ∀ (x : List UInt8) (r9 : Res) (w : World), Inv B (r9 :: (ixS 81 93 92 p v (M.length : Int) X bvs :: Res.cell b6 [.int .i64 clock] 3 :: Res.cell b4 [.int .i64 stamp] 3 :: Res.cell b2 [.pointer (some ⟨s, 0, none⟩)] 24 :: Res.cell s [.pointer (some ⟨p, 0, none⟩), .int .i64 last, .int .i64 mark] 60 :: H)) w → Calls Try.prog 33 (#[.string ⟨x.toArray⟩] ++ #[.pointer (some ⟨b2, 0, none⟩), .pointer (some ⟨b4, 0, none⟩), .pointer (some ⟨b6, 0, none⟩)]) w fun e w' => e = .returned (.bool (!(readV (getM M x) stamp clock).isSome)) ∧ Inv B (r9 :: (ixS 81 93 92 p v (M.length : Int) X bvs :: Res.cell b6 [.int .i64 clock] 3 :: Res.cell b4 [.int .i64 stamp] 3 :: Res.cell b2 [.pointer (some ⟨s, 0, none⟩)] 24 :: Res.cell s [.pointer (some ⟨p, 0, none⟩), .int .i64 last, .int .i64 mark] 60 :: H)) w' := fun x r9 w hv =>
  (namesFn B _ w s p v X bvs M last mark stamp clock b2 b4 b6 x hx hasc (((((hv.front 1 rfl).front 5 rfl).front 5 rfl).front 5 rfl).front 5 rfl)).mono fun e w' ⟨h7, h8⟩ => ⟨h7, ((((((h8.front 3 rfl).front 3 rfl).front 3 rfl).front 3 rfl).front 4 rfl).front 5 rfl)⟩
 refine xC s26callable32 rfl rfl (l := [.slice ka M.length kc, .func (.func 33) #[] #[.pointer (some ⟨b2, 0, none⟩), .pointer (some ⟨b4, 0, none⟩), .pointer (some ⟨b6, 0, none⟩)]]) rfl ((deleteFuncN B _ _ 33 _ ka kc M.length (keysM M) (fun x => (readV (getM M x) stamp clock).isSome) (by rw [List.length_map]) (by have := hx.sm; omega) s26callable33 hfn hv).mono ?_)
 rintro e w10 ⟨ra, rc, rfl, hv⟩
 refine ⟨_, rfl, ?_⟩
 refine xA (.slice ra ((namesM M stamp clock).length) rc) rfl rfl rfl ?_
 refine wL ?_
 simp only [zP, zI, zS, zO]
 refine tN (hK8 _ _ ?_)
 clear hK8 K8
 refine wpIn_ret ?_
 refine bR rfl rfl ?_
 exact ⟨_, _, rfl, ((((hv.front 1 rfl).front 5 rfl).front 2 rfl).sub (List.Sublist.cons_cons _ (List.Sublist.cons_cons _ (List.Sublist.cons_cons _ (List.Sublist.cons _ (List.Sublist.cons _ (List.Sublist.cons _ (List.Sublist.refl _))))))))⟩
theorem s26mk40 : (Try.prog.info? 40).map (fun i => (i.zero, i.size, i.bytes)) = some (some (.agg #[.string ⟨([] : List UInt8).toArray⟩, .int .i64 0, .bool false, .int .i64 0, .int .i64 0, .string ⟨([] : List UInt8).toArray⟩, .slice none 0 0, .slice none 0 0, .slice none 0 0]), 9, 136) := by kernel_rfl
theorem s26el27 : Elem Try.prog 27 40 (.agg #[.string ⟨([] : List UInt8).toArray⟩, .int .i64 0, .bool false, .int .i64 0, .int .i64 0, .string ⟨([] : List UInt8).toArray⟩, .slice none 0 0, .slice none 0 0, .slice none 0 0]) 9 136 := elem_of Try.underlying27 s26mk40 (by rfl) (by decide)
set_option maxHeartbeats 4000000 in
theorem storeDump (B : Base) (H : List Res) (w : World) (s p : Nat) (v : Value) (X : List (List Ent)) (bvs : List Value) (M : Model) (last mark clock : Int) (hx : IxM B X M) (hasc : AscM M) (hv : Inv B (Res.cell s [.pointer (some ⟨p, 0, none⟩), .int .i64 last, .int .i64 mark] 60 :: ixS 81 93 92 p v (M.length : Int) X bvs :: H) w) :
  Calls Try.prog 13 #[.pointer (some ⟨s, 0, none⟩), .int .i64 clock] w fun e w' => ∃ C ra rc ys, B.Le C ∧ e = .returned (.slice ra (dumpM M last clock).length rc) ∧ SliceOk ra (dumpM M last clock).length rc ∧ RdV C [] ra ys ∧ WrsAt C (dumpM M last clock) ys ∧ Inv C (Res.cell s [.pointer (some ⟨p, 0, none⟩), .int .i64 last, .int .i64 mark] 60 :: ixS 81 93 92 p v (M.length : Int) X bvs :: H) w' := by
 refine (callsIn_wide (n := 5)).1 ?_
 refine callsIn_of_wp Try.func13 rfl trivial ?_
 simp only [Try.ntmps13, List.size_toArray, List.length_cons, List.length_nil, Nat.reduceAdd, Nat.reduceSub, Array.replicate_succ, Array.replicate_zero, List.push_toArray, List.append_toArray, List.nil_append, List.cons_append]
 refine sK fun K1 hK1 => rL ?_
 refine xA (.slice none 0 0) rfl rfl rfl ?_
 refine wL ?_
 simp only [zP, zI, zS, zO]
 refine tN (hK1 _ _ ?_)
 clear hK1 K1
 refine sK fun K2 hK2 => rL ?_
 refine xA (.slice none 0 0) rfl rfl rfl ?_
 refine wL ?_
 simp only [zP, zI, zS, zO]
 refine tN (hK2 _ _ ?_)
 clear hK2 K2
 refine sK fun K3 hK3 => ?_
 refine sK fun K4 hK4 => rL ?_
 refine xM (.pointer (some ⟨s, 0, none⟩)) rfl rfl rfl ?_
 refine xG (.pointer (some ⟨s, 0, none⟩)) rfl rfl (ex_nil rfl rfl) ?_
 refine xF (.pointer (some ⟨s, 0, none⟩)) rfl rfl rfl (s15fa60_0 _ _ _) ?_
 simp only [zP, zI, zS, zO]
 refine xL (.pointer (some ⟨p, 0, none⟩)) rfl rfl rfl (run_load1 s3na57 (hv.load 0 0 rfl rfl)) ?_
 replace hv := hv.front 1 rfl
 simp only [List.eraseIdx_cons_succ, List.eraseIdx_cons_zero] at hv
 refine xC s26callable31 rfl rfl (l := [.pointer (some ⟨p, 0, none⟩), .string ⟨([] : List UInt8).toArray⟩, .int .i64 0]) rfl ((ixKeys B _ _ p v X bvs M hx hv).mono ?_)
 rintro e w5 ⟨ka, kc, rfl, hv⟩
 refine ⟨_, rfl, ?_⟩
 obtain ⟨K0, hK0, hv7, hrk, -, -⟩ := hv.rowBy
 clear hv
 have hv := hv7
 clear hv7
 refine xG (.int .i64 (M.length : Int)) rfl rfl (ex_len0 Try.underlying33 rfl rfl) ?_
 simp only [zP, zI, zS, zO]
 refine xM (.int .i64 0) rfl rfl rfl ?_
 refine wL ?_
 simp only [zP, zI, zS, zO]
 refine tN (hK4 _ _ ?_)
 clear hK4 K4
 refine wpIn_block ?_
 gi_loopw [5, 16] (fun x5 x16 wr => ∃ (i n1 : Nat) (C : Base) (ra : Option Addr) (rc : Nat) (ys : List Value), x5 = .slice ra n1 rc ∧ x16 = .int .i64 (i : Int) ∧ K0.Le C ∧ i ≤ M.length ∧ n1 = (dumpM (M.take i) last clock).length ∧ WrsAt C (dumpM (M.take i) last clock) ys ∧ Inv C (Res.row 40 9 (.slice ra n1 rc) n1 ys :: Res.cell s [.pointer (some ⟨p, 0, none⟩), .int .i64 last, .int .i64 mark] 60 :: ixS 81 93 92 p v (M.length : Int) X bvs :: H) wr) (fun x5 x16 _ => M.length - (intOf x16).toNat)
 case atStart => exact ⟨0, 0, K0, none, 0, [], rfl, rfl, Base.Le.refl _, Nat.zero_le _, rfl, rfl, ((hv.front 1 rfl)).rowNil 40 9⟩
 case round =>
  obtain ⟨i, n1, C, ra, rc, ys, rfl, rfl, hKC, hi, hn1, hys, hv⟩ := hrel
  have hn1b := dumpM_le (M.take i) last clock
  rw [List.length_take] at hn1b
  have hMs := hx.sm
  refine sK fun K7 hK7 => rL ?_
  by_cases hb8 : (i : Int) < (M.length : Int)
  ·refine xG (.bool true) rfl rfl (ex_lss (k := .i64) (m := (i : Int)) (n := (M.length : Int)) rfl rfl rfl (decide_eq_true hb8)) ?_
   refine wL ?_
   simp only [zP, zI, zS, zO]
   refine tN (hK7 _ _ ?_)
   clear hK7 K7
   refine sK fun K9 hK9 => ?_
   refine wpIn_cond_true rfl ?_
   refine wpIn_skip ?_
   refine tN (hK9 _ _ ?_)
   clear hK9 K9
   refine sK fun K10 hK10 => ?_
   refine wpIn_block ?_
   refine sK fun K11 hK11 => ?_
   obtain ⟨m, hm⟩ : ∃ m, M[i]? = some m := ⟨_, List.getElem?_eq_getElem (show i < M.length by omega)⟩
   obtain ⟨bb, bo, had, hrdk⟩ := text_reads hrk (key_at hm)
   subst had
   have hgm := getM_at hx.sorted (List.mem_of_getElem? hm)
   refine rL ?_
   refine xG (.pointer (some ⟨bb, bo + i, none⟩)) rfl rfl (ex_index rfl rfl rfl (run_idx1 (k := i) Try.underlying33 s9es33 (by omega))) ?_
   refine xL (.string ⟨m.1.toArray⟩) rfl rfl rfl (run_load1 s3na9 (hrdk _ _ _ hKC no_res hv 0 _ rfl)) ?_
   refine xA (.string ⟨m.1.toArray⟩) rfl rfl rfl ?_
   refine wL ?_
   simp only [zP, zI, zS, zO]
   refine tN (hK11 _ _ ?_)
   clear hK11 K11
   refine sK fun K12 hK12 => rL ?_
   refine xM (.pointer (some ⟨s, 0, none⟩)) rfl rfl rfl ?_
   refine xM (.string ⟨m.1.toArray⟩) rfl rfl rfl ?_
   refine xM (.pointer (some ⟨s, 0, none⟩)) rfl rfl rfl ?_
   simp only [zP, zI, zS, zO]
   refine xG (.pointer (some ⟨s, 0, none⟩)) rfl rfl (ex_nil rfl rfl) ?_
   refine xF (.pointer (some ⟨s, 1, none⟩)) rfl rfl rfl (s15fa60_1 _ _ _) ?_
   refine xL (.int .i64 last) rfl rfl rfl (run_load1 s2na3 (hv.load 1 1 rfl rfl)) ?_
   simp only [zP, zI, zS, zO]
   refine xM (.int .i64 clock) rfl rfl rfl ?_
   replace hv := hv.front 2 rfl
   simp only [List.eraseIdx_cons_succ, List.eraseIdx_cons_zero] at hv
   replace hv := hv.front 2 rfl
   simp only [List.eraseIdx_cons_succ, List.eraseIdx_cons_zero] at hv
   refine xC s26callable11 rfl rfl (l := [.pointer (some ⟨s, 0, none⟩), .string ⟨m.1.toArray⟩, .int .i64 last, .int .i64 clock]) rfl ((storeReadV C _ _ s p v X bvs M last mark last clock m.1 (hx.more (hK0.trans hKC)) hasc hv).mono ?_)
   rintro e w13 ⟨D, y, p3, t3, z3, ok, hCD, rfl, hrd, hvy, hv⟩
   refine ⟨_, rfl, ?_⟩
   rw [hgm] at hrd
   rcases hrd with ⟨rfl, hrd⟩ | ⟨rfl, hrd⟩
   ·refine xM (.tuple #[.agg #[.int .i64 y.stamp, .bool y.gone, .int .i64 y.expire, .int .i64 y.val.kind, .string ⟨y.val.text.toArray⟩, p3, t3, z3], .bool true]) rfl rfl rfl ?_
    simp only [zP, zI, zS, zO]
    refine xG (.agg #[.int .i64 y.stamp, .bool y.gone, .int .i64 y.expire, .int .i64 y.val.kind, .string ⟨y.val.text.toArray⟩, p3, t3, z3]) rfl rfl (ex_extract rfl rfl rfl) ?_
    refine xG (.bool true) rfl rfl (ex_extract rfl rfl rfl) ?_
    refine sl_alloc tV (wn rfl) rfl hv s26al38 (fun b14 w15 hv => ?_)
    simp only [zP, zI, zS, zO]
    refine sl_storeNAt 0 (new := [.int .i64 y.stamp, .bool y.gone, .int .i64 y.expire, .int .i64 y.val.kind, .string ⟨y.val.text.toArray⟩, p3, t3, z3]) (pre := []) (mid := [.int .i64 0, .bool false, .int .i64 0, .int .i64 0, .string ⟨([] : List UInt8).toArray⟩, .slice none 0 0, .slice none 0 0, .slice none 0 0]) (post := []) (L' := [.int .i64 y.stamp, .bool y.gone, .int .i64 y.expire, .int .i64 y.val.kind, .string ⟨y.val.text.toArray⟩, p3, t3, z3]) tV (wn rfl) rfl rfl rfl hv rfl s1sz38 rfl rfl rfl (one_cons rfl (one_cons rfl (one_cons rfl (one_cons rfl (one_cons rfl (one_cons hvy.p.one (one_cons hvy.t.one (one_cons hvy.z.one one_nil)))))))) rfl (fun w16 hv => ?_)
    simp only [List.set_cons_zero] at hv
    refine xA (.bool true) rfl rfl rfl ?_
    refine wL ?_
    simp only [zP, zN, zI, zS, zO]
    refine tN (hK12 _ _ ?_)
    clear hK12 K12
    refine sK fun K17 hK17 => rL ?_
    refine xM (.bool true) rfl rfl rfl ?_
    refine wL ?_
    simp only [zP, zI, zS, zO]
    refine tN (hK17 _ _ ?_)
    clear hK17 K17
    refine wpIn_cond_true rfl ?_
    refine rL ?_
    refine xM (.slice ra n1 rc) rfl rfl rfl ?_
    refine xM (.string ⟨m.1.toArray⟩) rfl rfl rfl ?_
    refine xL (.agg #[.int .i64 y.stamp, .bool y.gone, .int .i64 y.expire, .int .i64 y.val.kind, .string ⟨y.val.text.toArray⟩, p3, t3, z3]) rfl rfl rfl (run_load_mid (pre := []) (mid := [.int .i64 y.stamp, .bool y.gone, .int .i64 y.expire, .int .i64 y.val.kind, .string ⟨y.val.text.toArray⟩, p3, t3, z3]) (post := []) s1wd38 (show Blk _ b14 ([] ++ [.int .i64 y.stamp, .bool y.gone, .int .i64 y.expire, .int .i64 y.val.kind, .string ⟨y.val.text.toArray⟩, p3, t3, z3] ++ []) _ from hv.get 0 rfl) rfl) ?_
    simp only [zP, zI, zS, zO]
    refine xG (.agg #[.string ⟨m.1.toArray⟩, .int .i64 y.stamp, .bool y.gone, .int .i64 y.expire, .int .i64 y.val.kind, .string ⟨y.val.text.toArray⟩, p3, t3, z3]) rfl rfl (ex_buildN (vs := #[(0, .string ⟨m.1.toArray⟩), (1, .agg #[.int .i64 y.stamp, .bool y.gone, .int .i64 y.expire, .int .i64 y.val.kind, .string ⟨y.val.text.toArray⟩, p3, t3, z3])]) rfl (by simp only [yA, yB, yC]; rfl) (by kernel_rfl)) ?_
    refine sl_rowAgg (L := [.string ⟨m.1.toArray⟩, .int .i64 y.stamp, .bool y.gone, .int .i64 y.expire, .int .i64 y.val.kind, .string ⟨y.val.text.toArray⟩, p3, t3, z3]) tV (wn rfl) rfl rfl hv s26el27 rfl (by decide) (fun b18 w19 hv => ?_)
    replace hv := hv.front 4 rfl
    simp only [List.eraseIdx_cons_succ, List.eraseIdx_cons_zero] at hv
    refine sl_append (news := [.string ⟨m.1.toArray⟩, .int .i64 y.stamp, .bool y.gone, .int .i64 y.expire, .int .i64 y.val.kind, .string ⟨y.val.text.toArray⟩, p3, t3, z3]) tV (wn rfl) rfl rfl rfl s26el27 hv (ok_full (by omega)) rfl (rd_all (hv.get 1 rfl)) (wrCells_one (v := ⟨m.1, y⟩) hvy) (by unfold maxLen; omega) (by omega) (fun rv20 w23 hv => ?_)
    obtain ⟨ra21, rc22, rfl⟩ := row_slice hv.head
    simp only [zP, zI, zS, zO]
    refine xA (.slice ra21 (n1 + 1) rc22) rfl rfl rfl ?_
    refine wL ?_
    simp only [zP, zI, zS, zO]
    refine blk_normal ?_
    refine tN (hK10 _ _ ?_)
    clear hK10 K10
    refine rL ?_
    refine xG (.int .i64 ((i + 1 : Nat) : Int)) rfl rfl (ex_add (m := (i : Int)) (n := 1) rfl rfl rfl (by rw [i64_in (by omega)]; omega)) ?_
    refine xM (.int .i64 ((i + 1 : Nat) : Int)) rfl rfl rfl ?_
    refine wL ?_
    simp only [zP, zI, zS, zO]
    refine then_normal ?_
    go_roundw
    case rel => exact ⟨i + 1, n1 + 1, _, _, _, _, rfl, rfl, (hKC.trans hCD), by omega, by rw [dumpM_some hm hrd, List.length_append, ← hn1]; rfl, by rw [dumpM_some hm hrd]; exact WrsAt.append (WrsAt.single (v := ⟨m.1, y⟩) hvy) (hys.more hCD), ((((hv.front 4 rfl).front 4 rfl).front 2 rfl).sub (List.Sublist.cons_cons _ (List.Sublist.cons_cons _ (List.Sublist.cons_cons _ (List.Sublist.cons _ (List.Sublist.cons _ (List.Sublist.refl _)))))))⟩
    case measure => show M.length - (((i + 1 : Nat) : Int)).toNat < M.length - ((i : Int)).toNat; omega
   refine xM (.tuple #[.agg #[.int .i64 y.stamp, .bool y.gone, .int .i64 y.expire, .int .i64 y.val.kind, .string ⟨y.val.text.toArray⟩, p3, t3, z3], .bool false]) rfl rfl rfl ?_
   simp only [zP, zI, zS, zO]
   refine xG (.agg #[.int .i64 y.stamp, .bool y.gone, .int .i64 y.expire, .int .i64 y.val.kind, .string ⟨y.val.text.toArray⟩, p3, t3, z3]) rfl rfl (ex_extract rfl rfl rfl) ?_
   refine xG (.bool false) rfl rfl (ex_extract rfl rfl rfl) ?_
   refine sl_alloc tV (wn rfl) rfl hv s26al38 (fun b24 w25 hv => ?_)
   simp only [zP, zI, zS, zO]
   refine sl_storeNAt 0 (new := [.int .i64 y.stamp, .bool y.gone, .int .i64 y.expire, .int .i64 y.val.kind, .string ⟨y.val.text.toArray⟩, p3, t3, z3]) (pre := []) (mid := [.int .i64 0, .bool false, .int .i64 0, .int .i64 0, .string ⟨([] : List UInt8).toArray⟩, .slice none 0 0, .slice none 0 0, .slice none 0 0]) (post := []) (L' := [.int .i64 y.stamp, .bool y.gone, .int .i64 y.expire, .int .i64 y.val.kind, .string ⟨y.val.text.toArray⟩, p3, t3, z3]) tV (wn rfl) rfl rfl rfl hv rfl s1sz38 rfl rfl rfl (one_cons rfl (one_cons rfl (one_cons rfl (one_cons rfl (one_cons rfl (one_cons hvy.p.one (one_cons hvy.t.one (one_cons hvy.z.one one_nil)))))))) rfl (fun w26 hv => ?_)
   simp only [List.set_cons_zero] at hv
   refine xA (.bool false) rfl rfl rfl ?_
   refine wL ?_
   simp only [zP, zN, zI, zS, zO]
   refine tN (hK12 _ _ ?_)
   clear hK12 K12
   refine sK fun K27 hK27 => rL ?_
   refine xM (.bool false) rfl rfl rfl ?_
   refine wL ?_
   simp only [zP, zI, zS, zO]
   refine tN (hK27 _ _ ?_)
   clear hK27 K27
   refine wpIn_cond_false rfl ?_
   refine wpIn_skip ?_
   refine blk_normal ?_
   refine tN (hK10 _ _ ?_)
   clear hK10 K10
   refine rL ?_
   refine xG (.int .i64 ((i + 1 : Nat) : Int)) rfl rfl (ex_add (m := (i : Int)) (n := 1) rfl rfl rfl (by rw [i64_in (by omega)]; omega)) ?_
   refine xM (.int .i64 ((i + 1 : Nat) : Int)) rfl rfl rfl ?_
   refine wL ?_
   simp only [zP, zI, zS, zO]
   refine then_normal ?_
   go_roundw
   case rel => exact ⟨i + 1, n1, _, _, _, _, rfl, rfl, (hKC.trans hCD), by omega, by rw [dumpM_none hm hrd, ← hn1], by rw [dumpM_none hm hrd]; exact hys.more hCD, ((((hv.front 2 rfl).front 2 rfl).front 3 rfl).sub (List.Sublist.cons_cons _ (List.Sublist.cons_cons _ (List.Sublist.cons_cons _ (List.Sublist.cons _ (List.Sublist.refl _))))))⟩
   case measure => show M.length - (((i + 1 : Nat) : Int)).toNat < M.length - ((i : Int)).toNat; omega
  refine xG (.bool false) rfl rfl (ex_lss (k := .i64) (m := (i : Int)) (n := (M.length : Int)) rfl rfl rfl (decide_eq_false hb8)) ?_
  refine wL ?_
  simp only [zP, zI, zS, zO]
  refine tN (hK7 _ _ ?_)
  clear hK7 K7
  refine sK fun K28 hK28 => ?_
  refine wpIn_cond_false rfl ?_
  refine wpIn_exit ?_
  refine then_exit ?_
  clear hK28 K28
  refine then_exit ?_
  refine blk_hit ?_
  refine tN (hK3 _ _ ?_)
  clear hK3 K3
  refine sK fun K29 hK29 => rL ?_
  refine xM (.slice ra n1 rc) rfl rfl rfl ?_
  refine xA (.slice ra n1 rc) rfl rfl rfl ?_
  refine wL ?_
  simp only [zP, zI, zS, zO]
  refine tN (hK29 _ _ ?_)
  clear hK29 K29
  refine wpIn_ret ?_
  refine bR rfl rfl ?_
  obtain rfl : i = M.length := by omega
  rw [List.take_length] at hn1 hys
  subst hn1
  obtain ⟨D, hCD, hv, hrD, hokD, -⟩ := ((((hv.front 2 rfl).front 2 rfl).front 2 rfl)).rowBy
  exact ⟨D, _, _, _, hK0.trans (hKC.trans hCD), rfl, hokD, hrD, hys.more hCD, hv⟩
end Go.Proofs.Ytffmbdagjpdieaa
/- awake, walked; the reference's Same1. -/
namespace Go.Proofs.Ytffmbdagjpdieaa
open Go.RowKit Go.Pm
theorem s27al40 (w : World) : (Instr.alloc 40 true (.tuple #[])).run Try.prog w = .ok (.pointer (some ⟨w.heap.size, 0, none⟩)) (w.alloc (.cells ([.string ⟨([] : List UInt8).toArray⟩, .int .i64 0, .bool false, .int .i64 0, .int .i64 0, .string ⟨([] : List UInt8).toArray⟩, .slice none 0 0, .slice none 0 0, .slice none 0 0] : List Value).toArray 40)) := by kernel_rfl
set_option maxHeartbeats 2000000 in
theorem lawText (B : Base) (H : List Res) (w : World) (k t : List UInt8) (hv : Inv B H w) :
  Calls Try.prog 20 #[.string ⟨k.toArray⟩, .string ⟨t.toArray⟩] w fun e w' => e = .returned (.agg #[.string ⟨k.toArray⟩, .int .i64 0, .bool false, .int .i64 0, .int .i64 1, .string ⟨t.toArray⟩, .slice none 0 0, .slice none 0 0, .slice none 0 0]) ∧ Inv B H w' := by
 refine (callsIn_wide (n := 5)).1 ?_
 refine callsIn_of_wp Try.func20 rfl trivial ?_
 simp only [Try.ntmps20, List.size_toArray, List.length_cons, List.length_nil, Nat.reduceAdd, Nat.reduceSub, Array.replicate_succ, Array.replicate_zero, List.push_toArray, List.append_toArray, List.nil_append, List.cons_append]
 refine sK fun K1 hK1 => rL ?_
 refine sl_alloc tV (wn rfl) rfl hv s27al40 (fun b2 w3 hv => ?_)
 refine wL ?_
 simp only [zP, zI, zS, zO]
 refine tN (hK1 _ _ ?_)
 clear hK1 K1
 refine sK fun K4 hK4 => rL ?_
 refine xM (.string ⟨k.toArray⟩) rfl rfl rfl ?_
 refine xM (.string ⟨t.toArray⟩) rfl rfl rfl ?_
 refine xG (.agg #[.int .i64 1, .string ⟨t.toArray⟩, .slice none 0 0, .slice none 0 0, .slice none 0 0]) rfl rfl (ex_buildN (vs := #[(0, .int .i64 1), (1, .string ⟨t.toArray⟩)]) rfl (by simp only [yA, yB, yC]; rfl) (by kernel_rfl)) ?_
 simp only [zP, zI, zS, zO]
 refine xG (.agg #[.int .i64 0, .bool false, .int .i64 0, .int .i64 1, .string ⟨t.toArray⟩, .slice none 0 0, .slice none 0 0, .slice none 0 0]) rfl rfl (ex_buildN (vs := #[(3, .agg #[.int .i64 1, .string ⟨t.toArray⟩, .slice none 0 0, .slice none 0 0, .slice none 0 0])]) rfl (by simp only [yA, yB, yC]; rfl) (by kernel_rfl)) ?_
 refine xG (.agg #[.string ⟨k.toArray⟩, .int .i64 0, .bool false, .int .i64 0, .int .i64 1, .string ⟨t.toArray⟩, .slice none 0 0, .slice none 0 0, .slice none 0 0]) rfl rfl (ex_buildN (vs := #[(0, .string ⟨k.toArray⟩), (1, .agg #[.int .i64 0, .bool false, .int .i64 0, .int .i64 1, .string ⟨t.toArray⟩, .slice none 0 0, .slice none 0 0, .slice none 0 0])]) rfl (by simp only [yA, yB, yC]; rfl) (by kernel_rfl)) ?_
 refine sl_storeNAt 0 (new := [.string ⟨k.toArray⟩, .int .i64 0, .bool false, .int .i64 0, .int .i64 1, .string ⟨t.toArray⟩, .slice none 0 0, .slice none 0 0, .slice none 0 0]) (pre := []) (mid := [.string ⟨([] : List UInt8).toArray⟩, .int .i64 0, .bool false, .int .i64 0, .int .i64 0, .string ⟨([] : List UInt8).toArray⟩, .slice none 0 0, .slice none 0 0, .slice none 0 0]) (post := []) (L' := [.string ⟨k.toArray⟩, .int .i64 0, .bool false, .int .i64 0, .int .i64 1, .string ⟨t.toArray⟩, .slice none 0 0, .slice none 0 0, .slice none 0 0]) tV (wn rfl) rfl rfl rfl hv rfl s8sz40 rfl rfl rfl (one_cons rfl (one_cons rfl (one_cons rfl (one_cons rfl (one_cons rfl (one_cons rfl (one_cons rfl (one_cons rfl (one_cons rfl one_nil))))))))) rfl (fun w5 hv => ?_)
 simp only [List.set_cons_zero] at hv
 refine wL ?_
 simp only [zP, zN, zI, zS, zO]
 refine tN (hK4 _ _ ?_)
 clear hK4 K4
 refine wpIn_ret ?_
 refine bodyPost_ret (res_cell1 rfl rfl (run_load_mid (pre := []) (mid := [.string ⟨k.toArray⟩, .int .i64 0, .bool false, .int .i64 0, .int .i64 1, .string ⟨t.toArray⟩, .slice none 0 0, .slice none 0 0, .slice none 0 0]) (post := []) s8wd40 (show Blk _ b2 ([] ++ [.string ⟨k.toArray⟩, .int .i64 0, .bool false, .int .i64 0, .int .i64 1, .string ⟨t.toArray⟩, .slice none 0 0, .slice none 0 0, .slice none 0 0] ++ []) _ from hv.get 0 rfl) rfl)) rfl ?_
 exact ⟨rfl, (hv.sub (List.Sublist.cons _ (List.Sublist.refl _)))⟩
set_option maxHeartbeats 2000000 in
theorem lawGone (B : Base) (H : List Res) (w : World) (k : List UInt8) (hv : Inv B H w) :
  Calls Try.prog 21 #[.string ⟨k.toArray⟩] w fun e w' => e = .returned (.agg #[.string ⟨k.toArray⟩, .int .i64 0, .bool true, .int .i64 0, .int .i64 0, .string ⟨([] : List UInt8).toArray⟩, .slice none 0 0, .slice none 0 0, .slice none 0 0]) ∧ Inv B H w' := by
 refine (callsIn_wide (n := 5)).1 ?_
 refine callsIn_of_wp Try.func21 rfl trivial ?_
 simp only [Try.ntmps21, List.size_toArray, List.length_cons, List.length_nil, Nat.reduceAdd, Nat.reduceSub, Array.replicate_succ, Array.replicate_zero, List.push_toArray, List.append_toArray, List.nil_append, List.cons_append]
 refine sK fun K1 hK1 => rL ?_
 refine sl_alloc tV (wn rfl) rfl hv s27al40 (fun b2 w3 hv => ?_)
 refine wL ?_
 simp only [zP, zI, zS, zO]
 refine tN (hK1 _ _ ?_)
 clear hK1 K1
 refine sK fun K4 hK4 => rL ?_
 refine xM (.string ⟨k.toArray⟩) rfl rfl rfl ?_
 refine xG (.agg #[.int .i64 0, .bool true, .int .i64 0, .int .i64 0, .string ⟨([] : List UInt8).toArray⟩, .slice none 0 0, .slice none 0 0, .slice none 0 0]) rfl rfl (ex_buildN (vs := #[(1, .bool true)]) rfl (by simp only [yA, yB, yC]; rfl) (by kernel_rfl)) ?_
 refine xG (.agg #[.string ⟨k.toArray⟩, .int .i64 0, .bool true, .int .i64 0, .int .i64 0, .string ⟨([] : List UInt8).toArray⟩, .slice none 0 0, .slice none 0 0, .slice none 0 0]) rfl rfl (ex_buildN (vs := #[(0, .string ⟨k.toArray⟩), (1, .agg #[.int .i64 0, .bool true, .int .i64 0, .int .i64 0, .string ⟨([] : List UInt8).toArray⟩, .slice none 0 0, .slice none 0 0, .slice none 0 0])]) rfl (by simp only [yA, yB, yC]; rfl) (by kernel_rfl)) ?_
 simp only [zP, zI, zS, zO]
 refine sl_storeNAt 0 (new := [.string ⟨k.toArray⟩, .int .i64 0, .bool true, .int .i64 0, .int .i64 0, .string ⟨([] : List UInt8).toArray⟩, .slice none 0 0, .slice none 0 0, .slice none 0 0]) (pre := []) (mid := [.string ⟨([] : List UInt8).toArray⟩, .int .i64 0, .bool false, .int .i64 0, .int .i64 0, .string ⟨([] : List UInt8).toArray⟩, .slice none 0 0, .slice none 0 0, .slice none 0 0]) (post := []) (L' := [.string ⟨k.toArray⟩, .int .i64 0, .bool true, .int .i64 0, .int .i64 0, .string ⟨([] : List UInt8).toArray⟩, .slice none 0 0, .slice none 0 0, .slice none 0 0]) tV (wn rfl) rfl rfl rfl hv rfl s8sz40 rfl rfl rfl (one_cons rfl (one_cons rfl (one_cons rfl (one_cons rfl (one_cons rfl (one_cons rfl (one_cons rfl (one_cons rfl (one_cons rfl one_nil))))))))) rfl (fun w5 hv => ?_)
 simp only [List.set_cons_zero] at hv
 refine wL ?_
 simp only [zN]
 refine tN (hK4 _ _ ?_)
 clear hK4 K4
 refine wpIn_ret ?_
 refine bodyPost_ret (res_cell1 rfl rfl (run_load_mid (pre := []) (mid := [.string ⟨k.toArray⟩, .int .i64 0, .bool true, .int .i64 0, .int .i64 0, .string ⟨([] : List UInt8).toArray⟩, .slice none 0 0, .slice none 0 0, .slice none 0 0]) (post := []) s8wd40 (show Blk _ b2 ([] ++ [.string ⟨k.toArray⟩, .int .i64 0, .bool true, .int .i64 0, .int .i64 0, .string ⟨([] : List UInt8).toArray⟩, .slice none 0 0, .slice none 0 0, .slice none 0 0] ++ []) _ from hv.get 0 rfl) rfl)) rfl ?_
 exact ⟨rfl, (hv.sub (List.Sublist.cons _ (List.Sublist.refl _)))⟩
def wA : Wr := ⟨[97], ⟨0, false, 0, ⟨1, [120], [], [], []⟩⟩⟩
def wB : Wr := ⟨[97], ⟨0, true, 0, ⟨0, [], [], [], []⟩⟩⟩
def vA : Ver := ⟨1, false, 0, ⟨1, [120], [], [], []⟩⟩
def vB : Ver := ⟨2, true, 0, ⟨0, [], [], [], []⟩⟩
theorem chainOk1 {x : Ver} (h : VerOk x) (h1 : 0 < x.stamp) (h2 : x.stamp ≤ 1152921504606846975) : ChainOk [x] := by
 intro i y hy
 cases i with
 | zero => simp at hy; subst hy; exact ⟨h, h1, h2, fun j z hj => by omega⟩
 | succ i => simp at hy
theorem chainOk2 {x z : Ver} (h : VerOk x) (h1 : 0 < x.stamp) (hz : VerOk z) (h3 : x.stamp < z.stamp) (h2 : z.stamp ≤ 1152921504606846975) : ChainOk [x, z] := by
 intro i y hy
 match i, hy with
 | 0, hy => simp at hy; subst hy; exact ⟨h, h1, by omega, fun j w hj => by omega⟩
 | 1, hy =>
  simp at hy; subst hy
  exact ⟨hz, by omega, h2, fun j w hj hw => by
   obtain rfl : j = 0 := by omega
   simp at hw; subst hw; exact h3⟩
 | i + 2, hy => simp at hy
theorem vokA (s : Int) : VerOk { vA with stamp := s } := .inr ⟨rfl, Int.le_refl _, (by decide : (0 : Int) ≤ 1099511627776), .inl ⟨rfl, (by decide : 1 ≤ 4096), rfl, rfl, rfl⟩⟩
theorem vokB (s : Int) : VerOk { vB with stamp := s } := .inl ⟨rfl, rfl, rfl, rfl, rfl, rfl, rfl⟩
theorem appA : AppOk [] 0 [wA] := ⟨by decide, by simp, fun x hx => by
  rw [List.mem_singleton.1 hx]; exact ⟨by decide, chainOk1 (vokA 1) (by decide) (by decide)⟩, fun x hx => by
  rw [List.mem_singleton.1 hx]; exact ⟨chainOk1 (vokA 1) (by decide) (by decide), by decide⟩, by decide⟩
theorem appB : AppOk [([97], [vA])] 1 [wB] := ⟨by decide, by simp, fun x hx => by
  rw [List.mem_singleton.1 hx]; exact ⟨by decide, chainOk1 (vokB 1) (by decide) (by decide)⟩, fun x hx => by
  rw [List.mem_singleton.1 hx]; exact ⟨chainOk2 (vokA 1) (by decide) (vokB 2) (by decide) (by decide), by decide⟩, by decide⟩
theorem ascB : AscM [([97], [vA, vB])] := ascM_of fun m hm => by
 rw [List.mem_singleton.1 hm]
 exact (chainOk2 (vokA 1) (by decide) (vokB 2) (by decide) (by decide)).asc
theorem getM_one {a k : List UInt8} (c : List Ver) (h : k ≠ a) : getM [(a, c)] k = [] := by rw [getM_cons_ne (fun e => h e.symm)]; rfl
theorem s27callable7 : Callable Try.prog 7 := ⟨_, Try.func7, by kernel_rfl, by kernel_rfl⟩
theorem s27callable20 : Callable Try.prog 20 := ⟨_, Try.func20, by kernel_rfl, by kernel_rfl⟩
theorem s27mk40 : (Try.prog.info? 40).map (fun i => (i.zero, i.size, i.bytes)) = some (some (.agg #[.string ⟨([] : List UInt8).toArray⟩, .int .i64 0, .bool false, .int .i64 0, .int .i64 0, .string ⟨([] : List UInt8).toArray⟩, .slice none 0 0, .slice none 0 0, .slice none 0 0]), 9, 136) := by kernel_rfl
theorem s27el27 : Elem Try.prog 27 40 (.agg #[.string ⟨([] : List UInt8).toArray⟩, .int .i64 0, .bool false, .int .i64 0, .int .i64 0, .string ⟨([] : List UInt8).toArray⟩, .slice none 0 0, .slice none 0 0, .slice none 0 0]) 9 136 := elem_of Try.underlying27 s27mk40 (by rfl) (by decide)
theorem s27callable9 : Callable Try.prog 9 := ⟨_, Try.func9, by kernel_rfl, by kernel_rfl⟩
theorem s27callable21 : Callable Try.prog 21 := ⟨_, Try.func21, by kernel_rfl, by kernel_rfl⟩
theorem s27al38 (w : World) : (Instr.alloc 38 true (.tuple #[])).run Try.prog w = .ok (.pointer (some ⟨w.heap.size, 0, none⟩)) (w.alloc (.cells ([.int .i64 0, .bool false, .int .i64 0, .int .i64 0, .string ⟨([] : List UInt8).toArray⟩, .slice none 0 0, .slice none 0 0, .slice none 0 0] : List Value).toArray 38)) := by kernel_rfl
theorem s27callable16 : Callable Try.prog 16 := ⟨_, Try.func16, by kernel_rfl, by kernel_rfl⟩
set_option maxHeartbeats 4000000 in
theorem lawAwake (B : Base) (H : List Res) (w : World) (hv : Inv B H w) :
  Calls Try.prog 6 #[] w fun e w' => e = .returned (.bool true) ∧ Inv B H w' := by
 refine (callsIn_wide (n := 5)).1 ?_
 refine callsIn_of_wp Try.func6 rfl trivial ?_
 simp only [Try.ntmps6, List.size_toArray, List.length_nil, Nat.reduceSub, Array.replicate_succ, Array.replicate_zero, List.push_toArray, List.append_toArray, List.nil_append, List.cons_append]
 refine sK fun K1 hK1 => rL ?_
 refine xA (.bool false) rfl rfl rfl ?_
 refine wL ?_
 simp only [zP, zI, zO]
 refine tN (hK1 _ _ ?_)
 clear hK1 K1
 refine sK fun K2 hK2 => rL ?_
 refine xC s27callable7 rfl rfl (l := []) rfl ((storeNew B _ _ hv).mono ?_)
 rintro e w3 ⟨s, p, rfl, hv⟩
 refine ⟨_, rfl, ?_⟩
 refine xA (.pointer (some ⟨s, 0, none⟩)) rfl rfl rfl ?_
 refine wL ?_
 simp only [zP, zI, zS, zO]
 refine tN (hK2 _ _ ?_)
 clear hK2 K2
 refine sK fun K4 hK4 => ?_
 refine sK fun K5 hK5 => rL ?_
 refine xM (.pointer (some ⟨s, 0, none⟩)) rfl rfl rfl ?_
 refine xG (.bool false) rfl rfl (ex_pisnil Try.underlying24 rfl rfl rfl rfl) ?_
 refine wL ?_
 simp only [zP, zI, zS, zO]
 refine tN (hK5 _ _ ?_)
 clear hK5 K5
 refine wpIn_cond_false rfl ?_
 refine wpIn_skip ?_
 refine tN (hK4 _ _ ?_)
 clear hK4 K4
 refine sK fun K6 hK6 => rL ?_
 refine xM (.pointer (some ⟨s, 0, none⟩)) rfl rfl rfl ?_
 refine xC s27callable20 rfl rfl (l := [.string ⟨([97] : List UInt8).toArray⟩, .string ⟨([120] : List UInt8).toArray⟩]) rfl ((lawText B _ _ _ _ hv).mono ?_)
 rintro e w7 ⟨rfl, hv⟩
 refine ⟨_, rfl, ?_⟩
 refine sl_rowAgg (L := [.string ⟨([97] : List UInt8).toArray⟩, .int .i64 0, .bool false, .int .i64 0, .int .i64 1, .string ⟨([120] : List UInt8).toArray⟩, .slice none 0 0, .slice none 0 0, .slice none 0 0]) tV (wn rfl) rfl rfl hv s27el27 rfl (by decide) (fun b8 w9 hv => ?_)
 simp only [zP, zI, zS, zO]
 obtain ⟨D1, hD1, hv, hrD1, -, -⟩ := (hv.cellRow (n := 1) (c := 1) (size := 9) rfl (by decide) (by decide)).rowBy
 replace hv := hv.front 1 rfl
 simp only [List.eraseIdx_cons_succ, List.eraseIdx_cons_zero] at hv
 replace hv := hv.front 1 rfl
 simp only [List.eraseIdx_cons_succ, List.eraseIdx_cons_zero] at hv
 refine xC s27callable9 rfl rfl (l := [.pointer (some ⟨s, 0, none⟩), .slice (some ⟨b8, 0, none⟩) 1 1]) rfl ((storeApply D1 _ _ s p _ [] [] [] 0 0 _ _ _ [wA] (ixm_nil D1) (by decide) hrD1 (WrsAt.single (v := wA) ⟨row_nil _, row_nil _, row_nil _, by decide, by decide, by decide⟩) (by decide) (by decide) hv).mono ?_)
 rintro e w10 ⟨E1, n1, ec1, hE1, rfl, hor⟩
 refine ⟨_, rfl, ?_⟩
 rcases hor with ⟨-, hno, -⟩ | ⟨rfl, hn, -, v1, X1, bvs1, M1, hx1, hset, hv⟩
 ·exact absurd (appA) hno
 obtain rfl : n1 = 1 := hn
 simp only [Int.reduceAdd] at hv
 have hM1 : M1 = [([97], [vA])] := one_model hx1 (hset.got 0 wA (by decide) rfl) (by decide) (fun k hk => hset.rest k (fun j x hj hx => by rw [show j = 0 by have h9 : j < 1 := hj; omega] at hx; cases hx; exact fun e => hk e.symm))
 refine xM (.tuple #[.int .i64 1, .int .i64 0]) rfl rfl rfl ?_
 refine xG (.int .i64 1) rfl rfl (ex_extract rfl rfl rfl) ?_
 simp only [zP, zI, zS, zO]
 refine xG (.int .i64 0) rfl rfl (ex_extract rfl rfl rfl) ?_
 refine xA (.int .i64 1) rfl rfl rfl ?_
 refine xA (.int .i64 0) rfl rfl rfl ?_
 refine wL ?_
 simp only [zP, zI, zS, zO]
 refine tN (hK6 _ _ ?_)
 clear hK6 K6
 refine sK fun K11 hK11 => rL ?_
 refine xM (.pointer (some ⟨s, 0, none⟩)) rfl rfl rfl ?_
 refine xC s27callable21 rfl rfl (l := [.string ⟨([97] : List UInt8).toArray⟩]) rfl ((lawGone E1 _ _ _ hv).mono ?_)
 rintro e w12 ⟨rfl, hv⟩
 refine ⟨_, rfl, ?_⟩
 refine sl_rowAgg (L := [.string ⟨([97] : List UInt8).toArray⟩, .int .i64 0, .bool true, .int .i64 0, .int .i64 0, .string ⟨([] : List UInt8).toArray⟩, .slice none 0 0, .slice none 0 0, .slice none 0 0]) tV (wn rfl) rfl rfl hv s27el27 rfl (by decide) (fun b13 w14 hv => ?_)
 simp only [zP, zI, zS, zO]
 obtain ⟨D2, hD2, hv, hrD2, -, -⟩ := (hv.cellRow (n := 1) (c := 1) (size := 9) rfl (by decide) (by decide)).rowBy
 replace hv := hv.front 1 rfl
 simp only [List.eraseIdx_cons_succ, List.eraseIdx_cons_zero] at hv
 replace hv := hv.front 1 rfl
 simp only [List.eraseIdx_cons_succ, List.eraseIdx_cons_zero] at hv
 refine xC s27callable9 rfl rfl (l := [.pointer (some ⟨s, 0, none⟩), .slice (some ⟨b13, 0, none⟩) 1 1]) rfl ((storeApply D2 _ _ s p _ X1 _ M1 1 0 _ _ _ [wB] (hx1.more hD2) (by decide) hrD2 (WrsAt.single (v := wB) ⟨row_nil _, row_nil _, row_nil _, by decide, by decide, by decide⟩) (by decide) (by rw [hM1]; decide) hv).mono ?_)
 rintro e w15 ⟨E2, n2, ec2, hE2, rfl, hor⟩
 refine ⟨_, rfl, ?_⟩
 rcases hor with ⟨-, hno, -⟩ | ⟨rfl, hn, -, v2, X2, bvs2, M2, hx2, hset, hv⟩
 ·exact absurd (by rw [hM1]; exact appB) hno
 obtain rfl : n2 = 2 := hn
 simp only [Int.reduceAdd] at hv
 have hM2 : M2 = [([97], [vA, vB])] := one_model hx2 ((hset.got 0 wB (by decide) rfl).trans (by rw [hM1]; rfl)) (by decide) (fun k hk => by rw [hset.rest k (fun j x hj hx => by rw [show j = 0 by have h9 : j < 1 := hj; omega] at hx; cases hx; exact fun e => hk e.symm), hM1]; exact getM_one _ hk)
 have hasc : AscM M2 := by rw [hM2]; exact ascB
 refine xM (.tuple #[.int .i64 2, .int .i64 0]) rfl rfl rfl ?_
 refine xG (.int .i64 2) rfl rfl (ex_extract rfl rfl rfl) ?_
 simp only [zP, zI, zS, zO]
 refine xG (.int .i64 0) rfl rfl (ex_extract rfl rfl rfl) ?_
 refine xA (.int .i64 2) rfl rfl rfl ?_
 refine xA (.int .i64 0) rfl rfl rfl ?_
 refine wL ?_
 simp only [zP, zI, zS, zO]
 refine tN (hK11 _ _ ?_)
 clear hK11 K11
 refine sK fun K16 hK16 => rL ?_
 refine xM (.pointer (some ⟨s, 0, none⟩)) rfl rfl rfl ?_
 replace hv := hv.front 1 rfl
 simp only [List.eraseIdx_cons_succ, List.eraseIdx_cons_zero] at hv
 replace hv := hv.front 1 rfl
 simp only [List.eraseIdx_cons_succ, List.eraseIdx_cons_zero] at hv
 refine xC s26callable11 rfl rfl (l := [.pointer (some ⟨s, 0, none⟩), .string ⟨([97] : List UInt8).toArray⟩, .int .i64 1, .int .i64 0]) rfl ((storeReadV E2 _ _ s p v2 X2 bvs2 M2 2 0 1 0 [97] (hx2.more (Base.Le.refl _)) hasc hv).mono ?_)
 rintro e w17 ⟨F1, y1, p1, t1, z1, ok1, hF1, rfl, hrd, hvy1, hv⟩
 refine ⟨_, rfl, ?_⟩
 rw [hM2] at hrd
 rcases hrd with ⟨rfl, hrd⟩ | ⟨-, hrd⟩
 rotate_left
 ·cases hrd
 have hy1 : y1 = vA := by cases hrd; rfl
 refine xM (.tuple #[.agg #[.int .i64 y1.stamp, .bool y1.gone, .int .i64 y1.expire, .int .i64 y1.val.kind, .string ⟨y1.val.text.toArray⟩, p1, t1, z1], .bool true]) rfl rfl rfl ?_
 simp only [zP, zI, zS, zO]
 refine xG (.agg #[.int .i64 y1.stamp, .bool y1.gone, .int .i64 y1.expire, .int .i64 y1.val.kind, .string ⟨y1.val.text.toArray⟩, p1, t1, z1]) rfl rfl (ex_extract rfl rfl rfl) ?_
 refine xG (.bool true) rfl rfl (ex_extract rfl rfl rfl) ?_
 refine sl_alloc tV (wn rfl) rfl hv s27al38 (fun b18 w19 hv => ?_)
 simp only [zP, zI, zS, zO]
 refine sl_storeNAt 0 (new := [.int .i64 y1.stamp, .bool y1.gone, .int .i64 y1.expire, .int .i64 y1.val.kind, .string ⟨y1.val.text.toArray⟩, p1, t1, z1]) (pre := []) (mid := [.int .i64 0, .bool false, .int .i64 0, .int .i64 0, .string ⟨([] : List UInt8).toArray⟩, .slice none 0 0, .slice none 0 0, .slice none 0 0]) (post := []) (L' := [.int .i64 y1.stamp, .bool y1.gone, .int .i64 y1.expire, .int .i64 y1.val.kind, .string ⟨y1.val.text.toArray⟩, p1, t1, z1]) tV (wn rfl) rfl rfl rfl hv rfl s1sz38 rfl rfl rfl (one_cons rfl (one_cons rfl (one_cons rfl (one_cons rfl (one_cons rfl (one_cons hvy1.p.one (one_cons hvy1.t.one (one_cons hvy1.z.one one_nil)))))))) rfl (fun w20 hv => ?_)
 simp only [List.set_cons_zero] at hv
 refine xA (.bool true) rfl rfl rfl ?_
 refine wL ?_
 simp only [zP, zN, zI, zS, zO]
 refine tN (hK16 _ _ ?_)
 clear hK16 K16
 refine sK fun K21 hK21 => rL ?_
 refine xM (.pointer (some ⟨s, 0, none⟩)) rfl rfl rfl ?_
 replace hv := hv.front 2 rfl
 simp only [List.eraseIdx_cons_succ, List.eraseIdx_cons_zero] at hv
 replace hv := hv.front 2 rfl
 simp only [List.eraseIdx_cons_succ, List.eraseIdx_cons_zero] at hv
 refine xC s26callable11 rfl rfl (l := [.pointer (some ⟨s, 0, none⟩), .string ⟨([97] : List UInt8).toArray⟩, .int .i64 2, .int .i64 0]) rfl ((storeReadV F1 _ _ s p v2 X2 bvs2 M2 2 0 2 0 [97] (hx2.more hF1) hasc hv).mono ?_)
 rintro e w22 ⟨F2, y2, p2, t2, z2, ok2, hF2, rfl, hrd, hvy2, hv⟩
 refine ⟨_, rfl, ?_⟩
 rw [hM2] at hrd
 rcases hrd with ⟨-, hrd⟩ | ⟨rfl, hrd⟩
 ·cases hrd
 refine xM (.tuple #[.agg #[.int .i64 y2.stamp, .bool y2.gone, .int .i64 y2.expire, .int .i64 y2.val.kind, .string ⟨y2.val.text.toArray⟩, p2, t2, z2], .bool false]) rfl rfl rfl ?_
 simp only [zP, zI, zS, zO]
 refine xG (.agg #[.int .i64 y2.stamp, .bool y2.gone, .int .i64 y2.expire, .int .i64 y2.val.kind, .string ⟨y2.val.text.toArray⟩, p2, t2, z2]) rfl rfl (ex_extract rfl rfl rfl) ?_
 refine xG (.bool false) rfl rfl (ex_extract rfl rfl rfl) ?_
 refine sl_alloc tV (wn rfl) rfl hv s27al38 (fun b23 w24 hv => ?_)
 simp only [zP, zI, zS, zO]
 refine sl_storeNAt 0 (new := [.int .i64 y2.stamp, .bool y2.gone, .int .i64 y2.expire, .int .i64 y2.val.kind, .string ⟨y2.val.text.toArray⟩, p2, t2, z2]) (pre := []) (mid := [.int .i64 0, .bool false, .int .i64 0, .int .i64 0, .string ⟨([] : List UInt8).toArray⟩, .slice none 0 0, .slice none 0 0, .slice none 0 0]) (post := []) (L' := [.int .i64 y2.stamp, .bool y2.gone, .int .i64 y2.expire, .int .i64 y2.val.kind, .string ⟨y2.val.text.toArray⟩, p2, t2, z2]) tV (wn rfl) rfl rfl rfl hv rfl s1sz38 rfl rfl rfl (one_cons rfl (one_cons rfl (one_cons rfl (one_cons rfl (one_cons rfl (one_cons hvy2.p.one (one_cons hvy2.t.one (one_cons hvy2.z.one one_nil)))))))) rfl (fun w25 hv => ?_)
 simp only [List.set_cons_zero] at hv
 refine xA (.bool false) rfl rfl rfl ?_
 refine wL ?_
 simp only [zP, zN, zI, zS, zO]
 refine tN (hK21 _ _ ?_)
 clear hK21 K21
 refine sK fun K26 hK26 => rL ?_
 refine xM (.pointer (some ⟨s, 0, none⟩)) rfl rfl rfl ?_
 replace hv := hv.front 2 rfl
 simp only [List.eraseIdx_cons_succ, List.eraseIdx_cons_zero] at hv
 replace hv := hv.front 2 rfl
 simp only [List.eraseIdx_cons_succ, List.eraseIdx_cons_zero] at hv
 refine xC s27callable16 rfl rfl (l := [.pointer (some ⟨s, 0, none⟩), .int .i64 2, .int .i64 0]) rfl ((storePrune F2 _ _ s p v2 X2 bvs2 M2 2 0 2 0 (hx2.more (hF1.trans hF2)) (by rw [hM2]; decide) hasc hv).mono ?_)
 rintro e w27 ⟨G, n3, ec3, hG, rfl, hor⟩
 refine ⟨_, rfl, ?_⟩
 rcases hor with ⟨hno, -⟩ | ⟨-, rfl, hn, v3, X3, bvs3, M3, hx3, -, hv⟩
 ·exact absurd ⟨by decide, by decide⟩ hno
 obtain rfl : n3 = 2 := by rw [hn, hM2]; rfl
 refine xM (.tuple #[.int .i64 2, .int .i64 0]) rfl rfl rfl ?_
 simp only [zP, zI, zS, zO]
 refine xG (.int .i64 2) rfl rfl (ex_extract rfl rfl rfl) ?_
 refine xG (.int .i64 0) rfl rfl (ex_extract rfl rfl rfl) ?_
 refine xA (.int .i64 2) rfl rfl rfl ?_
 simp only [zP, zI, zS, zO]
 refine xA (.int .i64 0) rfl rfl rfl ?_
 refine wL ?_
 simp only [zP, zI, zS, zO]
 refine tN (hK26 _ _ ?_)
 clear hK26 K26
 refine sK fun K28 hK28 => rL ?_
 refine xM (.int .i64 1) rfl rfl rfl ?_
 refine xG (.bool true) rfl rfl (ex_eql (k := .i64) (m := 1) (n := 1) rfl rfl rfl (by decide)) ?_
 refine xM (.bool true) rfl rfl rfl ?_
 simp only [zP, zI, zS, zO]
 refine xH 2 46 true (.int .i64 0) rfl rfl rfl rfl (ex_move rfl rfl) ?_
 refine xH 2 46 true (.bool true) rfl rfl rfl rfl (ex_eql (k := .i64) (m := 0) (n := 0) rfl rfl rfl (by decide)) ?_
 refine xK true (.bool true) rfl rfl rfl rfl ?_
 simp only [zP, zI, zS, zO]
 refine xM (.bool true) rfl rfl rfl ?_
 refine xH 6 50 true (.int .i64 2) rfl rfl rfl rfl (ex_move rfl rfl) ?_
 refine xH 6 50 true (.bool true) rfl rfl rfl rfl (ex_eql (k := .i64) (m := 2) (n := 2) rfl rfl rfl (by decide)) ?_
 simp only [zP, zI, zS, zO]
 refine xK true (.bool true) rfl rfl rfl rfl ?_
 refine xM (.bool true) rfl rfl rfl ?_
 refine xH 10 54 true (.int .i64 0) rfl rfl rfl rfl (ex_move rfl rfl) ?_
 simp only [zP, zI, zS, zO]
 refine xH 10 54 true (.bool true) rfl rfl rfl rfl (ex_eql (k := .i64) (m := 0) (n := 0) rfl rfl rfl (by decide)) ?_
 refine xK true (.bool true) rfl rfl rfl rfl ?_
 refine xM (.bool true) rfl rfl rfl ?_
 simp only [zP, zI, zS, zO]
 refine xH 14 58 true (.bool true) rfl rfl rfl rfl (ex_move rfl rfl) ?_
 refine xK true (.bool true) rfl rfl rfl rfl ?_
 refine xM (.bool true) rfl rfl rfl ?_
 simp only [zP, zI, zS, zO]
 refine xH 17 61 true (.pointer (some ⟨b18, 3, none⟩)) rfl rfl rfl rfl (ex_field rfl rfl (s1fa38_3 _ _ _)) ?_
 refine xH 17 61 true (.pointer (some ⟨b18, 4, none⟩)) rfl rfl rfl rfl (ex_field rfl rfl (s12fa36_1 _ _ _)) ?_
 refine xH 17 61 true (.string ⟨y1.val.text.toArray⟩) rfl rfl rfl rfl (ex_load rfl rfl (run_load1 s3na9 (hv.load 3 4 rfl rfl))) ?_
 simp only [zP, zI, zS, zO]
 refine xH 17 61 true (.bool true) rfl rfl rfl rfl (ex_seql (s := y1.val.text) (s' := ([120] : List UInt8)) rfl rfl rfl (decide_eq_true (by rw [hy1]; rfl))) ?_
 refine xK true (.bool true) rfl rfl rfl rfl ?_
 refine xM (.bool true) rfl rfl rfl ?_
 simp only [zP, zI, zS, zO]
 refine xH 23 67 true (.bool false) rfl rfl rfl rfl (ex_move rfl rfl) ?_
 refine xH 23 67 true (.bool true) rfl rfl rfl rfl (ex_not (b := false) rfl rfl rfl) ?_
 refine xK true (.bool true) rfl rfl rfl rfl ?_
 simp only [zP, zI, zS, zO]
 refine xM (.bool true) rfl rfl rfl ?_
 refine xH 27 71 true (.int .i64 2) rfl rfl rfl rfl (ex_move rfl rfl) ?_
 refine xH 27 71 true (.bool true) rfl rfl rfl rfl (ex_eql (k := .i64) (m := 2) (n := 2) rfl rfl rfl (by decide)) ?_
 simp only [zP, zI, zS, zO]
 refine xK true (.bool true) rfl rfl rfl rfl ?_
 refine xM (.bool true) rfl rfl rfl ?_
 refine xH 31 75 true (.int .i64 0) rfl rfl rfl rfl (ex_move rfl rfl) ?_
 simp only [zP, zI, zS, zO]
 refine xH 31 75 true (.bool true) rfl rfl rfl rfl (ex_eql (k := .i64) (m := 0) (n := 0) rfl rfl rfl (by decide)) ?_
 refine xK true (.bool true) rfl rfl rfl rfl ?_
 refine xA (.bool true) rfl rfl rfl ?_
 refine wL ?_
 simp only [zP, zI, zS, zO]
 refine tN (hK28 _ _ ?_)
 clear hK28 K28
 refine wpIn_ret ?_
 refine bR rfl rfl ?_
 exact ⟨rfl, ((hv.sub (List.Sublist.cons _ (List.Sublist.cons _ (List.Sublist.cons _ (List.Sublist.cons _ (List.Sublist.refl _))))))).weak ((((((hD1.trans hE1).trans hD2).trans hE2).trans hF1).trans hF2).trans hG)⟩
theorem s27callable12 : Callable Try.prog 12 := ⟨_, Try.func12, by kernel_rfl, by kernel_rfl⟩
set_option maxHeartbeats 2000000 in
theorem refSame1 (B : Base) (H : List Res) (w : World) (u : Ver) (p t z p' t' z' : Value) (h : ValAt B u.val p t z) (h' : ValAt B u.val p' t' z') (hv : Inv B H w) :
  Calls Try.prog 15 #[.agg #[.int .i64 u.stamp, .bool u.gone, .int .i64 u.expire, .int .i64 u.val.kind, .string ⟨u.val.text.toArray⟩, p, t, z], .agg #[.int .i64 u.stamp, .bool u.gone, .int .i64 u.expire, .int .i64 u.val.kind, .string ⟨u.val.text.toArray⟩, p', t', z']] w fun e w' => e = .returned (.bool true) ∧ Inv B H w' := by
 refine (callsIn_wide (n := 5)).1 ?_
 refine callsIn_of_wp Try.func15 rfl trivial ?_
 simp only [Try.ntmps15, List.size_toArray, List.length_cons, List.length_nil, Nat.reduceAdd, Nat.reduceSub, Array.replicate_succ, Array.replicate_zero, List.push_toArray, List.append_toArray, List.nil_append, List.cons_append]
 refine sK fun K1 hK1 => rL ?_
 refine sl_box (L := [.int .i64 u.stamp, .bool u.gone, .int .i64 u.expire, .int .i64 u.val.kind, .string ⟨u.val.text.toArray⟩, p, t, z]) tV (wn rfl) rfl (p := .agg #[.int .i64 u.stamp, .bool u.gone, .int .i64 u.expire, .int .i64 u.val.kind, .string ⟨u.val.text.toArray⟩, p, t, z]) rfl hv (fun w => by kernel_rfl) (fun b2 w3 hv => ?_)
 refine sl_box (L := [.int .i64 u.stamp, .bool u.gone, .int .i64 u.expire, .int .i64 u.val.kind, .string ⟨u.val.text.toArray⟩, p', t', z']) tV (wn rfl) rfl (p := .agg #[.int .i64 u.stamp, .bool u.gone, .int .i64 u.expire, .int .i64 u.val.kind, .string ⟨u.val.text.toArray⟩, p', t', z']) rfl hv (fun w => by kernel_rfl) (fun b4 w5 hv => ?_)
 refine xA (.bool false) rfl rfl rfl ?_
 refine wL ?_
 simp only [zP, zI, zS, zO]
 refine tN (hK1 _ _ ?_)
 clear hK1 K1
 refine sK fun K6 hK6 => rL ?_
 refine xF (.pointer (some ⟨b2, 0, none⟩)) rfl rfl rfl (s2fa38_0 _ _ _) ?_
 refine xL (.int .i64 u.stamp) rfl rfl rfl (run_load1 s2na3 (hv.load 1 0 rfl rfl)) ?_
 refine xF (.pointer (some ⟨b4, 0, none⟩)) rfl rfl rfl (s2fa38_0 _ _ _) ?_
 simp only [zP, zI, zS, zO]
 refine xL (.int .i64 u.stamp) rfl rfl rfl (run_load1 s2na3 (hv.load 0 0 rfl rfl)) ?_
 refine xG (.bool true) rfl rfl (ex_eql (k := .i64) (m := u.stamp) (n := u.stamp) rfl rfl rfl (decide_eq_true (rfl))) ?_
 refine xM (.bool true) rfl rfl rfl ?_
 simp only [zP, zI, zS, zO]
 refine xH 5 10 true (.pointer (some ⟨b2, 1, none⟩)) rfl rfl rfl rfl (ex_field rfl rfl (s2fa38_1 _ _ _)) ?_
 refine xH 5 10 true (.bool u.gone) rfl rfl rfl rfl (ex_load rfl rfl (run_load1 s2na4 (hv.load 1 1 rfl rfl))) ?_
 refine xH 5 10 true (.pointer (some ⟨b4, 1, none⟩)) rfl rfl rfl rfl (ex_field rfl rfl (s2fa38_1 _ _ _)) ?_
 simp only [zP, zI, zS, zO]
 refine xH 5 10 true (.bool u.gone) rfl rfl rfl rfl (ex_load rfl rfl (run_load1 s2na4 (hv.load 0 1 rfl rfl))) ?_
 refine xH 5 10 true (.bool true) rfl rfl rfl rfl (ex_beqS (p := u.gone) (q := u.gone) Try.underlying4 rfl rfl rfl (by simp)) ?_
 refine xK true (.bool true) rfl rfl rfl rfl ?_
 simp only [zP, zI, zS, zO]
 refine xM (.bool true) rfl rfl rfl ?_
 refine xH 12 17 true (.pointer (some ⟨b2, 2, none⟩)) rfl rfl rfl rfl (ex_field rfl rfl (s2fa38_2 _ _ _)) ?_
 refine xH 12 17 true (.int .i64 u.expire) rfl rfl rfl rfl (ex_load rfl rfl (run_load1 s2na3 (hv.load 1 2 rfl rfl))) ?_
 simp only [zP, zI, zS, zO]
 refine xH 12 17 true (.pointer (some ⟨b4, 2, none⟩)) rfl rfl rfl rfl (ex_field rfl rfl (s2fa38_2 _ _ _)) ?_
 refine xH 12 17 true (.int .i64 u.expire) rfl rfl rfl rfl (ex_load rfl rfl (run_load1 s2na3 (hv.load 0 2 rfl rfl))) ?_
 refine xH 12 17 true (.bool true) rfl rfl rfl rfl (ex_eql (k := .i64) (m := u.expire) (n := u.expire) rfl rfl rfl (decide_eq_true (rfl))) ?_
 simp only [zP, zI, zS, zO]
 refine xK true (.bool true) rfl rfl rfl rfl ?_
 refine xM (.bool true) rfl rfl rfl ?_
 refine xH 19 24 true (.pointer (some ⟨b2, 3, none⟩)) rfl rfl rfl rfl (ex_field rfl rfl (s1fa38_3 _ _ _)) ?_
 simp only [zP, zI, zS, zO]
 refine xH 19 24 true (.agg #[.int .i64 u.val.kind, .string ⟨u.val.text.toArray⟩, p, t, z]) rfl rfl rfl rfl (ex_load rfl rfl (run_load_mid (pre := [.int .i64 u.stamp, .bool u.gone, .int .i64 u.expire]) (mid := [.int .i64 u.val.kind, .string ⟨u.val.text.toArray⟩, p, t, z]) (post := []) s1wd36 (show Blk _ b2 ([.int .i64 u.stamp, .bool u.gone, .int .i64 u.expire] ++ [.int .i64 u.val.kind, .string ⟨u.val.text.toArray⟩, p, t, z] ++ []) _ from hv.get 1 rfl) rfl)) ?_
 refine xH 19 24 true (.pointer (some ⟨b4, 3, none⟩)) rfl rfl rfl rfl (ex_field rfl rfl (s1fa38_3 _ _ _)) ?_
 refine xH 19 24 true (.agg #[.int .i64 u.val.kind, .string ⟨u.val.text.toArray⟩, p', t', z']) rfl rfl rfl rfl (ex_load rfl rfl (run_load_mid (pre := [.int .i64 u.stamp, .bool u.gone, .int .i64 u.expire]) (mid := [.int .i64 u.val.kind, .string ⟨u.val.text.toArray⟩, p', t', z']) (post := []) s1wd36 (show Blk _ b4 ([.int .i64 u.stamp, .bool u.gone, .int .i64 u.expire] ++ [.int .i64 u.val.kind, .string ⟨u.val.text.toArray⟩, p', t', z'] ++ []) _ from hv.get 0 rfl) rfl)) ?_
 simp only [zP, zI, zS, zO]
 refine wpi_callG s27callable12 tV wideC rfl (wanted_of (j := 19) (d := 24) (b := true) rfl rfl rfl) rfl (args := #[.agg #[.int .i64 u.val.kind, .string ⟨u.val.text.toArray⟩, p, t, z], .agg #[.int .i64 u.val.kind, .string ⟨u.val.text.toArray⟩, p', t', z']]) (by simp only [yA, yB, yC]; rfl) ((refSameV B _ _ u.val _ _ _ _ _ _ h.rd h'.rd (by have := h.pm; omega) (by have := h.tm; omega) (by have := h.zm; omega) hv).mono ?_)
 rintro e w7 ⟨rfl, hv⟩
 refine ⟨_, rfl, ?_⟩
 refine xK true (.bool true) rfl rfl rfl rfl ?_
 refine xA (.bool true) rfl rfl rfl ?_
 refine wL ?_
 simp only [zP, zI, zS, zO]
 refine tN (hK6 _ _ ?_)
 clear hK6 K6
 refine wpIn_ret ?_
 refine bR rfl rfl ?_
 exact ⟨rfl, (hv.sub (List.Sublist.cons _ (List.Sublist.cons _ (List.Sublist.refl _))))⟩
end Go.Proofs.Ytffmbdagjpdieaa
/- The order of texts, octet by octet. -/
namespace Go.Pm
open Go.RowKit
section
variable {P : Program} {a : Act} {w : World} {o : Oper} {t : TypeId} {x y : Operand} {l : List UInt8}
theorem ex_sidx0 {i : Nat} {c : UInt8} (ht : P.underlying t = some .string) (ho : o.op = .index t x y) (hx : a.eval x = .string ⟨l.toArray⟩) (hy : a.eval y = .int .i64 (i : Int)) (hc : l[i]? = some c) : Ex P a o w (.int .u8 (c.toNat : Int)) w := by
 obtain ⟨hi, rfl⟩ := List.getElem?_eq_some_iff.1 hc
 have h := run_index_string (P := P) w t ⟨l.toArray⟩ .i64 (i : Int) ht
 rw [dif_pos ⟨by omega, by show (i : Int) < (l.length : Int); omega⟩] at h
 have e : (⟨l.toArray⟩ : ByteArray)[((i : Int)).toNat]'(by show ((i : Int)).toNat < l.length; omega) = l[i] := rfl
 rw [e] at h
 unfold Ex
 simp [execOp, ho, hx, hy, h]
end
theorem less_pre (l a b : List UInt8) : Op.bytesLess (l ++ a) (l ++ b) = Op.bytesLess a b := by
 induction l with
 | nil => rfl
 | cons x l ih =>
  rw [List.cons_append, List.cons_append]
  simp only [Op.bytesLess, ih]
  simp
section
variable {a b : List UInt8} {i : Nat}
theorem less_at {x y : UInt8} (h : a.take i = b.take i) (hx : a[i]? = some x) (hy : b[i]? = some y) (hne : x ≠ y) : Op.bytesLess a b = decide (x.toNat < y.toNat) := by
 obtain ⟨hi, rfl⟩ := List.getElem?_eq_some_iff.1 hx
 obtain ⟨hj, rfl⟩ := List.getElem?_eq_some_iff.1 hy
 conv => lhs; rw [← List.take_append_drop i a, ← List.take_append_drop i b, h, less_pre, List.drop_eq_getElem_cons hi, List.drop_eq_getElem_cons hj]
 have hb : (a[i] == b[i]) = false := beq_eq_false_iff_ne.2 hne
 simp only [Op.bytesLess, hb, Bool.false_and, Bool.or_false]
 exact decide_eq_decide.2 UInt8.lt_iff_toNat_lt
theorem less_end (h : a.take i = b.take i) (he : i = a.length ∨ i = b.length) (h1 : i ≤ a.length) (h2 : i ≤ b.length) : Op.bytesLess a b = decide (a.length < b.length) := by
 conv => lhs; rw [← List.take_append_drop i a, ← List.take_append_drop i b, h, less_pre]
 rcases he with he | he
 ·rw [he, List.drop_length]
  cases hb : b.drop a.length with
  | nil =>
   have := congrArg List.length hb
   rw [List.length_drop, List.length_nil] at this
   rw [decide_eq_false (by omega)]; rfl
  | cons y l =>
   have := congrArg List.length hb
   rw [List.length_drop, List.length_cons] at this
   rw [decide_eq_true (by omega)]; rfl
 rw [he, List.drop_length, decide_eq_false (by omega)]
 cases a.drop b.length <;> rfl
theorem take_step {x : UInt8} (h : a.take i = b.take i) (hx : a[i]? = some x) (hy : b[i]? = some x) : a.take (i + 1) = b.take (i + 1) := by
 rw [List.take_add_one, List.take_add_one, h, hx, hy]
end
end Go.Pm
/- The reference's Less and Rises. -/
namespace Go.Proofs.Ytffmbdagjpdieaa
open Go.RowKit Go.Pm
set_option maxHeartbeats 2000000 in
theorem refLess (B : Base) (H : List Res) (w : World) (a b : List UInt8) (hl : a.length ≤ 1000000000) (hv : Inv B H w) :
  Calls Try.prog 39 #[.string ⟨a.toArray⟩, .string ⟨b.toArray⟩] w fun e w' => e = .returned (.bool (Op.bytesLess a b)) ∧ Inv B H w' := by
 refine (callsIn_wide (n := 5)).1 ?_
 refine callsIn_of_wp Try.func39 rfl trivial ?_
 simp only [Try.ntmps39, List.size_toArray, List.length_cons, List.length_nil, Nat.reduceAdd, Nat.reduceSub, Array.replicate_succ, Array.replicate_zero, List.push_toArray, List.append_toArray, List.nil_append, List.cons_append]
 refine sK fun K1 hK1 => rL ?_
 refine xA (.bool false) rfl rfl rfl ?_
 refine wL ?_
 simp only [zP, zI, zS, zO]
 refine tN (hK1 _ _ ?_)
 clear hK1 K1
 refine sK fun K2 hK2 => ?_
 refine sK fun K3 hK3 => rL ?_
 refine xA (.int .i64 0) rfl rfl rfl ?_
 refine wL ?_
 simp only [zP, zI, zS, zO]
 refine tN (hK3 _ _ ?_)
 clear hK3 K3
 refine wpIn_block ?_
 gi_loopw [5] (fun x5 wr => ∃ (i : Nat), x5 = .int .i64 (i : Int) ∧ i ≤ a.length ∧ i ≤ b.length ∧ a.take i = b.take i ∧ Inv B H wr) (fun x5 _ => a.length - (intOf x5).toNat)
 case atStart => exact ⟨0, rfl, Nat.zero_le _, Nat.zero_le _, rfl, hv⟩
 case round =>
  obtain ⟨i, rfl, hia, hib, hab, hv⟩ := hrel
  refine sK fun K5 hK5 => ?_
  refine sK fun K6 hK6 => rL ?_
  refine xM (.int .i64 (i : Int)) rfl rfl rfl ?_
  refine xM (.string ⟨a.toArray⟩) rfl rfl rfl ?_
  refine xG (.int .i64 (a.length : Int)) rfl rfl (ex_lenStr Try.underlying9 rfl rfl) ?_
  simp only [zP, zI, zS, zO]
  by_cases hb7 : (i : Int) < (a.length : Int)
  ·refine xG (.bool true) rfl rfl (ex_lss (k := .i64) (m := (i : Int)) (n := (a.length : Int)) rfl rfl rfl (decide_eq_true hb7)) ?_
   refine xM (.bool true) rfl rfl rfl ?_
   refine xH 4 10 true (.int .i64 (i : Int)) rfl rfl rfl rfl (ex_move rfl rfl) ?_
   simp only [zP, zI, zS, zO]
   refine xH 4 10 true (.string ⟨b.toArray⟩) rfl rfl rfl rfl (ex_move rfl rfl) ?_
   refine xH 4 10 true (.int .i64 (b.length : Int)) rfl rfl rfl rfl (ex_lenStr Try.underlying9 rfl rfl) ?_
   by_cases hb8 : (i : Int) < (b.length : Int)
   ·refine xH 4 10 true (.bool true) rfl rfl rfl rfl (ex_lss (k := .i64) (m := (i : Int)) (n := (b.length : Int)) rfl rfl rfl (decide_eq_true hb8)) ?_
    simp only [zP, zI, zS, zO]
    refine xK true (.bool true) rfl rfl rfl rfl ?_
    refine wL ?_
    simp only [zP, zI, zS, zO]
    refine tN (hK6 _ _ ?_)
    clear hK6 K6
    refine wpIn_cond_true rfl ?_
    refine wpIn_skip ?_
    refine tN (hK5 _ _ ?_)
    clear hK5 K5
    refine sK fun K9 hK9 => ?_
    refine wpIn_block ?_
    refine sK fun K10 hK10 => ?_
    obtain ⟨x, hx⟩ : ∃ x, a[i]? = some x := ⟨_, List.getElem?_eq_getElem (show i < a.length by omega)⟩
    obtain ⟨y, hy⟩ : ∃ y, b[i]? = some y := ⟨_, List.getElem?_eq_getElem (show i < b.length by omega)⟩
    by_cases hb11 : (x.toNat : Int) ≠ (y.toNat : Int)
    ·refine region_st mixed [.string ⟨a.toArray⟩, .int .i64 (i : Int), .int .u8 (x.toNat : Int), .string ⟨b.toArray⟩, .int .i64 (i : Int), .int .u8 (y.toNat : Int), .bool true] [] [⟨fun vals w => vals = [] ∧ Inv B (H) w, fun _ _ _ ⟨h, hi⟩ he => ⟨h, hi.ext he⟩⟩] 37 rfl (by kernel_rfl) ⟨rfl, hv⟩ ⟨?_, ?_, ?_, ?_, ?_, ?_, ?_, trivial⟩ ?_
     ·intro aa ww vals hJ hR
      exact xD rfl (ex_move rfl (show aa.eval (.tmp 0) = _ from hR.keep 0 rfl)) rfl rfl
     ·intro aa ww vals hJ hR
      exact xD rfl (ex_move rfl (show aa.eval (.tmp 5) = _ from hR.keep 5 rfl)) rfl rfl
     ·intro aa ww vals hJ hR
      exact xD rfl (ex_sidx0 Try.underlying9 rfl (hR.w 0 18 rfl rfl rfl rfl) (hR.w 1 19 rfl rfl rfl rfl) hx) rfl rfl
     ·intro aa ww vals hJ hR
      exact xD rfl (ex_move rfl (show aa.eval (.tmp 1) = _ from hR.keep 1 rfl)) rfl rfl
     ·intro aa ww vals hJ hR
      exact xD rfl (ex_move rfl (show aa.eval (.tmp 5) = _ from hR.keep 5 rfl)) rfl rfl
     ·intro aa ww vals hJ hR
      exact xD rfl (ex_sidx0 Try.underlying9 rfl (hR.w 3 21 rfl rfl rfl rfl) (hR.w 4 22 rfl rfl rfl rfl) hy) rfl rfl
     ·intro aa ww vals hJ hR
      exact xD rfl (ex_neq (k := .u8) (m := (x.toNat : Int)) (n := (y.toNat : Int)) rfl (hR.w 2 20 rfl rfl rfl rfl) (hR.w 5 23 rfl rfl rfl rfl) (decide_eq_true hb11)) rfl rfl
     rintro w12 vals ⟨rfl, hv⟩
     rw [show mixV [] [] 0 [.string ⟨a.toArray⟩, .int .i64 (i : Int), .int .u8 (x.toNat : Int), .string ⟨b.toArray⟩, .int .i64 (i : Int), .int .u8 (y.toNat : Int), .bool true] = [.string ⟨a.toArray⟩, .int .i64 (i : Int), .int .u8 (x.toNat : Int), .string ⟨b.toArray⟩, .int .i64 (i : Int), .int .u8 (y.toNat : Int), .bool true] from rfl]
     simp only [putAll, zP, zI, zS, zO]
     refine tN (hK10 _ _ ?_)
     clear hK10 K10
     refine wpIn_cond_true rfl ?_
     refine sK fun K13 hK13 => ?_
     refine region_st mixed [.string ⟨a.toArray⟩, .int .i64 (i : Int), .int .u8 (x.toNat : Int), .string ⟨b.toArray⟩, .int .i64 (i : Int), .int .u8 (y.toNat : Int), .bool (decide ((x.toNat : Int) < (y.toNat : Int))), .bool (decide ((x.toNat : Int) < (y.toNat : Int)))] [] [⟨fun vals w => vals = [] ∧ Inv B (H) w, fun _ _ _ ⟨h, hi⟩ he => ⟨h, hi.ext he⟩⟩] 37 rfl (by kernel_rfl) ⟨rfl, hv⟩ ⟨?_, ?_, ?_, ?_, ?_, ?_, ?_, ?_, trivial⟩ ?_
     ·intro aa ww vals hJ hR
      exact xD rfl (ex_move rfl (show aa.eval (.tmp 0) = _ from hR.keep 0 rfl)) rfl rfl
     ·intro aa ww vals hJ hR
      exact xD rfl (ex_move rfl (show aa.eval (.tmp 5) = _ from hR.keep 5 rfl)) rfl rfl
     ·intro aa ww vals hJ hR
      exact xD rfl (ex_sidx0 Try.underlying9 rfl (hR.w 0 25 rfl rfl rfl rfl) (hR.w 1 26 rfl rfl rfl rfl) hx) rfl rfl
     ·intro aa ww vals hJ hR
      exact xD rfl (ex_move rfl (show aa.eval (.tmp 1) = _ from hR.keep 1 rfl)) rfl rfl
     ·intro aa ww vals hJ hR
      exact xD rfl (ex_move rfl (show aa.eval (.tmp 5) = _ from hR.keep 5 rfl)) rfl rfl
     ·intro aa ww vals hJ hR
      exact xD rfl (ex_sidx0 Try.underlying9 rfl (hR.w 3 28 rfl rfl rfl rfl) (hR.w 4 29 rfl rfl rfl rfl) hy) rfl rfl
     ·intro aa ww vals hJ hR
      exact xD rfl (ex_lss (k := .u8) (m := (x.toNat : Int)) (n := (y.toNat : Int)) rfl (hR.w 2 27 rfl rfl rfl rfl) (hR.w 5 30 rfl rfl rfl rfl) rfl) rfl rfl
     ·intro aa ww vals hJ hR
      exact xD rfl (ex_assign rfl (hR.w 6 31 rfl rfl rfl rfl)) rfl rfl
     rintro w14 vals ⟨rfl, hv⟩
     rw [show mixV [] [] 0 [.string ⟨a.toArray⟩, .int .i64 (i : Int), .int .u8 (x.toNat : Int), .string ⟨b.toArray⟩, .int .i64 (i : Int), .int .u8 (y.toNat : Int), .bool (decide ((x.toNat : Int) < (y.toNat : Int))), .bool (decide ((x.toNat : Int) < (y.toNat : Int)))] = [.string ⟨a.toArray⟩, .int .i64 (i : Int), .int .u8 (x.toNat : Int), .string ⟨b.toArray⟩, .int .i64 (i : Int), .int .u8 (y.toNat : Int), .bool (decide ((x.toNat : Int) < (y.toNat : Int))), .bool (decide ((x.toNat : Int) < (y.toNat : Int)))] from rfl]
     simp only [putAll, zP, zI, zS, zO]
     refine tN (hK13 _ _ ?_)
     clear hK13 K13
     refine wpIn_ret ?_
     refine blk_ret ?_
     refine then_ret ?_
     clear hK9 K9
     refine then_ret ?_
     refine blk_ret ?_
     refine then_ret ?_
     clear hK2 K2
     refine bR rfl rfl ?_
     exact ⟨congrArg (fun b => Ending.returned (Value.bool b)) (by rw [less_at hab hx hy (fun e => by rw [e] at hb11; exact hb11 rfl)]; exact decide_eq_decide.2 (by omega)), hv⟩
    refine region_st mixed [.string ⟨a.toArray⟩, .int .i64 (i : Int), .int .u8 (x.toNat : Int), .string ⟨b.toArray⟩, .int .i64 (i : Int), .int .u8 (y.toNat : Int), .bool false] [] [⟨fun vals w => vals = [] ∧ Inv B (H) w, fun _ _ _ ⟨h, hi⟩ he => ⟨h, hi.ext he⟩⟩] 37 rfl (by kernel_rfl) ⟨rfl, hv⟩ ⟨?_, ?_, ?_, ?_, ?_, ?_, ?_, trivial⟩ ?_
    ·intro aa ww vals hJ hR
     exact xD rfl (ex_move rfl (show aa.eval (.tmp 0) = _ from hR.keep 0 rfl)) rfl rfl
    ·intro aa ww vals hJ hR
     exact xD rfl (ex_move rfl (show aa.eval (.tmp 5) = _ from hR.keep 5 rfl)) rfl rfl
    ·intro aa ww vals hJ hR
     exact xD rfl (ex_sidx0 Try.underlying9 rfl (hR.w 0 18 rfl rfl rfl rfl) (hR.w 1 19 rfl rfl rfl rfl) hx) rfl rfl
    ·intro aa ww vals hJ hR
     exact xD rfl (ex_move rfl (show aa.eval (.tmp 1) = _ from hR.keep 1 rfl)) rfl rfl
    ·intro aa ww vals hJ hR
     exact xD rfl (ex_move rfl (show aa.eval (.tmp 5) = _ from hR.keep 5 rfl)) rfl rfl
    ·intro aa ww vals hJ hR
     exact xD rfl (ex_sidx0 Try.underlying9 rfl (hR.w 3 21 rfl rfl rfl rfl) (hR.w 4 22 rfl rfl rfl rfl) hy) rfl rfl
    ·intro aa ww vals hJ hR
     exact xD rfl (ex_neq (k := .u8) (m := (x.toNat : Int)) (n := (y.toNat : Int)) rfl (hR.w 2 20 rfl rfl rfl rfl) (hR.w 5 23 rfl rfl rfl rfl) (decide_eq_false hb11)) rfl rfl
    rintro w15 vals ⟨rfl, hv⟩
    rw [show mixV [] [] 0 [.string ⟨a.toArray⟩, .int .i64 (i : Int), .int .u8 (x.toNat : Int), .string ⟨b.toArray⟩, .int .i64 (i : Int), .int .u8 (y.toNat : Int), .bool false] = [.string ⟨a.toArray⟩, .int .i64 (i : Int), .int .u8 (x.toNat : Int), .string ⟨b.toArray⟩, .int .i64 (i : Int), .int .u8 (y.toNat : Int), .bool false] from rfl]
    simp only [putAll, zP, zI, zS, zO]
    refine tN (hK10 _ _ ?_)
    clear hK10 K10
    refine wpIn_cond_false rfl ?_
    refine wpIn_skip ?_
    refine blk_normal ?_
    refine tN (hK9 _ _ ?_)
    clear hK9 K9
    refine rL ?_
    refine xM (.int .i64 (i : Int)) rfl rfl rfl ?_
    refine xG (.int .i64 ((i + 1 : Nat) : Int)) rfl rfl (ex_add (m := (i : Int)) (n := 1) rfl rfl rfl (by rw [i64_in (by omega)]; omega)) ?_
    refine xA (.int .i64 ((i + 1 : Nat) : Int)) rfl rfl rfl ?_
    refine wL ?_
    simp only [zP, zI, zS, zO]
    refine then_normal ?_
    go_roundw
    case rel => exact ⟨i + 1, rfl, by omega, by omega, take_step hab hx (by rw [hy, UInt8.toNat_inj.1 (show x.toNat = y.toNat by omega)]), hv⟩
    case measure => show a.length - (((i + 1 : Nat) : Int)).toNat < a.length - ((i : Int)).toNat; omega
   refine xH 4 10 true (.bool false) rfl rfl rfl rfl (ex_lss (k := .i64) (m := (i : Int)) (n := (b.length : Int)) rfl rfl rfl (decide_eq_false hb8)) ?_
   simp only [zP, zI, zS, zO]
   refine xK true (.bool false) rfl rfl rfl rfl ?_
   refine wL ?_
   simp only [zP, zI, zS, zO]
   refine tN (hK6 _ _ ?_)
   clear hK6 K6
   refine wpIn_cond_false rfl ?_
   refine wpIn_exit ?_
   refine then_exit ?_
   clear hK5 K5
   refine then_exit ?_
   refine blk_hit ?_
   refine tN (hK2 _ _ ?_)
   clear hK2 K2
   refine sK fun K16 hK16 => rL ?_
   refine xM (.string ⟨a.toArray⟩) rfl rfl rfl ?_
   refine xG (.int .i64 (a.length : Int)) rfl rfl (ex_lenStr Try.underlying9 rfl rfl) ?_
   refine xM (.string ⟨b.toArray⟩) rfl rfl rfl ?_
   simp only [zP, zI, zS, zO]
   refine xG (.int .i64 (b.length : Int)) rfl rfl (ex_lenStr Try.underlying9 rfl rfl) ?_
   refine xG (.bool (decide ((a.length : Int) < (b.length : Int)))) rfl rfl (ex_lss (k := .i64) (m := (a.length : Int)) (n := (b.length : Int)) rfl rfl rfl rfl) ?_
   refine xA (.bool (decide ((a.length : Int) < (b.length : Int)))) rfl rfl rfl ?_
   refine wL ?_
   simp only [zP, zI, zS, zO]
   refine tN (hK16 _ _ ?_)
   clear hK16 K16
   refine wpIn_ret ?_
   refine bR rfl rfl ?_
   exact ⟨congrArg (fun b => Ending.returned (Value.bool b)) (by rw [less_end hab (by omega) hia hib]; exact decide_eq_decide.2 (by omega)), hv⟩
  refine xG (.bool false) rfl rfl (ex_lss (k := .i64) (m := (i : Int)) (n := (a.length : Int)) rfl rfl rfl (decide_eq_false hb7)) ?_
  refine xM (.bool false) rfl rfl rfl ?_
  refine xT 4 10 true false rfl rfl rfl rfl rfl rfl rfl (by decide) ?_
  simp only [zP, zI, zS, zO]
  refine xN 4 10 true false rfl rfl rfl (by decide) ?_
  simp only [zP, zI, zS, zO]
  refine xK false (.bool false) rfl rfl rfl rfl ?_
  refine wL ?_
  simp only [zP, zI, zS, zO]
  refine tN (hK6 _ _ ?_)
  clear hK6 K6
  refine wpIn_cond_false rfl ?_
  refine wpIn_exit ?_
  refine then_exit ?_
  clear hK5 K5
  refine then_exit ?_
  refine blk_hit ?_
  refine tN (hK2 _ _ ?_)
  clear hK2 K2
  refine sK fun K17 hK17 => rL ?_
  refine xM (.string ⟨a.toArray⟩) rfl rfl rfl ?_
  refine xG (.int .i64 (a.length : Int)) rfl rfl (ex_lenStr Try.underlying9 rfl rfl) ?_
  refine xM (.string ⟨b.toArray⟩) rfl rfl rfl ?_
  simp only [zP, zI, zS, zO]
  refine xG (.int .i64 (b.length : Int)) rfl rfl (ex_lenStr Try.underlying9 rfl rfl) ?_
  refine xG (.bool (decide ((a.length : Int) < (b.length : Int)))) rfl rfl (ex_lss (k := .i64) (m := (a.length : Int)) (n := (b.length : Int)) rfl rfl rfl rfl) ?_
  refine xA (.bool (decide ((a.length : Int) < (b.length : Int)))) rfl rfl rfl ?_
  refine wL ?_
  simp only [zP, zI, zS, zO]
  refine tN (hK17 _ _ ?_)
  clear hK17 K17
  refine wpIn_ret ?_
  refine bR rfl rfl ?_
  exact ⟨congrArg (fun b => Ending.returned (Value.bool b)) (by rw [less_end hab (by omega) hia hib]; exact decide_eq_decide.2 (by omega)), hv⟩
theorem calls_bool1 {P : Program} {f : FuncId} {args : Array Value} {w : World} {b : Bool} {R : World → Prop} (h : Calls P f args w fun e w' => e = .returned (.bool b) ∧ R w') (hb : b = true) : Calls P f args w fun e w' => e = .returned (.bool true) ∧ R w' := by subst hb; exact h
theorem sorted_next {l : List (List UInt8)} (h : SortedT l) (i : Nat) (x y : List UInt8) (hx : l[i]? = some x) (hy : l[i + 1]? = some y) : Op.bytesLess x y = true := by
 obtain ⟨hi, rfl⟩ := List.getElem?_eq_some_iff.1 hx
 obtain ⟨hj, rfl⟩ := List.getElem?_eq_some_iff.1 hy
 exact List.pairwise_iff_getElem.1 h i (i + 1) hi hj (by omega)
theorem s29callable39 : Callable Try.prog 39 := ⟨_, Try.func39, by kernel_rfl, by kernel_rfl⟩
set_option maxHeartbeats 2000000 in
theorem refRises (B : Base) (H : List Res) (w : World) (ad : Option Addr) (c : Nat) (l : List (List UInt8)) (hr : RdV B [] ad (textCells l)) (hm : l.length ≤ 1000000) (hlen : ∀ x ∈ l, x.length ≤ 1000) (hso : ∀ i x y, l[i]? = some x → l[i + 1]? = some y → Op.bytesLess x y = true) (hv : Inv B H w) :
  Calls Try.prog 19 #[.slice ad l.length c] w fun e w' => e = .returned (.bool true) ∧ Inv B H w' := by
 refine (callsIn_wide (n := 5)).1 ?_
 refine callsIn_of_wp Try.func19 rfl trivial ?_
 simp only [Try.ntmps19, List.size_toArray, List.length_cons, List.length_nil, Nat.reduceAdd, Nat.reduceSub, Array.replicate_succ, Array.replicate_zero, List.push_toArray, List.append_toArray, List.nil_append, List.cons_append]
 refine sK fun K1 hK1 => rL ?_
 refine xA (.bool false) rfl rfl rfl ?_
 refine wL ?_
 simp only [zP, zI, zS, zO]
 refine tN (hK1 _ _ ?_)
 clear hK1 K1
 refine sK fun K2 hK2 => ?_
 refine sK fun K3 hK3 => rL ?_
 refine xA (.int .i64 1) rfl rfl rfl ?_
 refine wL ?_
 simp only [zP, zI, zS, zO]
 refine tN (hK3 _ _ ?_)
 clear hK3 K3
 refine wpIn_block ?_
 gi_loopw [3] (fun x3 wr => ∃ (i : Nat), x3 = .int .i64 ((i + 1 : Nat) : Int) ∧ (i = 0 ∨ i + 1 ≤ l.length) ∧ Inv B H wr) (fun x3 _ => l.length - (intOf x3).toNat)
 case atStart => exact ⟨0, rfl, .inl rfl, hv⟩
 case round =>
  obtain ⟨i, rfl, hi, hv⟩ := hrel
  refine sK fun K5 hK5 => ?_
  refine sK fun K6 hK6 => rL ?_
  refine xM (.int .i64 ((i + 1 : Nat) : Int)) rfl rfl rfl ?_
  refine xM (.slice ad l.length c) rfl rfl rfl ?_
  refine xG (.int .i64 (l.length : Int)) rfl rfl (ex_len0 Try.underlying33 rfl rfl) ?_
  simp only [zP, zI, zS, zO]
  by_cases hb7 : ((i + 1 : Nat) : Int) < (l.length : Int)
  ·refine xG (.bool true) rfl rfl (ex_lss (k := .i64) (m := ((i + 1 : Nat) : Int)) (n := (l.length : Int)) rfl rfl rfl (decide_eq_true hb7)) ?_
   refine wL ?_
   simp only [zP, zI, zS, zO]
   refine tN (hK6 _ _ ?_)
   clear hK6 K6
   refine wpIn_cond_true rfl ?_
   refine wpIn_skip ?_
   refine tN (hK5 _ _ ?_)
   clear hK5 K5
   refine sK fun K8 hK8 => ?_
   refine wpIn_block ?_
   refine sK fun K9 hK9 => ?_
   obtain ⟨x, hx⟩ : ∃ x, l[i]? = some x := ⟨_, List.getElem?_eq_getElem (show i < l.length by omega)⟩
   obtain ⟨y, hy⟩ : ∃ y, l[i + 1]? = some y := ⟨_, List.getElem?_eq_getElem (show i + 1 < l.length by omega)⟩
   obtain ⟨bb, bo, had, hrdx⟩ := text_reads hr hx
   subst had
   obtain ⟨b9, o9, had9, hrdy⟩ := text_reads hr hy
   cases had9
   have hxl := hlen x (List.mem_of_getElem? hx)
   refine region_st mixed [.slice (some ⟨bb, bo, none⟩) l.length c, .int .i64 ((i + 1 : Nat) : Int), .int .i64 (i : Int), .pointer (some ⟨bb, bo + i, none⟩), .string ⟨x.toArray⟩, .slice (some ⟨bb, bo, none⟩) l.length c, .int .i64 ((i + 1 : Nat) : Int), .pointer (some ⟨bb, bo + (i + 1 : Nat), none⟩), .string ⟨y.toArray⟩, undef, .bool false] [9] [⟨fun vals w => vals = [] ∧ Inv B (H) w, fun _ _ _ ⟨h, hi⟩ he => ⟨h, hi.ext he⟩⟩, ⟨fun vals w => vals = [.bool true] ∧ Inv B (H) w, fun _ _ _ ⟨h, hi⟩ he => ⟨h, hi.ext he⟩⟩] 21 rfl (by kernel_rfl) ⟨rfl, hv⟩ ⟨?_, ?_, ?_, ?_, ?_, ?_, ?_, ?_, ?_, ?_, ?_, trivial⟩ ?_
   ·intro aa ww vals hJ hR
    exact xD rfl (ex_move rfl (show aa.eval (.tmp 0) = _ from hR.keep 0 rfl)) rfl rfl
   ·intro aa ww vals hJ hR
    exact xD rfl (ex_move rfl (show aa.eval (.tmp 3) = _ from hR.keep 3 rfl)) rfl rfl
   ·intro aa ww vals hJ hR
    exact xD rfl (ex_sub (m := ((i + 1 : Nat) : Int)) (n := 1) rfl (hR.w 1 11 rfl rfl rfl rfl) rfl (by rw [i64_in (by omega)]; omega)) rfl rfl
   ·intro aa ww vals hJ hR
    exact xD rfl (ex_index rfl (hR.w 0 10 rfl rfl rfl rfl) (hR.w 2 12 rfl rfl rfl rfl) (run_idx1 (k := i) Try.underlying33 s9es33 (by omega))) rfl rfl
   ·intro aa ww vals hJ hR
    have h2 : vals.length ≤ 0 := hR.hi 9 (by simp) rfl
    have hl : vals.length = 0 := by omega
    obtain ⟨hvals, hv⟩ := hJ.at0 hl
    exact xD rfl (ex_load rfl (hR.w 3 13 rfl rfl rfl rfl) (run_load1 s3na9 (hrdx _ _ _ (Base.Le.refl _) no_res hv 0 _ rfl))) rfl rfl
   ·intro aa ww vals hJ hR
    exact xD rfl (ex_move rfl (show aa.eval (.tmp 0) = _ from hR.keep 0 rfl)) rfl rfl
   ·intro aa ww vals hJ hR
    exact xD rfl (ex_move rfl (show aa.eval (.tmp 3) = _ from hR.keep 3 rfl)) rfl rfl
   ·intro aa ww vals hJ hR
    exact xD rfl (ex_index rfl (hR.w 5 15 rfl rfl rfl rfl) (hR.w 6 16 rfl rfl rfl rfl) (run_idx1 (k := (i + 1 : Nat)) Try.underlying33 s9es33 (by omega))) rfl rfl
   ·intro aa ww vals hJ hR
    have h2 : vals.length ≤ 0 := hR.hi 9 (by simp) rfl
    have hl : vals.length = 0 := by omega
    obtain ⟨hvals, hv⟩ := hJ.at0 hl
    exact xD rfl (ex_load rfl (hR.w 7 17 rfl rfl rfl rfl) (run_load1 s3na9 (hrdy _ _ _ (Base.Le.refl _) no_res hv 0 _ rfl))) rfl rfl
   ·intro aa ww vals hJ hR
    refine mem_step' rfl fun hvl => ?_
    have hl : vals.length = 0 := hvl
    obtain ⟨hvals, hv⟩ := hJ.at0 hl
    refine stepMem_calls s29callable39 (wn rfl) rfl (args := #[.string ⟨x.toArray⟩, .string ⟨y.toArray⟩]) (by simp only [yA, yB, yC]; rw [show aa.eval (.tmp 14) = .string ⟨x.toArray⟩ from hR.v 4 14 rfl rfl rfl rfl, show aa.eval (.tmp 18) = .string ⟨y.toArray⟩ from hR.v 8 18 rfl rfl rfl rfl] <;> rfl) ((calls_bool1 (refLess B _ _ x y (by omega) hv) (hso i x y hx hy)).mono ?_)
    rintro e w10 ⟨rfl, hv⟩
    refine ⟨_, rfl, JS.next hl ⟨by rw [hvals]; rfl, hv⟩⟩
   ·intro aa ww vals hJ hR
    have h1 : 0 < vals.length := hR.lo 9 (by simp) rfl
    have hl : vals.length = 1 := by have := JS.le (n := 1) (by rfl) hJ; omega
    obtain ⟨hvals, hv⟩ := hJ.at0 hl
    exact xD rfl (ex_not (b := true) rfl (show aa.eval (.tmp 19) = _ from (hR.val 9 19 rfl rfl rfl).trans (by rw [hvals] <;> rfl)) rfl) rfl rfl
   rintro w11 vals ⟨rfl, hv⟩
   rw [show mixV [9] [.bool true] 0 [.slice (some ⟨bb, bo, none⟩) l.length c, .int .i64 ((i + 1 : Nat) : Int), .int .i64 (i : Int), .pointer (some ⟨bb, bo + i, none⟩), .string ⟨x.toArray⟩, .slice (some ⟨bb, bo, none⟩) l.length c, .int .i64 ((i + 1 : Nat) : Int), .pointer (some ⟨bb, bo + (i + 1 : Nat), none⟩), .string ⟨y.toArray⟩, undef, .bool false] = [.slice (some ⟨bb, bo, none⟩) l.length c, .int .i64 ((i + 1 : Nat) : Int), .int .i64 (i : Int), .pointer (some ⟨bb, bo + i, none⟩), .string ⟨x.toArray⟩, .slice (some ⟨bb, bo, none⟩) l.length c, .int .i64 ((i + 1 : Nat) : Int), .pointer (some ⟨bb, bo + (i + 1 : Nat), none⟩), .string ⟨y.toArray⟩, .bool true, .bool false] from rfl]
   simp only [putAll, zP, zI, zS, zO]
   refine tN (hK9 _ _ ?_)
   clear hK9 K9
   refine wpIn_cond_false rfl ?_
   refine wpIn_skip ?_
   refine blk_normal ?_
   refine tN (hK8 _ _ ?_)
   clear hK8 K8
   refine rL ?_
   refine xM (.int .i64 ((i + 1 : Nat) : Int)) rfl rfl rfl ?_
   refine xG (.int .i64 ((i + 1 + 1 : Nat) : Int)) rfl rfl (ex_add (m := ((i + 1 : Nat) : Int)) (n := 1) rfl rfl rfl (by rw [i64_in (by omega)]; omega)) ?_
   refine xA (.int .i64 ((i + 1 + 1 : Nat) : Int)) rfl rfl rfl ?_
   refine wL ?_
   simp only [zP, zI, zS, zO]
   refine then_normal ?_
   go_roundw
   case rel => exact ⟨i + 1, rfl, by omega, hv⟩
   case measure => show l.length - (((i + 1 + 1 : Nat) : Int)).toNat < l.length - (((i + 1 : Nat) : Int)).toNat; omega
  refine xG (.bool false) rfl rfl (ex_lss (k := .i64) (m := ((i + 1 : Nat) : Int)) (n := (l.length : Int)) rfl rfl rfl (decide_eq_false hb7)) ?_
  refine wL ?_
  simp only [zP, zI, zS, zO]
  refine tN (hK6 _ _ ?_)
  clear hK6 K6
  refine wpIn_cond_false rfl ?_
  refine wpIn_exit ?_
  refine then_exit ?_
  clear hK5 K5
  refine then_exit ?_
  refine blk_hit ?_
  refine tN (hK2 _ _ ?_)
  clear hK2 K2
  refine sK fun K12 hK12 => rL ?_
  refine xA (.bool true) rfl rfl rfl ?_
  refine wL ?_
  simp only [zP, zI, zS, zO]
  refine tN (hK12 _ _ ?_)
  clear hK12 K12
  refine wpIn_ret ?_
  refine bR rfl rfl ?_
  exact ⟨rfl, hv⟩
end Go.Proofs.Ytffmbdagjpdieaa
/- StoreOld in plain data: what was told of a stamp is told of it still. -/
namespace Go.Proofs.Ytffmbdagjpdieaa
open Go.RowKit Go.Pm
structure StoM (M : Model) (n : Int) : Prop where
 ok : ∀ k, ChainOk (getM M k)
 up : ∀ k, ∀ v ∈ getM M k, v.stamp ≤ n
 key : ∀ k, getM M k ≠ [] → k.length ≤ 256
theorem StoM.nil : StoM [] 0 := by
 refine ⟨fun k i x hx => ?_, fun k v hv => ?_, fun k h => absurd rfl h⟩
 ·have hx : ([] : List Ver)[i]? = some x := hx
  simp at hx
 have hv : v ∈ ([] : List Ver) := hv
 cases hv
theorem StoM.asc {M : Model} {n : Int} (h : StoM M n) : AscM M := fun k => (h.ok k).asc
theorem setI_cases {M M' : Model} {last : Int} {ws : List Wr} (hs : SetI M M' last ws ws.length) (k : List UInt8) : (∃ x, x ∈ ws ∧ x.key = k ∧ getM M' k = newC M last x) ∨ getM M' k = getM M k := by
 by_cases h : ∃ x, x ∈ ws ∧ x.key = k
 ·obtain ⟨x, hx, rfl⟩ := h
  obtain ⟨j, hj⟩ := List.mem_iff_getElem?.1 hx
  exact .inl ⟨x, hx, rfl, hs.got j x (List.getElem?_eq_some_iff.1 hj).1 hj⟩
 exact .inr (hs.rest k fun j x _ hx e => h ⟨x, List.mem_of_getElem? hx, e⟩)
theorem StoM.step {M M' : Model} {last : Int} {ws : List Wr} (h : StoM M last) (ha : AppOk M last ws) (hs : SetI M M' last ws ws.length) : StoM M' (last + 1) := by
 refine ⟨fun k => ?_, fun k v hv => ?_, fun k hk => ?_⟩
 ·rcases setI_cases hs k with ⟨x, hx, -, e⟩ | e
  ·rw [e]; exact (ha.ch x hx).1
  rw [e]; exact h.ok k
 ·rcases setI_cases hs k with ⟨x, hx, -, e⟩ | e
  ·rw [e] at hv
   rcases List.mem_append.1 hv with hv | hv
   ·have := h.up x.key v hv; omega
   rw [List.mem_singleton.1 hv]; exact Int.le_refl _
  rw [e] at hv
  have := h.up k v hv; omega
 rcases setI_cases hs k with ⟨x, hx, rfl, -⟩ | e
 ·exact (ha.wr x hx).1
 rw [e] at hk; exact h.key k hk
theorem namesM_le (M : Model) (s c : Int) : (namesM M s c).length ≤ M.length := by
 have := List.length_filter_le (fun k => (readV (getM M k) s c).isSome) (keysM M)
 rw [List.length_map] at this
 exact this
theorem wrapN (z : Int) (n : Nat) (h : 0 < n) : ∃ (r : Int) (k : Nat), z.tmod n = r ∧ -(n : Int) < r ∧ r < n ∧ (r + n).tmod n = (k : Int) ∧ k < n := by
 have hp : (0 : Int) < n := by omega
 have h1 := Int.tmod_lt_of_pos z hp
 have h2 : -(n : Int) < z.tmod n := by
  have := Int.tmod_lt_of_pos (-z) hp
  rw [Int.neg_tmod] at this
  omega
 have h3 := Int.tmod_lt_of_pos (z.tmod n + n) hp
 have h4 : 0 ≤ (z.tmod n + n).tmod n := Int.tmod_nonneg _ (by omega)
 exact ⟨_, ((z.tmod n + n).tmod n).toNat, rfl, h2, h1, by omega, by omega⟩
end Go.Proofs.Ytffmbdagjpdieaa
