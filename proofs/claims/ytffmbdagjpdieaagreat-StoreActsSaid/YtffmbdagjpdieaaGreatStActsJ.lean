/- slices.IndexFunc and DeleteFunc of texts, a row of one's own. -/
import Derived.Test.YtffmbdagjpdieaaGreatStActsB
import Derived.Test.YtffmbdagjpdieaaGreatStActsI
import Derived.Test.YtffmbdagjpdieaaGreatRows
import Derived.Test.YtffmbdagjpdieaaGreatStActsF
import Derived.Test.YtffmbdagjpdieaaGreatStActsH
import Derived.Test.YtffmbdagjpdieaaGreatStActsG
set_option maxRecDepth 100000
namespace Go.Proofs.YtffmbdagjpdieaaGreat
open Go.RowKit Go.Pm
theorem s24es27 (w : World) : (sizeOf (Tryz.prog.elem 27)).run Tryz.prog w = .ok 1 w := by kernel_rfl
theorem s24na9 (w : World) : (isAgg 9).run Tryz.prog w = .ok false w := by kernel_rfl
set_option maxHeartbeats 2000000 in
theorem indexFuncO (B : Base) (H : List Res) (w : World) (f : FuncId) (cb : Array Value) (ra : Option Addr) (rc : Nat) (l : List (List UInt8)) (pr : List UInt8 → Bool) (hm : l.length ≤ 1000000) (hcal : Callable Tryz.prog f) (hf : ∀ (x : List UInt8) (r : Res) (w : World), Inv B (r :: H) w → Calls Tryz.prog f (#[.string ⟨x.toArray⟩] ++ cb) w fun e w' => e = .returned (.bool (pr x)) ∧ Inv B (r :: H) w') (hv : Inv B (Res.row 9 1 (.slice ra l.length rc) l.length (textCells l) :: H) w) :
  Calls Tryz.prog 82 #[.slice ra l.length rc, .func (.func f) #[] cb] w fun e w' => ∃ r : Int, e = .returned (.int .i64 r) ∧ ((r = -1 ∧ ∀ y ∈ l, pr y = false) ∨ ∃ (i : Nat) (x : List UInt8), r = (i : Int) ∧ l[i]? = some x ∧ pr x = true ∧ ∀ y ∈ l.take i, pr y = false) ∧ Inv B (Res.row 9 1 (.slice ra l.length rc) l.length (textCells l) :: H) w' := by
 refine cW Tryz.func82 rfl Tryz.ntmps82 ?_
 simp only [al]
 refine sK fun _ k1 => rL (xA (.int .i64 0) rfl ?_)
 simp only [zP, po]
 refine wK k1 (sK fun _ k2 => ?_)
 refine sK fun _ k3 => rL (xM (.slice ra l.length rc) rfl ?_)
 refine xG (.int .i64 (l.length : Int)) rfl (ex_len0 Tryz.underlying27 rfl rfl) (xM (.int .i64 0) rfl ?_)
 simp only [zP, po]
 refine wK k3 (bB ?_)
 gi_loopw [8] (fun x8 wr => ∃ (i : Nat), x8 = .int .i64 (i : Int) ∧ i ≤ l.length ∧ (∀ j x, j < i → l[j]? = some x → pr x = false) ∧ Inv B (Res.row 9 1 (.slice ra l.length rc) l.length (textCells l) :: H) wr) (fun x8 _ => l.length - (intOf x8).toNat)
 case atStart => exact ⟨0, rfl, Nat.zero_le _, fun j x h => by omega, hv⟩
 case round =>
  obtain ⟨i, rfl, hi, hno, hv⟩ := hrel
  refine sK fun _ k5 => rL ?_
  by_cases hb6 : (i : Int) < (l.length : Int)
  ·refine xG (.bool true) rfl (ex_lss rfl rfl rfl (decide_eq_true hb6)) ?_
   simp only [zP, po]
   refine wK k5 (sK fun _ k7 => ?_)
   refine cT rfl (kS ?_)
   refine tK k7 (sK fun _ k8 => ?_)
   refine bB (sK fun _ k9 => ?_)
   refine rL (xM (.int .i64 (i : Int)) rfl ?_)
   refine xA (.int .i64 (i : Int)) rfl ?_
   simp only [zP, po]
   refine wK k9 (sK fun _ k10 => ?_)
   obtain ⟨x, hx⟩ : ∃ x, l[i]? = some x := ⟨_, List.getElem?_eq_getElem (show i < l.length by omega)⟩
   obtain ⟨b, rfl⟩ := row_some hv.head (by omega)
   refine rL (xM (.func (.func f) #[] cb) rfl ?_)
   refine xM (.slice (some ⟨b, 0, none⟩) l.length rc) rfl (xM (.int .i64 (i : Int)) rfl ?_)
   simp only [zP, po]
   refine xG (.pointer (some ⟨b, 0 + i, none⟩)) rfl (ex_index rfl rfl rfl (run_idx1 (k := i) Tryz.underlying27 s24es27 (by omega))) (xL _ rfl (run_load1 s24na9 (row_load (hv.get 0 rfl) (textCells_get hx))) ?_)
   refine wpi_callV hcal tV wideC rfl (wn rfl) rfl rfl (args := #[.string ⟨x.toArray⟩]) (by simp only [List.map_toArray, List.map_cons, List.map_nil]; rfl) ((hf x _ _ hv).mono ?_)
   rintro e w11 ⟨rfl, hv⟩
   refine ⟨_, rfl, ?_⟩
   simp only [zP, po]
   refine wK k10 (wpIn_cond_split (t := pr x) rfl (fun hc12 => ?_) (fun hc12 => ?_))
   ·refine sK fun _ k13 => rL (xM (.int .i64 (i : Int)) rfl ?_)
    refine xA (.int .i64 (i : Int)) rfl ?_
    simp only [zP, po]
    refine wK k13 (rR ?_)
    refine bE (tR ?_)
    refine tR (bE ?_)
    refine tR (bR rfl rfl ?_)
    exact ⟨_, rfl, .inr ⟨i, x, rfl, hx, by simpa using hc12, fun y hy => (by obtain ⟨j, hj⟩ := List.mem_iff_getElem?.1 hy; have h9 := (List.getElem?_eq_some_iff.1 hj).1; rw [List.length_take] at h9; rw [List.getElem?_take_of_lt (by omega)] at hj; exact hno j y (by omega) hj)⟩, hv⟩
   refine kS (bN ?_)
   refine tK k8 (rL ?_)
   refine xG (.int .i64 ((i + 1 : Nat) : Int)) rfl (ex_add rfl rfl rfl (by rw [i64_in (by omega)]; omega)) (xM (.int .i64 ((i + 1 : Nat) : Int)) rfl ?_)
   refine wL ?_
   simp only [zP, po]
   refine then_normal ?_
   go_roundw
   case rel => exact ⟨i + 1, rfl, by omega, fun j x' hj hx' => (by
      rcases Nat.lt_or_ge j i with h | h
      ·exact hno j x' h hx'
      obtain rfl : j = i := by omega
      rw [hx] at hx'; cases hx'
      simpa using hc12), hv⟩
   case measure => show l.length - (((i + 1 : Nat) : Int)).toNat < l.length - ((i : Int)).toNat; omega
  refine xG (.bool false) rfl (ex_lss rfl rfl rfl (decide_eq_false hb6)) ?_
  simp only [zP, po]
  refine wK k5 (sK fun _ k14 => ?_)
  refine cF rfl (xE ?_)
  refine tX (tX ?_)
  refine bH (tK k2 ?_)
  refine sK fun _ k15 => rL (xA (.int .i64 (-1)) rfl ?_)
  simp only [zP, po]
  refine wK k15 (rR ?_)
  refine bR rfl rfl ?_
  obtain rfl : i = l.length := by omega
  exact ⟨_, rfl, .inl ⟨rfl, fun y hy => (by obtain ⟨j, hj⟩ := List.mem_iff_getElem?.1 hy; exact hno j y (List.getElem?_eq_some_iff.1 hj).1 hj)⟩, hv⟩
theorem s24callable82 : Callable Tryz.prog 82 := ⟨_, Tryz.func82, by kernel_rfl, by kernel_rfl⟩
theorem s24sz9 : (Tryz.prog.info? 9).map (·.size) = some 1 := by kernel_rfl
theorem s24mk9 : (Tryz.prog.info? 9).map (fun i => (i.zero, i.size, i.bytes)) = some (some (.string ⟨([] : List UInt8).toArray⟩), 1, 16) := by kernel_rfl
theorem s24el27 : Elem Tryz.prog 27 9 (.string ⟨([] : List UInt8).toArray⟩) 1 16 := elem_of Tryz.underlying27 s24mk9 (by rfl) (by decide)
set_option maxHeartbeats 4000000 in
theorem deleteFunc (B : Base) (H : List Res) (w : World) (f : FuncId) (cb : Array Value) (ra : Option Addr) (rc : Nat) (l : List (List UInt8)) (pr : List UInt8 → Bool) (hm : l.length ≤ 1000000) (hcal : Callable Tryz.prog f) (hf : ∀ (x : List UInt8) (r : Res) (w : World), Inv B (r :: H) w → Calls Tryz.prog f (#[.string ⟨x.toArray⟩] ++ cb) w fun e w' => e = .returned (.bool (pr x)) ∧ Inv B (r :: H) w') (hv : Inv B (Res.row 9 1 (.slice ra l.length rc) l.length (textCells l) :: H) w) :
  Calls Tryz.prog 64 #[.slice ra l.length rc, .func (.func f) #[] cb] w fun e w' => ∃ ra' rc', e = .returned (.slice ra' (l.filter fun y => !pr y).length rc') ∧ Inv B (Res.row 9 1 (.slice ra' (l.filter fun y => !pr y).length rc') (l.filter fun y => !pr y).length (textCells (l.filter fun y => !pr y)) :: H) w' := by
 refine cW Tryz.func64 rfl Tryz.ntmps64 ?_
 simp only [al]
 refine sK fun _ k1 => rL (xA (.slice none 0 0) rfl ?_)
 simp only [zP, po]
 refine wK k1 (sK fun _ k2 => ?_)
 refine rL (xM (.slice ra l.length rc) rfl ?_)
 refine xM (.func (.func f) #[] cb) rfl (xC s24callable82 rfl ((indexFuncO B H _ f cb ra rc l pr hm hcal hf hv).mono ?_) rfl)
 rintro e w3 ⟨r, rfl, hor, hv⟩
 refine ⟨_, rfl, ?_⟩
 rcases hor with ⟨rfl, hno⟩ | ⟨i0, x0, rfl, hx0, hp0, hno⟩
 ·simp only [zP, po]
  refine xA (.int .i64 (-1)) rfl ?_
  simp only [zP, po]
  refine wK k2 (sK fun _ k4 => ?_)
  refine sK fun _ k5 => rL (xM (.int .i64 (-1)) rfl ?_)
  refine xG (.bool true) rfl (ex_eql rfl rfl rfl (by decide)) ?_
  simp only [zP, po]
  refine wK k5 (cT rfl ?_)
  refine sK fun _ k6 => rL (xM (.slice ra l.length rc) rfl ?_)
  refine xA (.slice ra l.length rc) rfl ?_
  simp only [zP, po]
  refine wK k6 (rR ?_)
  refine tR (bR rfl rfl ?_)
  have hfl : l.filter (fun y => !pr y) = l := List.filter_eq_self.2 (fun y hy => by rw [hno y hy]; rfl)
  rw [hfl]
  exact ⟨_, _, rfl, hv⟩
 have hi0 : i0 < l.length := (List.getElem?_eq_some_iff.1 hx0).1
 obtain ⟨b, rfl⟩ := row_some hv.head (by omega)
 obtain ⟨hst, hsl⟩ := df_start hx0 hp0 hno
 simp only [zP, po]
 refine xA (.int .i64 (i0 : Int)) rfl ?_
 simp only [zP, po]
 refine wK k2 (sK fun _ k7 => ?_)
 refine sK fun _ k8 => rL (xM (.int .i64 (i0 : Int)) rfl ?_)
 refine xG (.bool false) rfl (ex_eql rfl rfl rfl (decide_eq_false (by omega))) ?_
 simp only [zP, po]
 refine wK k8 (cF rfl ?_)
 refine kS (tK k7 ?_)
 refine sK fun _ k9 => sK fun _ k10 => rL (xM (.int .i64 (i0 : Int)) rfl ?_)
 refine xG (.int .i64 ((i0 + 1 : Nat) : Int)) rfl (ex_add rfl rfl rfl (by rw [i64_in (by omega)]; omega)) (xA (.int .i64 ((i0 + 1 : Nat) : Int)) rfl ?_)
 simp only [zP, po]
 refine wK k10 (bB ?_)
 gi_loopw [5, 6] (fun x5 x6 wr => ∃ (i j : Nat) (kept mid : List (List UInt8)), x5 = .int .i64 (i : Int) ∧ x6 = .int .i64 (j : Int) ∧ j ≤ l.length ∧ kept = (l.take j).filter (fun y => !pr y) ∧ i = kept.length ∧ 0 < mid.length ∧ i + mid.length = j ∧ Inv B (Res.row 9 1 (.slice (some ⟨b, 0, none⟩) l.length rc) l.length (textCells (kept ++ mid ++ l.drop j)) :: H) wr) (fun x5 x6 _ => l.length - (intOf x6).toNat)
 case atStart => exact ⟨i0, i0 + 1, l.take i0, [x0], rfl, rfl, by omega, hst.symm, by rw [List.length_take]; omega, by simp, by simp, by rw [← hsl]; exact hv⟩
 case round =>
  obtain ⟨i, j, kept, mid, rfl, rfl, hj, hkept, hik, hmid, hij, hv⟩ := hrel
  refine sK fun _ k12 => sK fun _ k13 => rL (xM (.int .i64 (j : Int)) rfl ?_)
  refine xM (.slice (some ⟨b, 0, none⟩) l.length rc) rfl (xG (.int .i64 (l.length : Int)) rfl (ex_len0 Tryz.underlying27 rfl rfl) ?_)
  simp only [zP, po]
  by_cases hb14 : (j : Int) < (l.length : Int)
  ·refine xG (.bool true) rfl (ex_lss rfl rfl rfl (decide_eq_true hb14)) ?_
   simp only [zP, po]
   refine wK k13 (cT rfl ?_)
   refine kS (tK k12 ?_)
   refine sK fun _ k15 => bB (sK fun _ k16 => ?_)
   obtain ⟨x, hx⟩ : ∃ x, l[j]? = some x := ⟨_, List.getElem?_eq_getElem (show j < l.length by omega)⟩
   refine rL (xM (.slice (some ⟨b, 0, none⟩) l.length rc) rfl ?_)
   refine xM (.int .i64 (j : Int)) rfl (xG (.pointer (some ⟨b, 0 + j, none⟩)) rfl (ex_index rfl rfl rfl (run_idx1 (k := j) Tryz.underlying27 s24es27 (by omega))) ?_)
   simp only [zP, po]
   refine xL _ rfl (run_load1 s24na9 (row_load (hv.get 0 rfl) (df_get (kept := kept) (mid := mid) hx (by omega)))) (xA (.string ⟨x.toArray⟩) rfl ?_)
   simp only [zP, po]
   refine wK k16 (sK fun _ k17 => ?_)
   refine rL (xM (.func (.func f) #[] cb) rfl ?_)
   refine xM (.string ⟨x.toArray⟩) rfl (wpi_callV hcal tV wideC rfl (wn rfl) rfl rfl (args := #[.string ⟨x.toArray⟩]) (by simp only [List.map_toArray, List.map_cons, List.map_nil]; rfl) ((hf x _ _ hv).mono ?_))
   rintro e w18 ⟨rfl, hv⟩
   refine ⟨_, rfl, ?_⟩
   simp only [zP, po]
   refine xG (.bool (!(pr x))) rfl (ex_not rfl rfl rfl) ?_
   simp only [zP, po]
   refine wK k17 (wpIn_cond_split (t := !(pr x)) rfl (fun hc19 => ?_) (fun hc19 => ?_))
   ·refine sK fun _ k20 => ?_
    have hpx : pr x = false := by simpa using hc19
    obtain ⟨g0, mid2, hmg⟩ : ∃ g0 m2, mid = g0 :: m2 := (by cases mid with | nil => simp at hmid | cons a m => exact ⟨a, m, rfl⟩)
    subst hmg
    refine rL (xM (.slice (some ⟨b, 0, none⟩) l.length rc) rfl ?_)
    refine xM (.int .i64 (i : Int)) rfl (xM (.string ⟨x.toArray⟩) rfl ?_)
    simp only [zP, po]
    refine xG (.pointer (some ⟨b, 0 + i, none⟩)) rfl (ex_index rfl rfl rfl (run_idx1 (k := i) Tryz.underlying27 s24es27 (by omega))) (sl_storeRow (v := .string ⟨x.toArray⟩) tV (wn rfl) rfl rfl rfl hv s24sz9 (by rw [textCells_n]; simp only [List.length_append, List.length_cons, List.length_drop]; omega) rfl rfl (fun w21 hv => ?_))
    rw [Nat.zero_add] at hv
    simp only [zP, po]
    refine wK k20 (rL ?_)
    refine xM (.int .i64 (i : Int)) rfl (xG (.int .i64 ((i + 1 : Nat) : Int)) rfl (ex_add rfl rfl rfl (by rw [i64_in (by omega)]; omega)) ?_)
    refine xA (.int .i64 ((i + 1 : Nat) : Int)) rfl (wL ?_)
    simp only [zP, po]
    refine bN (tK k15 ?_)
    refine rL (xM (.int .i64 (j : Int)) rfl ?_)
    refine xG (.int .i64 ((j + 1 : Nat) : Int)) rfl (ex_add rfl rfl rfl (by rw [i64_in (by omega)]; omega)) (xA (.int .i64 ((j + 1 : Nat) : Int)) rfl ?_)
    refine wL ?_
    simp only [zP, po]
    refine then_normal ?_
    go_roundw
    case rel => exact ⟨i + 1, j + 1, kept ++ [x], mid2 ++ [x], rfl, rfl, by omega, by rw [df_filter hx, ← hkept, hpx]; rfl, by rw [List.length_append]; simp; exact hik, by simp, by simp at hij ⊢; omega, by rw [hik, df_set hx] at hv; exact hv⟩
    case measure => show l.length - (((j + 1 : Nat) : Int)).toNat < l.length - ((j : Int)).toNat; omega
   refine kS (bN ?_)
   refine tK k15 ?_
   have hpx : pr x = true := by simpa using hc19
   refine rL (xM (.int .i64 (j : Int)) rfl ?_)
   refine xG (.int .i64 ((j + 1 : Nat) : Int)) rfl (ex_add rfl rfl rfl (by rw [i64_in (by omega)]; omega)) (xA (.int .i64 ((j + 1 : Nat) : Int)) rfl ?_)
   refine wL ?_
   simp only [zP, po]
   refine then_normal ?_
   go_roundw
   case rel => exact ⟨i, j + 1, kept, mid ++ [x], rfl, rfl, by omega, by rw [df_filter hx, ← hkept, hpx]; simp, hik, by simp, by simp; omega, by rw [← df_skip hx]; exact hv⟩
   case measure => show l.length - (((j + 1 : Nat) : Int)).toNat < l.length - ((j : Int)).toNat; omega
  refine xG (.bool false) rfl (ex_lss rfl rfl rfl (decide_eq_false hb14)) ?_
  simp only [zP, po]
  refine wK k13 (cF rfl ?_)
  refine xE (tX ?_)
  refine tX (bH ?_)
  refine tK k9 (sK fun _ k22 => ?_)
  obtain rfl : j = l.length := by omega
  rw [List.drop_length, List.append_nil, textCells_app] at hv
  rw [List.take_length] at hkept
  obtain ⟨L, hL1, hL2, hL3, hL4, hv⟩ := hv.rowCell
  obtain ⟨tl, hLe⟩ : ∃ tl, L = textCells kept ++ textCells mid ++ tl := ⟨L.drop (l.length * 1), by rw [← hL2, List.take_append_drop]⟩
  subst hLe
  have hkn : (textCells kept).length = i := by rw [textCells_n]; exact hik.symm
  refine rL (xM (.slice (some ⟨b, 0, none⟩) l.length rc) rfl ?_)
  refine xM (.int .i64 (i : Int)) rfl (xG (.slice (some ⟨b, 0 + i, none⟩) (l.length - i) (rc - i)) rfl (ex_slice (lo' := some (.int .i64 (i : Int))) rfl rfl (congrArg some rfl) rfl rfl (run_from1 Tryz.underlying27 s24es27 (by omega) (by omega))) ?_)
  simp only [zP, po]
  refine sl_clearAt 0 (pre := textCells kept) (mid := textCells mid) (post := tl) (m := l.length - i) tV (wn rfl) rfl rfl s24el27 (one_cons rfl one_nil) hv rfl rfl (by rw [hkn, Nat.zero_add]) (by rw [textCells_n]; omega) (fun zs w23 hzs hv => ?_)
  simp only [zO] at hv
  simp only [zP, po]
  refine wK k22 (sK fun _ k24 => ?_)
  refine rL (xM (.slice (some ⟨b, 0, none⟩) l.length rc) rfl ?_)
  refine xM (.int .i64 (i : Int)) rfl (xG (.slice (some ⟨b, 0, none⟩) i rc) rfl (ex_slice (hi' := some (.int .i64 (i : Int))) rfl rfl rfl (congrArg some rfl) rfl (run_hi Tryz.underlying27 s24es27 (by omega))) ?_)
  simp only [zP, po]
  refine xA (.slice (some ⟨b, 0, none⟩) i rc) rfl ?_
  simp only [zP, po]
  refine wK k24 (rR ?_)
  refine bR rfl rfl ?_
  have h8 := hv.cellRow (n := i) (c := rc) (size := 1) (by simp only [List.length_append, hzs] at hL1 ⊢; exact hL1) (by omega) hL4
  rw [List.append_assoc, Nat.mul_one, List.take_left' hkn, hik, hkept] at h8
  rw [hik, hkept]
  exact ⟨_, _, rfl, h8⟩
end Go.Proofs.YtffmbdagjpdieaaGreat
/- store.Names and Dump. -/
namespace Go.Proofs.YtffmbdagjpdieaaGreat
open Go.RowKit Go.Pm
theorem storeReadV (B : Base) (H : List Res) (w : World) (s p : Nat) (v : Value) (X : List (List Ent)) (bvs : List Value) (M : Model) (last mark stamp clock : Int) (key : List UInt8) (hx : IxM B X M) (hasc : AscM M) (hv : Inv B (Res.cell s [.pointer (some ⟨p, 0, none⟩), .int .i64 last, .int .i64 mark] 65 :: ixS 89 101 100 p v (M.length : Int) X bvs :: H) w) : Calls Tryz.prog 19 #[.pointer (some ⟨s, 0, none⟩), .string ⟨key.toArray⟩, .int .i64 stamp, .int .i64 clock] w
  fun e w' => ∃ C x p' t' z' ok, B.Le C ∧ e = .returned (.tuple #[.agg (verCells x p' t' z').toArray, .bool ok]) ∧ ((ok = true ∧ readV (getM M key) stamp clock = some x) ∨ (ok = false ∧ readV (getM M key) stamp clock = none)) ∧ ValAt C x.val p' t' z' ∧ Inv C (Res.cell s [.pointer (some ⟨p, 0, none⟩), .int .i64 last, .int .i64 mark] 65 :: ixS 89 101 100 p v (M.length : Int) X bvs :: H) w' := by
 refine (storeRead B H w s p v X bvs M last mark stamp clock key hx hv).mono ?_
 rintro e w' ⟨C, x, p', t', z', ok, h1, h2, h3, h4, h5⟩
 exact ⟨C, x, p', t', z', ok, h1, h2, readV_of (hasc key) h3, h4, h5⟩
theorem s26na24 (w : World) : (isAgg 24).run Tryz.prog w = .ok false w := by kernel_rfl
theorem s26callable19 : Callable Tryz.prog 19 := ⟨_, Tryz.func19, by kernel_rfl, by kernel_rfl⟩
theorem s26al55 (w : World) : (Instr.alloc 55 true (.tuple #[])).run Tryz.prog w = .ok (.pointer (some ⟨w.heap.size, 0, none⟩)) (w.alloc (.cells ([.int .i64 0, .bool false, .int .i64 0, .int .i64 0, .string ⟨([] : List UInt8).toArray⟩, .slice none 0 0, .slice none 0 0, .slice none 0 0] : List Value).toArray 55)) := by kernel_rfl
set_option maxHeartbeats 2000000 in
theorem namesFn (B : Base) (H : List Res) (w : World) (s p : Nat) (v : Value) (X : List (List Ent)) (bvs : List Value) (M : Model) (last mark stamp clock : Int) (g3 g4 g5 : Nat) (key : List UInt8) (hx : IxM B X M) (hasc : AscM M) (hv : Inv B (Res.cell g5 [.int .i64 clock] 3 :: Res.cell g4 [.int .i64 stamp] 3 :: Res.cell g3 [.pointer (some ⟨s, 0, none⟩)] 24 :: Res.cell s [.pointer (some ⟨p, 0, none⟩), .int .i64 last, .int .i64 mark] 65 :: ixS 89 101 100 p v (M.length : Int) X bvs :: H) w) :
  Calls Tryz.prog 65 #[.string ⟨key.toArray⟩, .pointer (some ⟨g3, 0, none⟩), .pointer (some ⟨g4, 0, none⟩), .pointer (some ⟨g5, 0, none⟩)] w fun e w' => e = .returned (.bool (!(readV (getM M key) stamp clock).isSome)) ∧ Inv B (Res.cell g5 [.int .i64 clock] 3 :: Res.cell g4 [.int .i64 stamp] 3 :: Res.cell g3 [.pointer (some ⟨s, 0, none⟩)] 24 :: Res.cell s [.pointer (some ⟨p, 0, none⟩), .int .i64 last, .int .i64 mark] 65 :: ixS 89 101 100 p v (M.length : Int) X bvs :: H) w' := by
 refine cW Tryz.func65 rfl Tryz.ntmps65 ?_
 simp only [al]
 refine sK fun _ k1 => rL (xA (.bool false) rfl ?_)
 simp only [zP, po]
 refine wK k1 (sK fun _ k2 => ?_)
 refine rL (xL _ rfl (run_load1 s26na24 (hv.load 2 0 rfl rfl)) ?_)
 refine xM (.string ⟨key.toArray⟩) rfl (xL _ rfl (run_load1 s2na3 (hv.load 1 0 rfl rfl)) ?_)
 simp only [zP, po]
 refine xL _ rfl (run_load1 s2na3 (hv.load 0 0 rfl rfl)) ?_
 replace hv := hv.front 4 rfl
 simp only [List.eraseIdx_cons_succ, List.eraseIdx_cons_zero] at hv
 replace hv := hv.front 4 rfl
 simp only [List.eraseIdx_cons_succ, List.eraseIdx_cons_zero] at hv
 refine xC s26callable19 rfl ((storeReadV B _ _ s p v X bvs M last mark stamp clock key hx hasc hv).mono ?_) rfl
 rintro e w3 ⟨C, y, p3, t3, z3, ok, hBC, rfl, hrd, hvy, hv⟩
 refine ⟨_, rfl, ?_⟩
 rcases hrd with ⟨rfl, hrd⟩ | ⟨rfl, hrd⟩
 ·refine xM (.tuple #[.agg #[.int .i64 y.stamp, .bool y.gone, .int .i64 y.expire, .int .i64 y.val.kind, .string ⟨y.val.text.toArray⟩, p3, t3, z3], .bool true]) rfl ?_
  simp only [zP, po]
  refine xG (.agg #[.int .i64 y.stamp, .bool y.gone, .int .i64 y.expire, .int .i64 y.val.kind, .string ⟨y.val.text.toArray⟩, p3, t3, z3]) rfl (ex_extract rfl rfl rfl) (xG (.bool true) rfl (ex_extract rfl rfl rfl) ?_)
  refine sl_alloc tV (wn rfl) rfl hv s26al55 (fun b4 w5 hv => ?_)
  simp only [zP, po]
  refine xS 0 rfl hv s1sz55 rfl (by exact ⟨rfl, rfl, rfl, rfl, rfl, hvy.p.one, hvy.t.one, hvy.z.one, trivial⟩) (fun w6 hv => ?_)
  simp only [zO, sp] at hv
  refine xA (.bool true) rfl ?_
  simp only [zP, po]
  refine wK k2 (sK fun _ k7 => ?_)
  refine rL (xM (.bool true) rfl ?_)
  refine xG (.bool false) rfl (ex_not rfl rfl rfl) (xA (.bool false) rfl ?_)
  simp only [zP, po]
  refine wK k7 (rR ?_)
  refine bR rfl rfl (⟨by rw [hrd]; rfl, (((((((hv.front 2 rfl).front 2 rfl).front 5 rfl).front 5 rfl).front 5 rfl).sub (List.Sublist.cons_cons _ (List.Sublist.cons_cons _ (List.Sublist.cons_cons _ (List.Sublist.cons_cons _ (List.Sublist.cons_cons _ (List.Sublist.cons _ (List.Sublist.refl _))))))))).weak hBC⟩)
 refine xM (.tuple #[.agg #[.int .i64 y.stamp, .bool y.gone, .int .i64 y.expire, .int .i64 y.val.kind, .string ⟨y.val.text.toArray⟩, p3, t3, z3], .bool false]) rfl ?_
 simp only [zP, po]
 refine xG (.agg #[.int .i64 y.stamp, .bool y.gone, .int .i64 y.expire, .int .i64 y.val.kind, .string ⟨y.val.text.toArray⟩, p3, t3, z3]) rfl (ex_extract rfl rfl rfl) (xG (.bool false) rfl (ex_extract rfl rfl rfl) ?_)
 refine sl_alloc tV (wn rfl) rfl hv s26al55 (fun b8 w9 hv => ?_)
 simp only [zP, po]
 refine xS 0 rfl hv s1sz55 rfl (by exact ⟨rfl, rfl, rfl, rfl, rfl, hvy.p.one, hvy.t.one, hvy.z.one, trivial⟩) (fun w10 hv => ?_)
 simp only [zO, sp] at hv
 refine xA (.bool false) rfl ?_
 simp only [zP, po]
 refine wK k2 (sK fun _ k11 => ?_)
 refine rL (xM (.bool false) rfl ?_)
 refine xG (.bool true) rfl (ex_not rfl rfl rfl) (xA (.bool true) rfl ?_)
 simp only [zP, po]
 refine wK k11 (rR ?_)
 refine bR rfl rfl (⟨by rw [hrd]; rfl, (((((((hv.front 2 rfl).front 2 rfl).front 5 rfl).front 5 rfl).front 5 rfl).sub (List.Sublist.cons_cons _ (List.Sublist.cons_cons _ (List.Sublist.cons_cons _ (List.Sublist.cons_cons _ (List.Sublist.cons_cons _ (List.Sublist.cons _ (List.Sublist.refl _))))))))).weak hBC⟩)
theorem deleteFuncN (B : Base) (H : List Res) (w : World) (f : FuncId) (cb : Array Value) (ra : Option Addr) (rc n : Nat) (l : List (List UInt8)) (pr : List UInt8 → Bool) (hn : n = l.length) (hm : n ≤ 1000000) (hcal : Callable Tryz.prog f) (hf : ∀ (x : List UInt8) (r : Res) (w : World), Inv B (r :: H) w → Calls Tryz.prog f (#[.string ⟨x.toArray⟩] ++ cb) w fun e w' => e = .returned (.bool (!pr x)) ∧ Inv B (r :: H) w') (hv : Inv B (Res.row 9 1 (.slice ra n rc) n (textCells l) :: H) w) :
  Calls Tryz.prog 64 #[.slice ra n rc, .func (.func f) #[] cb] w fun e w' => ∃ ra' rc', e = .returned (.slice ra' (l.filter pr).length rc') ∧ Inv B (Res.row 9 1 (.slice ra' (l.filter pr).length rc') (l.filter pr).length (textCells (l.filter pr)) :: H) w' := by
 subst hn
 have h := deleteFunc B H w f cb ra rc l (fun x => !pr x) hm hcal hf hv
 simp only [Bool.not_not] at h
 exact h
theorem s26callable27 : Callable Tryz.prog 27 := ⟨_, Tryz.func27, by kernel_rfl, by kernel_rfl⟩
theorem s26callable65 : Callable Tryz.prog 65 := ⟨_, Tryz.func65, by kernel_rfl, by kernel_rfl⟩
theorem s26callable64 : Callable Tryz.prog 64 := ⟨_, Tryz.func64, by kernel_rfl, by kernel_rfl⟩
set_option maxHeartbeats 2000000 in
theorem storeNames (B : Base) (H : List Res) (w : World) (s p : Nat) (v : Value) (X : List (List Ent)) (bvs : List Value) (M : Model) (last mark stamp clock : Int) (hx : IxM B X M) (hasc : AscM M) (hv : Inv B (Res.cell s [.pointer (some ⟨p, 0, none⟩), .int .i64 last, .int .i64 mark] 65 :: ixS 89 101 100 p v (M.length : Int) X bvs :: H) w) :
  Calls Tryz.prog 38 #[.pointer (some ⟨s, 0, none⟩), .int .i64 stamp, .int .i64 clock] w fun e w' => ∃ ra rc, e = .returned (.slice ra (namesM M stamp clock).length rc) ∧ Inv B (Res.row 9 1 (.slice ra (namesM M stamp clock).length rc) (namesM M stamp clock).length (textCells (namesM M stamp clock)) :: Res.cell s [.pointer (some ⟨p, 0, none⟩), .int .i64 last, .int .i64 mark] 65 :: ixS 89 101 100 p v (M.length : Int) X bvs :: H) w' := by
 refine cW Tryz.func38 rfl Tryz.ntmps38 ?_
 simp only [al]
 refine sK fun _ k1 => rL (sl_box (L := [.pointer (some ⟨s, 0, none⟩)]) tV (wn rfl) rfl rfl hv (fun w => by kernel_rfl) (fun b2 w3 hv => ?_))
 refine sl_box (L := [.int .i64 stamp]) tV (wn rfl) rfl rfl hv (fun w => by kernel_rfl) (fun b4 w5 hv => ?_)
 refine sl_box (L := [.int .i64 clock]) tV (wn rfl) rfl rfl hv (fun w => by kernel_rfl) (fun b6 w7 hv => ?_)
 simp only [zP, po]
 refine xA (.slice none 0 0) rfl ?_
 simp only [zP, po]
 refine wK k1 (sK fun _ k8 => ?_)
 refine rL (xL _ rfl (run_load1 s26na24 (hv.load 2 0 rfl rfl)) ?_)
 refine xG (.pointer (some ⟨s, 0, none⟩)) rfl (ex_nil rfl rfl) (xF (.pointer (some ⟨s, 0, none⟩)) rfl (s15fa65_0 _ _ _) ?_)
 simp only [zP, po]
 refine xL _ rfl (run_load1 s3na62 (hv.load 3 0 rfl rfl)) ?_
 replace hv := hv.front 4 rfl
 simp only [List.eraseIdx_cons_succ, List.eraseIdx_cons_zero] at hv
 refine xC s26callable27 rfl ((ixKeys B _ _ p v X bvs M hx hv).mono ?_) rfl
 rintro e w9 ⟨ka, kc, rfl, hv⟩
 refine ⟨_, rfl, ?_⟩
 refine xG (.func (.func 65) #[] #[.pointer (some ⟨b2, 0, none⟩), .pointer (some ⟨b4, 0, none⟩), .pointer (some ⟨b6, 0, none⟩)]) rfl (ex_makeFunc (c' := #[.pointer (some ⟨b2, 0, none⟩), .pointer (some ⟨b4, 0, none⟩), .pointer (some ⟨b6, 0, none⟩)]) rfl (by simp only [List.map_toArray, List.map_nil]) (by simp only [List.map_toArray, List.map_cons, List.map_nil]; rfl)) ?_
 simp only [zP, po]
 have hfn : ∀ (x : List UInt8) (r9 : Res) (w : World), Inv B (r9 :: (ixS 89 101 100 p v (M.length : Int) X bvs :: Res.cell b6 [.int .i64 clock] 3 :: Res.cell b4 [.int .i64 stamp] 3 :: Res.cell b2 [.pointer (some ⟨s, 0, none⟩)] 24 :: Res.cell s [.pointer (some ⟨p, 0, none⟩), .int .i64 last, .int .i64 mark] 65 :: H)) w → Calls Tryz.prog 65 (#[.string ⟨x.toArray⟩] ++ #[.pointer (some ⟨b2, 0, none⟩), .pointer (some ⟨b4, 0, none⟩), .pointer (some ⟨b6, 0, none⟩)]) w fun e w' => e = .returned (.bool (!(readV (getM M x) stamp clock).isSome)) ∧ Inv B (r9 :: (ixS 89 101 100 p v (M.length : Int) X bvs :: Res.cell b6 [.int .i64 clock] 3 :: Res.cell b4 [.int .i64 stamp] 3 :: Res.cell b2 [.pointer (some ⟨s, 0, none⟩)] 24 :: Res.cell s [.pointer (some ⟨p, 0, none⟩), .int .i64 last, .int .i64 mark] 65 :: H)) w' := fun x r9 w hv =>
  (namesFn B _ w s p v X bvs M last mark stamp clock b2 b4 b6 x hx hasc (((((hv.front 1 rfl).front 5 rfl).front 5 rfl).front 5 rfl).front 5 rfl)).mono fun e w' ⟨h7, h8⟩ => ⟨h7, ((((((h8.front 3 rfl).front 3 rfl).front 3 rfl).front 3 rfl).front 4 rfl).front 5 rfl)⟩
 refine xC s26callable64 rfl ((deleteFuncN B _ _ 65 _ ka kc M.length (keysM M) (fun x => (readV (getM M x) stamp clock).isSome) (by rw [List.length_map]) (by have := hx.sm; omega) s26callable65 hfn hv).mono ?_) rfl
 rintro e w10 ⟨ra, rc, rfl, hv⟩
 refine ⟨_, rfl, ?_⟩
 refine xA (.slice ra ((namesM M stamp clock).length) rc) rfl ?_
 simp only [zP, po]
 refine wK k8 (rR ?_)
 refine bR rfl rfl (⟨_, _, rfl, ((((hv.front 1 rfl).front 5 rfl).front 2 rfl).sub (List.Sublist.cons_cons _ (List.Sublist.cons_cons _ (List.Sublist.cons_cons _ (List.Sublist.cons _ (List.Sublist.cons _ (List.Sublist.cons _ (List.Sublist.refl _))))))))⟩)
theorem s26mk57 : (Tryz.prog.info? 57).map (fun i => (i.zero, i.size, i.bytes)) = some (some (.agg #[.string ⟨([] : List UInt8).toArray⟩, .int .i64 0, .bool false, .int .i64 0, .int .i64 0, .string ⟨([] : List UInt8).toArray⟩, .slice none 0 0, .slice none 0 0, .slice none 0 0]), 9, 136) := by kernel_rfl
theorem s26el33 : Elem Tryz.prog 33 57 (.agg #[.string ⟨([] : List UInt8).toArray⟩, .int .i64 0, .bool false, .int .i64 0, .int .i64 0, .string ⟨([] : List UInt8).toArray⟩, .slice none 0 0, .slice none 0 0, .slice none 0 0]) 9 136 := elem_of Tryz.underlying33 s26mk57 (by rfl) (by decide)
set_option maxHeartbeats 4000000 in
theorem storeDump (B : Base) (H : List Res) (w : World) (s p : Nat) (v : Value) (X : List (List Ent)) (bvs : List Value) (M : Model) (last mark clock : Int) (hx : IxM B X M) (hasc : AscM M) (hv : Inv B (Res.cell s [.pointer (some ⟨p, 0, none⟩), .int .i64 last, .int .i64 mark] 65 :: ixS 89 101 100 p v (M.length : Int) X bvs :: H) w) :
  Calls Tryz.prog 13 #[.pointer (some ⟨s, 0, none⟩), .int .i64 clock] w fun e w' => ∃ C ra rc ys, B.Le C ∧ e = .returned (.slice ra (dumpM M last clock).length rc) ∧ SliceOk ra (dumpM M last clock).length rc ∧ RdV C [] ra ys ∧ WrsAt C (dumpM M last clock) ys ∧ Inv C (Res.cell s [.pointer (some ⟨p, 0, none⟩), .int .i64 last, .int .i64 mark] 65 :: ixS 89 101 100 p v (M.length : Int) X bvs :: H) w' := by
 refine cW Tryz.func13 rfl Tryz.ntmps13 ?_
 simp only [al]
 refine sK fun _ k1 => rL (xA (.slice none 0 0) rfl ?_)
 simp only [zP, po]
 refine wK k1 (sK fun _ k2 => ?_)
 refine rL (xA (.slice none 0 0) rfl ?_)
 simp only [zP, po]
 refine wK k2 (sK fun _ k3 => ?_)
 refine sK fun _ k4 => rL (xM (.pointer (some ⟨s, 0, none⟩)) rfl ?_)
 refine xG (.pointer (some ⟨s, 0, none⟩)) rfl (ex_nil rfl rfl) (xF (.pointer (some ⟨s, 0, none⟩)) rfl (s15fa65_0 _ _ _) ?_)
 simp only [zP, po]
 refine xL _ rfl (run_load1 s3na62 (hv.load 0 0 rfl rfl)) ?_
 replace hv := hv.front 1 rfl
 simp only [List.eraseIdx_cons_succ, List.eraseIdx_cons_zero] at hv
 refine xC s26callable27 rfl ((ixKeys B _ _ p v X bvs M hx hv).mono ?_) rfl
 rintro e w5 ⟨ka, kc, rfl, hv⟩
 refine ⟨_, rfl, ?_⟩
 obtain ⟨K0, hK0, hv7, hrk, -, -⟩ := hv.rowBy
 clear hv
 have hv := hv7
 clear hv7
 refine xG (.int .i64 (M.length : Int)) rfl (ex_len0 Tryz.underlying27 rfl rfl) ?_
 simp only [zP, po]
 refine xM (.int .i64 0) rfl ?_
 simp only [zP, po]
 refine wK k4 (bB ?_)
 gi_loopw [5, 16] (fun x5 x16 wr => ∃ (i n1 : Nat) (C : Base) (ra : Option Addr) (rc : Nat) (ys : List Value), x5 = .slice ra n1 rc ∧ x16 = .int .i64 (i : Int) ∧ K0.Le C ∧ i ≤ M.length ∧ n1 = (dumpM (M.take i) last clock).length ∧ WrsAt C (dumpM (M.take i) last clock) ys ∧ Inv C (Res.row 57 9 (.slice ra n1 rc) n1 ys :: Res.cell s [.pointer (some ⟨p, 0, none⟩), .int .i64 last, .int .i64 mark] 65 :: ixS 89 101 100 p v (M.length : Int) X bvs :: H) wr) (fun x5 x16 _ => M.length - (intOf x16).toNat)
 case atStart => exact ⟨0, 0, K0, none, 0, [], rfl, rfl, Base.Le.refl _, Nat.zero_le _, rfl, rfl, ((hv.front 1 rfl)).rowNil 57 9⟩
 case round =>
  obtain ⟨i, n1, C, ra, rc, ys, rfl, rfl, hKC, hi, hn1, hys, hv⟩ := hrel
  have hn1b := dumpM_le (M.take i) last clock
  rw [List.length_take] at hn1b
  have hMs := hx.sm
  refine sK fun _ k7 => rL ?_
  by_cases hb8 : (i : Int) < (M.length : Int)
  ·refine xG (.bool true) rfl (ex_lss rfl rfl rfl (decide_eq_true hb8)) ?_
   simp only [zP, po]
   refine wK k7 (sK fun _ k9 => ?_)
   refine cT rfl (kS ?_)
   refine tK k9 (sK fun _ k10 => ?_)
   refine bB (sK fun _ k11 => ?_)
   obtain ⟨m, hm⟩ : ∃ m, M[i]? = some m := ⟨_, List.getElem?_eq_getElem (show i < M.length by omega)⟩
   obtain ⟨bb, bo, had, hrdk⟩ := text_reads hrk (key_at hm)
   subst had
   have hgm := getM_at hx.sorted (List.mem_of_getElem? hm)
   refine rL (xG (.pointer (some ⟨bb, bo + i, none⟩)) rfl (ex_index rfl rfl rfl (run_idx1 (k := i) Tryz.underlying27 s9es27 (by omega))) ?_)
   refine xL _ rfl (run_load1 s3na9 (hrdk _ _ _ hKC no_res hv 0 _ rfl)) (xA (.string ⟨m.1.toArray⟩) rfl ?_)
   simp only [zP, po]
   refine wK k11 (sK fun _ k12 => ?_)
   refine rL (xM (.pointer (some ⟨s, 0, none⟩)) rfl ?_)
   refine xM (.string ⟨m.1.toArray⟩) rfl (xM (.pointer (some ⟨s, 0, none⟩)) rfl ?_)
   simp only [zP, po]
   refine xG (.pointer (some ⟨s, 0, none⟩)) rfl (ex_nil rfl rfl) (xF (.pointer (some ⟨s, 1, none⟩)) rfl (s15fa65_1 _ _ _) ?_)
   refine xL _ rfl (run_load1 s2na3 (hv.load 1 1 rfl rfl)) ?_
   simp only [zP, po]
   refine xM (.int .i64 clock) rfl ?_
   replace hv := hv.front 2 rfl
   simp only [List.eraseIdx_cons_succ, List.eraseIdx_cons_zero] at hv
   replace hv := hv.front 2 rfl
   simp only [List.eraseIdx_cons_succ, List.eraseIdx_cons_zero] at hv
   refine xC s26callable19 rfl ((storeReadV C _ _ s p v X bvs M last mark last clock m.1 (hx.more (hK0.trans hKC)) hasc hv).mono ?_) rfl
   rintro e w13 ⟨D, y, p3, t3, z3, ok, hCD, rfl, hrd, hvy, hv⟩
   refine ⟨_, rfl, ?_⟩
   rw [hgm] at hrd
   rcases hrd with ⟨rfl, hrd⟩ | ⟨rfl, hrd⟩
   ·refine xM (.tuple #[.agg #[.int .i64 y.stamp, .bool y.gone, .int .i64 y.expire, .int .i64 y.val.kind, .string ⟨y.val.text.toArray⟩, p3, t3, z3], .bool true]) rfl ?_
    simp only [zP, po]
    refine xG (.agg #[.int .i64 y.stamp, .bool y.gone, .int .i64 y.expire, .int .i64 y.val.kind, .string ⟨y.val.text.toArray⟩, p3, t3, z3]) rfl (ex_extract rfl rfl rfl) (xG (.bool true) rfl (ex_extract rfl rfl rfl) ?_)
    refine sl_alloc tV (wn rfl) rfl hv s26al55 (fun b14 w15 hv => ?_)
    simp only [zP, po]
    refine xS 0 rfl hv s1sz55 rfl (by exact ⟨rfl, rfl, rfl, rfl, rfl, hvy.p.one, hvy.t.one, hvy.z.one, trivial⟩) (fun w16 hv => ?_)
    simp only [zO, sp] at hv
    refine xA (.bool true) rfl ?_
    simp only [zP, po]
    refine wK k12 (sK fun _ k17 => ?_)
    refine rL (xM (.bool true) rfl ?_)
    simp only [zP, po]
    refine wK k17 (cT rfl ?_)
    refine rL (xM (.slice ra n1 rc) rfl ?_)
    refine xM (.string ⟨m.1.toArray⟩) rfl (xL (.agg #[.int .i64 y.stamp, .bool y.gone, .int .i64 y.expire, .int .i64 y.val.kind, .string ⟨y.val.text.toArray⟩, p3, t3, z3]) rfl (run_load_mid (pre := []) (mid := [.int .i64 y.stamp, .bool y.gone, .int .i64 y.expire, .int .i64 y.val.kind, .string ⟨y.val.text.toArray⟩, p3, t3, z3]) (post := []) s1wd55 (show Blk _ b14 ([] ++ [.int .i64 y.stamp, .bool y.gone, .int .i64 y.expire, .int .i64 y.val.kind, .string ⟨y.val.text.toArray⟩, p3, t3, z3] ++ []) _ from hv.get 0 rfl) rfl) ?_)
    simp only [zP, po]
    refine xG (.agg #[.string ⟨m.1.toArray⟩, .int .i64 y.stamp, .bool y.gone, .int .i64 y.expire, .int .i64 y.val.kind, .string ⟨y.val.text.toArray⟩, p3, t3, z3]) rfl (ex_buildN (vs := #[(0, .string ⟨m.1.toArray⟩), (1, .agg #[.int .i64 y.stamp, .bool y.gone, .int .i64 y.expire, .int .i64 y.val.kind, .string ⟨y.val.text.toArray⟩, p3, t3, z3])]) rfl (by simp only [List.map_toArray, List.map_cons, List.map_nil]; rfl) (by kernel_rfl)) (sl_rowAgg (L := [.string ⟨m.1.toArray⟩, .int .i64 y.stamp, .bool y.gone, .int .i64 y.expire, .int .i64 y.val.kind, .string ⟨y.val.text.toArray⟩, p3, t3, z3]) tV (wn rfl) rfl rfl hv s26el33 rfl (by decide) (fun b18 w19 hv => ?_))
    replace hv := hv.front 4 rfl
    simp only [List.eraseIdx_cons_succ, List.eraseIdx_cons_zero] at hv
    refine sl_append (news := [.string ⟨m.1.toArray⟩, .int .i64 y.stamp, .bool y.gone, .int .i64 y.expire, .int .i64 y.val.kind, .string ⟨y.val.text.toArray⟩, p3, t3, z3]) tV (wn rfl) rfl rfl rfl s26el33 hv (ok_full (by omega)) rfl (rd_all (hv.get 1 rfl)) (wrCells_one (v := ⟨m.1, y⟩) hvy) (by unfold maxLen; omega) (by omega) (fun rv20 w23 hv => ?_)
    obtain ⟨ra21, rc22, rfl⟩ := row_slice hv.head
    simp only [zP, po]
    refine xA (.slice ra21 (n1 + 1) rc22) rfl (wL ?_)
    simp only [zP, po]
    refine bN (tK k10 ?_)
    refine rL (xG (.int .i64 ((i + 1 : Nat) : Int)) rfl (ex_add rfl rfl rfl (by rw [i64_in (by omega)]; omega)) ?_)
    refine xM (.int .i64 ((i + 1 : Nat) : Int)) rfl (wL ?_)
    simp only [zP, po]
    refine then_normal ?_
    go_roundw
    case rel => exact ⟨i + 1, n1 + 1, _, _, _, _, rfl, rfl, (hKC.trans hCD), by omega, by rw [dumpM_some hm hrd, List.length_append, ← hn1]; rfl, by rw [dumpM_some hm hrd]; exact WrsAt.append (WrsAt.single (v := ⟨m.1, y⟩) hvy) (hys.more hCD), ((((hv.front 4 rfl).front 4 rfl).front 2 rfl).sub (List.Sublist.cons_cons _ (List.Sublist.cons_cons _ (List.Sublist.cons_cons _ (List.Sublist.cons _ (List.Sublist.cons _ (List.Sublist.refl _)))))))⟩
    case measure => show M.length - (((i + 1 : Nat) : Int)).toNat < M.length - ((i : Int)).toNat; omega
   refine xM (.tuple #[.agg #[.int .i64 y.stamp, .bool y.gone, .int .i64 y.expire, .int .i64 y.val.kind, .string ⟨y.val.text.toArray⟩, p3, t3, z3], .bool false]) rfl ?_
   simp only [zP, po]
   refine xG (.agg #[.int .i64 y.stamp, .bool y.gone, .int .i64 y.expire, .int .i64 y.val.kind, .string ⟨y.val.text.toArray⟩, p3, t3, z3]) rfl (ex_extract rfl rfl rfl) (xG (.bool false) rfl (ex_extract rfl rfl rfl) ?_)
   refine sl_alloc tV (wn rfl) rfl hv s26al55 (fun b24 w25 hv => ?_)
   simp only [zP, po]
   refine xS 0 rfl hv s1sz55 rfl (by exact ⟨rfl, rfl, rfl, rfl, rfl, hvy.p.one, hvy.t.one, hvy.z.one, trivial⟩) (fun w26 hv => ?_)
   simp only [zO, sp] at hv
   refine xA (.bool false) rfl ?_
   simp only [zP, po]
   refine wK k12 (sK fun _ k27 => ?_)
   refine rL (xM (.bool false) rfl ?_)
   simp only [zP, po]
   refine wK k27 (cF rfl ?_)
   refine kS (bN ?_)
   refine tK k10 (rL ?_)
   refine xG (.int .i64 ((i + 1 : Nat) : Int)) rfl (ex_add rfl rfl rfl (by rw [i64_in (by omega)]; omega)) (xM (.int .i64 ((i + 1 : Nat) : Int)) rfl ?_)
   refine wL ?_
   simp only [zP, po]
   refine then_normal ?_
   go_roundw
   case rel => exact ⟨i + 1, n1, _, _, _, _, rfl, rfl, (hKC.trans hCD), by omega, by rw [dumpM_none hm hrd, ← hn1], by rw [dumpM_none hm hrd]; exact hys.more hCD, ((((hv.front 2 rfl).front 2 rfl).front 3 rfl).sub (List.Sublist.cons_cons _ (List.Sublist.cons_cons _ (List.Sublist.cons_cons _ (List.Sublist.cons _ (List.Sublist.refl _))))))⟩
   case measure => show M.length - (((i + 1 : Nat) : Int)).toNat < M.length - ((i : Int)).toNat; omega
  refine xG (.bool false) rfl (ex_lss rfl rfl rfl (decide_eq_false hb8)) ?_
  simp only [zP, po]
  refine wK k7 (sK fun _ k28 => ?_)
  refine cF rfl (xE ?_)
  refine tX (tX ?_)
  refine bH (tK k3 ?_)
  refine sK fun _ k29 => rL (xM (.slice ra n1 rc) rfl ?_)
  refine xA (.slice ra n1 rc) rfl ?_
  simp only [zP, po]
  refine wK k29 (rR ?_)
  refine bR rfl rfl ?_
  obtain rfl : i = M.length := by omega
  rw [List.take_length] at hn1 hys
  subst hn1
  obtain ⟨D, hCD, hv, hrD, hokD, -⟩ := ((((hv.front 2 rfl).front 2 rfl).front 2 rfl)).rowBy
  exact ⟨D, _, _, _, hK0.trans (hKC.trans hCD), rfl, hokD, hrD, hys.more hCD, hv⟩
end Go.Proofs.YtffmbdagjpdieaaGreat
/- awake, walked; the reference's Same1. -/
namespace Go.Proofs.YtffmbdagjpdieaaGreat
open Go.RowKit Go.Pm
theorem s27al57 (w : World) : (Instr.alloc 57 true (.tuple #[])).run Tryz.prog w = .ok (.pointer (some ⟨w.heap.size, 0, none⟩)) (w.alloc (.cells ([.string ⟨([] : List UInt8).toArray⟩, .int .i64 0, .bool false, .int .i64 0, .int .i64 0, .string ⟨([] : List UInt8).toArray⟩, .slice none 0 0, .slice none 0 0, .slice none 0 0] : List Value).toArray 57)) := by kernel_rfl
set_option maxHeartbeats 2000000 in
theorem lawText (B : Base) (H : List Res) (w : World) (k t : List UInt8) (hv : Inv B H w) :
  Calls Tryz.prog 17 #[.string ⟨k.toArray⟩, .string ⟨t.toArray⟩] w fun e w' => e = .returned (.agg #[.string ⟨k.toArray⟩, .int .i64 0, .bool false, .int .i64 0, .int .i64 1, .string ⟨t.toArray⟩, .slice none 0 0, .slice none 0 0, .slice none 0 0]) ∧ Inv B H w' := by
 refine cW Tryz.func17 rfl Tryz.ntmps17 ?_
 simp only [al]
 refine sK fun _ k1 => rL (sl_alloc tV (wn rfl) rfl hv s27al57 (fun b2 w3 hv => ?_))
 simp only [zP, po]
 refine wK k1 (sK fun _ k4 => ?_)
 refine rL (xM (.string ⟨k.toArray⟩) rfl ?_)
 refine xM (.string ⟨t.toArray⟩) rfl (xG (.agg #[.int .i64 1, .string ⟨t.toArray⟩, .slice none 0 0, .slice none 0 0, .slice none 0 0]) rfl (ex_buildN (vs := #[(0, .int .i64 1), (1, .string ⟨t.toArray⟩)]) rfl (by simp only [List.map_toArray, List.map_cons, List.map_nil]; rfl) (by kernel_rfl)) ?_)
 simp only [zP, po]
 refine xG (.agg #[.int .i64 0, .bool false, .int .i64 0, .int .i64 1, .string ⟨t.toArray⟩, .slice none 0 0, .slice none 0 0, .slice none 0 0]) rfl (ex_buildN (vs := #[(3, .agg #[.int .i64 1, .string ⟨t.toArray⟩, .slice none 0 0, .slice none 0 0, .slice none 0 0])]) rfl (by simp only [List.map_toArray, List.map_cons, List.map_nil]; rfl) (by kernel_rfl)) (xG (.agg #[.string ⟨k.toArray⟩, .int .i64 0, .bool false, .int .i64 0, .int .i64 1, .string ⟨t.toArray⟩, .slice none 0 0, .slice none 0 0, .slice none 0 0]) rfl (ex_buildN (vs := #[(0, .string ⟨k.toArray⟩), (1, .agg #[.int .i64 0, .bool false, .int .i64 0, .int .i64 1, .string ⟨t.toArray⟩, .slice none 0 0, .slice none 0 0, .slice none 0 0])]) rfl (by simp only [List.map_toArray, List.map_cons, List.map_nil]; rfl) (by kernel_rfl)) ?_)
 refine xS 0 rfl hv s8sz57 rfl (by exact ⟨rfl, rfl, rfl, rfl, rfl, rfl, rfl, rfl, rfl, trivial⟩) (fun w5 hv => ?_)
 simp only [zO, sp] at hv
 simp only [zP, po]
 refine wK k4 (rR ?_)
 refine bodyPost_ret (res_cell1 rfl rfl (run_load_mid (pre := []) (mid := [.string ⟨k.toArray⟩, .int .i64 0, .bool false, .int .i64 0, .int .i64 1, .string ⟨t.toArray⟩, .slice none 0 0, .slice none 0 0, .slice none 0 0]) (post := []) s8wd57 (show Blk _ b2 ([] ++ [.string ⟨k.toArray⟩, .int .i64 0, .bool false, .int .i64 0, .int .i64 1, .string ⟨t.toArray⟩, .slice none 0 0, .slice none 0 0, .slice none 0 0] ++ []) _ from hv.get 0 rfl) rfl)) rfl (⟨rfl, (hv.sub (List.Sublist.cons _ (List.Sublist.refl _)))⟩)
set_option maxHeartbeats 2000000 in
theorem lawGone (B : Base) (H : List Res) (w : World) (k : List UInt8) (hv : Inv B H w) :
  Calls Tryz.prog 18 #[.string ⟨k.toArray⟩] w fun e w' => e = .returned (.agg #[.string ⟨k.toArray⟩, .int .i64 0, .bool true, .int .i64 0, .int .i64 0, .string ⟨([] : List UInt8).toArray⟩, .slice none 0 0, .slice none 0 0, .slice none 0 0]) ∧ Inv B H w' := by
 refine cW Tryz.func18 rfl Tryz.ntmps18 ?_
 simp only [al]
 refine sK fun _ k1 => rL (sl_alloc tV (wn rfl) rfl hv s27al57 (fun b2 w3 hv => ?_))
 simp only [zP, po]
 refine wK k1 (sK fun _ k4 => ?_)
 refine rL (xM (.string ⟨k.toArray⟩) rfl ?_)
 refine xG (.agg #[.int .i64 0, .bool true, .int .i64 0, .int .i64 0, .string ⟨([] : List UInt8).toArray⟩, .slice none 0 0, .slice none 0 0, .slice none 0 0]) rfl (ex_buildN (vs := #[(1, .bool true)]) rfl (by simp only [List.map_toArray, List.map_cons, List.map_nil]; rfl) (by kernel_rfl)) (xG (.agg #[.string ⟨k.toArray⟩, .int .i64 0, .bool true, .int .i64 0, .int .i64 0, .string ⟨([] : List UInt8).toArray⟩, .slice none 0 0, .slice none 0 0, .slice none 0 0]) rfl (ex_buildN (vs := #[(0, .string ⟨k.toArray⟩), (1, .agg #[.int .i64 0, .bool true, .int .i64 0, .int .i64 0, .string ⟨([] : List UInt8).toArray⟩, .slice none 0 0, .slice none 0 0, .slice none 0 0])]) rfl (by simp only [List.map_toArray, List.map_cons, List.map_nil]; rfl) (by kernel_rfl)) ?_)
 simp only [zP, po]
 refine xS 0 rfl hv s8sz57 rfl (by exact ⟨rfl, rfl, rfl, rfl, rfl, rfl, rfl, rfl, rfl, trivial⟩) (fun w5 hv => ?_)
 simp only [zO, sp] at hv
 simp only [zP, po]
 refine wK k4 (rR ?_)
 refine bodyPost_ret (res_cell1 rfl rfl (run_load_mid (pre := []) (mid := [.string ⟨k.toArray⟩, .int .i64 0, .bool true, .int .i64 0, .int .i64 0, .string ⟨([] : List UInt8).toArray⟩, .slice none 0 0, .slice none 0 0, .slice none 0 0]) (post := []) s8wd57 (show Blk _ b2 ([] ++ [.string ⟨k.toArray⟩, .int .i64 0, .bool true, .int .i64 0, .int .i64 0, .string ⟨([] : List UInt8).toArray⟩, .slice none 0 0, .slice none 0 0, .slice none 0 0] ++ []) _ from hv.get 0 rfl) rfl)) rfl (⟨rfl, (hv.sub (List.Sublist.cons _ (List.Sublist.refl _)))⟩)
def wA : Wr := ⟨[97], ⟨0, false, 0, ⟨1, [120], [], [], []⟩⟩⟩
def wB : Wr := ⟨[97], ⟨0, true, 0, ⟨0, [], [], [], []⟩⟩⟩
def vA : Ver := ⟨1, false, 0, ⟨1, [120], [], [], []⟩⟩
def vB : Ver := ⟨2, true, 0, ⟨0, [], [], [], []⟩⟩
theorem chainOk1 {x : Ver} (h : VerOk x) (h1 : 0 < x.stamp) (h2 : x.stamp ≤ 1152921504606846975) : ChainOk [x] := by
 intro i y hy
 cases i with
 | zero => simp at hy; subst hy; exact ⟨h, h1, h2, fun j z hj => by omega⟩
 | succ i => simp at hy
theorem chainOk2 {x z : Ver} (h : VerOk x) (h1 : 0 < x.stamp) (hz : VerOk z) (h3 : x.stamp < z.stamp) (h2 : z.stamp ≤ 1152921504606846975) : ChainOk [x, z] := by
 intro i y hy
 match i, hy with
 | 0, hy => simp at hy; subst hy; exact ⟨h, h1, by omega, fun j w hj => by omega⟩
 | 1, hy =>
  simp at hy; subst hy
  exact ⟨hz, by omega, h2, fun j w hj hw => by
   obtain rfl : j = 0 := by omega
   simp at hw; subst hw; exact h3⟩
 | i + 2, hy => simp at hy
theorem vokA (s : Int) : VerOk { vA with stamp := s } := .inr ⟨rfl, Int.le_refl _, (by decide : (0 : Int) ≤ 1099511627776), .inl ⟨rfl, (by decide : 1 ≤ 4096), rfl, rfl, rfl⟩⟩
theorem vokB (s : Int) : VerOk { vB with stamp := s } := .inl ⟨rfl, rfl, rfl, rfl, rfl, rfl, rfl⟩
theorem appA : AppOk [] 0 [wA] := ⟨by decide, by simp, fun x hx => by
  rw [List.mem_singleton.1 hx]; exact ⟨by decide, chainOk1 (vokA 1) (by decide) (by decide)⟩, fun x hx => by
  rw [List.mem_singleton.1 hx]; exact ⟨chainOk1 (vokA 1) (by decide) (by decide), by decide⟩, by decide⟩
theorem appB : AppOk [([97], [vA])] 1 [wB] := ⟨by decide, by simp, fun x hx => by
  rw [List.mem_singleton.1 hx]; exact ⟨by decide, chainOk1 (vokB 1) (by decide) (by decide)⟩, fun x hx => by
  rw [List.mem_singleton.1 hx]; exact ⟨chainOk2 (vokA 1) (by decide) (vokB 2) (by decide) (by decide), by decide⟩, by decide⟩
theorem ascB : AscM [([97], [vA, vB])] := ascM_of fun m hm => by
 rw [List.mem_singleton.1 hm]
 exact (chainOk2 (vokA 1) (by decide) (vokB 2) (by decide) (by decide)).asc
theorem getM_one {a k : List UInt8} (c : List Ver) (h : k ≠ a) : getM [(a, c)] k = [] := by rw [getM_cons_ne (fun e => h e.symm)]; rfl
theorem s27callable5 : Callable Tryz.prog 5 := ⟨_, Tryz.func5, by kernel_rfl, by kernel_rfl⟩
theorem s27callable17 : Callable Tryz.prog 17 := ⟨_, Tryz.func17, by kernel_rfl, by kernel_rfl⟩
theorem s27mk57 : (Tryz.prog.info? 57).map (fun i => (i.zero, i.size, i.bytes)) = some (some (.agg #[.string ⟨([] : List UInt8).toArray⟩, .int .i64 0, .bool false, .int .i64 0, .int .i64 0, .string ⟨([] : List UInt8).toArray⟩, .slice none 0 0, .slice none 0 0, .slice none 0 0]), 9, 136) := by kernel_rfl
theorem s27el33 : Elem Tryz.prog 33 57 (.agg #[.string ⟨([] : List UInt8).toArray⟩, .int .i64 0, .bool false, .int .i64 0, .int .i64 0, .string ⟨([] : List UInt8).toArray⟩, .slice none 0 0, .slice none 0 0, .slice none 0 0]) 9 136 := elem_of Tryz.underlying33 s27mk57 (by rfl) (by decide)
theorem s27callable8 : Callable Tryz.prog 8 := ⟨_, Tryz.func8, by kernel_rfl, by kernel_rfl⟩
theorem s27callable18 : Callable Tryz.prog 18 := ⟨_, Tryz.func18, by kernel_rfl, by kernel_rfl⟩
theorem s27al55 (w : World) : (Instr.alloc 55 true (.tuple #[])).run Tryz.prog w = .ok (.pointer (some ⟨w.heap.size, 0, none⟩)) (w.alloc (.cells ([.int .i64 0, .bool false, .int .i64 0, .int .i64 0, .string ⟨([] : List UInt8).toArray⟩, .slice none 0 0, .slice none 0 0, .slice none 0 0] : List Value).toArray 55)) := by kernel_rfl
theorem s27callable10 : Callable Tryz.prog 10 := ⟨_, Tryz.func10, by kernel_rfl, by kernel_rfl⟩
set_option maxHeartbeats 4000000 in
theorem lawAwake (B : Base) (H : List Res) (w : World) (hv : Inv B H w) :
  Calls Tryz.prog 4 #[] w fun e w' => e = .returned (.bool true) ∧ Inv B H w' := by
 refine cW Tryz.func4 rfl Tryz.ntmps4 ?_
 simp only [al]
 refine sK fun _ k1 => rL (xA (.bool false) rfl ?_)
 simp only [zP, po]
 refine wK k1 (sK fun _ k2 => ?_)
 refine rL (xC s27callable5 rfl ((storeNew B _ _ hv).mono ?_) rfl)
 rintro e w3 ⟨s, p, rfl, hv⟩
 refine ⟨_, rfl, ?_⟩
 refine xA (.pointer (some ⟨s, 0, none⟩)) rfl ?_
 simp only [zP, po]
 refine wK k2 (sK fun _ k4 => ?_)
 refine sK fun _ k5 => rL (xM (.pointer (some ⟨s, 0, none⟩)) rfl ?_)
 refine xG (.bool false) rfl (ex_pisnil Tryz.underlying24 rfl rfl rfl rfl) ?_
 simp only [zP, po]
 refine wK k5 (cF rfl ?_)
 refine kS (tK k4 ?_)
 refine sK fun _ k6 => rL (xM (.pointer (some ⟨s, 0, none⟩)) rfl ?_)
 refine xC s27callable17 rfl ((lawText B _ _ _ _ hv).mono ?_) rfl
 rintro e w7 ⟨rfl, hv⟩
 refine ⟨_, rfl, ?_⟩
 refine sl_rowAgg (L := [.string ⟨([97] : List UInt8).toArray⟩, .int .i64 0, .bool false, .int .i64 0, .int .i64 1, .string ⟨([120] : List UInt8).toArray⟩, .slice none 0 0, .slice none 0 0, .slice none 0 0]) tV (wn rfl) rfl rfl hv s27el33 rfl (by decide) (fun b8 w9 hv => ?_)
 simp only [zP, po]
 obtain ⟨D1, hD1, hv, hrD1, -, -⟩ := (hv.cellRow (n := 1) (c := 1) (size := 9) rfl (by decide) (by decide)).rowBy
 replace hv := hv.front 1 rfl
 simp only [List.eraseIdx_cons_succ, List.eraseIdx_cons_zero] at hv
 replace hv := hv.front 1 rfl
 simp only [List.eraseIdx_cons_succ, List.eraseIdx_cons_zero] at hv
 refine xC s27callable8 rfl ((storeApply D1 _ _ s p _ [] [] [] 0 0 _ _ _ [wA] (ixm_nil D1) (by decide) hrD1 (WrsAt.single (v := wA) ⟨row_nil _, row_nil _, row_nil _, by decide, by decide, by decide⟩) (by decide) (by decide) hv).mono ?_) rfl
 rintro e w10 ⟨E1, n1, ec1, hE1, rfl, hor⟩
 refine ⟨_, rfl, ?_⟩
 rcases hor with ⟨-, hno, -⟩ | ⟨rfl, hn, -, v1, X1, bvs1, M1, hx1, hset, hv⟩
 ·exact absurd (appA) hno.no
 obtain rfl : n1 = 1 := hn
 simp only [Int.reduceAdd] at hv
 have hM1 : M1 = [([97], [vA])] := one_model hx1 (hset.got 0 wA (by decide) rfl) (by decide) (fun k hk => hset.rest k (fun j x hj hx => by rw [show j = 0 by have h9 : j < 1 := hj; omega] at hx; cases hx; exact fun e => hk e.symm))
 refine xM (.tuple #[.int .i64 1, .int .i64 0]) rfl (xG (.int .i64 1) rfl (ex_extract rfl rfl rfl) ?_)
 simp only [zP, po]
 refine xG (.int .i64 0) rfl (ex_extract rfl rfl rfl) (xA (.int .i64 1) rfl ?_)
 refine xA (.int .i64 0) rfl ?_
 simp only [zP, po]
 refine wK k6 (sK fun _ k11 => ?_)
 refine rL (xM (.pointer (some ⟨s, 0, none⟩)) rfl ?_)
 refine xC s27callable18 rfl ((lawGone E1 _ _ _ hv).mono ?_) rfl
 rintro e w12 ⟨rfl, hv⟩
 refine ⟨_, rfl, ?_⟩
 refine sl_rowAgg (L := [.string ⟨([97] : List UInt8).toArray⟩, .int .i64 0, .bool true, .int .i64 0, .int .i64 0, .string ⟨([] : List UInt8).toArray⟩, .slice none 0 0, .slice none 0 0, .slice none 0 0]) tV (wn rfl) rfl rfl hv s27el33 rfl (by decide) (fun b13 w14 hv => ?_)
 simp only [zP, po]
 obtain ⟨D2, hD2, hv, hrD2, -, -⟩ := (hv.cellRow (n := 1) (c := 1) (size := 9) rfl (by decide) (by decide)).rowBy
 replace hv := hv.front 1 rfl
 simp only [List.eraseIdx_cons_succ, List.eraseIdx_cons_zero] at hv
 replace hv := hv.front 1 rfl
 simp only [List.eraseIdx_cons_succ, List.eraseIdx_cons_zero] at hv
 refine xC s27callable8 rfl ((storeApply D2 _ _ s p _ X1 _ M1 1 0 _ _ _ [wB] (hx1.more hD2) (by decide) hrD2 (WrsAt.single (v := wB) ⟨row_nil _, row_nil _, row_nil _, by decide, by decide, by decide⟩) (by decide) (by rw [hM1]; decide) hv).mono ?_) rfl
 rintro e w15 ⟨E2, n2, ec2, hE2, rfl, hor⟩
 refine ⟨_, rfl, ?_⟩
 rcases hor with ⟨-, hno, -⟩ | ⟨rfl, hn, -, v2, X2, bvs2, M2, hx2, hset, hv⟩
 ·exact absurd (by rw [hM1]; exact appB) hno.no
 obtain rfl : n2 = 2 := hn
 simp only [Int.reduceAdd] at hv
 have hM2 : M2 = [([97], [vA, vB])] := one_model hx2 ((hset.got 0 wB (by decide) rfl).trans (by rw [hM1]; rfl)) (by decide) (fun k hk => by rw [hset.rest k (fun j x hj hx => by rw [show j = 0 by have h9 : j < 1 := hj; omega] at hx; cases hx; exact fun e => hk e.symm), hM1]; exact getM_one _ hk)
 have hasc : AscM M2 := by rw [hM2]; exact ascB
 refine xM (.tuple #[.int .i64 2, .int .i64 0]) rfl (xG (.int .i64 2) rfl (ex_extract rfl rfl rfl) ?_)
 simp only [zP, po]
 refine xG (.int .i64 0) rfl (ex_extract rfl rfl rfl) (xA (.int .i64 2) rfl ?_)
 refine xA (.int .i64 0) rfl ?_
 simp only [zP, po]
 refine wK k11 (sK fun _ k16 => ?_)
 refine rL (xM (.pointer (some ⟨s, 0, none⟩)) rfl ?_)
 replace hv := hv.front 1 rfl
 simp only [List.eraseIdx_cons_succ, List.eraseIdx_cons_zero] at hv
 replace hv := hv.front 1 rfl
 simp only [List.eraseIdx_cons_succ, List.eraseIdx_cons_zero] at hv
 refine xC s26callable19 rfl ((storeReadV E2 _ _ s p v2 X2 bvs2 M2 2 0 1 0 [97] (hx2.more (Base.Le.refl _)) hasc hv).mono ?_) rfl
 rintro e w17 ⟨F1, y1, p1, t1, z1, ok1, hF1, rfl, hrd, hvy1, hv⟩
 refine ⟨_, rfl, ?_⟩
 rw [hM2] at hrd
 rcases hrd with ⟨rfl, hrd⟩ | ⟨-, hrd⟩
 rotate_left
 ·cases hrd
 have hy1 : y1 = vA := by cases hrd; rfl
 refine xM (.tuple #[.agg #[.int .i64 y1.stamp, .bool y1.gone, .int .i64 y1.expire, .int .i64 y1.val.kind, .string ⟨y1.val.text.toArray⟩, p1, t1, z1], .bool true]) rfl ?_
 simp only [zP, po]
 refine xG (.agg #[.int .i64 y1.stamp, .bool y1.gone, .int .i64 y1.expire, .int .i64 y1.val.kind, .string ⟨y1.val.text.toArray⟩, p1, t1, z1]) rfl (ex_extract rfl rfl rfl) (xG (.bool true) rfl (ex_extract rfl rfl rfl) ?_)
 refine sl_alloc tV (wn rfl) rfl hv s27al55 (fun b18 w19 hv => ?_)
 simp only [zP, po]
 refine xS 0 rfl hv s1sz55 rfl (by exact ⟨rfl, rfl, rfl, rfl, rfl, hvy1.p.one, hvy1.t.one, hvy1.z.one, trivial⟩) (fun w20 hv => ?_)
 simp only [zO, sp] at hv
 refine xA (.bool true) rfl ?_
 simp only [zP, po]
 refine wK k16 (sK fun _ k21 => ?_)
 refine rL (xM (.pointer (some ⟨s, 0, none⟩)) rfl ?_)
 replace hv := hv.front 2 rfl
 simp only [List.eraseIdx_cons_succ, List.eraseIdx_cons_zero] at hv
 replace hv := hv.front 2 rfl
 simp only [List.eraseIdx_cons_succ, List.eraseIdx_cons_zero] at hv
 refine xC s26callable19 rfl ((storeReadV F1 _ _ s p v2 X2 bvs2 M2 2 0 2 0 [97] (hx2.more hF1) hasc hv).mono ?_) rfl
 rintro e w22 ⟨F2, y2, p2, t2, z2, ok2, hF2, rfl, hrd, hvy2, hv⟩
 refine ⟨_, rfl, ?_⟩
 rw [hM2] at hrd
 rcases hrd with ⟨-, hrd⟩ | ⟨rfl, hrd⟩
 ·cases hrd
 refine xM (.tuple #[.agg #[.int .i64 y2.stamp, .bool y2.gone, .int .i64 y2.expire, .int .i64 y2.val.kind, .string ⟨y2.val.text.toArray⟩, p2, t2, z2], .bool false]) rfl ?_
 simp only [zP, po]
 refine xG (.agg #[.int .i64 y2.stamp, .bool y2.gone, .int .i64 y2.expire, .int .i64 y2.val.kind, .string ⟨y2.val.text.toArray⟩, p2, t2, z2]) rfl (ex_extract rfl rfl rfl) (xG (.bool false) rfl (ex_extract rfl rfl rfl) ?_)
 refine sl_alloc tV (wn rfl) rfl hv s27al55 (fun b23 w24 hv => ?_)
 simp only [zP, po]
 refine xS 0 rfl hv s1sz55 rfl (by exact ⟨rfl, rfl, rfl, rfl, rfl, hvy2.p.one, hvy2.t.one, hvy2.z.one, trivial⟩) (fun w25 hv => ?_)
 simp only [zO, sp] at hv
 refine xA (.bool false) rfl ?_
 simp only [zP, po]
 refine wK k21 (sK fun _ k26 => ?_)
 refine rL (xM (.pointer (some ⟨s, 0, none⟩)) rfl ?_)
 replace hv := hv.front 2 rfl
 simp only [List.eraseIdx_cons_succ, List.eraseIdx_cons_zero] at hv
 replace hv := hv.front 2 rfl
 simp only [List.eraseIdx_cons_succ, List.eraseIdx_cons_zero] at hv
 refine xC s27callable10 rfl ((storePrune F2 _ _ s p v2 X2 bvs2 M2 2 0 2 0 (hx2.more (hF1.trans hF2)) (by rw [hM2]; decide) hasc hv).mono ?_) rfl
 rintro e w27 ⟨G, n3, ec3, hG, rfl, hor⟩
 refine ⟨_, rfl, ?_⟩
 rcases hor with ⟨hno, -⟩ | ⟨-, rfl, hn, v3, X3, bvs3, M3, hx3, -, hv⟩
 ·exact absurd ⟨by decide, by decide⟩ hno
 obtain rfl : n3 = 2 := by rw [hn, hM2]; rfl
 refine xM (.tuple #[.int .i64 2, .int .i64 0]) rfl ?_
 simp only [zP, po]
 refine xG (.int .i64 2) rfl (ex_extract rfl rfl rfl) (xG (.int .i64 0) rfl (ex_extract rfl rfl rfl) ?_)
 refine xA (.int .i64 2) rfl ?_
 simp only [zP, po]
 refine xA (.int .i64 0) rfl ?_
 simp only [zP, po]
 refine wK k26 (sK fun _ k28 => ?_)
 refine rL (xM (.int .i64 1) rfl ?_)
 refine xG (.bool true) rfl (ex_eql rfl rfl rfl (by decide)) (xM (.bool true) rfl ?_)
 simp only [zP, po]
 refine xM (.int .i64 0) rfl (xG (.bool true) rfl (ex_eql rfl rfl rfl (by decide)) ?_)
 refine xK true (.bool true) rfl ?_
 simp only [zP, po]
 refine xM (.bool true) rfl (xM (.int .i64 2) rfl ?_)
 refine xG (.bool true) rfl (ex_eql rfl rfl rfl (by decide)) ?_
 simp only [zP, po]
 refine xK true (.bool true) rfl (xM (.bool true) rfl ?_)
 refine xM (.int .i64 0) rfl ?_
 simp only [zP, po]
 refine xG (.bool true) rfl (ex_eql rfl rfl rfl (by decide)) (xK true (.bool true) rfl ?_)
 refine xM (.bool true) rfl ?_
 simp only [zP, po]
 refine xM (.bool true) rfl (xK true (.bool true) rfl ?_)
 refine xM (.bool true) rfl ?_
 simp only [zP, po]
 refine xF (.pointer (some ⟨b18, 3, none⟩)) rfl (s1fa55_3 _ _ _) (xF (.pointer (some ⟨b18, 4, none⟩)) rfl (s12fa53_1 _ _ _) ?_)
 refine xL _ rfl (run_load1 s3na9 (hv.load 3 4 rfl rfl)) ?_
 simp only [zP, po]
 refine xG (.bool true) rfl (ex_seql rfl rfl rfl (decide_eq_true (by rw [hy1]; rfl))) (xK true (.bool true) rfl ?_)
 refine xM (.bool true) rfl ?_
 simp only [zP, po]
 refine xM (.bool false) rfl (xG (.bool true) rfl (ex_not rfl rfl rfl) ?_)
 refine xK true (.bool true) rfl ?_
 simp only [zP, po]
 refine xM (.bool true) rfl (xM (.int .i64 2) rfl ?_)
 refine xG (.bool true) rfl (ex_eql rfl rfl rfl (by decide)) ?_
 simp only [zP, po]
 refine xK true (.bool true) rfl (xM (.bool true) rfl ?_)
 refine xM (.int .i64 0) rfl ?_
 simp only [zP, po]
 refine xG (.bool true) rfl (ex_eql rfl rfl rfl (by decide)) (xK true (.bool true) rfl ?_)
 refine xA (.bool true) rfl ?_
 simp only [zP, po]
 refine wK k28 (rR ?_)
 refine bR rfl rfl (⟨rfl, ((hv.sub (List.Sublist.cons _ (List.Sublist.cons _ (List.Sublist.cons _ (List.Sublist.cons _ (List.Sublist.refl _))))))).weak ((((((hD1.trans hE1).trans hD2).trans hE2).trans hF1).trans hF2).trans hG)⟩)
theorem s27callable66 : Callable Tryz.prog 66 := ⟨_, Tryz.func66, by kernel_rfl, by kernel_rfl⟩
set_option maxHeartbeats 2000000 in
theorem refSame1 (B : Base) (H : List Res) (w : World) (u : Ver) (p t z p' t' z' : Value) (h : ValAt B u.val p t z) (h' : ValAt B u.val p' t' z') (hv : Inv B H w) :
  Calls Tryz.prog 40 #[.agg #[.int .i64 u.stamp, .bool u.gone, .int .i64 u.expire, .int .i64 u.val.kind, .string ⟨u.val.text.toArray⟩, p, t, z], .agg #[.int .i64 u.stamp, .bool u.gone, .int .i64 u.expire, .int .i64 u.val.kind, .string ⟨u.val.text.toArray⟩, p', t', z']] w fun e w' => e = .returned (.bool true) ∧ Inv B H w' := by
 refine cW Tryz.func40 rfl Tryz.ntmps40 ?_
 simp only [al]
 refine sK fun _ k1 => rL (sl_box (L := [.int .i64 u.stamp, .bool u.gone, .int .i64 u.expire, .int .i64 u.val.kind, .string ⟨u.val.text.toArray⟩, p, t, z]) tV (wn rfl) rfl rfl hv (fun w => by kernel_rfl) (fun b2 w3 hv => ?_))
 refine sl_box (L := [.int .i64 u.stamp, .bool u.gone, .int .i64 u.expire, .int .i64 u.val.kind, .string ⟨u.val.text.toArray⟩, p', t', z']) tV (wn rfl) rfl rfl hv (fun w => by kernel_rfl) (fun b4 w5 hv => ?_)
 refine xA (.bool false) rfl ?_
 simp only [zP, po]
 refine wK k1 (sK fun _ k6 => ?_)
 refine rL (xF (.pointer (some ⟨b2, 0, none⟩)) rfl (s2fa55_0 _ _ _) ?_)
 refine xL _ rfl (run_load1 s2na3 (hv.load 1 0 rfl rfl)) (xF (.pointer (some ⟨b4, 0, none⟩)) rfl (s2fa55_0 _ _ _) ?_)
 simp only [zP, po]
 refine xL _ rfl (run_load1 s2na3 (hv.load 0 0 rfl rfl)) (xG (.bool true) rfl (ex_eql rfl rfl rfl (decide_eq_true (rfl))) ?_)
 refine xM (.bool true) rfl ?_
 simp only [zP, po]
 refine xF (.pointer (some ⟨b2, 1, none⟩)) rfl (s2fa55_1 _ _ _) (xL _ rfl (run_load1 s2na4 (hv.load 1 1 rfl rfl)) ?_)
 refine xF (.pointer (some ⟨b4, 1, none⟩)) rfl (s2fa55_1 _ _ _) ?_
 simp only [zP, po]
 refine xL _ rfl (run_load1 s2na4 (hv.load 0 1 rfl rfl)) (xG (.bool true) rfl (ex_beqS (p := u.gone) (q := u.gone) Tryz.underlying4 rfl rfl rfl (by simp)) ?_)
 refine xK true (.bool true) rfl ?_
 simp only [zP, po]
 refine xM (.bool true) rfl (xF (.pointer (some ⟨b2, 2, none⟩)) rfl (s2fa55_2 _ _ _) ?_)
 refine xL _ rfl (run_load1 s2na3 (hv.load 1 2 rfl rfl)) ?_
 simp only [zP, po]
 refine xF (.pointer (some ⟨b4, 2, none⟩)) rfl (s2fa55_2 _ _ _) (xL _ rfl (run_load1 s2na3 (hv.load 0 2 rfl rfl)) ?_)
 refine xG (.bool true) rfl (ex_eql rfl rfl rfl (decide_eq_true (rfl))) ?_
 simp only [zP, po]
 refine xK true (.bool true) rfl (xM (.bool true) rfl ?_)
 refine xF (.pointer (some ⟨b2, 3, none⟩)) rfl (s1fa55_3 _ _ _) ?_
 simp only [zP, po]
 refine xL (.agg #[.int .i64 u.val.kind, .string ⟨u.val.text.toArray⟩, p, t, z]) rfl (run_load_mid (pre := [.int .i64 u.stamp, .bool u.gone, .int .i64 u.expire]) (mid := [.int .i64 u.val.kind, .string ⟨u.val.text.toArray⟩, p, t, z]) (post := []) s1wd53 (show Blk _ b2 ([.int .i64 u.stamp, .bool u.gone, .int .i64 u.expire] ++ [.int .i64 u.val.kind, .string ⟨u.val.text.toArray⟩, p, t, z] ++ []) _ from hv.get 1 rfl) rfl) (xF (.pointer (some ⟨b4, 3, none⟩)) rfl (s1fa55_3 _ _ _) ?_)
 refine xL (.agg #[.int .i64 u.val.kind, .string ⟨u.val.text.toArray⟩, p', t', z']) rfl (run_load_mid (pre := [.int .i64 u.stamp, .bool u.gone, .int .i64 u.expire]) (mid := [.int .i64 u.val.kind, .string ⟨u.val.text.toArray⟩, p', t', z']) (post := []) s1wd53 (show Blk _ b4 ([.int .i64 u.stamp, .bool u.gone, .int .i64 u.expire] ++ [.int .i64 u.val.kind, .string ⟨u.val.text.toArray⟩, p', t', z'] ++ []) _ from hv.get 0 rfl) rfl) ?_
 simp only [zP, po]
 refine xC s27callable66 rfl ((refSameV B _ _ u.val _ _ _ _ _ _ h.rd h'.rd (by have := h.pm; omega) (by have := h.tm; omega) (by have := h.zm; omega) hv).mono ?_) rfl
 rintro e w7 ⟨rfl, hv⟩
 refine ⟨_, rfl, ?_⟩
 refine xK true (.bool true) rfl (xA (.bool true) rfl ?_)
 simp only [zP, po]
 refine wK k6 (rR ?_)
 refine bR rfl rfl (⟨rfl, (hv.sub (List.Sublist.cons _ (List.Sublist.cons _ (List.Sublist.refl _))))⟩)
end Go.Proofs.YtffmbdagjpdieaaGreat
