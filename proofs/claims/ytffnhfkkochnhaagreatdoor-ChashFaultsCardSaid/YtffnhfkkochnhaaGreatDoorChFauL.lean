/- slices.Clone of pairs. -/
import Derived.Test.YtffnhfkkochnhaaGreatDoorChFauC
import Derived.Test.YtffnhfkkochnhaaGreatDoorChFauK
import Derived.Test.YtffnhfkkochnhaaGreatDoorChFauB
import Derived.Test.YtffnhfkkochnhaaGreatDoorRows
import Derived.Test.YtffnhfkkochnhaaGreatDoorChFauE
import Derived.Test.YtffnhfkkochnhaaGreatDoorChFauH
import Derived.Test.YtffnhfkkochnhaaGreatDoorChFauF
import Derived.Test.YtffnhfkkochnhaaGreatDoorChFauI
set_option maxRecDepth 100000
set_option maxHeartbeats 16000000
set_option synthInstance.maxSize 4096
set_option synthInstance.maxHeartbeats 400000
namespace Go.Proofs.YtffnhfkkochnhaaGreatDoor
open Go.RowKit Go.Pm
theorem h4mk121 : (Tryz.prog.info? 121).map (fun i => (i.zero, i.size, i.bytes)) = some (some (.agg #[vS [], vS []]), 2, 32) := by kernel_rfl
theorem h4el76 : Elem Tryz.prog 76 121 (.agg #[vS [], vS []]) 2 32 := elem_of Tryz.underlying76 h4mk121 (by rfl) (by decide)
theorem clonePr (B : Base) (H : List Res) (w : World) (a : Addr) (n c : Nat) (xs : List Value) (R : List Res) (hRH : ∀ r ∈ R, r ∈ H) (hok : SliceOk (some a) n c) (hl : xs.length = n * 2) (h1 : ∀ u ∈ xs, u.oneCell' = true) (hn : n ≤ 10000000) (hr : RdW B R (some a) xs) (hv : Inv B H w) :
  Calls Tryz.prog 81 #[.slice (some a) n c] w fun e w' => ∃ ra rc, e = .returned (.slice ra n rc) ∧ Inv B (Res.row 121 2 (.slice ra n rc) n xs :: H) w' := by
 refine cW Tryz.func81 rfl Tryz.ntmps81 ?_
 simp only [al]
 refine sK fun _ k1 => rL (uA rfl ?_)
 refine uW k1 (sK fun _ k2 => ?_)
 refine sK fun _ k3 => rL (uM rfl ?_)
 refine uG (.bool false) rfl (ex_slnil Tryz.underlying76 rfl rfl rfl rfl) (uW k3 ?_)
 refine cF rfl (kS ?_)
 refine tK k2 (sK fun _ k4 => ?_)
 refine rL (sl_row0 (size := 2) tV (wn rfl) rfl hv (e := 121) (fun w => by kernel_rfl) (fun b5 w6 hv => ?_))
 refine uM rfl ?_
 refine sl_append (news := xs) tV (wn rfl) rfl rfl rfl h4el76 hv hok hl (hr.src (fun r9 hr9 => List.mem_cons_of_mem _ (hRH r9 hr9)) hv) (h1) (by unfold maxLen; omega) (by omega) (fun rv7 w10 hv => ?_)
 obtain ⟨ra8, rc9, rfl⟩ := row_slice hv.head
 refine uA rfl (uW k4 ?_)
 refine rR (bR rfl rfl ?_)
 have h9 := hv
 simp only [Nat.zero_add, List.nil_append] at h9 ⊢
 exact ⟨_, _, rfl, h9⟩
theorem clonePrs (B : Base) (H : List Res) (w : World) (ad : Option Addr) (n c : Nat) (xs : List Value) (R : List Res) (hRH : ∀ r ∈ R, r ∈ H) (hok : SliceOk ad n c) (hl : xs.length = n * 2) (h1 : ∀ u ∈ xs, u.oneCell' = true) (hn : n ≤ 10000000) (hr : RdW B R ad xs) (hv : Inv B H w) :
  Calls Tryz.prog 81 #[.slice ad n c] w fun e w' => ∃ ra rc, e = .returned (.slice ra n rc) ∧ Inv B (Res.row 121 2 (.slice ra n rc) n xs :: H) w' := by
 cases ad with
 | none =>
  have hc0 : c = 0 := hok.nil rfl
  have hn0 : n = 0 := by have := hok.le; omega
  subst hc0 hn0
  have hx : xs = [] := List.eq_nil_of_length_eq_zero (by simpa using hl)
  subst hx
  refine (clonePairs0 B H w hv).mono ?_
  rintro e w' ⟨rfl, hv⟩
  exact ⟨_, _, rfl, hv.rowNil _ _⟩
 | some a => exact clonePr B H w a n c xs R hRH hok hl h1 hn hr hv
theorem h5mk121 : (Tryz.prog.info? 121).map (fun i => (i.zero, i.size, i.bytes)) = some (some (.agg #[vS [], vS []]), 2, 32) := by kernel_rfl
theorem h5el76 : Elem Tryz.prog 76 121 (.agg #[vS [], vS []]) 2 32 := elem_of Tryz.underlying76 h5mk121 (by rfl) (by decide)
theorem insPr (B : Base) (H : List Res) (w : World) (b c n i k q : Nat) (p d new : List Value) (hn1 : 1 ≤ n) (hnk : n = i + k) (hm : n ≤ 1000000) (hp : p.length = i * 2) (hd : d.length = k * 2) (hnew : new.length = 2) (_ : ∀ u ∈ p, u.oneCell' = true) (h1d : ∀ u ∈ d, u.oneCell' = true) (h1n : ∀ u ∈ new, u.oneCell' = true) (hv : Inv B (Res.row 121 2 (.slice (some ⟨b, 0, none⟩) n c) n (p ++ d) :: Res.cell q new 121 :: H) w) :
  Calls Tryz.prog 90 #[.slice (some ⟨b, 0, none⟩) n c, vI i, .slice (some ⟨q, 0, none⟩) 1 1] w fun e w' => ∃ b' c', e = .returned (.slice (some ⟨b', 0, none⟩) (n + 1) c') ∧ Inv B (Res.row 121 2 (.slice (some ⟨b', 0, none⟩) (n + 1) c') (n + 1) (p ++ new ++ d) :: H) w' := by
 have hnc : n ≤ c := (hv.rowOk).1.le
 refine cW Tryz.func90 rfl Tryz.ntmps90 ?_
 simp only [al]
 refine sK fun _ k1 => rL (uA rfl ?_)
 refine uW k1 (sK fun _ k2 => ?_)
 refine rL (uM rfl ?_)
 refine uM rfl ?_
 refine uG (sliced (some ⟨b, 0, none⟩) i n c 2) rfl (ex_slice (lo' := some (vI i)) rfl rfl (congrArg some rfl) rfl rfl (run_fromAny Tryz.underlying76 s10es76 (by omega))) (uW k2 ?_)
 refine sK fun _ k3 => rL (uG (.slice (some ⟨q, 0, none⟩) 1 1) rfl (ex_move rfl rfl) ?_)
 refine uG (vI 1) rfl (ex_len0 Tryz.underlying76 rfl rfl) (uA rfl ?_)
 refine uW k3 (sK fun _ k4 => ?_)
 refine sK fun _ k5 => rL (uM rfl ?_)
 refine uG (.bool false) rfl (ex_eql rfl rfl rfl (by decide)) (uW k5 ?_)
 refine cF rfl (kS ?_)
 refine tK k4 (sK fun _ k6 => ?_)
 refine rL (uM rfl ?_)
 refine uG (vI n) rfl (ex_len0 Tryz.underlying76 rfl rfl) (uA rfl ?_)
 refine uW k6 (sK fun _ k7 => ?_)
 refine sK fun _ k8 => rL (uM rfl ?_)
 refine uM rfl ?_
 by_cases hb9 : (i : Int) = (n : Int)
 ·refine uG (.bool true) rfl (ex_eql rfl rfl rfl (qT hb9)) (uW k8 ?_)
  refine cT rfl (sK fun _ k10 => ?_)
  refine rL (uM rfl ?_)
  refine uG (.slice (some ⟨q, 0, none⟩) 1 1) rfl (ex_move rfl rfl) ?_
  refine sl_append (news := new) tV (wn rfl) rfl rfl rfl h5el76 hv (ok_full (by omega)) (by rw [hnew]) (rd_all (hv.get 1 rfl)) (h1n) (by unfold maxLen; omega) (by omega) (fun rv11 w14 hv => ?_)
  obtain ⟨ra12, rc13, rfl⟩ := row_slice hv.head
  refine uA rfl (uW k10 ?_)
  refine rR (tR ?_)
  refine bR rfl rfl ?_
  obtain ⟨b3, hb3⟩ := row_some hv.head (by omega)
  subst hb3
  obtain rfl : d = [] := List.eq_nil_of_length_eq_zero (by rw [hd]; omega)
  have h9 := (hv.sub (sC _ (sD _ (sR _))))
  simp only [List.append_nil] at h9 ⊢
  exact ⟨b3, _, rfl, h9⟩
 refine uG (.bool false) rfl (ex_eql rfl rfl rfl (qF hb9)) (uW k8 ?_)
 refine cF rfl (kS ?_)
 refine tK k7 (sK fun _ k15 => ?_)
 refine sK fun _ k16 => rL (uM rfl ?_)
 refine uM rfl ?_
 refine uG (vI ((n + 1 : Nat) : Int)) rfl (ex_add rfl rfl rfl (by rw [i64_in (by omega)]; omega)) (uM rfl ?_)
 refine uG (vI c) rfl (ex_cap0 Tryz.underlying76 rfl rfl) ?_
 by_cases hb17 : ((n + 1 : Nat) : Int) > (c : Int)
 ·refine uG (.bool true) rfl (ex_gtr rfl rfl rfl (qT hb17)) (uW k16 ?_)
  refine cT rfl (sK fun _ k18 => ?_)
  refine rL (uM rfl ?_)
  refine uM rfl ?_
  refine uG (.slice (some ⟨b, 0, none⟩) i c) rfl (ex_slice (hi' := some (vI i)) rfl rfl rfl (congrArg some rfl) rfl (run_hi Tryz.underlying76 s10es76 (by omega))) (uM rfl ?_)
  refine uM rfl ?_
  refine uG (vI ((n + 1 : Nat) : Int)) rfl (ex_add rfl rfl rfl (by rw [i64_in (by omega)]; omega)) (uM rfl ?_)
  refine uG (vI ((k + 1 : Nat) : Int)) rfl (ex_sub rfl rfl rfl (by rw [i64_in (by omega)]; omega)) ?_
  refine sl_appendZ (m := i) (k := k + 1) (olds := p) tV (wn rfl) rfl rfl rfl h5el76 Tryz.underlying3 hv hp (by have h9 := (hv.rowOk).2.1.take (i * 2); rw [List.take_left' hp] at h9; exact h9) (by omega) (by omega) (by omega) (by omega) (fun b2 c2 zs w19 hc2 hc2m hzs hv => ?_)
  obtain ⟨z1, z2, rfl, hz1⟩ : ∃ z1 z2 : List Value, zs = z1 ++ z2 ∧ z1.length = 2 := ⟨zs.take 2, zs.drop 2, (List.take_append_drop _ _).symm, by rw [List.length_take, hzs]; omega⟩
  obtain ⟨z3, z4, rfl, hz3⟩ : ∃ z3 z4 : List Value, z2 = z3 ++ z4 ∧ z3.length = k * 2 := ⟨z2.take (k * 2), z2.drop (k * 2), (List.take_append_drop _ _).symm, by rw [List.length_append] at hzs; rw [List.length_take]; omega⟩
  refine uA rfl (uW k18 ?_)
  refine sK fun _ k20 => rL (uM rfl ?_)
  refine uM rfl ?_
  refine uG (.slice (some ⟨b2, 0 + i * 2, none⟩) ((i + (k + 1)) - i) (c2 - i)) rfl (ex_slice (lo' := some (vI i)) rfl rfl (congrArg some rfl) rfl rfl (run_from (size := 2) Tryz.underlying76 s10es76 (by omega) (by omega))) ?_
  refine uG (.slice (some ⟨q, 0, none⟩) 1 1) rfl (ex_move rfl rfl) ?_
  refine sl_copyAt 0 (size := 2) (k := 1) (pre := p) (mid := z1) (post := z3 ++ z4) (cs := new) tV (wn rfl) rfl rfl rfl Tryz.underlying76 s10sz121 hv rfl (by simp only [List.append_assoc]) (by rw [hp]; omega) (by rw [hz1, hnew]) (by show 1 = min 1 _; omega) (by rw [hnew]) (rd_all (hv.get 2 rfl)) h1n (fun w21 hv => ?_)
  simp only [zO] at hv
  refine uW k20 (sK fun _ k22 => ?_)
  refine rW mixed [8] [0,1,2,3,4,5,6,7,8] 95 rfl (by kernel_rfl) hv ?_
  simp only [qm, opAt]
  refine dM (.slice (some ⟨b2, 0, none⟩) (i + (k + 1)) c2) rfl (dM (vI i) rfl ?_)
  refine dM (vI 1) rfl ?_
  simp only [zP, po]
  refine dG (vI ((i + 1 : Nat) : Int)) rfl (ex_add rfl rfl rfl (by rw [i64_in (by omega)]; omega)) (dG (.slice (some ⟨b2, 0 + (i + 1 : Nat) * 2, none⟩) ((i + (k + 1)) - (i + 1 : Nat)) (c2 - (i + 1 : Nat))) rfl (ex_slice (lo' := some (vI ((i + 1 : Nat) : Int))) rfl rfl (congrArg some rfl) rfl rfl (run_from (size := 2) Tryz.underlying76 s10es76 (by omega) (by omega))) ?_)
  refine dM (.slice (some ⟨b, 0, none⟩) n c) rfl ?_
  simp only [zP, po]
  refine dM (vI i) rfl (dG (.slice (some ⟨b, 0 + i * 2, none⟩) (n - i) (c - i)) rfl (ex_slice (lo' := some (vI i)) rfl rfl (congrArg some rfl) rfl rfl (run_from (size := 2) Tryz.underlying76 s10es76 (by omega) (by omega))) ?_)
  refine dS rfl fun w23 hv => mem_copyAt 0 (size := 2) (k := k) (pre := p ++ new) (mid := z3) (post := z4) (cs := d) rfl rfl rfl rfl Tryz.underlying76 s10sz121 hv rfl (by simp only [List.append_assoc]) (by rw [List.length_append, hp, hnew]; omega) (by rw [hz3, hd]) (by show k = min _ _; omega) (hd) (by have h9 := (hv.front 1 rfl).rowOk.2.1.drop (i * 2); rw [List.drop_left' hp] at h9; exact h9) h1d (fun w24 hv => ?_)
  simp only [zO] at hv
  refine dW hv (dE fun w25 hv => ?_)
  simp only [zP, po]
  refine tK k22 (sK fun _ k26 => ?_)
  refine rL (uM rfl ?_)
  refine uA rfl (uW k26 ?_)
  refine rR (tR ?_)
  refine bR rfl rfl ?_
  have h9 := (hv.sub (sC _ (sD _ (sD _ (sR _)))))
  rw [show (p ++ new) ++ d ++ z4 = (p ++ new ++ d) ++ z4 by simp only [List.append_assoc]] at h9
  have h8 := h9.cellRow (n := n + 1) (c := c2) (size := 2) (by simp only [List.length_append, hp, hd, hnew] at hzs ⊢; omega) (by omega) hc2m
  rw [List.take_left' (by rw [List.length_append, List.length_append, hp, hd, hnew]; omega)] at h8
  rw [show i + (k + 1) = n + 1 by omega]
  exact ⟨b2, _, rfl, h8⟩
 refine uG (.bool false) rfl (ex_gtr rfl rfl rfl (qF hb17)) ?_
 obtain ⟨L, hL1, hL2, hL3, hL4, hv⟩ := hv.rowCell
 obtain ⟨t1, t2, hLe, ht1⟩ : ∃ t1 t2 : List Value, L = p ++ (d ++ (t1 ++ t2)) ∧ t1.length = 2 := ⟨(L.drop (n * 2)).take 2, (L.drop (n * 2)).drop 2, by rw [List.take_append_drop, ← List.append_assoc, ← hL2, List.take_append_drop], by rw [List.length_take, List.length_drop, hL1]; omega⟩
 subst hLe
 refine uW k16 (cF rfl ?_)
 refine kS (tK k15 ?_)
 refine sK fun _ k27 => rL (uM rfl ?_)
 refine uM rfl (uM rfl ?_)
 refine uG (vI ((n + 1 : Nat) : Int)) rfl (ex_add rfl rfl rfl (by rw [i64_in (by omega)]; omega)) ?_
 refine uG (.slice (some ⟨b, 0, none⟩) (n + 1 : Nat) c) rfl (ex_slice (hi' := some (vI ((n + 1 : Nat) : Int))) rfl rfl rfl (congrArg some rfl) rfl (run_hi Tryz.underlying76 s10es76 (by omega))) (uA rfl ?_)
 refine uW k27 (sK fun _ k28 => ?_)
 refine sK fun _ k29 => rL (uG (.slice (some ⟨q, 0, none⟩) 1 1) rfl (ex_move rfl rfl) ?_)
 refine uM rfl (uM rfl ?_)
 refine uM rfl ?_
 refine uG (vI ((i + 1 : Nat) : Int)) rfl (ex_add rfl rfl rfl (by rw [i64_in (by omega)]; omega)) ?_
 refine uG (.slice (some ⟨b, 0 + (i + 1 : Nat) * 2, none⟩) ((n + 1 : Nat) - (i + 1 : Nat)) (c - (i + 1 : Nat))) rfl (ex_slice (lo' := some (vI ((i + 1 : Nat) : Int))) rfl rfl (congrArg some rfl) rfl rfl (run_from (size := 2) Tryz.underlying76 s10es76 (by omega) (by omega))) ?_
 have hov : (callFunc 99 #[.slice (some ⟨q, 0, none⟩) 1 1, .slice (some ⟨b, 0 + (i + 1 : Nat) * 2, none⟩) ((n + 1 : Nat) - (i + 1 : Nat)) (c - (i + 1 : Nat))]).run Tryz.prog w = .ok (.value (.bool false)) w := by
  rw [run_callFunc_extern Tryz.func99 (by kernel_rfl) (by kernel_rfl) (by kernel_rfl) (e := Extern.SlicesOverlaps.overlaps #[76, 76] #[4]) (by kernel_rfl), overlaps_cells (tR := 4) (size := 2) Tryz.underlying76 (Go.Pm.run_sizeOf s10sz121) (hv.get 1 rfl) (hv.get 0 rfl) hv.ne2.symm (by intro h9; have := congrArg List.length h9; simp [ht1] at this)]
  rfl
 refine uG (.bool false) rfl (ex_extern (args := #[.slice (some ⟨q, 0, none⟩) 1 1, .slice (some ⟨b, 0 + (i + 1 : Nat) * 2, none⟩) ((n + 1 : Nat) - (i + 1 : Nat)) (c - (i + 1 : Nat))]) rfl (by simp only [List.map_toArray, List.map_cons, List.map_nil]; rfl) hov) ?_
 refine uG (.bool true) rfl (ex_not rfl rfl rfl) (uW k29 ?_)
 refine cT rfl (sK fun _ k30 => ?_)
 refine rW mixed [8] [0,1,2,3,4,5,6,7,8] 95 rfl (by kernel_rfl) hv ?_
 simp only [qm, opAt]
 refine dM (.slice (some ⟨b, 0, none⟩) (n + 1 : Nat) c) rfl (dM (vI i) rfl ?_)
 refine dM (vI 1) rfl ?_
 simp only [zP, po]
 refine dG (vI ((i + 1 : Nat) : Int)) rfl (ex_add rfl rfl rfl (by rw [i64_in (by omega)]; omega)) (dG (.slice (some ⟨b, 0 + (i + 1 : Nat) * 2, none⟩) ((n + 1 : Nat) - (i + 1 : Nat)) (c - (i + 1 : Nat))) rfl (ex_slice (lo' := some (vI ((i + 1 : Nat) : Int))) rfl rfl (congrArg some rfl) rfl rfl (run_from (size := 2) Tryz.underlying76 s10es76 (by omega) (by omega))) ?_)
 refine dM (.slice (some ⟨b, 0, none⟩) (n + 1 : Nat) c) rfl ?_
 simp only [zP, po]
 refine dM (vI i) rfl (dG (.slice (some ⟨b, 0 + i * 2, none⟩) ((n + 1 : Nat) - i) (c - i)) rfl (ex_slice (lo' := some (vI i)) rfl rfl (congrArg some rfl) rfl rfl (run_from (size := 2) Tryz.underlying76 s10es76 (by omega) (by omega))) ?_)
 refine dS rfl fun w31 hv => mem_copyAt 0 (size := 2) (k := k) (pre := p ++ (d ++ t1).take 2) (mid := (d ++ t1).drop 2) (post := t2) (cs := d) rfl rfl rfl rfl Tryz.underlying76 s10sz121 hv rfl (by rw [List.append_assoc p, List.take_append_drop]; simp only [List.append_assoc]) (by rw [List.length_append, List.length_take, List.length_append, hp, hd, ht1]; omega) (by rw [List.length_drop, List.length_append, hd, ht1]; omega) (by show k = min _ _; omega) (hd) (src_mid (pre := p) (mid := d) (post := t1 ++ t2) (by have h9 := hv.get 0 rfl; simpa only [List.append_assoc] using h9) (by rw [hp]; omega)) h1d (fun w32 hv => ?_)
 simp only [zO] at hv
 refine dW hv (dE fun w33 hv => ?_)
 simp only [zP, po]
 refine tK k30 (sK fun _ k34 => ?_)
 refine rL (uM rfl ?_)
 refine uM rfl ?_
 refine uG (.slice (some ⟨b, 0 + i * 2, none⟩) ((n + 1 : Nat) - i) (c - i)) rfl (ex_slice (lo' := some (vI i)) rfl rfl (congrArg some rfl) rfl rfl (run_from (size := 2) Tryz.underlying76 s10es76 (by omega) (by omega))) ?_
 refine uG (.slice (some ⟨q, 0, none⟩) 1 1) rfl (ex_move rfl rfl) ?_
 refine sl_copyAt 0 (size := 2) (k := 1) (pre := p) (mid := (d ++ t1).take 2) (post := d ++ t2) (cs := new) tV (wn rfl) rfl rfl rfl Tryz.underlying76 s10sz121 hv rfl (by simp only [List.append_assoc]) (by rw [hp]; omega) (by rw [List.length_take, List.length_append, hd, ht1, hnew]; omega) (by show 1 = min 1 _; omega) (by rw [hnew]) (rd_all (hv.get 1 rfl)) h1n (fun w35 hv => ?_)
 simp only [zO] at hv
 refine uW k34 (sK fun _ k36 => ?_)
 refine rL (uM rfl ?_)
 refine uA rfl (uW k36 ?_)
 refine rR (tR ?_)
 refine bR rfl rfl ?_
 have h9 := (hv.sub (sC _ (sD _ (sR _))))
 rw [show p ++ new ++ (d ++ t2) = (p ++ new ++ d) ++ t2 by simp only [List.append_assoc]] at h9
 have h8 := h9.cellRow (n := n + 1) (c := c) (size := 2) (by simp only [List.length_append, hp, hd, hnew] at hL1 ⊢; omega) (by omega) hL4
 rw [List.take_left' (by rw [List.length_append, List.length_append, hp, hd, hnew]; omega)] at h8
 exact ⟨b, _, rfl, h8⟩
theorem h6mk121 : (Tryz.prog.info? 121).map (fun i => (i.zero, i.size, i.bytes)) = some (some (.agg #[vS [], vS []]), 2, 32) := by kernel_rfl
theorem h6el76 : Elem Tryz.prog 76 121 (.agg #[vS [], vS []]) 2 32 := elem_of Tryz.underlying76 h6mk121 (by rfl) (by decide)
theorem insPr0 (B : Base) (H : List Res) (w : World) (sa : Option Addr) (c q : Nat) (new : List Value) (hnew : new.length = 2) (h1n : ∀ u ∈ new, u.oneCell' = true) (hv : Inv B (Res.row 121 2 (.slice sa 0 c) 0 [] :: Res.cell q new 121 :: H) w) :
  Calls Tryz.prog 90 #[.slice sa 0 c, vI 0, .slice (some ⟨q, 0, none⟩) 1 1] w fun e w' => ∃ ra rc, e = .returned (.slice ra (0 + 1) rc) ∧ Inv B (Res.row 121 2 (.slice ra (0 + 1) rc) (0 + 1) new :: H) w' := by
 refine cW Tryz.func90 rfl Tryz.ntmps90 ?_
 simp only [al]
 refine sK fun _ k1 => rL (uA rfl ?_)
 refine uW k1 (sK fun _ k2 => ?_)
 refine rL (uM rfl ?_)
 refine uM rfl ?_
 refine uG (sliced sa 0 0 c 2) rfl (ex_slice (lo' := some (vI 0)) rfl rfl (congrArg some rfl) rfl rfl (run_fromAny (l := 0) Tryz.underlying76 s10es76 (by omega))) (uW k2 ?_)
 refine sK fun _ k3 => rL (uG (.slice (some ⟨q, 0, none⟩) 1 1) rfl (ex_move rfl rfl) ?_)
 refine uG (vI 1) rfl (ex_len0 Tryz.underlying76 rfl rfl) (uA rfl ?_)
 refine uW k3 (sK fun _ k4 => ?_)
 refine sK fun _ k5 => rL (uM rfl ?_)
 refine uG (.bool false) rfl (ex_eql rfl rfl rfl (by decide)) (uW k5 ?_)
 refine cF rfl (kS ?_)
 refine tK k4 (sK fun _ k6 => ?_)
 refine rL (uM rfl ?_)
 refine uG (vI 0) rfl (ex_len0 Tryz.underlying76 rfl rfl) (uA rfl ?_)
 refine uW k6 (sK fun _ k7 => ?_)
 refine sK fun _ k8 => rL (uM rfl ?_)
 refine uM rfl ?_
 refine uG (.bool true) rfl (ex_eql rfl rfl rfl (by decide)) (uW k8 ?_)
 refine cT rfl (sK fun _ k9 => ?_)
 refine rL (uM rfl ?_)
 refine uG (.slice (some ⟨q, 0, none⟩) 1 1) rfl (ex_move rfl rfl) ?_
 refine sl_append (news := new) tV (wn rfl) rfl rfl rfl h6el76 hv (ok_full (by omega)) (by rw [hnew]) (rd_all (hv.get 1 rfl)) (h1n) (by unfold maxLen; omega) (by omega) (fun rv10 w13 hv => ?_)
 obtain ⟨ra11, rc12, rfl⟩ := row_slice hv.head
 refine uA rfl (uW k9 ?_)
 refine rR (tR ?_)
 refine bR rfl rfl ?_
 have h9 := (hv.sub (sC _ (sD _ (sR _))))
 rw [List.nil_append] at h9
 exact ⟨_, _, rfl, h9⟩
theorem ok_nilH : SliceOk none 0 0 := ⟨Nat.le_refl _, Nat.zero_le _, fun _ => rfl⟩
theorem insPrs (B : Base) (H : List Res) (w : World) (sa : Option Addr) (c n i k q : Nat) (p d new : List Value) (hnk : n = i + k) (hm : n ≤ 1000000) (hp : p.length = i * 2) (hd : d.length = k * 2) (hnew : new.length = 2) (h1p : ∀ u ∈ p, u.oneCell' = true) (h1d : ∀ u ∈ d, u.oneCell' = true) (h1n : ∀ u ∈ new, u.oneCell' = true) (hv : Inv B (Res.row 121 2 (.slice sa n c) n (p ++ d) :: Res.cell q new 121 :: H) w) :
  Calls Tryz.prog 90 #[.slice sa n c, vI i, .slice (some ⟨q, 0, none⟩) 1 1] w fun e w' => ∃ ra rc, e = .returned (.slice ra (n + 1) rc) ∧ Inv B (Res.row 121 2 (.slice ra (n + 1) rc) (n + 1) (p ++ new ++ d) :: H) w' := by
 rcases Nat.eq_zero_or_pos n with h0 | h0
 ·obtain rfl : i = 0 := by omega
  obtain rfl : k = 0 := by omega
  subst h0
  obtain rfl : p = [] := List.eq_nil_of_length_eq_zero (by omega)
  obtain rfl : d = [] := List.eq_nil_of_length_eq_zero (by omega)
  rw [List.append_nil, List.nil_append]
  exact insPr0 B H w sa c q new hnew h1n hv
 obtain ⟨b, rfl⟩ := row_some hv.head h0
 refine (insPr B H w b c n i k q p d new h0 hnk hm hp hd hnew h1p h1d h1n hv).mono ?_
 rintro e w' ⟨b', c', rfl, h9⟩
 exact ⟨_, _, rfl, h9⟩
theorem rdW_any {B : Base} {e : TypeId} {size n c : Nat} {ad : Option Addr} {xs : List Value} {H : List Res} {w : World} (hv : Inv B (Res.row e size (.slice ad n c) n xs :: H) w) : RdW B [Res.row e size (.slice ad n c) n xs] ad xs := by
 have hl := (hv.rowOk).2.2
 rcases Nat.eq_zero_or_pos n with h0 | h0
 ·intro i hi
  rw [hl, h0, Nat.zero_mul] at hi
  exact absurd hi (Nat.not_lt_zero _)
 obtain ⟨b, rfl⟩ := row_some hv.head h0
 exact rdW_row
theorem h6al121 : AL Tryz.prog 121 [vS [], vS []] := fun w => by kernel_rfl
theorem h6callable90 : Callable Tryz.prog 90 := cb Tryz.func90 (by kernel_rfl)
theorem hashSet (B : Base) (H : List Res) (w : World) (ad : Option Addr) (c : Nat) (h : List Pr) (hok : SliceOk ad h.length c) (hr : RdV B [] ad (pairCells h)) (hm : h.length ≤ 1000000) (hs : SortedH h) (pa : Option Addr) (pc : Nat) (ps : List Pr) (hrp : RdV B [] pa (pairCells ps)) (hmp : ps.length ≤ 1000000) (hv : Inv B H w) :
  Calls Tryz.prog 73 #[.slice ad h.length c, .slice pa ps.length pc] w fun e w' => ∃ C oa oc out n ec, B.Le C ∧ e = .returned (.tuple #[.slice oa out.length oc, vI n, vI ec]) ∧ SliceOk oa out.length oc ∧ RdV C [] oa (pairCells out) ∧ SetHI h ps out n ec ∧ Inv C H w' := by
 refine cW Tryz.func73 rfl Tryz.ntmps73 ?_
 simp only [al]
 refine sK fun _ k1 => rL (uA rfl ?_)
 refine uA rfl (uA rfl ?_)
 refine uW k1 (sK fun _ k2 => ?_)
 refine sK fun _ k3 => rL (uM rfl ?_)
 refine uG (vI (ps.length : Int)) rfl (ex_len0 Tryz.underlying76 rfl rfl) (uM rfl ?_)
 refine uW k3 (bB ?_)
 gi_loopw [17] (fun x17 wr => ∃ (k : Nat), x17 = vI k ∧ k ≤ ps.length ∧ (∀ p ∈ ps.take k, FitP p) ∧ Inv B H wr) (fun x17 _ => ps.length - (intOf x17).toNat)
 case atStart => exact ⟨0, rfl, Nat.zero_le _, fun p h => (by cases h), hv⟩
 case round =>
  obtain ⟨k, rfl, hk, hfit, hv⟩ := hrel
  refine sK fun _ k5 => rL ?_
  by_cases hb6 : (k : Int) < (ps.length : Int)
  ·refine uG (.bool true) rfl (ex_lss rfl rfl rfl (qT hb6)) (uW k5 ?_)
   refine sK fun _ k7 => cT rfl (kS ?_)
   refine tK k7 (sK fun _ k8 => ?_)
   refine bB (sK fun _ k9 => ?_)
   obtain ⟨x, hx⟩ : ∃ x, ps[k]? = some x := ⟨_, List.getElem?_eq_getElem (show k < ps.length by omega)⟩
   obtain ⟨pb9, po9, had, hrdx⟩ := pair_reads hrp hx
   subst had
   refine rL (uG (.pointer (some ⟨pb9, po9 + k * 2, none⟩)) rfl (ex_index rfl rfl rfl (run_idx (k := k) Tryz.underlying76 s10es76 (by omega))) ?_)
   refine uL (.agg #[vS x.1, vS x.2]) rfl (run_loadR (cs := [vS x.1, vS x.2]) s10wd121 (Reads.mid (pre := []) (mid := [vS x.1, vS x.2]) (post := []) hrdx _ _ _ (Base.Le.refl _) no_res hv)) ?_
   refine sl_alloc tV (wn rfl) rfl hv h6al121 (fun b10 w11 hv => ?_)
   simp only [zP, po]
   refine xS 0 rfl hv s10sz121 rfl (by exact ⟨rfl, rfl, trivial⟩) (fun w12 hv => ?_)
   simp only [zO, sp] at hv
   refine uW k9 (sK fun _ k13 => ?_)
   refine rL (uL (.agg #[vS x.1, vS x.2]) rfl (lM 0 s10wd121 hv rfl rfl rfl rfl) ?_)
   by_cases hq14 : x.1.length ≤ 4096 ∧ x.2.length ≤ 4096
   ·refine xC s10callable89 rfl ((calls_bool (hashFits B _ _ x hv) (qT hq14)).mono ?_) rfl
    rintro e w15 ⟨rfl, hv⟩
    refine ⟨_, rfl, uG (.bool false) rfl (ex_not rfl rfl rfl) ?_⟩
    refine uW k13 (cF rfl ?_)
    refine kS (bN ?_)
    refine tK k8 (rL ?_)
    refine uG (vI ((k + 1 : Nat) : Int)) rfl (ex_add rfl rfl rfl (by rw [i64_in (by omega)]; omega)) (uM rfl ?_)
    refine uZ (then_normal ?_)
    go_roundw
    case rel => exact ⟨k + 1, rfl, by omega, fun y hy => (by rw [take_next hx] at hy; rcases List.mem_append.1 hy with h9 | h9; exact hfit y h9; rw [List.mem_singleton.1 h9]; exact hq14), (hv.kp [] 0 1)⟩
    case measure => show ps.length - (((k + 1 : Nat) : Int)).toNat < ps.length - ((k : Int)).toNat; omega
   refine xC s10callable89 rfl ((calls_bool (hashFits B _ _ x hv) (qF hq14)).mono ?_) rfl
   rintro e w16 ⟨rfl, hv⟩
   refine ⟨_, rfl, uG (.bool true) rfl (ex_not rfl rfl rfl) ?_⟩
   refine uW k13 (cT rfl ?_)
   refine sK fun _ k17 => rL (uA rfl ?_)
   refine uA rfl (uA rfl ?_)
   refine uW k17 (rR ?_)
   refine bZ (tR ?_)
   refine tR (bZ ?_)
   refine tR (bodyPost_ret (results_tmp3 rfl _ _ _) rfl ?_)
   exact ⟨B, none, 0, [], 0, 12, Base.Le.refl _, rfl, ok_nilH, rdV_nil, .inl ⟨by decide, rfl, rfl, .inl ⟨x, List.mem_of_getElem? hx, hq14⟩⟩, (hv.kp [] 0 1)⟩
  refine uG (.bool false) rfl (ex_lss rfl rfl rfl (qF hb6)) (uW k5 ?_)
  refine sK fun _ k18 => cF rfl (xE ?_)
  refine tX (tX ?_)
  refine bH (tK k2 ?_)
  refine sK fun _ k19 => rL (uM rfl ?_)
  obtain rfl : k = ps.length := by omega
  rw [List.take_length] at hfit
  refine xC s1callable81 rfl ((clonePrs B _ _ ad h.length c (pairCells h) [] (fun r9 h9 => absurd h9 List.not_mem_nil) hok (pairCells_len _) (pairCells_one _) (by omega) (hr.rdW []) hv).mono ?_) rfl
  rintro e w20 ⟨sa, sc, rfl, hv⟩
  refine ⟨_, rfl, uA rfl ?_⟩
  refine uW k19 (sK fun _ k21 => ?_)
  refine rL (uA rfl ?_)
  refine uW k21 (sK fun _ k22 => ?_)
  refine sK fun _ k23 => rL (uM rfl ?_)
  refine uG (vI (ps.length : Int)) rfl (ex_len0 Tryz.underlying76 rfl rfl) (uM rfl ?_)
  refine uW k23 (bB ?_)
  gi_loopw [9, 10, 29] (fun x9 x10 x29 wr => ∃ (i : Nat) (ra : Option Addr) (rc : Nat) (cur : List Pr), x9 = .slice ra cur.length rc ∧ x10 = vI ((cur.length : Int) - (h.length : Int)) ∧ x29 = vI i ∧ i ≤ ps.length ∧ cur = setsH h (ps.take i) ∧ SortedH cur ∧ Inv B (Res.row 121 2 (.slice ra cur.length rc) cur.length (pairCells cur) :: H) wr) (fun x9 x10 x29 _ => ps.length - (intOf x29).toNat)
  case atStart => exact ⟨0, sa, sc, h, rfl, by rw [Int.sub_self], rfl, Nat.zero_le _, rfl, hs, hv⟩
  case round =>
   obtain ⟨i, ra, rc, cur, rfl, rfl, rfl, hi, hcur, hso, hv⟩ := hrel
   refine sK fun _ k25 => rL ?_
   by_cases hb26 : (i : Int) < (ps.length : Int)
   ·refine uG (.bool true) rfl (ex_lss rfl rfl rfl (qT hb26)) (uW k25 ?_)
    refine sK fun _ k27 => cT rfl (kS ?_)
    refine tK k27 (sK fun _ k28 => ?_)
    refine bB (sK fun _ k29 => ?_)
    obtain ⟨x, hx⟩ : ∃ x, ps[i]? = some x := ⟨_, List.getElem?_eq_getElem (show i < ps.length by omega)⟩
    obtain ⟨pb9, po9, had, hrdx⟩ := pair_reads hrp hx
    subst had
    refine rL (uG (.pointer (some ⟨pb9, po9 + i * 2, none⟩)) rfl (ex_index rfl rfl rfl (run_idx (k := i) Tryz.underlying76 s10es76 (by omega))) ?_)
    refine uL (.agg #[vS x.1, vS x.2]) rfl (run_loadR (cs := [vS x.1, vS x.2]) s10wd121 (Reads.mid (pre := []) (mid := [vS x.1, vS x.2]) (post := []) hrdx _ _ _ (Base.Le.refl _) no_res hv)) ?_
    refine sl_alloc tV (wn rfl) rfl hv h6al121 (fun b30 w31 hv => ?_)
    simp only [zP, po]
    refine xS 0 rfl hv s10sz121 rfl (by exact ⟨rfl, rfl, trivial⟩) (fun w32 hv => ?_)
    simp only [zO, sp] at hv
    refine uW k29 (sK fun _ k33 => ?_)
    refine sK fun _ k34 => rL (uM rfl ?_)
    refine uG (vI (cur.length : Int)) rfl (ex_len0 Tryz.underlying76 rfl rfl) ?_
    by_cases hb35 : (cur.length : Int) > 512
    ·refine uG (.bool true) rfl (ex_gtr rfl rfl rfl (qT hb35)) (uW k34 ?_)
     refine cT rfl (xE ?_)
     refine tX (bM rfl ?_)
     refine tX (tX ?_)
     refine bH (tK k22 ?_)
     refine sK fun _ k36 => sK fun _ k37 => rL (uM rfl ?_)
     refine uG (vI (cur.length : Int)) rfl (ex_len0 Tryz.underlying76 rfl rfl) ?_
     refine uG (.bool true) rfl (ex_gtr rfl rfl rfl (qT hb35)) (uW k37 ?_)
     refine cT rfl (sK fun _ k38 => ?_)
     refine rL (uA rfl ?_)
     refine uA rfl (uA rfl ?_)
     refine uW k38 (rR ?_)
     refine tR (bodyPost_ret (results_tmp3 rfl _ _ _) rfl ?_)
     exact ⟨B, none, 0, [], 0, 22, Base.Le.refl _, rfl, ok_nilH, rdV_nil, .inl ⟨by decide, rfl, rfl, .inr (by have h9 := setsH_more h ps i; rw [← hcur] at h9; omega)⟩, (hv.kp [] 0 2)⟩
    refine uG (.bool false) rfl (ex_gtr rfl rfl rfl (qF hb35)) (uW k34 ?_)
    refine cF rfl (kS ?_)
    refine tK k33 (sK fun _ k39 => ?_)
    refine rL (uM rfl ?_)
    refine uF (vP b30) rfl (s10fa121_0 _ _ _) ?_
    refine uL _ rfl (run_load1 s9na9 (hv.load 0 0 rfl rfl)) ?_
    replace hv := hv.front 1 rfl
    simp only [eS, eZ] at hv
    refine xC h1callable75 rfl ((hashFind B _ _ ra rc cur x.1 _ (fun r9 h9 => by rw [List.mem_singleton.1 h9]; exact List.mem_cons_self) (rdW_any hv) (by omega) hv).mono ?_) rfl
    rintro e w40 ⟨j, b, hu, rfl, hb, hv⟩
    refine ⟨_, rfl, ?_⟩
    cases b
    ·have hn : ∀ p, cur[j]? = some p → p.1 ≠ x.1 := fun p hp he => by have h9 := hb.2 ⟨p, hp, he⟩; cases h9
     have hinl : (insH cur x.1 x.2).length = cur.length + 1 := hu.ins_len hso hn
     have hjl := hu.1
     refine uM rfl (uE rfl ?_)
     refine uE rfl (uA rfl ?_)
     refine uA rfl (uW k39 ?_)
     refine sK fun _ k41 => sK fun _ k42 => rL (uM rfl ?_)
     refine uW k42 (cF rfl ?_)
     refine kS (tK k41 ?_)
     refine sK fun _ k43 => rL (uM rfl ?_)
     refine uM rfl ?_
     refine uL (.agg #[vS x.1, vS x.2]) rfl (lM 1 s10wd121 hv rfl rfl rfl rfl) ?_
     refine sl_rowAgg (L := [vS x.1, vS x.2]) tV (wn rfl) rfl rfl hv h6el76 rfl (by decide) (fun b44 w45 hv => ?_)
     replace hv := hv.front 1 rfl
     simp only [eS, eZ] at hv
     rw [pairCells_split cur j] at hv
     refine xC h6callable90 rfl ((insPrs B _ _ ra rc cur.length j (cur.length - j) b44 _ _ [strV x.1, strV x.2] (by omega) (by omega) (by rw [pairCells_len, List.length_take]; omega) (by rw [pairCells_len, List.length_drop]) rfl (pairCells_one _) (pairCells_one _) (one_cons rfl (one_cons rfl one_nil)) hv).mono ?_) rfl
     rintro e w46 ⟨na, nc, rfl, hv⟩
     refine ⟨_, rfl, uA rfl ?_⟩
     refine uW k43 (rL ?_)
     refine uM rfl ?_
     refine uG (vI ((cur.length : Int) - (h.length : Int) + 1)) rfl (ex_add rfl rfl rfl (by rw [i64_in (by omega)])) (uA rfl ?_)
     refine uZ (bN ?_)
     refine tK k28 (rL ?_)
     refine uG (vI ((i + 1 : Nat) : Int)) rfl (ex_add rfl rfl rfl (by rw [i64_in (by omega)]; omega)) (uM rfl ?_)
     refine uZ (then_normal ?_)
     go_roundw
     case rel => exact ⟨i + 1, na, nc, insH cur x.1 x.2, by rw [hinl], by rw [hinl]; congr 1; omega, rfl, by omega, by rw [hcur, setsH_next hx], hso.ins, by rw [hinl, pairCells_ins hso hu hn]; exact (hv.kp [] 1 1)⟩
     case measure => show ps.length - (((i + 1 : Nat) : Int)).toNat < ps.length - ((i : Int)).toNat; omega
    obtain ⟨p, hp, hpf⟩ := hb.1 rfl
    have hjl : j < cur.length := (List.getElem?_eq_some_iff.1 hp).1
    have hset : (insH cur x.1 x.2).length = cur.length := hu.set_len hso hp hpf
    refine uM rfl (uE rfl ?_)
    refine uE rfl (uA rfl ?_)
    refine uA rfl (uW k39 ?_)
    refine sK fun _ k47 => sK fun _ k48 => rL (uM rfl ?_)
    refine uW k48 (cT rfl ?_)
    refine sK fun _ k49 => ?_
    obtain ⟨sb, had9⟩ := row_some hv.head (by omega)
    subst had9
    refine rL (uM rfl ?_)
    refine uM rfl ?_
    refine uF (.pointer (some ⟨b30, 1, none⟩)) rfl (s10fa121_1 _ _ _) ?_
    refine uL _ rfl (run_load1 s9na9 (hv.load 1 1 rfl rfl)) ?_
    refine uG (.pointer (some ⟨sb, 0 + j * 2, none⟩)) rfl (ex_index rfl rfl rfl (run_idx (k := j) Tryz.underlying76 s10es76 (by omega))) ?_
    refine uF (.pointer (some ⟨sb, 0 + j * 2 + 1, none⟩)) rfl (s10fa121_1 _ _ _) ?_
    have hcells : (pairCells cur).set (0 + j * 2 + 1) (strV x.2) = pairCells (insH cur x.1 x.2) := by rw [Nat.zero_add, ← pairCells_set hp, hpf, hu.set hso hp hpf]
    refine sl_storeRow (v := vS x.2) tV (wn rfl) rfl rfl rfl hv s12sz9 (by rw [pairCells_len]; omega) rfl rfl (fun w50 hv => ?_)
    refine uW k49 (xE ?_)
    refine tX (bH ?_)
    refine tK k28 (rL ?_)
    refine uG (vI ((i + 1 : Nat) : Int)) rfl (ex_add rfl rfl rfl (by rw [i64_in (by omega)]; omega)) (uM rfl ?_)
    refine uZ (then_normal ?_)
    go_roundw
    case rel => exact ⟨i + 1, _, rc, insH cur x.1 x.2, by rw [hset], by rw [hset], rfl, by omega, by rw [hcur, setsH_next hx], hso.ins, by rw [hset, ← hcells]; exact (hv.kp [] 1 1)⟩
    case measure => show ps.length - (((i + 1 : Nat) : Int)).toNat < ps.length - ((i : Int)).toNat; omega
   refine uG (.bool false) rfl (ex_lss rfl rfl rfl (qF hb26)) (uW k25 ?_)
   refine sK fun _ k51 => cF rfl (xE ?_)
   refine tX (tX ?_)
   refine bH (tK k22 ?_)
   refine sK fun _ k52 => sK fun _ k53 => rL (uM rfl ?_)
   refine uG (vI (cur.length : Int)) rfl (ex_len0 Tryz.underlying76 rfl rfl) ?_
   by_cases hb54 : (cur.length : Int) > 512
   ·refine uG (.bool true) rfl (ex_gtr rfl rfl rfl (qT hb54)) (uW k53 ?_)
    refine cT rfl (sK fun _ k55 => ?_)
    refine rL (uA rfl ?_)
    refine uA rfl (uA rfl ?_)
    refine uW k55 (rR ?_)
    refine tR (bodyPost_ret (results_tmp3 rfl _ _ _) rfl ?_)
    exact ⟨B, none, 0, [], 0, 22, Base.Le.refl _, rfl, ok_nilH, rdV_nil, .inl ⟨by decide, rfl, rfl, .inr (by have h9 := setsH_more h ps i; rw [← hcur] at h9; omega)⟩, (hv.kp [] 0 1)⟩
   refine uG (.bool false) rfl (ex_gtr rfl rfl rfl (qF hb54)) (uW k53 ?_)
   refine cF rfl (kS ?_)
   refine tK k52 (sK fun _ k56 => ?_)
   refine rL (uM rfl ?_)
   refine uM rfl (uA rfl ?_)
   refine uA rfl (uA rfl ?_)
   refine uW k56 (rR ?_)
   refine bodyPost_ret (results_tmp3 rfl _ _ _) rfl ?_
   obtain rfl : i = ps.length := by omega
   rw [List.take_length] at hcur
   obtain ⟨D, hD, hv, hro, hoko, -⟩ := (hv).rowBy
   exact ⟨D, ra, rc, cur, _, 0, hD, rfl, hoko, hro, .inr ⟨rfl, hfit, hcur, by omega, rfl⟩, hv⟩
theorem h7mk3 : (Tryz.prog.info? 3).map (fun i => (i.zero, i.size, i.bytes)) = some (some (vI 0), 1, 8) := by kernel_rfl
theorem h7el148 : Elem Tryz.prog 148 3 (vI 0) 1 8 := elem_of Tryz.underlying148 h7mk3 (by rfl) (by decide)
theorem h7callable88 : Callable Tryz.prog 88 := cb Tryz.func88 (by kernel_rfl)
theorem strIncr (B : Base) (H : List Res) (w : World) (s : List UInt8) (by_ : Int) (hby : -9223372036854775808 ≤ by_ ∧ by_ ≤ 9223372036854775807) (hN : NumB B) (hv : Inv B H w) :
  Calls Tryz.prog 72 #[vS s, vI by_] w fun e w' => ∃ sum ec, e = .returned (.tuple #[vI sum, vI ec]) ∧ IncrI s by_ sum ec ∧ Inv B H w' := by
 refine cW Tryz.func72 rfl Tryz.ntmps72 ?_
 simp only [al]
 refine sK fun _ k1 => rL (uA rfl ?_)
 refine uA rfl (uW k1 ?_)
 refine sK fun _ k2 => rL (uA rfl ?_)
 refine uW k2 (sK fun _ k3 => ?_)
 refine sK fun _ k4 => rL (uM rfl ?_)
 by_cases hb5 : s ≠ ([] : List UInt8)
 ·refine uG (.bool true) rfl (ex_sneq rfl rfl rfl (qT hb5)) (uW k4 ?_)
  refine cT rfl (sK fun _ k6 => ?_)
  refine rL (uM rfl ?_)
  refine xC itcallable87 rfl ((numParseAny B _ (hN B _ (Base.Le.refl _)).1 (hN B _ (Base.Le.refl _)).2 _ s hv).mono ?_) rfl
  rintro e w7 ⟨n, b, rfl, hnp, hv⟩
  refine ⟨_, rfl, ?_⟩
  cases b
  ·refine uM rfl (uE rfl ?_)
   refine uE rfl (uA rfl ?_)
   refine uA rfl (uW k6 ?_)
   refine sK fun _ k8 => sK fun _ k9 => rL (uM rfl ?_)
   refine uG (.bool true) rfl (ex_not rfl rfl rfl) (uW k9 ?_)
   refine cT rfl (sK fun _ k10 => ?_)
   refine rL (uA rfl ?_)
   refine uA rfl (uW k10 ?_)
   refine rR (tR ?_)
   refine tR (bodyPost_ret (results_tmp2 rfl _ _ _) rfl ?_)
   obtain rfl : n = 0 := hnp.elim (fun h9 => absurd h9.1 (by decide)) (fun h9 => h9.2.1)
   exact ⟨0, 10, rfl, .inl ⟨by decide, .inl ⟨hb5, hnp⟩⟩, hv⟩
  have hnf : -9223372036854775808 ≤ n ∧ n ≤ 9223372036854775807 := hnp.elim (fun h9 => ⟨h9.2.1, h9.2.2.1⟩) (fun h9 => absurd h9.1 (by decide))
  refine uM rfl (uE rfl ?_)
  refine uE rfl (uA rfl ?_)
  refine uA rfl (uW k6 ?_)
  refine sK fun _ k11 => sK fun _ k12 => rL (uM rfl ?_)
  refine uG (.bool false) rfl (ex_not rfl rfl rfl) (uW k12 ?_)
  refine cF rfl (kS ?_)
  refine tK k11 (rL ?_)
  refine uM rfl (uA rfl ?_)
  refine uW k3 (sK fun _ k13 => ?_)
  refine rL (uM rfl ?_)
  refine uM rfl ?_
  refine sl_rowOne (v := vI by_) tV (wn rfl) rfl rfl hv h7el148 rfl (fun b14 w15 hv => ?_)
  simp only [zP, po]
  obtain ⟨P, hP, hv, hrp, -, -⟩ := (hv.cellRow (n := 1) (c := 1) (size := 1) rfl (by decide) (by decide)).rowBy
  refine xC h7callable88 rfl ((numAdd P _ _ n (by omega) _ 1 [by_] hrp (Nat.le_of_ble_eq_true rfl) (fun b hb => by rw [List.mem_singleton.1 hb]; exact hby) hv).mono ?_) rfl
  rintro e w16 ⟨sm, sok, rfl, hadd, hv⟩
  refine ⟨_, rfl, ?_⟩
  cases sok
  ·refine uM rfl (uE rfl ?_)
   refine uE rfl (uA rfl ?_)
   refine uA rfl (uW k13 ?_)
   refine sK fun _ k17 => sK fun _ k18 => rL (uM rfl ?_)
   refine uG (.bool true) rfl (ex_not rfl rfl rfl) (uW k18 ?_)
   refine cT rfl (sK fun _ k19 => ?_)
   refine rL (uA rfl ?_)
   refine uA rfl (uW k19 ?_)
   refine rR (tR ?_)
   refine bodyPost_ret (results_tmp2 rfl _ _ _) rfl ?_
   have h9 : ¬ fitsI (n + by_) := fun h8 => by
    rcases hadd with ⟨h7, -⟩ | ⟨-, h7⟩
    ·cases h7
    rw [addF_one, if_pos h8] at h7; cases h7
   exact ⟨0, 13, rfl, .inl ⟨by decide, .inr ⟨n, .inr hnp, h9⟩⟩, (hv).weak hP⟩
  refine uM rfl (uE rfl ?_)
  refine uE rfl (uA rfl ?_)
  refine uA rfl (uW k13 ?_)
  refine sK fun _ k20 => sK fun _ k21 => rL (uM rfl ?_)
  refine uG (.bool false) rfl (ex_not rfl rfl rfl) (uW k21 ?_)
  refine cF rfl (kS ?_)
  refine tK k20 (sK fun _ k22 => ?_)
  refine rL (uM rfl ?_)
  refine uA rfl (uA rfl ?_)
  refine uW k22 (rR ?_)
  refine bodyPost_ret (results_tmp2 rfl _ _ _) rfl ?_
  obtain ⟨h9, h8⟩ : fitsI sm ∧ sm = n + by_ := by
   rcases hadd with ⟨-, h7, h6⟩ | ⟨h7, -⟩
   ·rw [addF_one] at h6
    split at h6
    ·cases h6; exact ⟨h7, rfl⟩
    cases h6
   cases h7
  exact ⟨sm, 0, rfl, .inr ⟨rfl, h9, n, .inr hnp, h8⟩, (hv).weak hP⟩
 refine uG (.bool false) rfl (ex_sneq rfl rfl rfl (qF hb5)) (uW k4 ?_)
 refine cF rfl (kS ?_)
 refine tK k3 (sK fun _ k23 => ?_)
 refine rL (uM rfl ?_)
 refine uM rfl ?_
 refine sl_rowOne (v := vI by_) tV (wn rfl) rfl rfl hv h7el148 rfl (fun b24 w25 hv => ?_)
 simp only [zP, po]
 obtain ⟨P, hP, hv, hrp, -, -⟩ := (hv.cellRow (n := 1) (c := 1) (size := 1) rfl (by decide) (by decide)).rowBy
 refine xC h7callable88 rfl ((numAdd P _ _ 0 (by omega) _ 1 [by_] hrp (Nat.le_of_ble_eq_true rfl) (fun b hb => by rw [List.mem_singleton.1 hb]; exact hby) hv).mono ?_) rfl
 rintro e w26 ⟨sm, sok, rfl, hadd, hv⟩
 refine ⟨_, rfl, ?_⟩
 cases sok
 ·refine uM rfl (uE rfl ?_)
  refine uE rfl (uA rfl ?_)
  refine uA rfl (uW k23 ?_)
  refine sK fun _ k27 => sK fun _ k28 => rL (uM rfl ?_)
  refine uG (.bool true) rfl (ex_not rfl rfl rfl) (uW k28 ?_)
  refine cT rfl (sK fun _ k29 => ?_)
  refine rL (uA rfl ?_)
  refine uA rfl (uW k29 ?_)
  refine rR (tR ?_)
  refine bodyPost_ret (results_tmp2 rfl _ _ _) rfl ?_
  have h9 : ¬ fitsI (0 + by_) := fun h8 => by
   rcases hadd with ⟨h7, -⟩ | ⟨-, h7⟩
   ·cases h7
   rw [addF_one, if_pos h8] at h7; cases h7
  exact ⟨0, 13, rfl, .inl ⟨by decide, .inr ⟨0, .inl ⟨Classical.not_not.1 hb5, rfl⟩, h9⟩⟩, (hv).weak hP⟩
 refine uM rfl (uE rfl ?_)
 refine uE rfl (uA rfl ?_)
 refine uA rfl (uW k23 ?_)
 refine sK fun _ k30 => sK fun _ k31 => rL (uM rfl ?_)
 refine uG (.bool false) rfl (ex_not rfl rfl rfl) (uW k31 ?_)
 refine cF rfl (kS ?_)
 refine tK k30 (sK fun _ k32 => ?_)
 refine rL (uM rfl ?_)
 refine uA rfl (uA rfl ?_)
 refine uW k32 (rR ?_)
 refine bodyPost_ret (results_tmp2 rfl _ _ _) rfl ?_
 obtain ⟨h9, h8⟩ : fitsI sm ∧ sm = 0 + by_ := by
  rcases hadd with ⟨-, h7, h6⟩ | ⟨h7, -⟩
  ·rw [addF_one] at h6
   split at h6
   ·cases h6; exact ⟨h7, rfl⟩
   cases h6
  cases h7
 exact ⟨sm, 0, rfl, .inr ⟨rfl, h9, 0, .inl ⟨Classical.not_not.1 hb5, rfl⟩, h8⟩, (hv).weak hP⟩
theorem h7al28 : AL Tryz.prog 28 [vI 0, vS [], vI 0, vN] := fun w => by kernel_rfl
theorem h7callable43 : Callable Tryz.prog 43 := cb Tryz.func43 (by kernel_rfl)
theorem h7callable76 : Callable Tryz.prog 76 := cb Tryz.func76 (by kernel_rfl)
theorem h7callable69 : Callable Tryz.prog 69 := cb Tryz.func69 (by kernel_rfl)
theorem chashText (B : Base) (H : List Res) (w : World) (ad : Option Addr) (c : Nat) (h : List Pr) (hr : RdV B [] ad (pairCells h)) (hm : h.length ≤ 1000000) (hs : SortedH h) (f : List UInt8) (hv : Inv B H w) :
  Calls Tryz.prog 48 #[.slice ad h.length c, vS f] w fun e w' => ∃ x : Leaf, e = .returned (.agg (leafN x).toArray) ∧ Inv B H w' := by
 refine cW Tryz.func48 rfl Tryz.ntmps48 ?_
 simp only [al]
 refine sK fun _ k1 => rL (sl_alloc tV (wn rfl) rfl hv h7al28 (fun b2 w3 hv => ?_))
 refine uW k1 (sK fun _ k4 => ?_)
 refine rL (uM rfl ?_)
 refine uM rfl ?_
 refine xC h7callable43 rfl ((hashGet B _ _ ad c h f [] (fun r9 h9 => absurd h9 List.not_mem_nil) (hr.rdW []) hs hm hv).mono ?_) rfl
 rintro e w5 ⟨rfl, hv⟩
 refine ⟨_, rfl, uM rfl ?_⟩
 refine uE rfl (uE rfl ?_)
 refine uA rfl (uA rfl ?_)
 refine uW k4 (sK fun _ k6 => ?_)
 refine sK fun _ k7 => rL (uM rfl ?_)
 refine uG (.bool (!((getH h f).isSome))) rfl (ex_not rfl rfl rfl) (uW k7 ?_)
 refine wpIn_cond_split (t := !((getH h f).isSome)) rfl (fun hc8 => ?_) (fun hc8 => ?_)
 ·refine sK fun _ k9 => rL (xC h7callable76 rfl ((respNone B _ _ hv).mono ?_) rfl)
  rintro e w10 ⟨rfl, hv⟩
  refine ⟨_, rfl, ?_⟩
  refine xS 0 rfl hv rssz28 rfl (by exact ⟨rfl, rfl, rfl, rfl, trivial⟩) (fun w11 hv => ?_)
  simp only [zO, sp] at hv
  refine uW k9 (rR ?_)
  refine tR (bC 0 rswd28 hv rfl rfl rfl rfl ?_)
  exact ⟨⟨4, ([] : List UInt8), 0⟩, rfl, (hv.kp [] 0 1)⟩
 refine kS (tK k6 ?_)
 refine sK fun _ k12 => rL (uM rfl ?_)
 refine xC h7callable69 rfl ((respStr B _ _ ((getH h f).getD []) hv).mono ?_) rfl
 rintro e w13 ⟨rfl, hv⟩
 refine ⟨_, rfl, ?_⟩
 refine xS 0 rfl hv rssz28 rfl (by exact ⟨rfl, rfl, rfl, rfl, trivial⟩) (fun w14 hv => ?_)
 simp only [zO, sp] at hv
 refine uW k12 (rR ?_)
 refine bC 0 rswd28 hv rfl rfl rfl rfl (⟨⟨3, (getH h f).getD [], 0⟩, rfl, (hv.kp [] 0 1)⟩)
theorem h7mk9 : (Tryz.prog.info? 9).map (fun i => (i.zero, i.size, i.bytes)) = some (some (vS []), 1, 16) := by kernel_rfl
theorem h7el22 : Elem Tryz.prog 22 9 (vS []) 1 16 := elem_of Tryz.underlying22 h7mk9 (by rfl) (by decide)
theorem h7al121 : AL Tryz.prog 121 [vS [], vS []] := fun w => by kernel_rfl
theorem chashFlat (B : Base) (H : List Res) (w : World) (ad : Option Addr) (c : Nat) (h : List Pr) (hr : RdV B [] ad (pairCells h)) (hm : h.length ≤ 1000000) (hv : Inv B H w) :
  Calls Tryz.prog 51 #[.slice ad h.length c] w fun e w' => ∃ C oa oc out, B.Le C ∧ e = .returned (.slice oa out.length oc) ∧ SliceOk oa out.length oc ∧ RdV C [] oa (textCells out) ∧ out = flatH h ∧ Inv C H w' := by
 refine cW Tryz.func51 rfl Tryz.ntmps51 ?_
 simp only [al]
 refine sK fun _ k1 => rL (uA rfl ?_)
 refine uW k1 (sK fun _ k2 => ?_)
 refine rL (uM rfl ?_)
 refine uG (vI (h.length : Int)) rfl (ex_len0 Tryz.underlying76 rfl rfl) ?_
 refine uG (vI ((2 * h.length : Nat) : Int)) rfl (ex_mul rfl rfl rfl (by rw [i64_in (by omega)]; omega)) ?_
 refine sl_makeRow (cap := (2 * h.length : Nat)) tV (wn rfl) rfl rfl rfl h7el22 (by unfold maxLen; omega) (by omega) hv (fun b3 w4 hv => ?_)
 refine uA rfl (uW k2 ?_)
 refine sK fun _ k5 => sK fun _ k6 => rL (uM rfl ?_)
 refine uG (vI (h.length : Int)) rfl (ex_len0 Tryz.underlying76 rfl rfl) (uM rfl ?_)
 refine uW k6 (bB ?_)
 gi_loopw [3, 12] (fun x3 x12 wr => ∃ (k : Nat) (out : List (List UInt8)) (ra : Option Addr) (rc : Nat), x3 = .slice ra out.length rc ∧ x12 = vI k ∧ k ≤ h.length ∧ out = flatH (h.take k) ∧ Inv B (Res.row 9 1 (.slice ra out.length rc) out.length (textCells out) :: H) wr) (fun x3 x12 _ => h.length - (intOf x12).toNat)
 case atStart => exact ⟨0, [], _, _, rfl, rfl, Nat.zero_le _, rfl, hv⟩
 case round =>
  obtain ⟨k, out, ra, rc, rfl, rfl, hk, hout, hv⟩ := hrel
  have hol : out.length ≤ 2 * h.length := by rw [hout, flatH_len, List.length_take]; omega
  refine sK fun _ k8 => rL ?_
  by_cases hb9 : (k : Int) < (h.length : Int)
  ·refine uG (.bool true) rfl (ex_lss rfl rfl rfl (qT hb9)) (uW k8 ?_)
   refine sK fun _ k10 => cT rfl (kS ?_)
   refine tK k10 (sK fun _ k11 => ?_)
   refine bB (sK fun _ k12 => ?_)
   obtain ⟨p, hp⟩ : ∃ x, h[k]? = some x := ⟨_, List.getElem?_eq_getElem (show k < h.length by omega)⟩
   obtain ⟨bb, bo, had, hrdp⟩ := pair_reads hr hp
   subst had
   refine rL (uG (.pointer (some ⟨bb, bo + k * 2, none⟩)) rfl (ex_index rfl rfl rfl (run_idx (k := k) Tryz.underlying76 s10es76 (by omega))) ?_)
   refine uL (.agg #[vS p.1, vS p.2]) rfl (run_loadR (cs := [vS p.1, vS p.2]) s10wd121 (Reads.mid (pre := []) (mid := [vS p.1, vS p.2]) (post := []) hrdp _ _ _ (Base.Le.refl _) no_res hv)) ?_
   refine sl_alloc tV (wn rfl) rfl hv h7al121 (fun b13 w14 hv => ?_)
   simp only [zP, po]
   refine xS 0 rfl hv s10sz121 rfl (by exact ⟨rfl, rfl, trivial⟩) (fun w15 hv => ?_)
   simp only [zO, sp] at hv
   refine uW k12 (rL ?_)
   refine uM rfl ?_
   refine uF (vP b13) rfl (s10fa121_0 _ _ _) ?_
   refine uL _ rfl (run_load1 s9na9 (hv.load 0 0 rfl rfl)) ?_
   refine uF (.pointer (some ⟨b13, 1, none⟩)) rfl (s10fa121_1 _ _ _) ?_
   refine uL _ rfl (run_load1 s9na9 (hv.load 0 1 rfl rfl)) ?_
   refine sl_rowN (pv := #[(0, vS p.1), (1, vS p.2)]) (L := [vS p.1, vS p.2]) (e := 9) tV (wn rfl) rfl (by simp only [List.map_toArray, List.map_cons, List.map_nil]; rfl) hv (fun w => by kernel_rfl) (fun b16 w17 hv => ?_)
   simp only [zP, po]
   replace hv := hv.front 2 rfl
   simp only [eS, eZ] at hv
   refine sl_append (news := [vS p.1, vS p.2]) tV (wn rfl) rfl rfl rfl h7el22 hv (ok_full (by omega)) rfl (rd_all (hv.get 1 rfl)) (by intro u hu; simp only [List.mem_cons, List.not_mem_nil, or_false] at hu; rcases hu with rfl | rfl <;> rfl) (by unfold maxLen; omega) (by omega) (fun rv18 w21 hv => ?_)
   obtain ⟨ra19, rc20, rfl⟩ := row_slice hv.head
   refine uA rfl (uZ ?_)
   refine bN (tK k11 ?_)
   refine rL (uG (vI ((k + 1 : Nat) : Int)) rfl (ex_add rfl rfl rfl (by rw [i64_in (by omega)]; omega)) ?_)
   refine uM rfl (uZ ?_)
   refine then_normal ?_
   go_roundw
   case rel => exact ⟨k + 1, out ++ [p.1, p.2], _, _, by rw [List.length_append]; rfl, rfl, by omega, by rw [hout, flatH_next hp], by rw [List.length_append, show textCells (out ++ [p.1, p.2]) = textCells out ++ [strV p.1, strV p.2] by simp [textCells]]; exact (hv.kp [] 1 2)⟩
   case measure => show h.length - (((k + 1 : Nat) : Int)).toNat < h.length - ((k : Int)).toNat; omega
  refine uG (.bool false) rfl (ex_lss rfl rfl rfl (qF hb9)) (uW k8 ?_)
  refine sK fun _ k22 => cF rfl (xE ?_)
  refine tX (tX ?_)
  refine bH (tK k5 ?_)
  refine sK fun _ k23 => rL (uM rfl ?_)
  refine uA rfl (uW k23 ?_)
  refine rR (bR rfl rfl ?_)
  obtain rfl : k = h.length := by omega
  rw [List.take_length] at hout
  obtain ⟨D, hD, hv, hro, hoko, -⟩ := (hv).rowBy
  exact ⟨D, ra, rc, out, hD, rfl, hoko, hro, hout, hv⟩
theorem hashV_at {B : Base} {l : List Pr} {la : Option Addr} {lc : Nat} (hr : RdV B [] la (pairCells l)) (hok : SliceOk la l.length lc) (hm : l.length ≤ 1000000) : ValAt B (hashV l) (.slice la l.length lc) (vN) (vN) :=
 ⟨⟨la, lc, rfl, hok, hr⟩, ⟨none, 0, rfl, ok_nilH, rdV_nil⟩, ⟨none, 0, rfl, ok_nilH, rdV_nil⟩, hm, Nat.zero_le _, Nat.zero_le _⟩
def HSetK (M : List (List UInt8 × Ver)) (clk : Int) (key : List UInt8) (y : Ver) (ps : List Pr) (M' : List (List UInt8 × Ver)) (r : Rp) : Prop :=
 ∃ out n e2, SetHI y.val.pairs ps out n e2 ∧ ((e2 ≠ 0 ∧ M' = M ∧ IsF r) ∨ (e2 = 0 ∧ ∃ e3, KeepI M clk key (hashV out) y.expire e3 M' ∧ DoneR e3 (rInt n) r))
theorem HSetK.cmd {M M' : List (List UInt8 × Ver)} {clk : Int} {key : List UInt8} {y : Ver} {ps : List Pr} {r : Rp} (hM : OkM M) (h : HSetK M clk key y ps M' r) : CmdR M M' r := by
 obtain ⟨out, n, e2, -, ⟨-, rfl, -⟩ | ⟨-, e3, hk, hd⟩⟩ := h
 ·exact ⟨hM, fun _ => rfl⟩
 exact hd.keep hM hk isF_int
theorem h8fa74_0 : FA Tryz.prog 74 0 0 := fun w b o => by kernel_rfl
theorem h8na24 (w : World) : (isAgg 24).run Tryz.prog w = .ok false w := by kernel_rfl
theorem h8fa74_1 : FA Tryz.prog 74 1 1 := fun w b o => by kernel_rfl
theorem h8callable29 : Callable Tryz.prog 29 := cb Tryz.func29 (by kernel_rfl)
theorem chashKeep (B : Base) (H : List Res) (w : World) (v t m s p wb : Nat) (va : Option Addr) (vc : Nat) (sv : Value) (clk : Int) (es : List (List UInt8 × Value)) (M : List (List UInt8 × Ver)) (hM : VM B es M) (aa : Option Addr) (ac : Nat) (args : List (List UInt8)) (hra : RdV B [] aa (textCells args)) (hoka : SliceOk aa args.length ac) (_ : args.length ≤ 10000) (key : List UInt8) (hkey : args[0]? = some key) (y : Ver) (pa : Option Addr) (pc : Nat) (yt yz : Value) (_ : ValAt B y.val (.slice pa y.val.pairs.length pc) yt yz) (la : Option Addr) (lc : Nat) (l : List Pr) (hrl : RdV B [] la (pairCells l)) (hokl : SliceOk la l.length lc) (hml : l.length ≤ 1000000) (hv : Inv B (Res.cell v [.iface 63 (vP t)] 40 :: txR t m s p wb va vc sv clk es :: H) w) :
  Calls Tryz.prog 47 #[.agg #[vP v, .slice aa args.length ac], .agg #[vI y.stamp, .bool y.gone, vI y.expire, vI y.val.kind, vS y.val.text, .slice pa y.val.pairs.length pc, yt, yz], .slice la l.length lc] w fun e w' => ∃ C es' M' ec, B.Le C ∧ e = .returned (vI ec) ∧ VM C es' M' ∧ KeepI M clk key (hashV l) y.expire ec M' ∧ Inv C (Res.cell v [.iface 63 (vP t)] 40 :: txR t m s p wb va vc sv clk es' :: H) w' := by
 refine cW Tryz.func47 rfl Tryz.ntmps47 ?_
 simp only [al]
 refine sK fun _ k1 => ?_
 have hal := (List.getElem?_eq_some_iff.1 hkey).1
 obtain ⟨ab, ao, had, hrdkey⟩ := text_reads hra hkey
 subst had
 refine rL (sl_box (L := [vP v, .slice (some ⟨ab, ao, none⟩) args.length ac]) tV (wn rfl) rfl rfl hv (fun w => by kernel_rfl) (fun b2 w3 hv => ?_))
 refine sl_box (L := [vI y.stamp, .bool y.gone, vI y.expire, vI y.val.kind, vS y.val.text, .slice pa y.val.pairs.length pc, yt, yz]) tV (wn rfl) rfl rfl hv (fun w => by kernel_rfl) (fun b4 w5 hv => ?_)
 refine uA rfl (uW k1 ?_)
 refine sK fun _ k6 => rW mixed [10] [0,1,2,3,4,5,6,7,8,9,10,11] 18 rfl (by kernel_rfl) hv ?_
 simp only [qm, opAt]
 refine dG (vP b2) rfl (ex_field rfl rfl (h8fa74_0 _ _ _)) (dL _ rfl (fun hv => ex_load rfl rfl (run_load1 h8na24 (hv.load 1 0 rfl rfl))) ?_)
 refine dG (.pointer (some ⟨b2, 1, none⟩)) rfl (ex_field rfl rfl (h8fa74_1 _ _ _)) ?_
 simp only [zP, po]
 refine dL _ rfl (fun hv => ex_load rfl rfl (run_load1 s1na22 (hv.load 1 1 rfl rfl))) (dG (.pointer (some ⟨ab, ao + 0, none⟩)) rfl (ex_index rfl rfl rfl (run_idx1 (k := 0) Tryz.underlying22 s9es22 (by omega))) ?_)
 refine dL _ rfl (fun hv => ex_load rfl rfl (run_load1 s9na9 (hrdkey _ _ _ (Base.Le.refl _) no_res hv 0 _ rfl))) ?_
 simp only [zP, po]
 refine dM (.slice la l.length lc) rfl (dG (.agg #[vI 2, vS [], .slice la l.length lc, vN, vN]) rfl (ex_buildN (vs := #[(0, vI 2), (2, .slice la l.length lc)]) rfl (by simp only [List.map_toArray, List.map_cons, List.map_nil]; rfl) (by kernel_rfl)) ?_)
 refine dG (.pointer (some ⟨b4, 2, none⟩)) rfl (ex_field rfl rfl (s2fa86_2 _ _ _)) ?_
 simp only [zP, po]
 refine dL _ rfl (fun hv => ex_load rfl rfl (run_load1 s2na3 (hv.load 0 2 rfl rfl))) (dS rfl fun w7 hv => ?_)
 replace hv := hv.front 3 rfl
 simp only [eS, eZ] at hv
 replace hv := hv.front 3 rfl
 simp only [eS, eZ] at hv
 refine mC h8callable29 rfl ((viewKeep B _ _ v t m s p wb va vc sv clk es M key (hashV l) _ _ _ y.expire hM (hashV_at hrl hokl hml) hv).mono ?_) rfl
 rintro e w8 ⟨C, es', M', ec, hC, rfl, hM', hk, hv⟩
 refine ⟨_, rfl, dW hv ?_⟩
 refine dA (vI ec) rfl (dE fun w9 hv => ?_)
 simp only [zP, po]
 refine tK k6 (rR ?_)
 refine bR rfl rfl (⟨C, es', M', ec, hC, rfl, hM', hk, (hv.kp [1, 1] 2 2)⟩)
theorem h8al28 : AL Tryz.prog 28 [vI 0, vS [], vI 0, vN] := fun w => by kernel_rfl
theorem h8mk121 : (Tryz.prog.info? 121).map (fun i => (i.zero, i.size, i.bytes)) = some (some (.agg #[vS [], vS []]), 2, 32) := by kernel_rfl
theorem h8el76 : Elem Tryz.prog 76 121 (.agg #[vS [], vS []]) 2 32 := elem_of Tryz.underlying76 h8mk121 (by rfl) (by decide)
theorem h8callable73 : Callable Tryz.prog 73 := cb Tryz.func73 (by kernel_rfl)
theorem h8wd74 : Wide Tryz.prog 74 2 := wide_of (fun w => by kernel_rfl) (by kernel_rfl)
theorem h8callable47 : Callable Tryz.prog 47 := cb Tryz.func47 (by kernel_rfl)
theorem h8callable44 : Callable Tryz.prog 44 := cb Tryz.func44 (by kernel_rfl)
theorem h8callable46 : Callable Tryz.prog 46 := cb Tryz.func46 (by kernel_rfl)
theorem chashSet (B : Base) (H : List Res) (w : World) (v t m s p wb : Nat) (va : Option Addr) (vc : Nat) (sv : Value) (clk : Int) (es : List (List UInt8 × Value)) (M : List (List UInt8 × Ver)) (hM : VM B es M) (aa : Option Addr) (ac : Nat) (args : List (List UInt8)) (hra : RdV B [] aa (textCells args)) (hoka : SliceOk aa args.length ac) (hma : args.length ≤ 10000) (key : List UInt8) (hkey : args[0]? = some key) (y : Ver) (pa : Option Addr) (pc : Nat) (yt yz : Value) (hyv : ValAt B y.val (.slice pa y.val.pairs.length pc) yt yz) (hokp : SliceOk pa y.val.pairs.length pc) (hrp : RdV B [] pa (pairCells y.val.pairs)) (hso : SortedH y.val.pairs) (fa : Option Addr) (fc : Nat) (fs : List (List UInt8)) (hrf : RdV B [] fa (textCells fs)) (hmf : fs.length ≤ 10000) (hv : Inv B (Res.cell v [.iface 63 (vP t)] 40 :: txR t m s p wb va vc sv clk es :: H) w) :
  Calls Tryz.prog 42 #[.agg #[vP v, .slice aa args.length ac], .agg #[vI y.stamp, .bool y.gone, vI y.expire, vI y.val.kind, vS y.val.text, .slice pa y.val.pairs.length pc, yt, yz], .slice fa fs.length fc] w fun e w' => ∃ C es' M' r cs, B.Le C ∧ e = .returned (.agg cs.toArray) ∧ RpAt C r cs ∧ VM C es' M' ∧ HSetK M clk key y (prsF fs) M' r ∧ Inv C (Res.cell v [.iface 63 (vP t)] 40 :: txR t m s p wb va vc sv clk es' :: H) w' := by
 refine cW Tryz.func42 rfl Tryz.ntmps42 ?_
 simp only [al]
 refine sK fun _ k1 => rL (sl_box (L := [vP v, .slice aa args.length ac]) tV (wn rfl) rfl rfl hv (fun w => by kernel_rfl) (fun b2 w3 hv => ?_))
 refine sl_box (L := [vI y.stamp, .bool y.gone, vI y.expire, vI y.val.kind, vS y.val.text, .slice pa y.val.pairs.length pc, yt, yz]) tV (wn rfl) rfl rfl hv (fun w => by kernel_rfl) (fun b4 w5 hv => ?_)
 refine sl_alloc tV (wn rfl) rfl hv h8al28 (fun b6 w7 hv => ?_)
 refine uW k1 (sK fun _ k8 => ?_)
 refine rL (uM rfl ?_)
 refine uG (vI (fs.length : Int)) rfl (ex_len0 Tryz.underlying22 rfl rfl) ?_
 refine uG (vI ((fs.length / 2 : Nat) : Int)) rfl (ex_quo (m := (fs.length : Int)) (n := 2) rfl rfl rfl (by decide) (by rw [Int.tdiv_eq_ediv_of_nonneg (by omega), i64_in (by omega)]; omega)) ?_
 refine sl_makeRow (cap := (fs.length / 2 : Nat)) tV (wn rfl) rfl rfl rfl h8el76 (by unfold maxLen; omega) (by omega) hv (fun b9 w10 hv => ?_)
 refine uA rfl (uW k8 ?_)
 refine sK fun _ k11 => sK fun _ k12 => rL (uA rfl ?_)
 refine uW k12 (bB ?_)
 gi_loopw [7, 8] (fun x7 x8 wr => ∃ (k : Nat) (ra : Option Addr) (rc : Nat) (ps : List Pr), x7 = .slice ra ps.length rc ∧ x8 = vI ((2 * k : Nat) : Int) ∧ 2 * k ≤ fs.length ∧ ps = prsF (fs.take (2 * k)) ∧ ps.length = k ∧ Inv B (Res.row 121 2 (.slice ra ps.length rc) ps.length (pairCells ps) :: Res.cell b6 [vI 0, vS [], vI 0, vN] 28 :: Res.cell b4 [vI y.stamp, .bool y.gone, vI y.expire, vI y.val.kind, vS y.val.text, .slice pa y.val.pairs.length pc, yt, yz] 86 :: Res.cell b2 [vP v, .slice aa args.length ac] 74 :: Res.cell v [.iface 63 (vP t)] 40 :: txR t m s p wb va vc sv clk es :: H) wr) (fun x7 x8 _ => fs.length - (intOf x8).toNat)
 case atStart => exact ⟨0, _, _, [], rfl, rfl, Nat.zero_le _, rfl, rfl, ((((((hv.front 5 rfl).front 5 rfl).front 5 rfl).front 5 rfl).front 5 rfl).front 5 rfl)⟩
 case round =>
  obtain ⟨k, ra, rc, ps, rfl, rfl, hk, hps, hpl, hv⟩ := hrel
  refine sK fun _ k14 => sK fun _ k15 => rL (uM rfl ?_)
  refine uG (vI ((2 * k + 1 : Nat) : Int)) rfl (ex_add rfl rfl rfl (by rw [i64_in (by omega)]; omega)) (uM rfl ?_)
  refine uG (vI (fs.length : Int)) rfl (ex_len0 Tryz.underlying22 rfl rfl) ?_
  by_cases hb16 : ((2 * k + 1 : Nat) : Int) < (fs.length : Int)
  ·refine uG (.bool true) rfl (ex_lss rfl rfl rfl (qT hb16)) (uW k15 ?_)
   refine cT rfl (kS ?_)
   refine tK k14 (sK fun _ k17 => ?_)
   refine bB ?_
   obtain ⟨f, hf⟩ : ∃ x, fs[(2 * k : Nat)]? = some x := ⟨_, List.getElem?_eq_getElem (show (2 * k : Nat) < fs.length by omega)⟩
   obtain ⟨fb, fo, had, hrdf⟩ := text_reads hrf hf
   subst had
   obtain ⟨t9, ht9⟩ : ∃ x, fs[(2 * k + 1 : Nat)]? = some x := ⟨_, List.getElem?_eq_getElem (show (2 * k + 1 : Nat) < fs.length by omega)⟩
   obtain ⟨b9, o9, had9, hrdt9⟩ := text_reads hrf ht9
   cases had9
   refine rW mixed [11, 12] [0,1,2,3,4,5,6,7,8,9,10,11,12,13] 56 rfl (by kernel_rfl) hv ?_
   simp only [qm, opAt]
   refine dM (.slice ra ps.length rc) rfl (dM (.slice (some ⟨fb, fo, none⟩) fs.length fc) rfl ?_)
   refine dM (vI ((2 * k : Nat) : Int)) rfl ?_
   simp only [zP, po]
   refine dG (.pointer (some ⟨fb, fo + (2 * k : Nat), none⟩)) rfl (ex_index rfl rfl rfl (run_idx1 (k := (2 * k : Nat)) Tryz.underlying22 s9es22 (by omega))) (dL _ rfl (fun hv => ex_load rfl rfl (run_load1 s9na9 (hrdf _ _ _ (Base.Le.refl _) no_res hv 0 _ rfl))) ?_)
   refine dM (.slice (some ⟨fb, fo, none⟩) fs.length fc) rfl ?_
   simp only [zP, po]
   refine dM (vI ((2 * k : Nat) : Int)) rfl (dG (vI ((2 * k + 1 : Nat) : Int)) rfl (ex_add rfl rfl rfl (by rw [i64_in (by omega)]; omega)) ?_)
   refine dG (.pointer (some ⟨fb, fo + (2 * k + 1 : Nat), none⟩)) rfl (ex_index rfl rfl rfl (run_idx1 (k := (2 * k + 1 : Nat)) Tryz.underlying22 s9es22 (by omega))) ?_
   simp only [zP, po]
   refine dL _ rfl (fun hv => ex_load rfl rfl (run_load1 s9na9 (hrdt9 _ _ _ (Base.Le.refl _) no_res hv 0 _ rfl))) (dG (.agg #[vS f, vS t9]) rfl (ex_buildN (vs := #[(0, vS f), (1, vS t9)]) rfl (by simp only [List.map_toArray, List.map_cons, List.map_nil]; rfl) (by kernel_rfl)) ?_)
   refine dS rfl fun w18 hv => mem_rowAgg (L := [vS f, vS t9]) rfl rfl rfl hv h8el76 rfl (by decide) (fun b19 w20 hv => ?_)
   refine dW hv ?_
   simp only [zP, po]
   refine dS rfl fun w21 hv => ?_
   replace hv := hv.front 1 rfl
   simp only [eS, eZ] at hv
   refine mem_append (news := [vS f, vS t9]) rfl rfl rfl rfl h8el76 hv (ok_full (by omega)) rfl (rd_all (hv.get 1 rfl)) (by intro u hu; simp only [List.mem_cons, List.not_mem_nil, or_false] at hu; rcases hu with rfl | rfl <;> rfl) (by unfold maxLen; omega) (by omega) (fun rv22 w25 hv => ?_)
   obtain ⟨ra23, rc24, rfl⟩ := row_slice hv.head
   refine dW hv (dA (.slice ra23 (ps.length + 1) rc24) rfl ?_)
   refine dE fun w26 hv => ?_
   simp only [zP, po]
   refine bN (tK k17 ?_)
   refine rL (uM rfl ?_)
   refine uG (vI ((2 * (k + 1) : Nat) : Int)) rfl (ex_add rfl rfl rfl (by rw [i64_in (by omega)]; omega)) (uA rfl ?_)
   refine uZ (then_normal ?_)
   go_roundw
   case rel => exact ⟨k + 1, _, _, ps ++ [(f, t9)], by rw [List.length_append, List.length_singleton], rfl, by omega, by rw [hps, prsF_next hf ht9], by rw [List.length_append, List.length_singleton, hpl], by rw [List.length_append, List.length_singleton, pairCells_app]; exact (hv.kp [6, 6, 6, 6, 6, 5] 6 1)⟩
   case measure => show fs.length - ((2 * (k + 1) : Nat) : Int).toNat < fs.length - ((2 * k : Nat) : Int).toNat; omega
  refine uG (.bool false) rfl (ex_lss rfl rfl rfl (qF hb16)) (uW k15 ?_)
  refine cF rfl (xE ?_)
  refine tX (tX ?_)
  refine bH (tK k11 ?_)
  refine sK fun _ k27 => rL (uF (.pointer (some ⟨b4, 3, none⟩)) rfl (x2fa86_3 _ _ _) ?_)
  refine uF (.pointer (some ⟨b4, 5, none⟩)) rfl (s1fa79_2 _ _ _) ?_
  refine uL _ rfl (run_load1 s1na76 (hv.load 2 5 rfl rfl)) (uM rfl ?_)
  obtain ⟨D, hD, hv, hrq, -, -⟩ := hv.rowBy
  have hpe : prsF fs = ps := by rw [hps]; exact prsF_end (by omega) (by omega)
  refine xC h8callable73 rfl ((hashSet D _ _ pa pc y.val.pairs hokp (hrp.more hD (fun _ h => h)) hyv.pm hso ra rc ps hrq (by omega) hv).mono ?_) rfl
  rintro e w28 ⟨F, oa, oc, out, n, e2, hF, rfl, hoko, hro, hset, hv⟩
  refine ⟨_, rfl, ?_⟩
  rw [← hpe] at hset
  have hol : out.length ≤ 1000000 := by
   rcases hset with ⟨-, rfl, -⟩ | ⟨-, -, -, h9, -⟩
   ·exact Nat.zero_le _
   omega
  refine uM rfl (uE rfl ?_)
  refine uE rfl (uE rfl ?_)
  refine uA rfl (uA rfl ?_)
  refine uA rfl (uW k27 ?_)
  refine sK fun _ k29 => sK fun _ k30 => rL (uM rfl ?_)
  by_cases hb31 : e2 ≠ 0
  ·refine uG (.bool true) rfl (ex_neq rfl rfl rfl (qT hb31)) (uW k30 ?_)
   refine cT rfl (sK fun _ k32 => ?_)
   refine rL (uM rfl ?_)
   refine xC rscallable24 rfl ((viewWrong F _ _ e2 hv).mono ?_) rfl
   rintro e w34 ⟨s33, rfl, hv⟩
   refine ⟨_, rfl, ?_⟩
   refine xS 0 rfl hv rssz28 rfl (by exact ⟨rfl, rfl, rfl, rfl, trivial⟩) (fun w35 hv => ?_)
   simp only [zO, sp] at hv
   refine uW k32 (rR ?_)
   refine tR (bC 0 rswd28 hv rfl rfl rfl rfl ?_)
   exact ⟨F, es, M, rFault s33, rpCells 1 s33 0 (vN), (hD.trans hF), rfl, rpAt_leaf, hM.more (hD.trans hF), ⟨out, n, e2, hset, .inl ⟨hb31, rfl, rfl⟩⟩, (hv.kp [4, 4] 2 3)⟩
  refine uG (.bool false) rfl (ex_neq rfl rfl rfl (qF hb31)) (uW k30 ?_)
  refine cF rfl (kS ?_)
  refine tK k29 (sK fun _ k36 => ?_)
  refine rL (uL (.agg #[vP v, .slice aa args.length ac]) rfl (lM 2 h8wd74 hv rfl rfl rfl rfl) ?_)
  refine uL (.agg #[vI y.stamp, .bool y.gone, vI y.expire, vI y.val.kind, vS y.val.text, .slice pa y.val.pairs.length pc, yt, yz]) rfl (lM 1 x0wd86 hv rfl rfl rfl rfl) (uM rfl ?_)
  replace hv := hv.front 4 rfl
  simp only [eS, eZ] at hv
  replace hv := hv.front 4 rfl
  simp only [eS, eZ] at hv
  refine xC h8callable47 rfl ((chashKeep F _ _ v t m s p wb va vc sv clk es M (hM.more (hD.trans hF)) aa ac args (hra.more (hD.trans hF) (fun _ h => h)) hoka (by omega) key hkey y pa pc _ _ (hyv.more (hD.trans hF)) oa oc out (hro.more (Base.Le.refl _) (fun _ h => h)) hoko (by omega) hv).mono ?_) rfl
  rintro e w37 ⟨G, es', M', e3, hG, rfl, hM', hkp, hv⟩
  refine ⟨_, rfl, uM rfl ?_⟩
  refine xC h8callable44 rfl ((respInt G _ _ n hv).mono ?_) rfl
  rintro e w38 ⟨rfl, hv⟩
  refine ⟨_, rfl, ?_⟩
  simp only [zP, po]
  refine xC h8callable46 rfl ((viewDone G _ _ e3 2 n ([] : List UInt8) (vN) rfl rfl hv).mono ?_) rfl
  rintro e w39 ⟨xr, hxr, rfl, hv⟩
  refine ⟨_, rfl, ?_⟩
  rcases hxr with ⟨hec0, rfl⟩ | ⟨hec0, s40, rfl⟩
  ·refine xS 2 rfl hv rssz28 rfl (by exact ⟨rfl, rfl, rfl, rfl, trivial⟩) (fun w41 hv => ?_)
   simp only [zS, zO, sp] at hv
   refine uW k36 (rR ?_)
   refine bC 2 rswd28 hv rfl rfl rfl rfl (⟨G, es', M', rInt n, rpCells 2 [] n (vN), ((hD.trans hF).trans hG), rfl, rpAt_leaf, hM'.more (Base.Le.refl _), ⟨out, n, e2, hset, .inr ⟨by omega, e3, hkp, .inl ⟨by omega, rfl⟩⟩⟩, (hv.kp [1, 1] 2 3)⟩)
  refine xS 2 rfl hv rssz28 rfl (by exact ⟨rfl, rfl, rfl, rfl, trivial⟩) (fun w42 hv => ?_)
  simp only [zS, zO, sp] at hv
  refine uW k36 (rR ?_)
  refine bC 2 rswd28 hv rfl rfl rfl rfl (⟨G, es', M', rFault s40, rpCells 1 s40 0 (vN), ((hD.trans hF).trans hG), rfl, rpAt_leaf, hM'.more (Base.Le.refl _), ⟨out, n, e2, hset, .inr ⟨by omega, e3, hkp, .inr ⟨by omega, rfl⟩⟩⟩, (hv.kp [1, 1] 2 3)⟩)
end Go.Proofs.YtffnhfkkochnhaaGreatDoor
