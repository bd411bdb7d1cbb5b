/- slices.Insert of one text; lists: Set, Insert. -/
import Derived.Test.YtmhdpjifhfoabaaGreatDoorClFauC
import Derived.Test.YtmhdpjifhfoabaaGreatDoorClFauJ
import Derived.Test.YtmhdpjifhfoabaaGreatDoorClFauB
import Derived.Test.YtmhdpjifhfoabaaGreatDoorRows
import Derived.Shelf.Sort.Plain
import Derived.Shelf.Slices.In.SortNone
import Derived.Ground.NamesProg
import Derived.Test.YtmhdpjifhfoabaaGreatDoorClFauE
import Derived.Sort.OwnSorted
set_option maxRecDepth 100000
set_option maxHeartbeats 16000000
set_option synthInstance.maxSize 4096
set_option synthInstance.maxHeartbeats 400000
namespace Go.Proofs.YtmhdpjifhfoabaaGreatDoor
open Go.RowKit Go.Pm
theorem i3mk9 : (Tryz.prog.info? 9).map (fun i => (i.zero, i.size, i.bytes)) = some (some (vS []), 1, 16) := by kernel_rfl
theorem i3el22 : Elem Tryz.prog 22 9 (vS []) 1 16 := elem_of Tryz.underlying22 i3mk9 (by rfl) (by decide)
theorem insTx (B : Base) (H : List Res) (w : World) (b c n i k q : Nat) (p d new : List Value) (hn1 : 1 ≤ n) (hnk : n = i + k) (hm : n ≤ 1000000) (hp : p.length = i * 1) (hd : d.length = k * 1) (hnew : new.length = 1) (_ : ∀ u ∈ p, u.oneCell' = true) (h1d : ∀ u ∈ d, u.oneCell' = true) (h1n : ∀ u ∈ new, u.oneCell' = true) (hv : Inv B (Res.row 9 1 (.slice (some ⟨b, 0, none⟩) n c) n (p ++ d) :: Res.cell q new 9 :: H) w) :
  Calls Tryz.prog 93 #[.slice (some ⟨b, 0, none⟩) n c, vI i, .slice (some ⟨q, 0, none⟩) 1 1] w fun e w' => ∃ b' c', e = .returned (.slice (some ⟨b', 0, none⟩) (n + 1) c') ∧ Inv B (Res.row 9 1 (.slice (some ⟨b', 0, none⟩) (n + 1) c') (n + 1) (p ++ new ++ d) :: H) w' := by
 have hnc : n ≤ c := (hv.rowOk).1.le
 refine cW Tryz.func93 rfl Tryz.ntmps93 ?_
 simp only [al]
 refine sK fun _ k1 => rL (uA rfl ?_)
 refine uW k1 (sK fun _ k2 => ?_)
 refine rL (uM rfl ?_)
 refine uM rfl ?_
 refine uG (sliced (some ⟨b, 0, none⟩) i n c 1) rfl (ex_slice (lo' := some (vI i)) rfl rfl (congrArg some rfl) rfl rfl (run_fromAny Tryz.underlying22 s9es22 (by omega))) (uW k2 ?_)
 refine sK fun _ k3 => rL (uG (.slice (some ⟨q, 0, none⟩) 1 1) rfl (ex_move rfl rfl) ?_)
 refine uG (vI 1) rfl (ex_len0 Tryz.underlying22 rfl rfl) (uA rfl ?_)
 refine uW k3 (sK fun _ k4 => ?_)
 refine sK fun _ k5 => rL (uM rfl ?_)
 refine uG (.bool false) rfl (ex_eql rfl rfl rfl (by decide)) (uW k5 ?_)
 refine cF rfl (kS ?_)
 refine tK k4 (sK fun _ k6 => ?_)
 refine rL (uM rfl ?_)
 refine uG (vI n) rfl (ex_len0 Tryz.underlying22 rfl rfl) (uA rfl ?_)
 refine uW k6 (sK fun _ k7 => ?_)
 refine sK fun _ k8 => rL (uM rfl ?_)
 refine uM rfl ?_
 by_cases hb9 : (i : Int) = (n : Int)
 ·refine uG (.bool true) rfl (ex_eql rfl rfl rfl (qT hb9)) (uW k8 ?_)
  refine cT rfl (sK fun _ k10 => ?_)
  refine rL (uM rfl ?_)
  refine uG (.slice (some ⟨q, 0, none⟩) 1 1) rfl (ex_move rfl rfl) ?_
  refine sl_append (news := new) tV (wn rfl) rfl rfl rfl i3el22 hv (ok_full (by omega)) (by rw [hnew]) (rd_all (hv.get 1 rfl)) (h1n) (by unfold maxLen; omega) (by omega) (fun rv11 w14 hv => ?_)
  obtain ⟨ra12, rc13, rfl⟩ := row_slice hv.head
  refine uA rfl (uW k10 ?_)
  refine rR (tR ?_)
  refine bR rfl rfl ?_
  obtain ⟨b3, hb3⟩ := row_some hv.head (by omega)
  subst hb3
  obtain rfl : d = [] := List.eq_nil_of_length_eq_zero (by rw [hd]; omega)
  have h9 := (hv.sub (sC _ (sD _ (sR _))))
  simp only [List.append_nil] at h9 ⊢
  exact ⟨b3, _, rfl, h9⟩
 refine uG (.bool false) rfl (ex_eql rfl rfl rfl (qF hb9)) (uW k8 ?_)
 refine cF rfl (kS ?_)
 refine tK k7 (sK fun _ k15 => ?_)
 refine sK fun _ k16 => rL (uM rfl ?_)
 refine uM rfl ?_
 refine uG (vI ((n + 1 : Nat) : Int)) rfl (ex_add rfl rfl rfl (by rw [i64_in (by omega)]; omega)) (uM rfl ?_)
 refine uG (vI c) rfl (ex_cap0 Tryz.underlying22 rfl rfl) ?_
 by_cases hb17 : ((n + 1 : Nat) : Int) > (c : Int)
 ·refine uG (.bool true) rfl (ex_gtr rfl rfl rfl (qT hb17)) (uW k16 ?_)
  refine cT rfl (sK fun _ k18 => ?_)
  refine rL (uM rfl ?_)
  refine uM rfl ?_
  refine uG (.slice (some ⟨b, 0, none⟩) i c) rfl (ex_slice (hi' := some (vI i)) rfl rfl rfl (congrArg some rfl) rfl (run_hi Tryz.underlying22 s9es22 (by omega))) (uM rfl ?_)
  refine uM rfl ?_
  refine uG (vI ((n + 1 : Nat) : Int)) rfl (ex_add rfl rfl rfl (by rw [i64_in (by omega)]; omega)) (uM rfl ?_)
  refine uG (vI ((k + 1 : Nat) : Int)) rfl (ex_sub rfl rfl rfl (by rw [i64_in (by omega)]; omega)) ?_
  refine sl_appendZ (m := i) (k := k + 1) (olds := p) tV (wn rfl) rfl rfl rfl i3el22 Tryz.underlying3 hv hp (by have h9 := (hv.rowOk).2.1.take (i * 1); rw [List.take_left' hp] at h9; exact h9) (by omega) (by omega) (by omega) (by omega) (fun b2 c2 zs w19 hc2 hc2m hzs hv => ?_)
  obtain ⟨z1, z2, rfl, hz1⟩ : ∃ z1 z2 : List Value, zs = z1 ++ z2 ∧ z1.length = 1 := ⟨zs.take 1, zs.drop 1, (List.take_append_drop _ _).symm, by rw [List.length_take, hzs]; omega⟩
  obtain ⟨z3, z4, rfl, hz3⟩ : ∃ z3 z4 : List Value, z2 = z3 ++ z4 ∧ z3.length = k * 1 := ⟨z2.take (k * 1), z2.drop (k * 1), (List.take_append_drop _ _).symm, by rw [List.length_append] at hzs; rw [List.length_take]; omega⟩
  refine uA rfl (uW k18 ?_)
  refine sK fun _ k20 => rL (uM rfl ?_)
  refine uM rfl ?_
  refine uG (.slice (some ⟨b2, 0 + i, none⟩) (i + (k + 1) - i) (c2 - i)) rfl (ex_slice (lo' := some (vI i)) rfl rfl (congrArg some rfl) rfl rfl (run_from1 Tryz.underlying22 s9es22 (by omega) (by omega))) ?_
  refine uG (.slice (some ⟨q, 0, none⟩) 1 1) rfl (ex_move rfl rfl) ?_
  refine sl_copyAt 0 (size := 1) (k := 1) (pre := p) (mid := z1) (post := z3 ++ z4) (cs := new) tV (wn rfl) rfl rfl rfl Tryz.underlying22 s12sz9 hv rfl (by simp only [List.append_assoc]) (by rw [hp]; omega) (by rw [hz1, hnew]) (by show 1 = min 1 _; omega) (by rw [hnew]) (rd_all (hv.get 2 rfl)) h1n (fun w21 hv => ?_)
  simp only [zO] at hv
  refine uW k20 (sK fun _ k22 => ?_)
  refine rW mixed [8] [0,1,2,3,4,5,6,7,8] 95 rfl (by kernel_rfl) hv ?_
  simp only [qm, opAt]
  refine dM (.slice (some ⟨b2, 0, none⟩) (i + (k + 1)) c2) rfl (dM (vI i) rfl ?_)
  refine dM (vI 1) rfl ?_
  simp only [zP, po]
  refine dG (vI ((i + 1 : Nat) : Int)) rfl (ex_add rfl rfl rfl (by rw [i64_in (by omega)]; omega)) (dG (.slice (some ⟨b2, 0 + (i + 1 : Nat), none⟩) (i + (k + 1) - (i + 1 : Nat)) (c2 - (i + 1 : Nat))) rfl (ex_slice (lo' := some (vI ((i + 1 : Nat) : Int))) rfl rfl (congrArg some rfl) rfl rfl (run_from1 Tryz.underlying22 s9es22 (by omega) (by omega))) ?_)
  refine dM (.slice (some ⟨b, 0, none⟩) n c) rfl ?_
  simp only [zP, po]
  refine dM (vI i) rfl (dG (.slice (some ⟨b, 0 + i, none⟩) (n - i) (c - i)) rfl (ex_slice (lo' := some (vI i)) rfl rfl (congrArg some rfl) rfl rfl (run_from1 Tryz.underlying22 s9es22 (by omega) (by omega))) ?_)
  refine dS rfl fun w23 hv => mem_copyAt 0 (size := 1) (k := k) (pre := p ++ new) (mid := z3) (post := z4) (cs := d) rfl rfl rfl rfl Tryz.underlying22 s12sz9 hv rfl (by simp only [List.append_assoc]) (by rw [List.length_append, hp, hnew]; omega) (by rw [hz3, hd]) (by show k = min _ _; omega) (hd) (by have h9 := (hv.front 1 rfl).rowOk.2.1.drop (i * 1); rw [List.drop_left' hp] at h9; rw [Nat.mul_one] at h9; exact h9) h1d (fun w24 hv => ?_)
  simp only [zO] at hv
  refine dW hv (dE fun w25 hv => ?_)
  simp only [zP, po]
  refine tK k22 (sK fun _ k26 => ?_)
  refine rL (uM rfl ?_)
  refine uA rfl (uW k26 ?_)
  refine rR (tR ?_)
  refine bR rfl rfl ?_
  have h9 := (hv.sub (sC _ (sD _ (sD _ (sR _)))))
  rw [show (p ++ new) ++ d ++ z4 = (p ++ new ++ d) ++ z4 by simp only [List.append_assoc]] at h9
  have h8 := h9.cellRow (n := n + 1) (c := c2) (size := 1) (by simp only [List.length_append, hp, hd, hnew] at hzs ⊢; omega) (by omega) hc2m
  rw [List.take_left' (by rw [List.length_append, List.length_append, hp, hd, hnew]; omega)] at h8
  rw [show i + (k + 1) = n + 1 by omega]
  exact ⟨b2, _, rfl, h8⟩
 refine uG (.bool false) rfl (ex_gtr rfl rfl rfl (qF hb17)) ?_
 obtain ⟨L, hL1, hL2, hL3, hL4, hv⟩ := hv.rowCell
 obtain ⟨t1, t2, hLe, ht1⟩ : ∃ t1 t2 : List Value, L = p ++ (d ++ (t1 ++ t2)) ∧ t1.length = 1 := ⟨(L.drop (n * 1)).take 1, (L.drop (n * 1)).drop 1, by rw [List.take_append_drop, ← List.append_assoc, ← hL2, List.take_append_drop], by rw [List.length_take, List.length_drop, hL1]; omega⟩
 subst hLe
 refine uW k16 (cF rfl ?_)
 refine kS (tK k15 ?_)
 refine sK fun _ k27 => rL (uM rfl ?_)
 refine uM rfl (uM rfl ?_)
 refine uG (vI ((n + 1 : Nat) : Int)) rfl (ex_add rfl rfl rfl (by rw [i64_in (by omega)]; omega)) ?_
 refine uG (.slice (some ⟨b, 0, none⟩) (n + 1 : Nat) c) rfl (ex_slice (hi' := some (vI ((n + 1 : Nat) : Int))) rfl rfl rfl (congrArg some rfl) rfl (run_hi Tryz.underlying22 s9es22 (by omega))) (uA rfl ?_)
 refine uW k27 (sK fun _ k28 => ?_)
 refine sK fun _ k29 => rL (uG (.slice (some ⟨q, 0, none⟩) 1 1) rfl (ex_move rfl rfl) ?_)
 refine uM rfl (uM rfl ?_)
 refine uM rfl ?_
 refine uG (vI ((i + 1 : Nat) : Int)) rfl (ex_add rfl rfl rfl (by rw [i64_in (by omega)]; omega)) ?_
 refine uG (.slice (some ⟨b, 0 + (i + 1 : Nat), none⟩) ((n + 1 : Nat) - (i + 1 : Nat)) (c - (i + 1 : Nat))) rfl (ex_slice (lo' := some (vI ((i + 1 : Nat) : Int))) rfl rfl (congrArg some rfl) rfl rfl (run_from1 Tryz.underlying22 s9es22 (by omega) (by omega))) ?_
 have hov : (callFunc 103 #[.slice (some ⟨q, 0, none⟩) 1 1, .slice (some ⟨b, 0 + (i + 1 : Nat), none⟩) ((n + 1 : Nat) - (i + 1 : Nat)) (c - (i + 1 : Nat))]).run Tryz.prog w = .ok (.value (.bool false)) w := by
  rw [run_callFunc_extern Tryz.func103 (by kernel_rfl) (by kernel_rfl) (by kernel_rfl) (e := Extern.SlicesOverlaps.overlaps #[22, 22] #[4]) (by kernel_rfl), overlaps_cells (tR := 4) (size := 1) Tryz.underlying22 (Go.Pm.run_sizeOf s12sz9) (hv.get 1 rfl) (hv.get 0 rfl) hv.ne2.symm (by intro h9; have := congrArg List.length h9; simp [ht1] at this)]
  rfl
 refine uG (.bool false) rfl (ex_extern (args := #[.slice (some ⟨q, 0, none⟩) 1 1, .slice (some ⟨b, 0 + (i + 1 : Nat), none⟩) ((n + 1 : Nat) - (i + 1 : Nat)) (c - (i + 1 : Nat))]) rfl (by simp only [List.map_toArray, List.map_cons, List.map_nil]; rfl) hov) ?_
 refine uG (.bool true) rfl (ex_not rfl rfl rfl) (uW k29 ?_)
 refine cT rfl (sK fun _ k30 => ?_)
 refine rW mixed [8] [0,1,2,3,4,5,6,7,8] 95 rfl (by kernel_rfl) hv ?_
 simp only [qm, opAt]
 refine dM (.slice (some ⟨b, 0, none⟩) (n + 1 : Nat) c) rfl (dM (vI i) rfl ?_)
 refine dM (vI 1) rfl ?_
 simp only [zP, po]
 refine dG (vI ((i + 1 : Nat) : Int)) rfl (ex_add rfl rfl rfl (by rw [i64_in (by omega)]; omega)) (dG (.slice (some ⟨b, 0 + (i + 1 : Nat), none⟩) ((n + 1 : Nat) - (i + 1 : Nat)) (c - (i + 1 : Nat))) rfl (ex_slice (lo' := some (vI ((i + 1 : Nat) : Int))) rfl rfl (congrArg some rfl) rfl rfl (run_from1 Tryz.underlying22 s9es22 (by omega) (by omega))) ?_)
 refine dM (.slice (some ⟨b, 0, none⟩) (n + 1 : Nat) c) rfl ?_
 simp only [zP, po]
 refine dM (vI i) rfl (dG (.slice (some ⟨b, 0 + i, none⟩) ((n + 1 : Nat) - i) (c - i)) rfl (ex_slice (lo' := some (vI i)) rfl rfl (congrArg some rfl) rfl rfl (run_from1 Tryz.underlying22 s9es22 (by omega) (by omega))) ?_)
 refine dS rfl fun w31 hv => mem_copyAt 0 (size := 1) (k := k) (pre := p ++ (d ++ t1).take 1) (mid := (d ++ t1).drop 1) (post := t2) (cs := d) rfl rfl rfl rfl Tryz.underlying22 s12sz9 hv rfl (by rw [List.append_assoc p, List.take_append_drop]; simp only [List.append_assoc]) (by rw [List.length_append, List.length_take, List.length_append, hp, hd, ht1]; omega) (by rw [List.length_drop, List.length_append, hd, ht1]; omega) (by show k = min _ _; omega) (hd) (src_mid (pre := p) (mid := d) (post := t1 ++ t2) (by have h9 := hv.get 0 rfl; simpa only [List.append_assoc] using h9) (by rw [hp]; omega)) h1d (fun w32 hv => ?_)
 simp only [zO] at hv
 refine dW hv (dE fun w33 hv => ?_)
 simp only [zP, po]
 refine tK k30 (sK fun _ k34 => ?_)
 refine rL (uM rfl ?_)
 refine uM rfl ?_
 refine uG (.slice (some ⟨b, 0 + i, none⟩) ((n + 1 : Nat) - i) (c - i)) rfl (ex_slice (lo' := some (vI i)) rfl rfl (congrArg some rfl) rfl rfl (run_from1 Tryz.underlying22 s9es22 (by omega) (by omega))) ?_
 refine uG (.slice (some ⟨q, 0, none⟩) 1 1) rfl (ex_move rfl rfl) ?_
 refine sl_copyAt 0 (size := 1) (k := 1) (pre := p) (mid := (d ++ t1).take 1) (post := d ++ t2) (cs := new) tV (wn rfl) rfl rfl rfl Tryz.underlying22 s12sz9 hv rfl (by simp only [List.append_assoc]) (by rw [hp]; omega) (by rw [List.length_take, List.length_append, hd, ht1, hnew]; omega) (by show 1 = min 1 _; omega) (by rw [hnew]) (rd_all (hv.get 1 rfl)) h1n (fun w35 hv => ?_)
 simp only [zO] at hv
 refine uW k34 (sK fun _ k36 => ?_)
 refine rL (uM rfl ?_)
 refine uA rfl (uW k36 ?_)
 refine rR (tR ?_)
 refine bR rfl rfl ?_
 have h9 := (hv.sub (sC _ (sD _ (sR _))))
 rw [show p ++ new ++ (d ++ t2) = (p ++ new ++ d) ++ t2 by simp only [List.append_assoc]] at h9
 have h8 := h9.cellRow (n := n + 1) (c := c) (size := 1) (by simp only [List.length_append, hp, hd, hnew] at hL1 ⊢; omega) (by omega) hL4
 rw [List.take_left' (by rw [List.length_append, List.length_append, hp, hd, hnew]; omega)] at h8
 exact ⟨b, _, rfl, h8⟩
theorem nil_ok : SliceOk none 0 0 := ⟨Nat.le_refl _, Nat.zero_le _, fun _ => rfl⟩
theorem listSet (B : Base) (H : List Res) (w : World) (la : Option Addr) (lc : Nat) (l : Tx) (hokl : SliceOk la l.length lc) (hrl : RdV B [] la (textCells l)) (hml : l.length ≤ 1000000) (i : Int) (hi : -9223372036854775808 ≤ i ∧ i ≤ 9223372036854775807) (s : List UInt8) (hv : Inv B H w) :
  Calls Tryz.prog 81 #[.slice la l.length lc, vI i, vS s] w fun e w' => ∃ C oa oc out ec, B.Le C ∧ e = .returned (.tuple #[.slice oa out.length oc, vI ec]) ∧ SliceOk oa out.length oc ∧ RdV C [] oa (textCells out) ∧ out.length ≤ 1000000 ∧ Inv C H w' := by
 refine cW Tryz.func81 rfl Tryz.ntmps81 ?_
 simp only [al]
 refine sK fun _ k1 => rL (uA rfl ?_)
 refine uA rfl (uW k1 ?_)
 refine sK fun _ k2 => rL (uM rfl ?_)
 refine uM rfl ?_
 refine uG (vI (l.length : Int)) rfl (ex_len0 Tryz.underlying22 rfl rfl) ?_
 refine xC i1callable90 rfl ((numPlace B _ _ i (by omega) l.length hml hv).mono ?_) rfl
 rintro e w3 ⟨at9, ok, rfl, hpl, hv⟩
 refine ⟨_, rfl, ?_⟩
 rcases hpl with ⟨rfl, hp0, hp1⟩ | rfl
 ·obtain ⟨j, rfl⟩ : ∃ j : Nat, at9 = (j : Int) := ⟨at9.toNat, by omega⟩
  refine uM rfl (uE rfl ?_)
  refine uE rfl (uA rfl ?_)
  refine uA rfl (uW k2 ?_)
  refine sK fun _ k4 => sK fun _ k5 => rL (uM rfl ?_)
  refine uG (.bool false) rfl (ex_not rfl rfl rfl) (uW k5 ?_)
  refine cF rfl (kS ?_)
  refine tK k4 (sK fun _ k6 => ?_)
  refine sK fun _ k7 => rL (uM rfl ?_)
  by_cases hq8 : s.length > 4096
  ·refine xC s9callable92 rfl ((calls_bool (listLong B _ _ s hv) (qT hq8)).mono ?_) rfl
   rintro e w9 ⟨rfl, hv⟩
   refine ⟨_, rfl, uW k7 ?_⟩
   refine cT rfl (sK fun _ k10 => ?_)
   refine rL (uA rfl ?_)
   refine uA rfl (uW k10 ?_)
   refine rR (tR ?_)
   refine bodyPost_ret (results_tmp2 rfl _ _ _) rfl (⟨B, none, 0, [], 12, Base.Le.refl _, rfl, nil_ok, rdV_nil, Nat.zero_le _, hv⟩)
  refine xC s9callable92 rfl ((calls_bool (listLong B _ _ s hv) (qF hq8)).mono ?_) rfl
  rintro e w11 ⟨rfl, hv⟩
  refine ⟨_, rfl, uW k7 ?_⟩
  refine cF rfl (kS ?_)
  refine tK k6 (sK fun _ k12 => ?_)
  refine rL (uM rfl ?_)
  refine xC s1callable88 rfl ((cloneOwn B _ _ la l.length lc (textCells l) hokl (textCells_len _) (textCells_one _) (hml) hrl hv).mono ?_) rfl
  rintro e w13 ⟨v9, rfl, hv⟩
  refine ⟨_, rfl, ?_⟩
  obtain ⟨va, vc, rfl⟩ := row_slice hv.head
  refine uA rfl (uW k12 ?_)
  refine sK fun _ k14 => ?_
  obtain ⟨rb, had9⟩ := row_some hv.head (by omega)
  subst had9
  refine rL (uM rfl ?_)
  refine uM rfl (uM rfl ?_)
  refine uG (.pointer (some ⟨rb, 0 + j, none⟩)) rfl (ex_index rfl rfl rfl (run_idx1 (k := j) Tryz.underlying22 s9es22 (by omega))) ?_
  refine sl_storeRow (v := strV s) tV (wn rfl) rfl rfl rfl hv s12sz9 (by rw [textCells_len]; omega) rfl rfl (fun w15 hv => ?_)
  refine uW k14 (sK fun _ k16 => ?_)
  refine rL (uM rfl ?_)
  refine uA rfl (uA rfl ?_)
  refine uW k16 (rR ?_)
  refine bodyPost_ret (results_tmp2 rfl _ _ _) rfl ?_
  rw [tx_set] at hv
  have hls : (l.set (0 + j) s).length = l.length := List.length_set
  obtain ⟨D, hD, hv, hro, hoko, -⟩ := (hv).rowBy
  exact ⟨D, _, vc, l.set (0 + j) s, 0, hD, by show Ending.returned (Value.tuple #[.slice (some ⟨rb, 0, none⟩) l.length vc, vI 0]) = _; rw [hls], by rw [hls]; exact hoko, hro, by rw [hls]; exact hml, hv⟩
 refine uM rfl (uE rfl ?_)
 refine uE rfl (uA rfl ?_)
 refine uA rfl (uW k2 ?_)
 refine sK fun _ k17 => sK fun _ k18 => rL (uM rfl ?_)
 refine uG (.bool true) rfl (ex_not rfl rfl rfl) (uW k18 ?_)
 refine cT rfl (sK fun _ k19 => ?_)
 refine rL (uA rfl ?_)
 refine uA rfl (uW k19 ?_)
 refine rR (tR ?_)
 refine bodyPost_ret (results_tmp2 rfl _ _ _) rfl (⟨B, none, 0, [], 23, Base.Le.refl _, rfl, nil_ok, rdV_nil, Nat.zero_le _, hv⟩)
theorem i3callable91 : Callable Tryz.prog 91 := cb Tryz.func91 (by kernel_rfl)
theorem i3callable93 : Callable Tryz.prog 93 := cb Tryz.func93 (by kernel_rfl)
theorem listInsert (B : Base) (H : List Res) (w : World) (la : Option Addr) (lc : Nat) (l : Tx) (hokl : SliceOk la l.length lc) (hrl : RdV B [] la (textCells l)) (hml : l.length ≤ 1000000) (bf : Bool) (pv s : List UInt8) (hv : Inv B H w) :
  Calls Tryz.prog 70 #[.slice la l.length lc, .bool bf, vS pv, vS s] w fun e w' => ∃ C oa oc out ok ec, B.Le C ∧ e = .returned (.tuple #[.slice oa out.length oc, .bool ok, vI ec]) ∧ SliceOk oa out.length oc ∧ RdV C [] oa (textCells out) ∧ out.length ≤ 1000000 ∧ Inv C H w' := by
 refine cW Tryz.func70 rfl Tryz.ntmps70 ?_
 simp only [al]
 refine sK fun _ k1 => rL (uA rfl ?_)
 refine uA rfl (uA rfl ?_)
 refine uW k1 (sK fun _ k2 => ?_)
 refine rL (uM rfl ?_)
 refine uM rfl ?_
 refine xC i3callable91 rfl ((slicesIndex B _ _ la lc l hokl hrl hml pv hv).mono ?_) rfl
 rintro e w3 ⟨r, rfl, hr0, hr1, hv⟩
 refine ⟨_, rfl, uA rfl ?_⟩
 refine uW k2 (sK fun _ k4 => ?_)
 refine sK fun _ k5 => rL (uM rfl ?_)
 by_cases hb6 : r < 0
 ·refine uG (.bool true) rfl (ex_lss rfl rfl rfl (qT hb6)) (uW k5 ?_)
  refine cT rfl (sK fun _ k7 => ?_)
  refine rL (uM rfl ?_)
  refine xC s1callable88 rfl ((cloneOwn B _ _ la l.length lc (textCells l) hokl (textCells_len _) (textCells_one _) (hml) hrl hv).mono ?_) rfl
  rintro e w8 ⟨v9, rfl, hv⟩
  refine ⟨_, rfl, ?_⟩
  obtain ⟨va, vc, rfl⟩ := row_slice hv.head
  refine uA rfl (uA rfl ?_)
  refine uA rfl (uW k7 ?_)
  refine rR (tR ?_)
  refine bodyPost_ret (results_tmp3 rfl _ _ _) rfl ?_
  obtain ⟨D, hD, hv, hro, hoko, -⟩ := (hv).rowBy
  exact ⟨D, _, vc, l, false, 0, hD, rfl, hoko, hro, hml, hv⟩
 refine uG (.bool false) rfl (ex_lss rfl rfl rfl (qF hb6)) (uW k5 ?_)
 refine cF rfl (kS ?_)
 refine tK k4 (sK fun _ k9 => ?_)
 refine sK fun _ k10 => rL (uM rfl ?_)
 by_cases hq11 : s.length > 4096
 ·refine xC s9callable92 rfl ((calls_bool (listLong B _ _ s hv) (qT hq11)).mono ?_) rfl
  rintro e w12 ⟨rfl, hv⟩
  refine ⟨_, rfl, uW k10 ?_⟩
  refine cT rfl (sK fun _ k13 => ?_)
  refine rL (uA rfl ?_)
  refine uA rfl (uA rfl ?_)
  refine uW k13 (rR ?_)
  refine tR (bodyPost_ret (results_tmp3 rfl _ _ _) rfl ?_)
  exact ⟨B, none, 0, [], false, 12, Base.Le.refl _, rfl, nil_ok, rdV_nil, Nat.zero_le _, hv⟩
 refine xC s9callable92 rfl ((calls_bool (listLong B _ _ s hv) (qF hq11)).mono ?_) rfl
 rintro e w14 ⟨rfl, hv⟩
 refine ⟨_, rfl, uW k10 ?_⟩
 refine cF rfl (kS ?_)
 refine tK k9 (sK fun _ k15 => ?_)
 refine sK fun _ k16 => rL (uM rfl ?_)
 refine uG (vI (l.length : Int)) rfl (ex_len0 Tryz.underlying22 rfl rfl) ?_
 by_cases hb17 : (l.length : Int) ≥ 512
 ·refine uG (.bool true) rfl (ex_geq rfl rfl rfl (qT hb17)) (uW k16 ?_)
  refine cT rfl (sK fun _ k18 => ?_)
  refine rL (uA rfl ?_)
  refine uA rfl (uA rfl ?_)
  refine uW k18 (rR ?_)
  refine tR (bodyPost_ret (results_tmp3 rfl _ _ _) rfl ?_)
  exact ⟨B, none, 0, [], false, 22, Base.Le.refl _, rfl, nil_ok, rdV_nil, Nat.zero_le _, hv⟩
 refine uG (.bool false) rfl (ex_geq rfl rfl rfl (qF hb17)) (uW k16 ?_)
 refine cF rfl (kS ?_)
 refine tK k15 (sK fun _ k19 => ?_)
 refine sK fun _ k20 => rL (uM rfl ?_)
 refine uG (.bool (!bf)) rfl (ex_not rfl rfl rfl) (uW k20 ?_)
 refine wpIn_cond_split (t := !bf) rfl (fun hc21 => ?_) (fun hc21 => ?_)
 ·refine rL (uM rfl ?_)
  refine uG (vI (r + 1)) rfl (ex_add rfl rfl rfl (i64_in (by omega))) (uA rfl ?_)
  refine uW k19 (sK fun _ k22 => ?_)
  refine rL (uM rfl ?_)
  refine xC s1callable88 rfl ((cloneOwn B _ _ la l.length lc (textCells l) hokl (textCells_len _) (textCells_one _) (hml) hrl hv).mono ?_) rfl
  rintro e w23 ⟨v9, rfl, hv⟩
  refine ⟨_, rfl, ?_⟩
  obtain ⟨va, vc, rfl⟩ := row_slice hv.head
  refine uM rfl (uM rfl ?_)
  refine sl_rowOne (v := vS s) tV (wn rfl) rfl rfl hv i3el22 rfl (fun b24 w25 hv => ?_)
  replace hv := hv.front 1 rfl
  simp only [eS, eZ] at hv
  obtain ⟨rb, had9⟩ := row_some hv.head (by omega)
  subst had9
  obtain ⟨j, hj⟩ : ∃ j : Nat, r + 1 = (j : Int) := ⟨(r + 1).toNat, by omega⟩
  rw [hj]
  rw [show textCells l = textCells (l.take j) ++ textCells (l.drop j) by rw [← tx_take, ← tx_drop, List.take_append_drop]] at hv
  refine xC i3callable93 rfl ((insTx B _ _ rb vc l.length j (l.length - j) b24 _ _ [strV s] (by omega) (by omega) (by omega) (by rw [textCells_len, List.length_take]; omega) (by rw [textCells_len, List.length_drop]) rfl (textCells_one _) (textCells_one _) (one_cons rfl one_nil) hv).mono ?_) rfl
  rintro e w26 ⟨nb, nc, rfl, hv⟩
  refine ⟨_, rfl, uA rfl ?_⟩
  refine uA rfl (uA rfl ?_)
  refine uW k22 (rR ?_)
  refine bodyPost_ret (results_tmp3 rfl _ _ _) rfl ?_
  have hls : (l.take j ++ [s] ++ l.drop j).length = l.length + 1 := by simp only [List.length_append, List.length_take, List.length_drop, List.length_cons, List.length_nil]; omega
  rw [show textCells (l.take j) ++ [strV s] ++ textCells (l.drop j) = textCells (l.take j ++ [s] ++ l.drop j) by simp [textCells]] at hv
  obtain ⟨D, hD, hv, hro, hoko, -⟩ := (hv).rowBy
  exact ⟨D, _, nc, l.take j ++ [s] ++ l.drop j, true, 0, hD, by show Ending.returned (Value.tuple #[.slice (some ⟨nb, 0, none⟩) (l.length + 1) nc, Value.bool true, vI 0]) = _; rw [hls], by rw [hls]; exact hoko, hro, by rw [hls]; omega, hv⟩
 refine kS (tK k19 ?_)
 refine sK fun _ k27 => rL (uM rfl ?_)
 refine xC s1callable88 rfl ((cloneOwn B _ _ la l.length lc (textCells l) hokl (textCells_len _) (textCells_one _) (hml) hrl hv).mono ?_) rfl
 rintro e w28 ⟨v9, rfl, hv⟩
 refine ⟨_, rfl, ?_⟩
 obtain ⟨va, vc, rfl⟩ := row_slice hv.head
 refine uM rfl (uM rfl ?_)
 refine sl_rowOne (v := vS s) tV (wn rfl) rfl rfl hv i3el22 rfl (fun b29 w30 hv => ?_)
 replace hv := hv.front 1 rfl
 simp only [eS, eZ] at hv
 obtain ⟨rb, had9⟩ := row_some hv.head (by omega)
 subst had9
 obtain ⟨j, hj⟩ : ∃ j : Nat, r = (j : Int) := ⟨(r).toNat, by omega⟩
 rw [hj]
 rw [show textCells l = textCells (l.take j) ++ textCells (l.drop j) by rw [← tx_take, ← tx_drop, List.take_append_drop]] at hv
 refine xC i3callable93 rfl ((insTx B _ _ rb vc l.length j (l.length - j) b29 _ _ [strV s] (by omega) (by omega) (by omega) (by rw [textCells_len, List.length_take]; omega) (by rw [textCells_len, List.length_drop]) rfl (textCells_one _) (textCells_one _) (one_cons rfl one_nil) hv).mono ?_) rfl
 rintro e w31 ⟨nb, nc, rfl, hv⟩
 refine ⟨_, rfl, uA rfl ?_⟩
 refine uA rfl (uA rfl ?_)
 refine uW k27 (rR ?_)
 refine bodyPost_ret (results_tmp3 rfl _ _ _) rfl ?_
 have hls : (l.take j ++ [s] ++ l.drop j).length = l.length + 1 := by simp only [List.length_append, List.length_take, List.length_drop, List.length_cons, List.length_nil]; omega
 rw [show textCells (l.take j) ++ [strV s] ++ textCells (l.drop j) = textCells (l.take j ++ [s] ++ l.drop j) by simp [textCells]] at hv
 obtain ⟨D, hD, hv, hro, hoko, -⟩ := (hv).rowBy
 exact ⟨D, _, nc, l.take j ++ [s] ++ l.drop j, true, 0, hD, by show Ending.returned (Value.tuple #[.slice (some ⟨nb, 0, none⟩) (l.length + 1) nc, Value.bool true, vI 0]) = _; rw [hls], by rw [hls]; exact hoko, hro, by rw [hls]; omega, hv⟩
end Go.Proofs.YtmhdpjifhfoabaaGreatDoor
namespace Go.Proofs
open Go.Shelf
def Tryz.laysSortI_ren : Go.Shelf.Ren := ⟨fun | 189 => 101 | 125 => 111 | 257 => 110 | 128 => 125 | 129 => 126 | 294 => 116 | 295 => 117 | 296 => 118 | 297 => 119 | 298 => 120 | 299 => 121 | 216 => 122 | 300 => 123 | 301 => 124 | 328 => 133 | 329 => 134 | 330 => 135 | 331 => 136 | 332 => 137 | 215 => 138 | 343 => 148 | n => n, fun | 28 => 149 | 3 => 3 | 46 => 199 | 0 => 0 | 51 => 212 | 53 => 214 | 4 => 4 | 183 => 205 | 182 => 204 | 131 => 165 | 5 => 5 | 9 => 9 | 218 => 221 | 222 => 225 | 228 => 236 | 229 => 186 | n => n, fun | n => n⟩
theorem Tryz.laysSortI : Go.Proofs.Lays.n189 Tryz.prog Tryz.laysSortI_ren := {
 mixed := by kernel_rfl
 f125 := Tryz.func111.trans (congrArg some (by kernel_rfl))
 f128 := Tryz.func125.trans (congrArg some (by kernel_rfl))
 f129 := Tryz.func126.trans (congrArg some (by kernel_rfl))
 f189 := Tryz.func101.trans (congrArg some (by kernel_rfl))
 f215 := Tryz.func138.trans (congrArg some (by kernel_rfl))
 f216 := Tryz.func122.trans (congrArg some (by kernel_rfl))
 f257 := Tryz.func110.trans (congrArg some (by kernel_rfl))
 f294 := Tryz.func116.trans (congrArg some (by kernel_rfl))
 f295 := Tryz.func117.trans (congrArg some (by kernel_rfl))
 f296 := Tryz.func118.trans (congrArg some (by kernel_rfl))
 f297 := Tryz.func119.trans (congrArg some (by kernel_rfl))
 f298 := Tryz.func120.trans (congrArg some (by kernel_rfl))
 f299 := Tryz.func121.trans (congrArg some (by kernel_rfl))
 f300 := Tryz.func123.trans (congrArg some (by kernel_rfl))
 f301 := Tryz.func124.trans (congrArg some (by kernel_rfl))
 f328 := Tryz.func133.trans (congrArg some (by kernel_rfl))
 f329 := Tryz.func134.trans (congrArg some (by kernel_rfl))
 f330 := Tryz.func135.trans (congrArg some (by kernel_rfl))
 f331 := Tryz.func136.trans (congrArg some (by kernel_rfl))
 f332 := Tryz.func137.trans (congrArg some (by kernel_rfl))
 f343 := Tryz.func148.trans (congrArg some (by kernel_rfl))
 t0 := Tryz.underlying0
 a0 := Tryz.isAgg0
 z0 := Tryz.sizeOf0
 v0 := Tryz.zeroValue0
 t3 := Tryz.underlying3
 a3 := Tryz.isAgg3
 z3 := Tryz.sizeOf3
 v3 := Tryz.zeroValue3
 t4 := Tryz.underlying4
 a4 := Tryz.isAgg4
 z4 := Tryz.sizeOf4
 v4 := Tryz.zeroValue4
 t5 := Tryz.underlying5
 a5 := Tryz.isAgg5
 z5 := Tryz.sizeOf5
 v5 := Tryz.zeroValue5
 t9 := Tryz.underlying9
 a9 := Tryz.isAgg9
 z9 := Tryz.sizeOf9
 v9 := Tryz.zeroValue9
 t28 := Tryz.underlying149
 a28 := Tryz.isAgg149
 z28 := Tryz.sizeOf149
 v28 := Tryz.zeroValue149
 t46 := Tryz.underlying199
 a46 := Tryz.isAgg199
 z46 := Tryz.sizeOf199
 v46 := Tryz.zeroValue199
 t51 := Tryz.underlying212
 a51 := Tryz.isAgg212
 z51 := Tryz.sizeOf212
 v51 := Tryz.zeroValue212
 t53 := Tryz.underlying214
 a53 := Tryz.isAgg214
 z53 := Tryz.sizeOf214
 v53 := Tryz.zeroValue214
 t131 := Tryz.underlying165
 a131 := Tryz.isAgg165
 z131 := Tryz.sizeOf165
 v131 := Tryz.zeroValue165
 t182 := Tryz.underlying204
 a182 := Tryz.isAgg204
 z182 := Tryz.sizeOf204
 v182 := Tryz.zeroValue204
 t183 := Tryz.underlying205
 a183 := Tryz.isAgg205
 z183 := Tryz.sizeOf205
 v183 := Tryz.zeroValue205
 t218 := Tryz.underlying221
 a218 := Tryz.isAgg221
 z218 := Tryz.sizeOf221
 v218 := Tryz.zeroValue221
 t222 := Tryz.underlying225
 a222 := Tryz.isAgg225
 z222 := Tryz.sizeOf225
 v222 := Tryz.zeroValue225
 t228 := Tryz.underlying236
 a228 := Tryz.isAgg236
 z228 := Tryz.sizeOf236
 v228 := Tryz.zeroValue236
 t229 := Tryz.underlying186
 a229 := Tryz.isAgg186
 z229 := Tryz.sizeOf186
 v229 := Tryz.zeroValue186 }
end Go.Proofs
namespace Go.Proofs.YtmhdpjifhfoabaaGreatDoor
open Go.RowKit Go.Pm Go.Sort Go.Shelf
abbrev encI : Int → Value := Value.int .i64
theorem holds_ints {w : World} {g : Nat} {cur : Array Value} {e : TypeId} {ss : List Int} (hb : w.heap[g]? = some (.cells cur e (0, 0))) (ht : cur.toList.take ss.length = ss.map encI) : Holds encI w g 0 ss.toArray := by
 intro j hj
 have hj' : j < ss.length := by simpa using hj
 refine ⟨?_, by simp [World.frozen?, hb]⟩
 have h1 : (cur.toList.take ss.length)[j]? = (ss.map encI)[j]? := by rw [ht]
 rw [List.getElem?_take_of_lt hj'] at h1
 simp only [World.cell?, hb, Nat.zero_add]
 simp only [Option.isSome_none, Bool.false_eq_true, if_false]
 rw [← Array.getElem?_toList, h1]
 simp [hj']
theorem heap_ints {w : World} {g n : Nat} {os : Array Obj} {cur : Array Value} {e : TypeId} {fr : Nat × Nat} (d : Array Int) (hb : w.heap[g]? = some (.cells cur e fr)) :
  (grow (putRow encI (Sort.ahead w n) g 0 d) os).heap[g]? = some (.cells (putCells encI 0 d cur) e fr) := by
 have hg : g < w.heap.size := (Array.getElem?_eq_some_iff.1 hb).1
 rw [heap_grow_old _ _ (by simpa using hg)]
 simp [putRow, mapBlock, Sort.ahead, Array.getElem?_modify, hb, onCells]
theorem grownBy_ints {w : World} {g n : Nat} {os : Array Obj} (d : Array Int) : w.grownBy (grow (putRow encI (Sort.ahead w n) g 0 d) os) (some g) := by
 refine ⟨rfl, rfl, rfl, by simp, fun k hk hne => ?_⟩
 rw [heap_grow_old _ _ (by simpa using hk)]
 have : g ≠ k := fun e => hne (by rw [e])
 simp [putRow, mapBlock, Sort.ahead, Array.getElem?_modify, this]
theorem take_ints (cur : Array Value) (ts : List Int) (h : ts.length ≤ cur.size) : (putCells encI 0 ts.toArray cur).toList.take ts.length = ts.map encI := by
 apply List.ext_getElem?
 intro j
 by_cases hj : j < ts.length
 ·rw [List.getElem?_take_of_lt hj, Array.getElem?_toList]
  simp [putCells, hj, show j < cur.size by omega]
 rw [List.getElem?_take_eq_none (by omega), List.getElem?_eq_none (by simp; omega)]
theorem ownsRow_ints {w : World} {base g cap n : Nat} {e : TypeId} {os : Array Obj} {cur : Array Value} {ss ts : List Int} (hl : ts.length = ss.length) (hbase : base ≤ g) (hb : w.heap[g]? = some (.cells cur e (0, 0)))
  (h1 : ss.length ≤ cap) (h2 : cap ≤ maxLen) (h3 : cur.size = cap * 1) :
  (grow (putRow encI (Sort.ahead w n) g 0 ts.toArray) os).ownsRow base e 1 (.slice (some ⟨g, 0, none⟩) ss.length cap) ss.length (ts.map encI) :=
 ⟨by simp [hl], .inr ⟨g, cap, _, rfl, hbase, heap_ints _ hb, h1, h2, by simp [putCells, h3], by rw [Nat.mul_one, ← hl]; exact take_ints cur ts (by omega)⟩⟩
theorem intCells_map (l : List Int) : intCells l = l.map encI := by
 unfold intCells
 induction l with
 | nil => rfl
 | cons n l ih => rw [List.flatMap_cons, ih]; rfl
theorem sortInts (B : Base) (H : List Res) (w : World) (v : Value) (l : List Int) (hm : l.length ≤ 1000000) (hv : Pm.Inv B (Res.row 3 1 v l.length (intCells l) :: H) w) :
  Calls Tryz.prog 101 #[v] w fun e w' => ∃ ts : List Int, e = .returned (.tuple #[]) ∧ ts.length = l.length ∧ Pm.Inv B (Res.row 3 1 v l.length (intCells ts) :: H) w' := by
 rw [intCells_map] at hv
 rcases (hv.head : w.ownsRow 0 3 1 v l.length (l.map encI)).2 with ⟨rfl, hz⟩ | ⟨g, cap, cur, rfl, h0, hgb, r1, r2, r3, r4⟩
 ·have hl : l = [] := List.eq_nil_of_length_eq_zero hz
  subst hl
  refine (Any.slices_Sort_int_none Tryz.laysSortI none 0 w).mono ?_
  rintro e w' ⟨rfl, rfl⟩
  exact ⟨[], rfl, rfl, by simpa [intCells_map] using hv⟩
 have hH : Holds encI w g 0 l.toArray := holds_ints hgb (by rw [Nat.mul_one] at r4; exact r4)
 refine (Any.slices_Sort_int Tryz.laysSortI g 0 cap l w hH (Array.getElem?_eq_some_iff.1 hgb).1 (by omega)).mono ?_
 rintro e w' ⟨rfl, n, os, rfl⟩
 have hgr := grownBy_ints (w := w) (g := g) (n := n) (os := os) (l.mergeSort fun x y => decide (x ≤ y)).toArray
 have hr := ownsRow_ints (n := n) (os := os) (ss := l) (ts := l.mergeSort fun x y => decide (x ≤ y)) (by simp) h0 hgb r1 r2 r3
 refine ⟨l.mergeSort fun x y => decide (x ≤ y), rfl, List.length_mergeSort _, ?_⟩
 rw [intCells_map]
 exact hv.upd _ ⟨hgr.os, hgr.tape, hgr.output, hgr.size, fun k hk hn => hgr.block k hk (fun e => hn (by cases e; simp [Value.ownBlock]))⟩ hr (fun b hb => .inl hb) (fun b hb => Nat.lt_of_lt_of_le (hv.headLt b hb) hgr.size) (by simp [Value.ownBlock])
theorem i4na149 (w : World) : (isAgg 149).run Tryz.prog w = .ok false w := by kernel_rfl
theorem i4mk3 : (Tryz.prog.info? 3).map (fun i => (i.zero, i.size, i.bytes)) = some (some (vI 0), 1, 8) := by kernel_rfl
theorem i4el149 : Elem Tryz.prog 149 3 (vI 0) 1 8 := elem_of Tryz.underlying149 i4mk3 (by rfl) (by decide)
theorem i4sz149 : (Tryz.prog.info? 149).map (·.size) = some 1 := by kernel_rfl
theorem findFn (B : Base) (H : List Res) (w : World) (b1 b2 b3 b4 b5 : Nat) (la : Option Addr) (lc : Nat) (l : Tx) (hokl : SliceOk la l.length lc) (hrl : RdV B [] la (textCells l)) (_ : l.length ≤ 1000000) (s : List UInt8) (sk mo : Int) (hsk : -9223372036854775808 ≤ sk ∧ sk ≤ 9223372036854775807) (ra : Option Addr) (rc : Nat) (out : List Int) (hol : out.length ≤ 1000000) (i : Nat) (hi : i < l.length) (hv : Inv B (Res.cell b1 [.slice la l.length lc] 22 :: Res.cell b2 [vS s] 9 :: Res.cell b3 [vI sk] 3 :: Res.cell b4 [.slice ra out.length rc] 149 :: Res.cell b5 [vI mo] 3 :: Res.row 3 1 (.slice ra out.length rc) out.length (intCells out) :: H) w) :
  Calls Tryz.prog 100 #[vI i, vP b1, vP b2, vP b3, vP b4, vP b5] w fun e w' => ∃ (sk' : Int) (out' : List Int) (ra' : Option Addr) (rc' : Nat) (bl : Bool), e = .returned (.bool bl) ∧ (-9223372036854775808 ≤ sk' ∧ sk' ≤ 9223372036854775807) ∧ out'.length ≤ out.length + 1 ∧ Inv B (Res.cell b1 [.slice la l.length lc] 22 :: Res.cell b2 [vS s] 9 :: Res.cell b3 [vI sk'] 3 :: Res.cell b4 [.slice ra' out'.length rc'] 149 :: Res.cell b5 [vI mo] 3 :: Res.row 3 1 (.slice ra' out'.length rc') out'.length (intCells out') :: H) w' := by
 refine cW Tryz.func100 rfl Tryz.ntmps100 ?_
 simp only [al]
 refine sK fun _ k1 => rL (uA rfl ?_)
 refine uW k1 (sK fun _ k2 => ?_)
 refine bB (sK fun _ k3 => ?_)
 obtain ⟨x, hx⟩ : ∃ x, l[i]? = some x := ⟨_, List.getElem?_eq_getElem (show i < l.length by omega)⟩
 obtain ⟨xb, xo, had, hrdx⟩ := text_reads hrl hx
 subst had
 refine rW mixed [] [0,1,2,3,4,5,6] 32 rfl (by kernel_rfl) hv ?_
 simp only [qm, opAt]
 refine dL _ rfl (fun hv => ex_load rfl rfl (run_load1 s1na22 (hv.load 0 0 rfl rfl))) (dM (vI i) rfl ?_)
 refine dG (.pointer (some ⟨xb, xo + i, none⟩)) rfl (ex_index rfl rfl rfl (run_idx1 (k := i) Tryz.underlying22 s9es22 (by omega))) ?_
 simp only [zP, po]
 refine dL _ rfl (fun hv => ex_load rfl rfl (run_load1 s9na9 (hrdx _ _ _ (Base.Le.refl _) no_res hv 0 _ rfl))) (dL _ rfl (fun hv => ex_load rfl rfl (run_load1 s9na9 (hv.load 1 0 rfl rfl))) ?_)
 by_cases hb4 : x ≠ s
 ·refine dG (.bool true) rfl (ex_sneq rfl rfl rfl (qT hb4)) ?_
  simp only [zP, po]
  refine dA (.bool true) rfl (dE fun w5 hv => ?_)
  simp only [zP, po]
  refine tK k3 (cT rfl ?_)
  refine kS (bN ?_)
  refine tK k2 (sK fun _ k6 => ?_)
  refine rL (uL _ rfl (run_load1 s2na3 (hv.load 4 0 rfl rfl)) ?_)
  by_cases hb7 : mo < 1
  ·refine uG (.bool true) rfl (ex_lss rfl rfl rfl (qT hb7)) (uM rfl ?_)
   iterate 4 refine uP rfl ?_
   refine uK rfl (uA rfl ?_)
   refine uW k6 (rR ?_)
   refine bR rfl rfl (⟨sk, out, _, _, true, rfl, by omega, by omega, ((((((hv.front 5 rfl).front 5 rfl).front 5 rfl).front 5 rfl).front 5 rfl).front 5 rfl)⟩)
  refine uG (.bool false) rfl (ex_lss rfl rfl rfl (qF hb7)) (uM rfl ?_)
  refine uL _ rfl (run_load1 i4na149 (hv.load 3 0 rfl rfl)) ?_
  refine uG (vI (out.length : Int)) rfl (ex_len0 Tryz.underlying149 rfl rfl) ?_
  refine uL _ rfl (run_load1 s2na3 (hv.load 4 0 rfl rfl)) ?_
  by_cases hb8 : (out.length : Int) < mo
  ·refine uG (.bool true) rfl (ex_lss rfl rfl rfl (qT hb8)) (uK rfl ?_)
   refine uA rfl (uW k6 ?_)
   refine rR (bR rfl rfl ?_)
   exact ⟨sk, out, _, _, true, rfl, by omega, by omega, ((((((hv.front 5 rfl).front 5 rfl).front 5 rfl).front 5 rfl).front 5 rfl).front 5 rfl)⟩
  refine uG (.bool false) rfl (ex_lss rfl rfl rfl (qF hb8)) (uK rfl ?_)
  refine uA rfl (uW k6 ?_)
  refine rR (bR rfl rfl ?_)
  exact ⟨sk, out, _, _, false, rfl, by omega, by omega, ((((((hv.front 5 rfl).front 5 rfl).front 5 rfl).front 5 rfl).front 5 rfl).front 5 rfl)⟩
 refine dG (.bool false) rfl (ex_sneq rfl rfl rfl (qF hb4)) ?_
 simp only [zP, po]
 refine dA (.bool false) rfl (dE fun w9 hv => ?_)
 simp only [zP, po]
 refine tK k3 (cF rfl ?_)
 refine sK fun _ k10 => rL (uL _ rfl (run_load1 s2na3 (hv.load 2 0 rfl rfl)) ?_)
 by_cases hb11 : sk > 0
 ·refine uG (.bool true) rfl (ex_gtr rfl rfl rfl (qT hb11)) (uA rfl ?_)
  refine uW k10 (cT rfl ?_)
  refine rL (uL _ rfl (run_load1 s2na3 (hv.load 2 0 rfl rfl)) ?_)
  refine uG (vI (sk - 1)) rfl (ex_sub rfl rfl rfl (i64_in (by omega))) ?_
  refine xV 2 (vI (sk - 1)) rfl hv x3sz3 rfl rfl (fun w12 hv => ?_)
  simp only [zS, zO, sp] at hv
  refine uZ (bN ?_)
  refine tK k2 (sK fun _ k13 => ?_)
  refine rL (uL _ rfl (run_load1 s2na3 (hv.load 4 0 rfl rfl)) ?_)
  by_cases hb14 : mo < 1
  ·refine uG (.bool true) rfl (ex_lss rfl rfl rfl (qT hb14)) (uM rfl ?_)
   iterate 4 refine uP rfl ?_
   refine uK rfl (uA rfl ?_)
   refine uW k13 (rR ?_)
   refine bR rfl rfl (⟨sk - 1, out, _, _, true, rfl, by omega, by omega, ((((((hv.front 5 rfl).front 5 rfl).front 5 rfl).front 5 rfl).front 5 rfl).front 5 rfl)⟩)
  refine uG (.bool false) rfl (ex_lss rfl rfl rfl (qF hb14)) (uM rfl ?_)
  refine uL _ rfl (run_load1 i4na149 (hv.load 3 0 rfl rfl)) ?_
  refine uG (vI (out.length : Int)) rfl (ex_len0 Tryz.underlying149 rfl rfl) ?_
  refine uL _ rfl (run_load1 s2na3 (hv.load 4 0 rfl rfl)) ?_
  by_cases hb15 : (out.length : Int) < mo
  ·refine uG (.bool true) rfl (ex_lss rfl rfl rfl (qT hb15)) (uK rfl ?_)
   refine uA rfl (uW k13 ?_)
   refine rR (bR rfl rfl ?_)
   exact ⟨sk - 1, out, _, _, true, rfl, by omega, by omega, ((((((hv.front 5 rfl).front 5 rfl).front 5 rfl).front 5 rfl).front 5 rfl).front 5 rfl)⟩
  refine uG (.bool false) rfl (ex_lss rfl rfl rfl (qF hb15)) (uK rfl ?_)
  refine uA rfl (uW k13 ?_)
  refine rR (bR rfl rfl ?_)
  exact ⟨sk - 1, out, _, _, false, rfl, by omega, by omega, ((((((hv.front 5 rfl).front 5 rfl).front 5 rfl).front 5 rfl).front 5 rfl).front 5 rfl)⟩
 refine uG (.bool false) rfl (ex_gtr rfl rfl rfl (qF hb11)) (uA rfl ?_)
 refine uW k10 (cF rfl ?_)
 refine rL (uL _ rfl (run_load1 i4na149 (hv.load 3 0 rfl rfl)) ?_)
 refine uM rfl ?_
 refine sl_rowOne (v := vI i) tV (wn rfl) rfl rfl hv i4el149 rfl (fun b16 w17 hv => ?_)
 simp only [zP, po]
 replace hv := hv.front 6 rfl
 simp only [eS, eZ] at hv
 refine sl_append (news := [vI i]) tV (wn rfl) rfl rfl rfl i4el149 hv (ok_full (by omega)) rfl (rd_all (hv.get 1 rfl)) (by intro u hu; simp only [List.mem_cons, List.not_mem_nil, or_false] at hu; rcases hu with rfl <;> rfl) (by unfold maxLen; omega) (by omega) (fun rv18 w21 hv => ?_)
 obtain ⟨ra19, rc20, rfl⟩ := row_slice hv.head
 refine xV 5 (.slice ra19 (out.length + 1) rc20) rfl hv i4sz149 rfl rfl (fun w22 hv => ?_)
 simp only [zS, zO, sp] at hv
 refine uZ (bN ?_)
 refine tK k2 (sK fun _ k23 => ?_)
 refine rL (uL _ rfl (run_load1 s2na3 (hv.load 6 0 rfl rfl)) ?_)
 by_cases hb24 : mo < 1
 ·refine uG (.bool true) rfl (ex_lss rfl rfl rfl (qT hb24)) (uM rfl ?_)
  iterate 4 refine uP rfl ?_
  refine uK rfl (uA rfl ?_)
  refine uW k23 (rR ?_)
  refine bR rfl rfl (⟨sk, out ++ [(i : Int)], _, _, true, rfl, by omega, by rw [List.length_append, List.length_singleton]; omega, by rw [List.length_append, List.length_singleton, ← int_snoc]; exact (hv.kp [6, 6, 6, 6, 6] 6 1)⟩)
 refine uG (.bool false) rfl (ex_lss rfl rfl rfl (qF hb24)) (uM rfl ?_)
 refine uL _ rfl (run_load1 i4na149 (hv.load 5 0 rfl rfl)) ?_
 refine uG (vI ((out.length + 1) : Int)) rfl (ex_len0 Tryz.underlying149 rfl rfl) ?_
 refine uL _ rfl (run_load1 s2na3 (hv.load 6 0 rfl rfl)) ?_
 by_cases hb25 : ((out.length + 1) : Int) < mo
 ·refine uG (.bool true) rfl (ex_lss rfl rfl rfl (qT hb25)) (uK rfl ?_)
  refine uA rfl (uW k23 ?_)
  refine rR (bR rfl rfl ?_)
  exact ⟨sk, out ++ [(i : Int)], _, _, true, rfl, by omega, by rw [List.length_append, List.length_singleton]; omega, by rw [List.length_append, List.length_singleton, ← int_snoc]; exact (hv.kp [6, 6, 6, 6, 6] 6 1)⟩
 refine uG (.bool false) rfl (ex_lss rfl rfl rfl (qF hb25)) (uK rfl ?_)
 refine uA rfl (uW k23 ?_)
 refine rR (bR rfl rfl ?_)
 exact ⟨sk, out ++ [(i : Int)], _, _, false, rfl, by omega, by rw [List.length_append, List.length_singleton]; omega, by rw [List.length_append, List.length_singleton, ← int_snoc]; exact (hv.kp [6, 6, 6, 6, 6] 6 1)⟩
theorem i4al149 : AL Tryz.prog 149 [vN] := fun w => by kernel_rfl
theorem i4al3 : AL Tryz.prog 3 [vI 0] := fun w => by kernel_rfl
theorem i4callable100 : Callable Tryz.prog 100 := cb Tryz.func100 (by kernel_rfl)
theorem listFind (B : Base) (H : List Res) (w : World) (la : Option Addr) (lc : Nat) (l : Tx) (hokl : SliceOk la l.length lc) (hrl : RdV B [] la (textCells l)) (hml : l.length ≤ 1000000) (s : List UInt8) (rk mo : Int) (hrk : -9223372036854775808 ≤ rk ∧ rk ≤ 9223372036854775807) (hv : Inv B H w) :
  Calls Tryz.prog 79 #[.slice la l.length lc, vS s, vI rk, vI mo] w fun e w' => ∃ (ra : Option Addr) (rc : Nat) (out : List Int), e = .returned (.slice ra out.length rc) ∧ out.length ≤ l.length ∧ Inv B (Res.row 3 1 (.slice ra out.length rc) out.length (intCells out) :: H) w' := by
 refine cW Tryz.func79 rfl Tryz.ntmps79 ?_
 simp only [al]
 refine sK fun _ k1 => rL (sl_box (L := [.slice la l.length lc]) tV (wn rfl) rfl rfl hv (fun w => by kernel_rfl) (fun b2 w3 hv => ?_))
 refine sl_box (L := [vS s]) tV (wn rfl) rfl rfl hv (fun w => by kernel_rfl) (fun b4 w5 hv => ?_)
 refine sl_box (L := [vI mo]) tV (wn rfl) rfl rfl hv (fun w => by kernel_rfl) (fun b6 w7 hv => ?_)
 refine uA rfl (uW k1 ?_)
 refine sK fun _ k8 => sK fun _ k9 => rL (uM rfl ?_)
 by_cases hb10 : rk = 0
 ·refine uG (.bool true) rfl (ex_eql rfl rfl rfl (qT hb10)) (uW k9 ?_)
  refine cT rfl (sK fun _ k11 => ?_)
  refine rL (uA rfl ?_)
  refine uW k11 (rR ?_)
  refine tR (bR rfl rfl ?_)
  exact ⟨none, 0, [], rfl, Nat.zero_le _, ((hv.kp [] 0 3)).rowNil 3 1⟩
 refine uG (.bool false) rfl (ex_eql rfl rfl rfl (qF hb10)) (uW k9 ?_)
 refine cF rfl (kS ?_)
 refine tK k8 (sK fun _ k12 => ?_)
 refine rL (sl_alloc tV (wn rfl) rfl hv i4al149 (fun b13 w14 hv => ?_))
 refine uW k12 (sK fun _ k15 => ?_)
 refine rL (uM rfl ?_)
 refine uG (vI (IntKind.i64.wrap (rk - 1))) rfl (ex_sub rfl rfl rfl (rfl)) ?_
 refine sl_alloc tV (wn rfl) rfl hv i4al3 (fun b16 w17 hv => ?_)
 simp only [zP, po]
 refine xV 0 (vI (IntKind.i64.wrap (rk - 1))) rfl hv x3sz3 rfl rfl (fun w18 hv => ?_)
 simp only [zO, sp] at hv
 refine uW k15 (sK fun _ k19 => ?_)
 refine sK fun _ k20 => rL (uM rfl ?_)
 by_cases hb21 : rk < 0
 ·refine uG (.bool true) rfl (ex_lss rfl rfl rfl (qT hb21)) (uW k20 ?_)
  refine cT rfl (rL ?_)
  refine uM rfl ?_
  refine uG (vI (rk + 1)) rfl (ex_add rfl rfl rfl (i64_in (by omega))) ?_
  refine uG (vI (-(rk + 1))) rfl (ex_neg (m := (rk + 1)) rfl rfl (by rw [i64_in (by omega)]; omega)) ?_
  refine xV 0 (vI (-(rk + 1))) rfl hv x3sz3 rfl rfl (fun w22 hv => ?_)
  simp only [zO, sp] at hv
  refine uW k19 (sK fun _ k23 => ?_)
  refine rL (uG (.func (.func 100) #[] #[vP b2, vP b4, vP b16, vP b13, vP b6]) rfl (ex_makeFunc (c' := #[vP b2, vP b4, vP b16, vP b13, vP b6]) rfl (by simp only [List.map_toArray, List.map_nil]) (by simp only [List.map_toArray, List.map_cons, List.map_nil]; rfl)) ?_)
  refine uA rfl (uW k23 ?_)
  refine sK fun _ k24 => sK fun _ k25 => rL (uM rfl ?_)
  by_cases hb26 : rk > 0
  ·refine uG (.bool true) rfl (ex_gtr rfl rfl rfl (qT hb26)) (uW k25 ?_)
   refine cT rfl (sK fun _ k27 => ?_)
   refine sK fun _ k28 => rL (uA rfl ?_)
   refine uW k28 (bB ?_)
   gi_loopw [12] (fun x12 wr => ∃ (i : Nat) (sk : Int) (ra : Option Addr) (rc : Nat) (out : List Int), x12 = vI i ∧ i ≤ l.length ∧ out.length ≤ i ∧ (-9223372036854775808 ≤ sk ∧ sk ≤ 9223372036854775807) ∧ Inv B (Res.cell b2 [.slice la l.length lc] 22 :: Res.cell b4 [vS s] 9 :: Res.cell b16 [vI sk] 3 :: Res.cell b13 [.slice ra out.length rc] 149 :: Res.cell b6 [vI mo] 3 :: Res.row 3 1 (.slice ra out.length rc) out.length (intCells out) :: H) wr) (fun x12 _ => l.length - (intOf x12).toNat)
   case atStart => exact ⟨0, (-(rk + 1)), none, 0, [], rfl, Nat.zero_le _, Nat.zero_le _, by omega, ((((((((((((hv.front 2 rfl).front 2 rfl).front 2 rfl).front 3 rfl).front 4 rfl)).rowNil 3 1).front 5 rfl).front 5 rfl).front 5 rfl).front 5 rfl).front 5 rfl)⟩
   case round =>
    obtain ⟨i, sk, ra, rc, out, rfl, hi, hol, hsk, hv⟩ := hrel
    refine sK fun _ k30 => sK fun _ k31 => rL (uM rfl ?_)
    refine uL _ rfl (run_load1 s1na22 (hv.load 0 0 rfl rfl)) ?_
    refine uG (vI (l.length : Int)) rfl (ex_len0 Tryz.underlying22 rfl rfl) ?_
    by_cases hb32 : (i : Int) < (l.length : Int)
    ·refine uG (.bool true) rfl (ex_lss rfl rfl rfl (qT hb32)) (uM rfl ?_)
     refine uM rfl ?_
     refine uM rfl ?_
     replace hv := hv.front 5 rfl
     simp only [eS, eZ] at hv
     replace hv := hv.front 5 rfl
     simp only [eS, eZ] at hv
     replace hv := hv.front 5 rfl
     simp only [eS, eZ] at hv
     replace hv := hv.front 5 rfl
     simp only [eS, eZ] at hv
     replace hv := hv.front 5 rfl
     simp only [eS, eZ] at hv
     replace hv := hv.front 5 rfl
     simp only [eS, eZ] at hv
     refine wpi_callV i4callable100 tV wideC rfl (wanted_of (j := 4) (d := 30) (b := true) rfl rfl rfl) rfl rfl (args := #[vI i]) (by simp only [List.map_toArray, List.map_cons, List.map_nil]; rfl) (((show Calls Tryz.prog 100 (#[vI i] ++ #[vP b2, vP b4, vP b16, vP b13, vP b6]) _ _ from findFn B _ _ b2 b4 b16 b13 b6 la lc l hokl hrl hml s sk mo hsk ra rc out (by omega) i (by omega) hv)).mono ?_)
     rintro e w33 ⟨sk2, out2, ra2, rc2, bl, rfl, hsk2, hol2, hv⟩
     refine ⟨_, rfl, ?_⟩
     cases bl
     ·refine uK rfl (uW k31 ?_)
      refine cF rfl (xE ?_)
      refine tX (tX ?_)
      refine bH (tK k27 ?_)
      refine sK fun _ k34 => rL (uL _ rfl (run_load1 i4na149 (hv.load 3 0 rfl rfl)) ?_)
      refine uA rfl (uW k34 ?_)
      refine rR (tR ?_)
      refine bR rfl rfl (⟨_, _, _, rfl, by omega, (hv.kp [5] 1 5)⟩)
     refine uK rfl (uW k31 ?_)
     refine cT rfl (kS ?_)
     refine tK k30 (sK fun _ k35 => ?_)
     refine bB (kS ?_)
     refine bN (tK k35 ?_)
     refine rL (uM rfl ?_)
     refine uG (vI ((i + 1 : Nat) : Int)) rfl (ex_add rfl rfl rfl (by rw [i64_in (by omega)]; omega)) (uA rfl ?_)
     refine uZ (then_normal ?_)
     go_roundw
     case rel => exact ⟨i + 1, sk2, ra2, rc2, out2, rfl, by omega, by omega, by omega, ((((((hv.front 5 rfl).front 5 rfl).front 5 rfl).front 5 rfl).front 5 rfl).front 5 rfl)⟩
     case measure => show l.length - (((i + 1 : Nat) : Int)).toNat < l.length - ((i : Int)).toNat; omega
    refine uG (.bool false) rfl (ex_lss rfl rfl rfl (qF hb32)) (uM rfl ?_)
    iterate 3 refine uP rfl ?_
    refine uK rfl (uW k31 ?_)
    refine cF rfl (xE ?_)
    refine tX (tX ?_)
    refine bH (tK k27 ?_)
    refine sK fun _ k36 => rL (uL _ rfl (run_load1 i4na149 (hv.load 3 0 rfl rfl)) ?_)
    refine uA rfl (uW k36 ?_)
    refine rR (tR ?_)
    refine bR rfl rfl (⟨_, _, _, rfl, by omega, (hv.kp [5] 1 5)⟩)
  refine uG (.bool false) rfl (ex_gtr rfl rfl rfl (qF hb26)) (uW k25 ?_)
  refine cF rfl (kS ?_)
  refine tK k24 (sK fun _ k37 => ?_)
  refine sK fun _ k38 => rL (uL _ rfl (run_load1 s1na22 (hv.load 4 0 rfl rfl)) ?_)
  refine uG (vI (l.length : Int)) rfl (ex_len0 Tryz.underlying22 rfl rfl) ?_
  refine uG (vI ((l.length : Int) - 1 - ((0 : Nat) : Int))) rfl (ex_sub rfl rfl rfl (by rw [i64_in (by omega)]; omega)) (uA rfl ?_)
  refine uW k38 (bB ?_)
  gi_loopw [13] (fun x13 wr => ∃ (k : Nat) (sk : Int) (ra : Option Addr) (rc : Nat) (out : List Int), x13 = vI ((l.length : Int) - 1 - k) ∧ k ≤ l.length ∧ out.length ≤ k ∧ (-9223372036854775808 ≤ sk ∧ sk ≤ 9223372036854775807) ∧ Inv B (Res.cell b2 [.slice la l.length lc] 22 :: Res.cell b4 [vS s] 9 :: Res.cell b16 [vI sk] 3 :: Res.cell b13 [.slice ra out.length rc] 149 :: Res.cell b6 [vI mo] 3 :: Res.row 3 1 (.slice ra out.length rc) out.length (intCells out) :: H) wr) (fun x13 _ => ((intOf x13) + 1).toNat)
  case atStart => exact ⟨0, (-(rk + 1)), none, 0, [], by rw [Int.natCast_zero, Int.sub_zero], Nat.zero_le _, Nat.zero_le _, by omega, ((((((((((((hv.front 2 rfl).front 2 rfl).front 2 rfl).front 3 rfl).front 4 rfl)).rowNil 3 1).front 5 rfl).front 5 rfl).front 5 rfl).front 5 rfl).front 5 rfl)⟩
  case round =>
   obtain ⟨k, sk, ra, rc, out, rfl, hi, hol, hsk, hv⟩ := hrel
   refine sK fun _ k40 => sK fun _ k41 => rL (uM rfl ?_)
   by_cases hb42 : ((l.length : Int) - 1 - k) ≥ 0
   ·refine uG (.bool true) rfl (ex_geq rfl rfl rfl (qT hb42)) (uM rfl ?_)
    refine uM rfl ?_
    refine uM rfl ?_
    have hJ : ((l.length : Int) - 1 - k) = ((l.length - 1 - k : Nat) : Int) := by omega
    rw [hJ]
    replace hv := hv.front 5 rfl
    simp only [eS, eZ] at hv
    replace hv := hv.front 5 rfl
    simp only [eS, eZ] at hv
    replace hv := hv.front 5 rfl
    simp only [eS, eZ] at hv
    replace hv := hv.front 5 rfl
    simp only [eS, eZ] at hv
    replace hv := hv.front 5 rfl
    simp only [eS, eZ] at hv
    replace hv := hv.front 5 rfl
    simp only [eS, eZ] at hv
    refine wpi_callV i4callable100 tV wideC rfl (wanted_of (j := 2) (d := 43) (b := true) rfl rfl rfl) rfl rfl (args := #[vI ((l.length - 1 - k : Nat) : Int)]) (by simp only [List.map_toArray, List.map_cons, List.map_nil]; rfl) (((show Calls Tryz.prog 100 (#[vI ((l.length - 1 - k : Nat) : Int)] ++ #[vP b2, vP b4, vP b16, vP b13, vP b6]) _ _ from findFn B _ _ b2 b4 b16 b13 b6 la lc l hokl hrl hml s sk mo hsk ra rc out (by omega) (l.length - 1 - k) (by omega) hv)).mono ?_)
    rintro e w43 ⟨sk2, out2, ra2, rc2, bl, rfl, hsk2, hol2, hv⟩
    refine ⟨_, rfl, ?_⟩
    cases bl
    ·refine uK rfl (uW k41 ?_)
     refine cF rfl (xE ?_)
     refine tX (tX ?_)
     refine bH (tK k37 ?_)
     refine sK fun _ k44 => rL (uL _ rfl (run_load1 i4na149 (hv.load 3 0 rfl rfl)) ?_)
     refine uA rfl (uW k44 ?_)
     refine rR (bR rfl rfl ?_)
     exact ⟨_, _, _, rfl, by omega, (hv.kp [5] 1 5)⟩
    refine uK rfl (uW k41 ?_)
    refine cT rfl (kS ?_)
    refine tK k40 (sK fun _ k45 => ?_)
    refine bB (kS ?_)
    refine bN (tK k45 ?_)
    refine rL (uM rfl ?_)
    refine uG (vI ((l.length : Int) - 1 - ((k + 1 : Nat) : Int))) rfl (ex_sub rfl rfl rfl (by rw [i64_in (by omega)]; omega)) (uA rfl ?_)
    refine uZ (then_normal ?_)
    go_roundw
    case rel => exact ⟨k + 1, sk2, ra2, rc2, out2, rfl, by omega, by omega, by omega, ((((((hv.front 5 rfl).front 5 rfl).front 5 rfl).front 5 rfl).front 5 rfl).front 5 rfl)⟩
    case measure => show (((l.length : Int) - 1 - ((k + 1 : Nat) : Int)) + 1).toNat < (((l.length : Int) - 1 - k) + 1).toNat; omega
   refine uG (.bool false) rfl (ex_geq rfl rfl rfl (qF hb42)) (uM rfl ?_)
   iterate 3 refine uP rfl ?_
   refine uK rfl (uW k41 ?_)
   refine cF rfl (xE ?_)
   refine tX (tX ?_)
   refine bH (tK k37 ?_)
   refine sK fun _ k46 => rL (uL _ rfl (run_load1 i4na149 (hv.load 3 0 rfl rfl)) ?_)
   refine uA rfl (uW k46 ?_)
   refine rR (bR rfl rfl ?_)
   exact ⟨_, _, _, rfl, by omega, (hv.kp [5] 1 5)⟩
 refine uG (.bool false) rfl (ex_lss rfl rfl rfl (qF hb21)) (uW k20 ?_)
 refine cF rfl (kS ?_)
 refine tK k19 (sK fun _ k47 => ?_)
 refine rL (uG (.func (.func 100) #[] #[vP b2, vP b4, vP b16, vP b13, vP b6]) rfl (ex_makeFunc (c' := #[vP b2, vP b4, vP b16, vP b13, vP b6]) rfl (by simp only [List.map_toArray, List.map_nil]) (by simp only [List.map_toArray, List.map_cons, List.map_nil]; rfl)) ?_)
 refine uA rfl (uW k47 ?_)
 refine sK fun _ k48 => sK fun _ k49 => rL (uM rfl ?_)
 by_cases hb50 : rk > 0
 ·refine uG (.bool true) rfl (ex_gtr rfl rfl rfl (qT hb50)) (uW k49 ?_)
  refine cT rfl (sK fun _ k51 => ?_)
  refine sK fun _ k52 => rL (uA rfl ?_)
  refine uW k52 (bB ?_)
  gi_loopw [12] (fun x12 wr => ∃ (i : Nat) (sk : Int) (ra : Option Addr) (rc : Nat) (out : List Int), x12 = vI i ∧ i ≤ l.length ∧ out.length ≤ i ∧ (-9223372036854775808 ≤ sk ∧ sk ≤ 9223372036854775807) ∧ Inv B (Res.cell b2 [.slice la l.length lc] 22 :: Res.cell b4 [vS s] 9 :: Res.cell b16 [vI sk] 3 :: Res.cell b13 [.slice ra out.length rc] 149 :: Res.cell b6 [vI mo] 3 :: Res.row 3 1 (.slice ra out.length rc) out.length (intCells out) :: H) wr) (fun x12 _ => l.length - (intOf x12).toNat)
  case atStart => exact ⟨0, (IntKind.i64.wrap (rk - 1)), none, 0, [], rfl, Nat.zero_le _, Nat.zero_le _, by rw [i64_in (by omega)]; omega, ((((((((((((hv.front 2 rfl).front 2 rfl).front 2 rfl).front 3 rfl).front 4 rfl)).rowNil 3 1).front 5 rfl).front 5 rfl).front 5 rfl).front 5 rfl).front 5 rfl)⟩
  case round =>
   obtain ⟨i, sk, ra, rc, out, rfl, hi, hol, hsk, hv⟩ := hrel
   refine sK fun _ k54 => sK fun _ k55 => rL (uM rfl ?_)
   refine uL _ rfl (run_load1 s1na22 (hv.load 0 0 rfl rfl)) ?_
   refine uG (vI (l.length : Int)) rfl (ex_len0 Tryz.underlying22 rfl rfl) ?_
   by_cases hb56 : (i : Int) < (l.length : Int)
   ·refine uG (.bool true) rfl (ex_lss rfl rfl rfl (qT hb56)) (uM rfl ?_)
    refine uM rfl ?_
    refine uM rfl ?_
    replace hv := hv.front 5 rfl
    simp only [eS, eZ] at hv
    replace hv := hv.front 5 rfl
    simp only [eS, eZ] at hv
    replace hv := hv.front 5 rfl
    simp only [eS, eZ] at hv
    replace hv := hv.front 5 rfl
    simp only [eS, eZ] at hv
    replace hv := hv.front 5 rfl
    simp only [eS, eZ] at hv
    replace hv := hv.front 5 rfl
    simp only [eS, eZ] at hv
    refine wpi_callV i4callable100 tV wideC rfl (wanted_of (j := 4) (d := 30) (b := true) rfl rfl rfl) rfl rfl (args := #[vI i]) (by simp only [List.map_toArray, List.map_cons, List.map_nil]; rfl) (((show Calls Tryz.prog 100 (#[vI i] ++ #[vP b2, vP b4, vP b16, vP b13, vP b6]) _ _ from findFn B _ _ b2 b4 b16 b13 b6 la lc l hokl hrl hml s sk mo hsk ra rc out (by omega) i (by omega) hv)).mono ?_)
    rintro e w57 ⟨sk2, out2, ra2, rc2, bl, rfl, hsk2, hol2, hv⟩
    refine ⟨_, rfl, ?_⟩
    cases bl
    ·refine uK rfl (uW k55 ?_)
     refine cF rfl (xE ?_)
     refine tX (tX ?_)
     refine bH (tK k51 ?_)
     refine sK fun _ k58 => rL (uL _ rfl (run_load1 i4na149 (hv.load 3 0 rfl rfl)) ?_)
     refine uA rfl (uW k58 ?_)
     refine rR (tR ?_)
     refine bR rfl rfl (⟨_, _, _, rfl, by omega, (hv.kp [5] 1 5)⟩)
    refine uK rfl (uW k55 ?_)
    refine cT rfl (kS ?_)
    refine tK k54 (sK fun _ k59 => ?_)
    refine bB (kS ?_)
    refine bN (tK k59 ?_)
    refine rL (uM rfl ?_)
    refine uG (vI ((i + 1 : Nat) : Int)) rfl (ex_add rfl rfl rfl (by rw [i64_in (by omega)]; omega)) (uA rfl ?_)
    refine uZ (then_normal ?_)
    go_roundw
    case rel => exact ⟨i + 1, sk2, ra2, rc2, out2, rfl, by omega, by omega, by omega, ((((((hv.front 5 rfl).front 5 rfl).front 5 rfl).front 5 rfl).front 5 rfl).front 5 rfl)⟩
    case measure => show l.length - (((i + 1 : Nat) : Int)).toNat < l.length - ((i : Int)).toNat; omega
   refine uG (.bool false) rfl (ex_lss rfl rfl rfl (qF hb56)) (uM rfl ?_)
   iterate 3 refine uP rfl ?_
   refine uK rfl (uW k55 ?_)
   refine cF rfl (xE ?_)
   refine tX (tX ?_)
   refine bH (tK k51 ?_)
   refine sK fun _ k60 => rL (uL _ rfl (run_load1 i4na149 (hv.load 3 0 rfl rfl)) ?_)
   refine uA rfl (uW k60 ?_)
   refine rR (tR ?_)
   refine bR rfl rfl (⟨_, _, _, rfl, by omega, (hv.kp [5] 1 5)⟩)
 refine uG (.bool false) rfl (ex_gtr rfl rfl rfl (qF hb50)) (uW k49 ?_)
 refine cF rfl (kS ?_)
 refine tK k48 (sK fun _ k61 => ?_)
 refine sK fun _ k62 => rL (uL _ rfl (run_load1 s1na22 (hv.load 4 0 rfl rfl)) ?_)
 refine uG (vI (l.length : Int)) rfl (ex_len0 Tryz.underlying22 rfl rfl) ?_
 refine uG (vI ((l.length : Int) - 1 - ((0 : Nat) : Int))) rfl (ex_sub rfl rfl rfl (by rw [i64_in (by omega)]; omega)) (uA rfl ?_)
 refine uW k62 (bB ?_)
 gi_loopw [13] (fun x13 wr => ∃ (k : Nat) (sk : Int) (ra : Option Addr) (rc : Nat) (out : List Int), x13 = vI ((l.length : Int) - 1 - k) ∧ k ≤ l.length ∧ out.length ≤ k ∧ (-9223372036854775808 ≤ sk ∧ sk ≤ 9223372036854775807) ∧ Inv B (Res.cell b2 [.slice la l.length lc] 22 :: Res.cell b4 [vS s] 9 :: Res.cell b16 [vI sk] 3 :: Res.cell b13 [.slice ra out.length rc] 149 :: Res.cell b6 [vI mo] 3 :: Res.row 3 1 (.slice ra out.length rc) out.length (intCells out) :: H) wr) (fun x13 _ => ((intOf x13) + 1).toNat)
 case atStart => exact ⟨0, (IntKind.i64.wrap (rk - 1)), none, 0, [], by rw [Int.natCast_zero, Int.sub_zero], Nat.zero_le _, Nat.zero_le _, by rw [i64_in (by omega)]; omega, ((((((((((((hv.front 2 rfl).front 2 rfl).front 2 rfl).front 3 rfl).front 4 rfl)).rowNil 3 1).front 5 rfl).front 5 rfl).front 5 rfl).front 5 rfl).front 5 rfl)⟩
 case round =>
  obtain ⟨k, sk, ra, rc, out, rfl, hi, hol, hsk, hv⟩ := hrel
  refine sK fun _ k64 => sK fun _ k65 => rL (uM rfl ?_)
  by_cases hb66 : ((l.length : Int) - 1 - k) ≥ 0
  ·refine uG (.bool true) rfl (ex_geq rfl rfl rfl (qT hb66)) (uM rfl ?_)
   refine uM rfl ?_
   refine uM rfl ?_
   have hJ : ((l.length : Int) - 1 - k) = ((l.length - 1 - k : Nat) : Int) := by omega
   rw [hJ]
   replace hv := hv.front 5 rfl
   simp only [eS, eZ] at hv
   replace hv := hv.front 5 rfl
   simp only [eS, eZ] at hv
   replace hv := hv.front 5 rfl
   simp only [eS, eZ] at hv
   replace hv := hv.front 5 rfl
   simp only [eS, eZ] at hv
   replace hv := hv.front 5 rfl
   simp only [eS, eZ] at hv
   replace hv := hv.front 5 rfl
   simp only [eS, eZ] at hv
   refine wpi_callV i4callable100 tV wideC rfl (wanted_of (j := 2) (d := 43) (b := true) rfl rfl rfl) rfl rfl (args := #[vI ((l.length - 1 - k : Nat) : Int)]) (by simp only [List.map_toArray, List.map_cons, List.map_nil]; rfl) (((show Calls Tryz.prog 100 (#[vI ((l.length - 1 - k : Nat) : Int)] ++ #[vP b2, vP b4, vP b16, vP b13, vP b6]) _ _ from findFn B _ _ b2 b4 b16 b13 b6 la lc l hokl hrl hml s sk mo hsk ra rc out (by omega) (l.length - 1 - k) (by omega) hv)).mono ?_)
   rintro e w67 ⟨sk2, out2, ra2, rc2, bl, rfl, hsk2, hol2, hv⟩
   refine ⟨_, rfl, ?_⟩
   cases bl
   ·refine uK rfl (uW k65 ?_)
    refine cF rfl (xE ?_)
    refine tX (tX ?_)
    refine bH (tK k61 ?_)
    refine sK fun _ k68 => rL (uL _ rfl (run_load1 i4na149 (hv.load 3 0 rfl rfl)) ?_)
    refine uA rfl (uW k68 ?_)
    refine rR (bR rfl rfl ?_)
    exact ⟨_, _, _, rfl, by omega, (hv.kp [5] 1 5)⟩
   refine uK rfl (uW k65 ?_)
   refine cT rfl (kS ?_)
   refine tK k64 (sK fun _ k69 => ?_)
   refine bB (kS ?_)
   refine bN (tK k69 ?_)
   refine rL (uM rfl ?_)
   refine uG (vI ((l.length : Int) - 1 - ((k + 1 : Nat) : Int))) rfl (ex_sub rfl rfl rfl (by rw [i64_in (by omega)]; omega)) (uA rfl ?_)
   refine uZ (then_normal ?_)
   go_roundw
   case rel => exact ⟨k + 1, sk2, ra2, rc2, out2, rfl, by omega, by omega, by omega, ((((((hv.front 5 rfl).front 5 rfl).front 5 rfl).front 5 rfl).front 5 rfl).front 5 rfl)⟩
   case measure => show (((l.length : Int) - 1 - ((k + 1 : Nat) : Int)) + 1).toNat < (((l.length : Int) - 1 - k) + 1).toNat; omega
  refine uG (.bool false) rfl (ex_geq rfl rfl rfl (qF hb66)) (uM rfl ?_)
  iterate 3 refine uP rfl ?_
  refine uK rfl (uW k65 ?_)
  refine cF rfl (xE ?_)
  refine tX (tX ?_)
  refine bH (tK k61 ?_)
  refine sK fun _ k70 => rL (uL _ rfl (run_load1 i4na149 (hv.load 3 0 rfl rfl)) ?_)
  refine uA rfl (uW k70 ?_)
  refine rR (bR rfl rfl ?_)
  exact ⟨_, _, _, rfl, by omega, (hv.kp [5] 1 5)⟩
theorem i4callable79 : Callable Tryz.prog 79 := cb Tryz.func79 (by kernel_rfl)
theorem i4callable101 : Callable Tryz.prog 101 := cb Tryz.func101 (by kernel_rfl)
theorem i4mk9 : (Tryz.prog.info? 9).map (fun i => (i.zero, i.size, i.bytes)) = some (some (vS []), 1, 16) := by kernel_rfl
theorem i4el22 : Elem Tryz.prog 22 9 (vS []) 1 16 := elem_of Tryz.underlying22 i4mk9 (by rfl) (by decide)
theorem listRemove (B : Base) (H : List Res) (w : World) (la : Option Addr) (lc : Nat) (l : Tx) (hokl : SliceOk la l.length lc) (hrl : RdV B [] la (textCells l)) (hml : l.length ≤ 1000000) (count : Int) (hcnt : -9223372036854775808 ≤ count ∧ count ≤ 9223372036854775807) (s : List UInt8) (hv : Inv B H w) :
  Calls Tryz.prog 80 #[.slice la l.length lc, vI count, vS s] w fun e w' => ∃ C oa oc out n, B.Le C ∧ e = .returned (.tuple #[.slice oa out.length oc, vI n]) ∧ SliceOk oa out.length oc ∧ RdV C [] oa (textCells out) ∧ out.length ≤ 1000000 ∧ Inv C H w' := by
 refine cW Tryz.func80 rfl Tryz.ntmps80 ?_
 simp only [al]
 refine sK fun _ k1 => rL (uA rfl ?_)
 refine uA rfl (uW k1 ?_)
 refine sK fun _ k2 => rL (uM rfl ?_)
 refine uA rfl (uA rfl ?_)
 refine uW k2 (sK fun K3 k3 => ?_)
 have hJ3 : ∀ (rk mo2 : Int) (j16 j17 j18 j19 j20 j21 j22 j23 : Value) (w4 : World), (-9223372036854775808 ≤ rk ∧ rk ≤ 9223372036854775807) → Inv B (H) w4 → K3 { tmps := List.toArray (.slice la l.length lc :: vI count :: vS s :: undef :: undef :: undef :: vN :: vI 0 :: vI rk :: vI mo2 :: undef :: undef :: undef :: undef :: undef :: vI count :: j16 :: j17 :: j18 :: j19 :: j20 :: j21 :: j22 :: j23 :: undef :: undef :: undef :: undef :: undef :: undef :: undef :: undef :: undef :: undef :: undef :: undef :: undef :: undef :: undef :: undef :: undef :: undef :: undef :: undef :: undef :: undef :: undef :: undef :: undef :: undef :: undef :: undef :: undef :: undef :: undef :: undef :: undef :: undef :: undef :: undef :: undef :: undef :: undef :: undef :: undef :: undef :: []), defers := [] } w4 := by
  intro rk mo2 j16 j17 j18 j19 j20 j21 j22 j23 w4 hrk hv
  refine k3 _ _ (sK fun _ k5 => ?_)
  refine rL (uM rfl ?_)
  refine uM rfl (uM rfl ?_)
  refine uM rfl ?_
  refine xC i4callable79 rfl ((listFind B _ _ la lc l hokl hrl hml s rk mo2 hrk hv).mono ?_) rfl
  rintro e w6 ⟨pa, pc, pl, rfl, hpl, hv⟩
  refine ⟨_, rfl, uA rfl ?_⟩
  refine uW k5 (sK fun _ k7 => ?_)
  refine rL (uM rfl ?_)
  refine xC i4callable101 rfl ((sortInts B _ _ _ pl (by omega) hv).mono ?_) rfl
  rintro e w8 ⟨ts, rfl, hts, hv⟩
  refine ⟨_, rfl, ?_⟩
  rw [← hts] at hv
  obtain ⟨D, hD, hv, hrt, -, -⟩ := hv.rowBy
  rw [← hts]
  refine uW k7 (sK fun _ k9 => ?_)
  refine rL (uM rfl ?_)
  refine uG (vI (l.length : Int)) rfl (ex_len0 Tryz.underlying22 rfl rfl) (uM rfl ?_)
  refine uG (vI (ts.length : Int)) rfl (ex_len0 Tryz.underlying149 rfl rfl) ?_
  refine uG (vI ((l.length - ts.length : Nat) : Int)) rfl (ex_sub rfl rfl rfl (by rw [i64_in (by omega)]; omega)) ?_
  refine sl_makeRow (cap := (l.length - ts.length : Nat)) tV (wn rfl) rfl rfl rfl i4el22 (by unfold maxLen; omega) (by omega) hv (fun b10 w11 hv => ?_)
  refine uA rfl (uW k9 ?_)
  refine sK fun _ k12 => rL (uA rfl ?_)
  refine uW k12 (sK fun _ k13 => ?_)
  refine sK fun _ k14 => rL (uM rfl ?_)
  refine uG (vI (l.length : Int)) rfl (ex_len0 Tryz.underlying22 rfl rfl) (uM rfl ?_)
  refine uW k14 (bB ?_)
  gi_loopw [39, 12, 11] (fun x39 x12 x11 wr => ∃ (i nx : Nat) (rs : Tx) (oa : Option Addr) (oc : Nat), x39 = vI i ∧ x12 = vI nx ∧ x11 = .slice oa rs.length oc ∧ i ≤ l.length ∧ nx ≤ ts.length ∧ rs.length ≤ i ∧ Inv D (Res.row 9 1 (.slice oa rs.length oc) rs.length (textCells rs) :: H) wr) (fun x39 x12 x11 _ => l.length - (intOf x39).toNat)
  case atStart => exact ⟨0, 0, [], _, _, rfl, rfl, rfl, Nat.zero_le _, Nat.zero_le _, Nat.zero_le _, hv⟩
  case round =>
   obtain ⟨i, nx, rs, oa, oc, rfl, rfl, rfl, hi, hnx, hrs, hv⟩ := hrel
   refine sK fun _ k16 => rL ?_
   by_cases hb17 : (i : Int) < (l.length : Int)
   ·refine uG (.bool true) rfl (ex_lss rfl rfl rfl (qT hb17)) (uW k16 ?_)
    refine sK fun _ k18 => cT rfl (kS ?_)
    refine tK k18 (sK fun _ k19 => ?_)
    refine bB (sK fun _ k20 => ?_)
    obtain ⟨x, hx⟩ : ∃ x, l[i]? = some x := ⟨_, List.getElem?_eq_getElem (show i < l.length by omega)⟩
    obtain ⟨xb, xo, had, hrdx⟩ := text_reads hrl hx
    subst had
    refine rL (uM rfl ?_)
    refine uG (.pointer (some ⟨xb, xo + i, none⟩)) rfl (ex_index rfl rfl rfl (run_idx1 (k := i) Tryz.underlying22 s9es22 (by omega))) ?_
    refine uL _ rfl (run_load1 s9na9 (hrdx _ _ _ hD no_res hv 0 _ rfl)) (uA rfl ?_)
    refine uA rfl (uW k20 ?_)
    refine sK fun _ k21 => sK fun _ k22 => rL (uM rfl ?_)
    refine uM rfl ?_
    refine uG (vI (ts.length : Int)) rfl (ex_len0 Tryz.underlying149 rfl rfl) ?_
    by_cases hb23 : (nx : Int) < (ts.length : Int)
    ·obtain ⟨q, hq⟩ : ∃ x, ts[nx]? = some x := ⟨_, List.getElem?_eq_getElem (show nx < ts.length by omega)⟩
     obtain ⟨qb, qo, had9, hrdq⟩ := int_reads hrt hq
     have hv9 := hv
     subst had9
     have hv := hv9
     clear hv9
     skip
     refine uG (.bool true) rfl (ex_lss rfl rfl rfl (qT hb23)) (uM rfl ?_)
     refine uM rfl ?_
     refine uM rfl ?_
     refine uG (.pointer (some ⟨qb, qo + nx, none⟩)) rfl (ex_index rfl rfl rfl (run_idx1 (k := nx) Tryz.underlying149 s11es149 (by omega))) ?_
     refine uL _ rfl (run_load1 s2na3 (hrdq _ _ _ (Base.Le.refl _) no_res hv 0 _ rfl)) ?_
     refine uM rfl ?_
     by_cases hb24 : q = (i : Int)
     ·refine uG (.bool true) rfl (ex_eql rfl rfl rfl (qT hb24)) (uK rfl ?_)
      refine uW k22 (cT rfl ?_)
      refine sK fun _ k25 => rL (uM rfl ?_)
      refine uG (vI ((nx + 1 : Nat) : Int)) rfl (ex_add rfl rfl rfl (by rw [i64_in (by omega)]; omega)) (uA rfl ?_)
      refine uW k25 (xE ?_)
      refine tX (bH ?_)
      refine tK k19 (rL ?_)
      refine uG (vI ((i + 1 : Nat) : Int)) rfl (ex_add rfl rfl rfl (by rw [i64_in (by omega)]; omega)) (uM rfl ?_)
      refine uZ (then_normal ?_)
      simp only [vI, vS, vN]
      go_roundw
      case rel => exact ⟨i + 1, nx + 1, rs, oa, oc, rfl, rfl, rfl, by omega, by omega, by omega, hv⟩
      case measure => show l.length - (((i + 1 : Nat) : Int)).toNat < l.length - ((i : Int)).toNat; omega
     refine uG (.bool false) rfl (ex_eql rfl rfl rfl (qF hb24)) (uK rfl ?_)
     refine uW k22 (cF rfl ?_)
     refine kS (tK k21 ?_)
     refine rL (uM rfl ?_)
     refine uM rfl ?_
     refine sl_rowOne (v := vS x) tV (wn rfl) rfl rfl hv i4el22 rfl (fun b26 w27 hv => ?_)
     simp only [zP, po]
     replace hv := hv.front 1 rfl
     simp only [eS, eZ] at hv
     refine sl_append (news := [vS x]) tV (wn rfl) rfl rfl rfl i4el22 hv (ok_full (by omega)) rfl (rd_all (hv.get 1 rfl)) (by intro u hu; simp only [List.mem_cons, List.not_mem_nil, or_false] at hu; rcases hu with rfl <;> rfl) (by unfold maxLen; omega) (by omega) (fun rv28 w31 hv => ?_)
     obtain ⟨ra29, rc30, rfl⟩ := row_slice hv.head
     refine uA rfl (uZ ?_)
     refine bN (tK k19 ?_)
     refine rL (uG (vI ((i + 1 : Nat) : Int)) rfl (ex_add rfl rfl rfl (by rw [i64_in (by omega)]; omega)) ?_)
     refine uM rfl (uZ ?_)
     refine then_normal ?_
     simp only [vI, vS, vN]
     go_roundw
     case rel => exact ⟨i + 1, nx, rs ++ [x], _, _, rfl, rfl, by rw [List.length_append, List.length_singleton], by omega, by omega, by rw [List.length_append, List.length_singleton]; omega, by rw [List.length_append, List.length_singleton, show textCells (rs ++ [x]) = textCells rs ++ [strV x] by simp [textCells]]; exact (hv.kp [] 1 1)⟩
     case measure => show l.length - (((i + 1 : Nat) : Int)).toNat < l.length - ((i : Int)).toNat; omega
    refine uG (.bool false) rfl (ex_lss rfl rfl rfl (qF hb23)) (uM rfl ?_)
    iterate 6 refine uP rfl ?_
    refine uK rfl (uW k22 ?_)
    refine cF rfl (kS ?_)
    refine tK k21 (rL ?_)
    refine uM rfl (uM rfl ?_)
    refine sl_rowOne (v := vS x) tV (wn rfl) rfl rfl hv i4el22 rfl (fun b32 w33 hv => ?_)
    simp only [zP, po]
    replace hv := hv.front 1 rfl
    simp only [eS, eZ] at hv
    refine sl_append (news := [vS x]) tV (wn rfl) rfl rfl rfl i4el22 hv (ok_full (by omega)) rfl (rd_all (hv.get 1 rfl)) (by intro u hu; simp only [List.mem_cons, List.not_mem_nil, or_false] at hu; rcases hu with rfl <;> rfl) (by unfold maxLen; omega) (by omega) (fun rv34 w37 hv => ?_)
    obtain ⟨ra35, rc36, rfl⟩ := row_slice hv.head
    refine uA rfl (uZ ?_)
    refine bN (tK k19 ?_)
    refine rL (uG (vI ((i + 1 : Nat) : Int)) rfl (ex_add rfl rfl rfl (by rw [i64_in (by omega)]; omega)) ?_)
    refine uM rfl (uZ ?_)
    refine then_normal ?_
    simp only [vI, vS, vN]
    go_roundw
    case rel => exact ⟨i + 1, nx, rs ++ [x], _, _, rfl, rfl, by rw [List.length_append, List.length_singleton], by omega, by omega, by rw [List.length_append, List.length_singleton]; omega, by rw [List.length_append, List.length_singleton, show textCells (rs ++ [x]) = textCells rs ++ [strV x] by simp [textCells]]; exact (hv.kp [] 1 1)⟩
    case measure => show l.length - (((i + 1 : Nat) : Int)).toNat < l.length - ((i : Int)).toNat; omega
   refine uG (.bool false) rfl (ex_lss rfl rfl rfl (qF hb17)) (uW k16 ?_)
   refine sK fun _ k38 => cF rfl (xE ?_)
   refine tX (tX ?_)
   refine bH (tK k13 ?_)
   refine sK fun _ k39 => rL (uM rfl ?_)
   refine uM rfl ?_
   refine uG (vI (ts.length : Int)) rfl (ex_len0 Tryz.underlying149 rfl rfl) (uA rfl ?_)
   refine uA rfl (uW k39 ?_)
   refine rR (bodyPost_ret (results_tmp2 rfl _ _ _) rfl ?_)
   obtain ⟨E, hE, hv, hro, hoko, -⟩ := (hv).rowBy
   exact ⟨E, oa, oc, rs, _, hD.trans hE, rfl, hoko, hro, by omega, hv⟩
 refine sK fun _ k40 => rL (uM rfl ?_)
 by_cases hb41 : count < 0
 ·refine uG (.bool true) rfl (ex_lss rfl rfl rfl (qT hb41)) (uW k40 ?_)
  refine cT rfl ?_
  obtain ⟨mx, hmx, hmb⟩ : ∃ m : Int, (if -(l.length : Int) > count then -(l.length : Int) else count) = m ∧ -1000000 ≤ m ∧ m ≤ 1000000 := ⟨_, rfl, by split <;> omega⟩
  refine rL (uM rfl ?_)
  refine uM rfl ?_
  refine uG (vI (l.length : Int)) rfl (ex_len0 Tryz.underlying22 rfl rfl) ?_
  refine uG (vI (-(l.length : Int))) rfl (ex_neg (m := (l.length : Int)) rfl rfl (by rw [i64_in (by omega)]; omega)) ?_
  refine uG (vI mx) rfl (ex_max2 (m := count) (n := (-(l.length : Int))) rfl rfl rfl hmx) ?_
  refine uG (vI (-mx)) rfl (ex_neg (m := mx) rfl rfl (by rw [i64_in (by omega)]; omega)) (uA rfl ?_)
  refine uA rfl (uZ ?_)
  exact then_normal (hJ3 (-1) (-mx) _ _ _ _ _ _ _ _ _ (by omega) hv)
 refine uG (.bool false) rfl (ex_lss rfl rfl rfl (qF hb41)) (uW k40 ?_)
 refine cF rfl (kS ?_)
 exact then_normal (hJ3 1 count _ _ _ _ _ _ _ _ _ (by omega) hv)
end Go.Proofs.YtmhdpjifhfoabaaGreatDoor
namespace Go.Pm
open Go.RowKit
def SeqP {α : Type} (n : Nat) (P : Program) (gf : Nat) (lb : Array Value) (R0 : List Res) (encs : α → Array Value) (Step : List α → α → Prop) (S : List α → Prop) (B : Base) : Prop :=
 ∀ (l : Nat) (W : World) (K : List α → List Res → Prop) (R : List Res), K [] R → Inv B (R0 ++ R) W →
  (∀ pre x W1 It R, Step pre x → K pre R → Inv B (It ++ R) W1 → YieldAt Fence.wide (n - 1) P l (encs x) W1 fun e W' => e = .returned (.bool true) ∧ ∃ R', K (pre ++ [x]) R' ∧ Inv B (It ++ R') W') →
  CallsIn Fence.wide n P gf (#[.func (.yield l) #[] #[]] ++ lb) W fun e W' => (∃ v, e = .returned v) ∧ ∃ xs R', S xs ∧ K xs R' ∧ Inv B R' W'
theorem sl_rangeP {α : Type} {n : Nat} {P : Program} {g : Operand} {ps : Array Tmp} {assign body : Code} {Q : Exit → Act → World → Prop} {a : Act} {w : World}
  (h1 : 1 ≤ n) {gf : Nat} {lb : Array Value} (hg : a.eval g = .func (.func gf) #[] lb) (eg : ∀ args w, (callFunc gf args).run P w = .ok (.enter gf args) w)
  {B : Base} {R0 : List Res} {encs : α → Array Value} {Step : List α → α → Prop} {S : List α → Prop} (hseq : SeqP (n - 1) P gf lb R0 encs Step S B) (hps : ∀ x, (encs x).size = ps.size)
  (Hs : List α → List Res → Prop) (fr : α → Act) {R1 : List Res} (hH : Hs [] R1) (hv : Inv B (R0 ++ R1) w)
  (hassign : ∀ (l : Nat) (pre : List α) (x : α) (R T : List Res) (W : World), Step pre x → Hs pre R → Inv B (R ++ T) W → assign.wpIn (Fence.wide.inRound l) (n - 1 - 1) P (fun e a' W' => e = .normal ∧ a' = fr x ∧ Inv B (R ++ T) W') { tmps := (ps.zip (encs x)).foldl (fun t (p, v) => t.setIfInBounds p v) a.tmps, defers := [] } W)
  (hbody : ∀ (l : Nat) (pre : List α) (x : α) (R T : List Res) (W : World), Step pre x → Hs pre R → Inv B (R ++ T) W → body.wpIn (Fence.wide.inRound l) (n - 1 - 1) P (fun e _ W' => e = .normal ∧ ∃ R', Hs (pre ++ [x]) R' ∧ Inv B (R' ++ T) W') (fr x) W)
  (hdone : ∀ (D : Nat) (xs : List α) (R : List Res) (W : World), S xs → Hs xs R → Inv B (Res.defd D :: R) W → Q .normal { a with defers := { target := .collected D, args := #[] } :: a.defers } W) :
  (Code.rangeFunc g ps assign body).wpIn Fence.wide n P Q a w := by
 refine wpIn_rangeFunc ?_
 intro fn hfn
 obtain ⟨rec, hrec⟩ : ∃ rec : LoopState → Option Code → Loop, rec = fun st pe => { state := st, pending := pe, fn, tmps := a.tmps, params := ps, assign, body, defers := w.heap.size } := ⟨_, rfl⟩
 obtain ⟨W1, hW1⟩ : ∃ W1, (w.alloc (.deferred (some []))).alloc (.loop (rec .ready none)) = W1 := ⟨_, rfl⟩
 have hd : Inv B (Res.defd w.heap.size :: (R0 ++ R1)) (w.alloc (.deferred (some []))) :=
  hv.new ((Below.refl _ _).alloc (Nat.le_refl _) _) _ (World.alloc_heap_new w _) (by simp) (by simp)
 have hL1 : Inv B (Res.loop (w.heap.size + 1) (rec .ready none) :: Res.defd w.heap.size :: (R0 ++ R1)) W1 := by
  rw [← hW1]
  refine hd.new ((Below.refl _ _).alloc (Nat.le_refl _) _) _ ?_ (by simp) (by simp)
  have := World.alloc_heap_new (w.alloc (.deferred (some []))) (.loop (rec .ready none))
  rwa [World.size_alloc] at this
 refine ⟨w.heap.size + 1, [{ target := .collected w.heap.size, args := #[] }], W1, { target := .fn (.func gf) lb, args := #[.func (.yield (w.heap.size + 1)) #[] #[]] }, W1, gf,
  #[.func (.yield (w.heap.size + 1)) #[] #[]] ++ lb, W1, ?_, ?_, ?_, ?_, fun _ => h1, ?_⟩
 ·rw [← hW1, hrec]; exact run_enterLoop_outer _ _ _ _ _
 ·simp only [resolve, hg]
  simp [go_sem]
 ·intro f' hf'; trivial
 ·simp [invoke, go_sem, eg]
 refine (hseq (w.heap.size + 1) W1 (fun pre R => ∃ R2, R = Res.loop (w.heap.size + 1) (rec .ready none) :: Res.defd w.heap.size :: R2 ∧ Hs pre R2) _ ⟨R1, rfl, hH⟩ (hL1.perm (perm_mid2 _ _ _ _)) ?_).mono ?_
 ·rintro pre x W It _ hst ⟨R2, rfl, hR⟩ hi
  have hi2 := hi.perm (perm_end2 _ _ _ _)
  have hl : W.heap[w.heap.size + 1]? = some (.loop (rec .ready none)) := hi2.own (Res.loop (w.heap.size + 1) (rec .ready none)) (by simp)
  have hy := run_yield (P := P) (args := encs x) hl (by rw [hrec]; exact hps x)
  rw [hrec] at hy
  refine ⟨fn, _, assign, body, hy, roundIn_of_wpIn hfn (wpIn_mono (hassign _ pre x _ _ W hst hR hi2) ?_)⟩
  rintro e a' W2 ⟨rfl, rfl, h2⟩
  have hl2 : W2.heap[w.heap.size + 1]? = some (.loop (rec .ready none)) := h2.own (Res.loop (w.heap.size + 1) (rec .ready none)) (by simp)
  refine ⟨_, run_beginRound hl2 (by rw [hrec]), ?_⟩
  have h3 := ((h2.perm List.perm_middle).loopTo { rec .ready none with state := .busy }).perm List.perm_middle.symm
  refine wpIn_mono (hbody _ pre x _ _ _ hst hR h3) ?_
  rintro e a3 W3 ⟨rfl, R', hR', h4⟩
  have hl4 : W3.heap[w.heap.size + 1]? = some (.loop { rec .ready none with state := .busy }) := h4.own (Res.loop (w.heap.size + 1) { rec .ready none with state := .busy }) (by simp)
  have hend := run_endRound (P := P) none hl4
  have h5 := ((h4.perm List.perm_middle).loopTo (rec .ready none)).perm List.perm_middle.symm
  refine ⟨_, _, hend, rfl, _, ⟨R', rfl, hR'⟩, ?_⟩
  have h6 := h5.perm (perm_end2 _ _ It R').symm
  rw [hrec] at h6 ⊢
  exact h6
 rintro e W2 ⟨⟨v, rfl⟩, xs, _, hS, ⟨R2, rfl, hR⟩, hi⟩
 have hl : W2.heap[w.heap.size + 1]? = some (.loop (rec .ready none)) := hi.own (Res.loop (w.heap.size + 1) (rec .ready none)) (by simp)
 have hend := run_endLoop (P := P) hl (by rw [hrec]; simp)
 refine ⟨none, _, by rw [hrec] at hend; exact hend, hdone _ xs _ _ hS hR (hi.unloop _)⟩
end Go.Pm
namespace Go.Proofs.YtmhdpjifhfoabaaGreatDoor
open Go.RowKit Go.Pm
def bkEnc (x : Nat × List UInt8) : Array Value := #[vI (x.1 : Int), strV x.2]
def BkStep (ss : Tx) (pre : List (Nat × List UInt8)) (x : Nat × List UInt8) : Prop := x.1 + pre.length + 1 = ss.length ∧ ss[x.1]? = some x.2
theorem bk_next {ss : Tx} {pre : List (Nat × List UInt8)} {j : Nat} {x : List UInt8} (hp : pre.map (·.2) = ss.reverse.take pre.length) (hj : j + pre.length + 1 = ss.length) (hx : ss[j]? = some x) : (pre ++ [(j, x)]).map (·.2) = ss.reverse.take (pre ++ [(j, x)]).length := by
 rw [List.map_append, hp, List.length_append, List.length_singleton]
 refine (take_next ?_).symm
 rw [List.getElem?_reverse (by omega), show ss.length - 1 - pre.length = j by omega]
 exact hx
theorem backIt (m : Nat) (B : Base) (bx : Nat) (a : Option Addr) (cap : Nat) (ss : Tx) (hr : RdV B [] a (textCells ss)) (hm : ss.length ≤ 1000000) :
  SeqP m Tryz.prog 106 #[vP bx] [Res.cell bx [.slice a ss.length cap] 22] bkEnc (BkStep ss) (fun xs => xs.map (·.2) = ss.reverse) B := by
 intro ll W K R1 hK1 hv hY
 refine callsIn_of_wp Tryz.func106 rfl trivial ?_ rfl
 simp only [Tryz.ntmps106, List.size_toArray, List.length_cons, List.length_nil, Nat.reduceAdd, Nat.reduceSub, Array.replicate_succ, Array.replicate_zero, List.push_toArray, List.append_toArray, List.nil_append, List.cons_append]
 replace hv : Inv B (Res.cell bx [.slice a ss.length cap] 22 :: R1) W := hv
 refine sK fun _ k1 => rL (uL _ rfl (run_load1 s1na22 (hv.load 0 0 rfl rfl)) ?_)
 refine uG (vI (ss.length : Int)) rfl (ex_len0 Tryz.underlying22 rfl rfl) ?_
 refine uG (vI ((ss.length : Int) - 1)) rfl (ex_sub rfl rfl rfl (by rw [i64_in (by omega)])) (uA rfl ?_)
 refine uW k1 (bB ?_)
 gi_loopw [3] (fun x3 wr => ∃ (pre : List (Nat × List UInt8)) (R : List Res), x3 = vI ((ss.length : Int) - 1 - pre.length) ∧ pre.length ≤ ss.length ∧ pre.map (·.2) = ss.reverse.take pre.length ∧ K pre R ∧ Inv B (Res.cell bx [.slice a ss.length cap] 22 :: R) wr) (fun x3 _ => ((intOf x3) + 1).toNat)
 case atStart => exact ⟨[], R1, by simp, Nat.zero_le _, rfl, hK1, hv⟩
 case round =>
  obtain ⟨pre, R, rfl, hpl, hpm, hK, hv⟩ := hrel
  refine sK fun _ k3 => sK fun _ k4 => rL (uM rfl ?_)
  by_cases hb5 : ((ss.length : Int) - 1 - pre.length) ≥ 0
  ·refine uG (.bool true) rfl (ex_geq rfl rfl rfl (qT hb5)) (uW k4 ?_)
   refine cT rfl (kS ?_)
   refine tK k3 (sK fun _ k6 => ?_)
   refine bB (sK fun _ k7 => ?_)
   have hjl : ss.length - 1 - pre.length < ss.length := by omega
   obtain ⟨x, hx⟩ : ∃ x, ss[ss.length - 1 - pre.length]? = some x := ⟨_, List.getElem?_eq_getElem hjl⟩
   obtain ⟨bb, bo, had, hrdx⟩ := text_reads hr hx
   subst had
   have hJ : ((ss.length : Int) - 1 - pre.length) = ((ss.length - 1 - pre.length : Nat) : Int) := by omega
   rw [hJ]
   refine rL (uM rfl ?_)
   refine uM rfl ?_
   refine uL _ rfl (run_load1 s1na22 (hv.load 0 0 rfl rfl)) (uM rfl ?_)
   refine uG (.pointer (some ⟨bb, bo + (ss.length - 1 - pre.length : Nat), none⟩)) rfl (ex_index rfl rfl rfl (run_idx1 (k := (ss.length - 1 - pre.length : Nat)) Tryz.underlying22 s9es22 (by omega))) ?_
   refine uL _ rfl (run_load1 s9na9 (hrdx _ _ _ (Base.Le.refl _) no_res hv 0 _ rfl)) ?_
   have hyl := hY pre ((ss.length - 1 - pre.length : Nat), x) _ [Res.cell bx [.slice (some ⟨bb, bo, none⟩) ss.length cap] 22] R ⟨by show (ss.length - 1 - pre.length) + pre.length + 1 = ss.length; omega, hx⟩ hK hv
   refine wpi_yield (args := #[vI ((ss.length - 1 - pre.length : Nat) : Int), vS x]) tV rfl rfl rfl rfl (by simp only [List.map_toArray, List.map_cons, List.map_nil]; rfl) hyl ?_
   rintro e W3 ⟨rfl, R', hK3, hv3⟩
   refine ⟨_, rfl, ?_⟩
   replace hv : Inv B (Res.cell bx [.slice (some ⟨bb, bo, none⟩) ss.length cap] 22 :: R') W3 := hv3
   refine uG (.bool false) rfl (ex_not rfl rfl rfl) (uW k7 ?_)
   refine cF rfl (kS ?_)
   refine bN (tK k6 ?_)
   refine rL (uM rfl ?_)
   refine uG (vI (((ss.length - 1 - pre.length : Nat) : Int) - 1)) rfl (ex_sub rfl rfl rfl (by rw [i64_in (by omega)])) (uA rfl ?_)
   refine uZ (then_normal ?_)
   go_roundw
   case rel => exact ⟨pre ++ [((ss.length - 1 - pre.length : Nat), x)], R', by rw [List.length_append, List.length_singleton]; congr 1; omega, by rw [List.length_append, List.length_singleton]; omega, bk_next hpm (by omega) hx, hK3, hv⟩
   case measure => show (((ss.length - 1 - pre.length : Nat) : Int) - 1 + 1).toNat < (((ss.length : Int) - 1 - pre.length) + 1).toNat; omega
  refine uG (.bool false) rfl (ex_geq rfl rfl rfl (qF hb5)) (uW k4 ?_)
  refine cF rfl (xE ?_)
  refine tX (tX ?_)
  refine bH ?_
  go_end0
  exact ⟨⟨_, rfl⟩, pre, R, by rw [hpm, List.take_of_length_le (by rw [List.length_reverse]; omega)], hK, hv.drop⟩
theorem backSl (B : Base) (H : List Res) (w : World) (a : Option Addr) (cap : Nat) (ss : Tx) (hv : Inv B H w) :
  Calls Tryz.prog 96 #[.slice a ss.length cap] w fun e w' => ∃ bx, e = .returned (.func (.func 106) #[] #[vP bx]) ∧ Inv B (Res.cell bx [.slice a ss.length cap] 22 :: H) w' := by
 refine cW Tryz.func96 rfl Tryz.ntmps96 ?_
 simp only [al]
 refine sK fun _ k1 => rL (sl_box (L := [.slice a ss.length cap]) tV (wn rfl) rfl rfl hv (fun w => by kernel_rfl) (fun b2 w3 hv => ?_))
 refine uA rfl (uW k1 ?_)
 refine sK fun _ k4 => rL (uG (.func (.func 106) #[] #[vP b2]) rfl (ex_makeFunc (c' := #[vP b2]) rfl (by simp only [List.map_toArray, List.map_nil]) (by simp only [List.map_toArray, List.map_cons, List.map_nil]; rfl)) ?_)
 refine uA rfl (uW k4 ?_)
 refine rR (bR rfl rfl ?_)
 exact ⟨_, rfl, hv⟩
theorem i5mk9 : (Tryz.prog.info? 9).map (fun i => (i.zero, i.size, i.bytes)) = some (some (vS []), 1, 16) := by kernel_rfl
theorem i5el22 : Elem Tryz.prog 22 9 (vS []) 1 16 := elem_of Tryz.underlying22 i5mk9 (by rfl) (by decide)
theorem i5al22 : AL Tryz.prog 22 [vN] := fun w => by kernel_rfl
theorem i5callable96 : Callable Tryz.prog 96 := cb Tryz.func96 (by kernel_rfl)
theorem listPush (B : Base) (H : List Res) (w : World) (la : Option Addr) (lc : Nat) (l : Tx) (hokl : SliceOk la l.length lc) (hrl : RdV B [] la (textCells l)) (hml : l.length ≤ 1000000) (front : Bool) (sa : Option Addr) (sc : Nat) (ss : Tx) (hoks : SliceOk sa ss.length sc) (hrs : RdV B [] sa (textCells ss)) (hms : ss.length ≤ 1000000) (hv : Inv B H w) :
  Calls Tryz.prog 75 #[.slice la l.length lc, .bool front, .slice sa ss.length sc] w fun e w' => ∃ C oa oc out ec, B.Le C ∧ e = .returned (.tuple #[.slice oa out.length oc, .int .i64 ec]) ∧ SliceOk oa out.length oc ∧ RdV C [] oa (textCells out) ∧ PushI l front ss out ec ∧ Inv C H w' := by
 refine (callsIn_wide (n := 5)).1 ?_
 refine callsIn_of_wp_marks Tryz.func75 rfl trivial ?_ rfl
 simp only [Tryz.ntmps75, List.size_toArray, List.length_cons, List.length_nil, Nat.reduceAdd, Nat.reduceSub, Array.replicate_succ, Array.replicate_zero, List.push_toArray, List.append_toArray, List.nil_append, List.cons_append]
 refine wpIn_seq_k (fun K1 hK1 => ?_)
 refine wpIn_region_lit ?_
 refine wpi_exG (v := .slice none 0 0) (fun _ => trivial) (wn rfl) rfl (ex_assign rfl rfl) ?_
 refine wpi_exG (v := .int .i64 0) (fun _ => trivial) (wn rfl) rfl (ex_assign rfl rfl) ?_
 refine wpListIn_nil ?_
 simp only [Act.put, List.setIfInBounds_toArray, List.set_cons_succ, List.set_cons_zero]
 refine then_normal (hK1 _ _ ?_)
 clear hK1 K1
 refine wpIn_seq_k (fun K2 hK2 => ?_)
 refine wpIn_seq_k (fun K3 hK3 => ?_)
 refine wpIn_region_lit ?_
 refine wpi_exG (v := .slice sa ss.length sc) (fun _ => trivial) (wn rfl) rfl (ex_move rfl rfl) ?_
 refine wpi_callG s9callable95 (fun _ => trivial) wideC rfl (wn rfl) rfl (args := #[.slice sa ss.length sc, .func (.func 92) #[] #[]]) (by simp only [List.map_toArray, List.map_cons, List.map_nil]; rfl) ((containsFuncText B _ _ 92 #[] sa sc ss (fun s : List UInt8 => decide (s.length > 4096)) hrs hms s9callable92 (fun x _ w hv => listLong B _ w x hv) hv).mono ?_)
 rintro e w4 ⟨rfl, hv⟩
 refine ⟨_, rfl, ?_⟩
 cases hany : ss.any (fun s : List UInt8 => decide (s.length > 4096))
 ·refine wpListIn_nil ?_
  simp only [Act.put, List.setIfInBounds_toArray, List.set_cons_succ, List.set_cons_zero]
  refine then_normal (hK3 _ _ ?_)
  clear hK3 K3
  refine wpIn_cond_false rfl ?_
  refine wpIn_skip ?_
  refine then_normal (hK2 _ _ ?_)
  clear hK2 K2
  refine wpIn_seq_k (fun K5 hK5 => ?_)
  refine wpIn_seq_k (fun K6 hK6 => ?_)
  refine wpIn_region_lit ?_
  refine wpi_exG (v := .slice la l.length lc) (fun _ => trivial) (wn rfl) rfl (ex_move rfl rfl) ?_
  refine wpi_exG (v := .int .i64 (l.length : Int)) (fun _ => trivial) (wn rfl) rfl (ex_len0 Tryz.underlying22 rfl rfl) ?_
  refine wpi_exG (v := .slice sa ss.length sc) (fun _ => trivial) (wn rfl) rfl (ex_move rfl rfl) ?_
  simp only [Act.put, List.setIfInBounds_toArray, List.set_cons_succ, List.set_cons_zero]
  refine wpi_exG (v := .int .i64 (ss.length : Int)) (fun _ => trivial) (wn rfl) rfl (ex_len0 Tryz.underlying22 rfl rfl) ?_
  refine wpi_exG (v := .int .i64 ((l.length + ss.length : Nat) : Int)) (fun _ => trivial) (wn rfl) rfl (ex_add (m := (l.length : Int)) (n := (ss.length : Int)) rfl rfl rfl (by rw [i64_in (by omega)]; omega)) ?_
  by_cases hb7 : ((l.length + ss.length : Nat) : Int) > 512
  ·refine wpi_exG (v := .bool true) (fun _ => trivial) (wn rfl) rfl (ex_gtr (k := .i64) (m := ((l.length + ss.length : Nat) : Int)) (n := 512) rfl rfl rfl (decide_eq_true hb7)) ?_
   refine wpListIn_nil ?_
   simp only [Act.put, List.setIfInBounds_toArray, List.set_cons_succ, List.set_cons_zero]
   refine then_normal (hK6 _ _ ?_)
   clear hK6 K6
   refine wpIn_cond_true rfl ?_
   refine wpIn_seq_k (fun K8 hK8 => ?_)
   refine wpIn_region_lit ?_
   refine wpi_exG (v := .slice none 0 0) (fun _ => trivial) (wn rfl) rfl (ex_assign rfl rfl) ?_
   refine wpi_exG (v := .int .i64 22) (fun _ => trivial) (wn rfl) rfl (ex_assign rfl rfl) ?_
   refine wpListIn_nil ?_
   simp only [Act.put, List.setIfInBounds_toArray, List.set_cons_succ, List.set_cons_zero]
   refine then_normal (hK8 _ _ ?_)
   clear hK8 K8
   refine wpIn_ret ?_
   refine then_ret ?_
   clear hK5 K5
   refine sl_end0 (results_tmp2 rfl _ _ _) ?_
   exact ⟨B, none, 0, [], 22, Base.Le.refl _, rfl, ⟨Nat.le_refl _, Nat.zero_le _, fun _ => rfl⟩, rdV_nil, .inl ⟨by decide, rfl, .inr (by omega)⟩, hv⟩
  refine wpi_exG (v := .bool false) (fun _ => trivial) (wn rfl) rfl (ex_gtr (k := .i64) (m := ((l.length + ss.length : Nat) : Int)) (n := 512) rfl rfl rfl (decide_eq_false hb7)) ?_
  refine wpListIn_nil ?_
  simp only [Act.put, List.setIfInBounds_toArray, List.set_cons_succ, List.set_cons_zero]
  refine then_normal (hK6 _ _ ?_)
  clear hK6 K6
  refine wpIn_cond_false rfl ?_
  refine wpIn_skip ?_
  refine then_normal (hK5 _ _ ?_)
  clear hK5 K5
  refine wpIn_seq_k (fun K9 hK9 => ?_)
  refine wpIn_region_lit ?_
  refine wpi_exG (v := .slice la l.length lc) (fun _ => trivial) (wn rfl) rfl (ex_move rfl rfl) ?_
  refine wpi_exG (v := .int .i64 (l.length : Int)) (fun _ => trivial) (wn rfl) rfl (ex_len0 Tryz.underlying22 rfl rfl) ?_
  refine wpi_exG (v := .slice sa ss.length sc) (fun _ => trivial) (wn rfl) rfl (ex_move rfl rfl) ?_
  simp only [Act.put, List.setIfInBounds_toArray, List.set_cons_succ, List.set_cons_zero]
  refine wpi_exG (v := .int .i64 (ss.length : Int)) (fun _ => trivial) (wn rfl) rfl (ex_len0 Tryz.underlying22 rfl rfl) ?_
  refine wpi_exG (v := .int .i64 ((l.length + ss.length : Nat) : Int)) (fun _ => trivial) (wn rfl) rfl (ex_add (m := (l.length : Int)) (n := (ss.length : Int)) rfl rfl rfl (by rw [i64_in (by omega)]; omega)) ?_
  refine sl_makeRow (cap := (l.length + ss.length : Nat)) (fun _ => trivial) (wn rfl) rfl rfl rfl i5el22 (by unfold maxLen; omega) (by omega) hv (fun b10 w11 hv => ?_)
  simp only [Act.put, List.setIfInBounds_toArray, List.set_cons_succ, List.set_cons_zero]
  refine sl_alloc (fun _ => trivial) (wn rfl) rfl hv i5al22 (fun b12 w13 hv => ?_)
  refine sl_storeAt 0 (v := .slice (some ⟨b10, 0, none⟩) 0 (l.length + ss.length : Nat)) (L' := [.slice (some ⟨b10, 0, none⟩) 0 (l.length + ss.length : Nat)]) (fun _ => trivial) (wn rfl) rfl rfl rfl hv rfl s1sz22 (by simp) rfl rfl rfl (fun w14 hv => ?_)
  simp only [List.set_cons_zero] at hv
  refine wpListIn_nil ?_
  simp only [Act.put, List.setIfInBounds_toArray, List.set_cons_succ, List.set_cons_zero]
  refine then_normal (hK9 _ _ ?_)
  clear hK9 K9
  refine wpIn_seq_k (fun K15 hK15 => ?_)
  refine wpIn_seq_k (fun K16 hK16 => ?_)
  refine wpIn_region_lit ?_
  refine wpi_exG (v := .bool front) (fun _ => trivial) (wn rfl) rfl (ex_move rfl rfl) ?_
  refine wpi_exG (v := .bool (!front)) (fun _ => trivial) (wn rfl) rfl (ex_not (b := front) rfl rfl rfl) ?_
  refine wpListIn_nil ?_
  simp only [Act.put, List.setIfInBounds_toArray, List.set_cons_succ, List.set_cons_zero]
  refine then_normal (hK16 _ _ ?_)
  clear hK16 K16
  refine wpIn_cond_split (t := !front) rfl (fun hc17 => ?_) (fun hc17 => ?_)
  ·refine wpIn_seq_k (fun K18 hK18 => ?_)
   refine wpIn_region_lit ?_
   refine wpi_exG (v := .slice (some ⟨b10, 0, none⟩) 0 (l.length + ss.length : Nat)) (fun _ => trivial) (wn rfl) rfl (ex_load rfl rfl (run_load1 s1na22 (hv.load 0 0 rfl rfl))) ?_
   refine wpi_exG (v := .slice la l.length lc) (fun _ => trivial) (wn rfl) rfl (ex_move rfl rfl) ?_
   replace hv := hv.front 1 rfl
   simp only [List.eraseIdx_cons_succ, List.eraseIdx_cons_zero] at hv
   refine sl_append (news := textCells l) (fun _ => trivial) (wn rfl) rfl rfl rfl i5el22 hv hokl (by rw [textCells_len]) ((hrl.rdW []).src (fun r9 hr9 => absurd hr9 List.not_mem_nil) hv) (textCells_one _) (by unfold maxLen; omega) (by omega) (fun rv19 w22 hv => ?_)
   obtain ⟨ra20, rc21, rfl⟩ := row_slice hv.head
   simp only [Act.put, List.setIfInBounds_toArray, List.set_cons_succ, List.set_cons_zero]
   refine sl_storeAt 1 (v := .slice ra20 (0 + l.length) rc21) (L' := [.slice ra20 (0 + l.length) rc21]) (fun _ => trivial) (wn rfl) rfl rfl rfl hv rfl s1sz22 (by simp) rfl rfl rfl (fun w23 hv => ?_)
   simp only [List.set_cons_succ, List.set_cons_zero] at hv
   refine wpListIn_nil ?_
   simp only [Act.put]
   refine then_normal (hK18 _ _ ?_)
   clear hK18 K18
   refine wpIn_seq_k (fun K24 hK24 => ?_)
   refine wpIn_region_lit ?_
   refine wpi_exG (v := .slice ra20 (0 + l.length) rc21) (fun _ => trivial) (wn rfl) rfl (ex_load rfl rfl (run_load1 s1na22 (hv.load 1 0 rfl rfl))) ?_
   refine wpi_exG (v := .slice sa ss.length sc) (fun _ => trivial) (wn rfl) rfl (ex_move rfl rfl) ?_
   refine sl_append (news := textCells ss) (fun _ => trivial) (wn rfl) rfl rfl rfl i5el22 hv hoks (by rw [textCells_len]) ((hrs.rdW []).src (fun r9 hr9 => absurd hr9 List.not_mem_nil) hv) (textCells_one _) (by unfold maxLen; omega) (by omega) (fun rv25 w28 hv => ?_)
   obtain ⟨ra26, rc27, rfl⟩ := row_slice hv.head
   simp only [Act.put, List.setIfInBounds_toArray, List.set_cons_succ, List.set_cons_zero]
   refine wpi_exG (v := .slice ra26 ((0 + l.length) + ss.length) rc27) (fun _ => trivial) (wn rfl) rfl (ex_assign rfl rfl) ?_
   refine wpi_exG (v := .int .i64 0) (fun _ => trivial) (wn rfl) rfl (ex_assign rfl rfl) ?_
   refine wpListIn_nil ?_
   simp only [Act.put, List.setIfInBounds_toArray, List.set_cons_succ, List.set_cons_zero]
   refine then_normal (hK24 _ _ ?_)
   clear hK24 K24
   refine wpIn_ret ?_
   refine then_ret ?_
   clear hK15 K15
   refine sl_end0 (results_tmp2 rfl _ _ _) ?_
   have hln : (l ++ ss).length = (0 + l.length) + ss.length := by simp only [List.length_append] <;> omega
   have h9 := (hv.sub (List.Sublist.cons_cons _ (List.Sublist.cons _ (List.Sublist.refl _))))
   rw [show (([] : List Value) ++ (textCells l)) ++ (textCells ss) = textCells (l ++ ss) by simp [textCells]] at h9
   obtain ⟨D, hD, hv, hro, hoko, -⟩ := h9.rowBy
   exact ⟨D, _, _, l ++ ss, 0, hD, by show Ending.returned (Value.tuple #[.slice ra26 ((0 + l.length) + ss.length) rc27, Value.int .i64 0]) = _; rw [hln], by rw [hln]; exact hoko, hro, .inr ⟨rfl, fun s hs => by have h9 := List.any_eq_false.1 hany s hs; simp only [decide_eq_true_eq] at h9; omega, by omega, by simp_all⟩, hv⟩
  refine wpIn_skip ?_
  refine then_normal (hK15 _ _ ?_)
  clear hK15 K15
  refine wpIn_seq_k (fun K29 hK29 => ?_)
  refine wpIn_seq_k (fun K30 hK30 => ?_)
  refine wpIn_region_lit ?_
  refine wpi_exG (v := .slice sa ss.length sc) (fun _ => trivial) (wn rfl) rfl (ex_move rfl rfl) ?_
  refine wpi_callG i5callable96 (fun _ => trivial) wideC rfl (wn rfl) rfl (args := #[.slice sa ss.length sc]) (by simp only [List.map_toArray, List.map_cons, List.map_nil]; rfl) ((backSl B _ _ sa sc ss hv).mono ?_)
  rintro e w32 ⟨bx31, rfl, hv⟩
  refine ⟨_, rfl, ?_⟩
  refine wpListIn_nil ?_
  simp only [Act.put, List.setIfInBounds_toArray, List.set_cons_succ, List.set_cons_zero]
  refine then_normal (hK30 _ _ ?_)
  clear hK30 K30
  refine wpIn_block ?_
  replace hv := hv.front 1 rfl
  simp only [List.eraseIdx_cons_succ, List.eraseIdx_cons_zero] at hv
  replace hv := hv.front 2 rfl
  simp only [List.eraseIdx_cons_succ, List.eraseIdx_cons_zero] at hv
  replace hv := hv.front 2 rfl
  simp only [List.eraseIdx_cons_succ, List.eraseIdx_cons_zero] at hv
  obtain ⟨TT, hTT⟩ : ∃ TT : List Res, TT = (H) := ⟨_, rfl⟩
  rw [← hTT] at hv
  refine sl_rangeP (by omega) rfl (enters_of Tryz.func106 (by kernel_rfl) rfl) (R0 := [Res.cell bx31 [.slice sa ss.length sc] 22]) (backIt _ B bx31 sa sc ss hrs hms) (fun x => rfl) (fun pre R => ∃ va vc, R = Res.row 9 1 (.slice va pre.length vc) pre.length (textCells (pre.map (·.2))) :: Res.cell b12 [.slice va pre.length vc] 22 :: TT) (fun x => { tmps := List.toArray (.slice la l.length lc :: .bool front :: .slice sa ss.length sc :: undef :: undef :: undef :: .slice none 0 0 :: .int .i64 0 :: .pointer (some ⟨b12, 0, none⟩) :: undef :: .string ⟨x.2.toArray⟩ :: .slice sa ss.length sc :: .bool false :: .slice la l.length lc :: .int .i64 (l.length : Int) :: .slice sa ss.length sc :: .int .i64 (ss.length : Int) :: .int .i64 ((l.length + ss.length : Nat) : Int) :: .bool false :: .slice la l.length lc :: .int .i64 (l.length : Int) :: .slice sa ss.length sc :: .int .i64 (ss.length : Int) :: .int .i64 ((l.length + ss.length : Nat) : Int) :: .slice (some ⟨b10, 0, none⟩) 0 (l.length + ss.length : Nat) :: .bool front :: .bool (!front) :: undef :: undef :: undef :: undef :: undef :: undef :: .slice sa ss.length sc :: .func (.func 106) #[] #[.pointer (some ⟨bx31, 0, none⟩)] :: .int .i64 (x.1 : Int) :: .string ⟨x.2.toArray⟩ :: undef :: undef :: undef :: undef :: undef :: undef :: undef :: []), defers := [] }) ⟨_, _, rfl⟩ hv ?assign ?body ?done
  case assign =>
   rintro ll pre x R T W hst hR hv
   simp only [bkEnc, List.zip_toArray, List.zip_cons_cons, List.zip_nil_right, List.foldl_toArray', List.foldl_cons, List.foldl_nil, List.setIfInBounds_toArray, List.set_cons_succ, List.set_cons_zero]
   refine wpIn_region_lit ?_
   refine wpi_exG (v := .string ⟨x.2.toArray⟩) (fun _ => trivial) (wn rfl) rfl (ex_assign rfl rfl) ?_
   refine wpListIn_nil ?_
   simp only [Act.put, List.setIfInBounds_toArray, List.set_cons_succ, List.set_cons_zero]
   exact ⟨by trivial, by trivial, hv⟩
  case body =>
   rintro ll pre x _ T W hst ⟨va, vc, rfl⟩ hv
   obtain ⟨TU, hTU⟩ : ∃ TU : List Res, TU = TT ++ T := ⟨_, rfl⟩
   simp only [List.cons_append] at hv; rw [← hTU] at hv
   have hpl9 : pre.length < 1000000 := by have := hst.1; omega
   refine wpIn_block ?_
   refine wpIn_region_lit ?_
   refine wpi_exG (v := .slice va pre.length vc) (fun _ => trivial) (wn rfl) rfl (ex_load rfl rfl (run_load1 s1na22 (hv.load 1 0 rfl rfl))) ?_
   refine wpi_exG (v := .string ⟨x.2.toArray⟩) (fun _ => trivial) (wn rfl) rfl (ex_move rfl rfl) ?_
   refine sl_rowOne (v := .string ⟨x.2.toArray⟩) (fun _ => trivial) (wn rfl) rfl rfl hv i5el22 rfl (fun b33 w34 hv => ?_)
   simp only [Act.put, List.setIfInBounds_toArray, List.set_cons_succ, List.set_cons_zero]
   replace hv := hv.front 1 rfl
   simp only [List.eraseIdx_cons_succ, List.eraseIdx_cons_zero] at hv
   refine sl_append (news := [.string ⟨x.2.toArray⟩]) (fun _ => trivial) (wn rfl) rfl rfl rfl i5el22 hv (ok_full (by omega)) rfl (rd_all (hv.get 1 rfl)) (by intro u hu; simp only [List.mem_cons, List.not_mem_nil, or_false] at hu; rcases hu with rfl <;> rfl) (by unfold maxLen; omega) (by omega) (fun rv35 w38 hv => ?_)
   obtain ⟨ra36, rc37, rfl⟩ := row_slice hv.head
   refine sl_storeAt 2 (v := .slice ra36 (pre.length + 1) rc37) (L' := [.slice ra36 (pre.length + 1) rc37]) (fun _ => trivial) (wn rfl) rfl rfl rfl hv rfl s1sz22 (by simp) rfl rfl rfl (fun w39 hv => ?_)
   simp only [List.set_cons_succ, List.set_cons_zero] at hv
   refine wpListIn_nil ?_
   simp only [Act.put, List.setIfInBounds_toArray, List.set_cons_succ, List.set_cons_zero]
   refine blk_normal ?_
   have hv9 := (((hv.front 2 rfl).front 1 rfl).sub (List.Sublist.cons_cons _ (List.Sublist.cons_cons _ (List.Sublist.cons _ (List.Sublist.refl _)))))
   rw [hTU] at hv9
   refine ⟨by trivial, _, ⟨ra36, rc37, rfl⟩, ?_⟩
   rw [List.length_append, List.length_singleton, List.map_append, show textCells (pre.map (·.2) ++ [x].map (·.2)) = textCells (pre.map (·.2)) ++ [strV x.2] by simp [textCells]]
   exact hv9
  case done =>
   rintro d40 xs _ w41 hS ⟨va, vc, rfl⟩ hv
   have hxl : xs.length = ss.length := by have := congrArg List.length hS; simpa using this
   rw [hTT, hS, hxl] at hv
   refine blk_normal ?_
   refine then_normal (hK29 _ _ ?_)
   clear hK29 K29
   refine wpIn_seq_k (fun K42 hK42 => ?_)
   refine wpIn_region_lit ?_
   refine wpi_exG (v := .slice va ss.length vc) (fun _ => trivial) (wn rfl) rfl (ex_load rfl rfl (run_load1 s1na22 (hv.load 2 0 rfl rfl))) ?_
   refine wpi_exG (v := .slice la l.length lc) (fun _ => trivial) (wn rfl) rfl (ex_move rfl rfl) ?_
   replace hv := hv.front 1 rfl
   simp only [List.eraseIdx_cons_succ, List.eraseIdx_cons_zero] at hv
   refine sl_append (news := textCells l) (fun _ => trivial) (wn rfl) rfl rfl rfl i5el22 hv hokl (by rw [textCells_len]) ((hrl.rdW []).src (fun r9 hr9 => absurd hr9 List.not_mem_nil) hv) (textCells_one _) (by unfold maxLen; omega) (by omega) (fun rv43 w46 hv => ?_)
   obtain ⟨ra44, rc45, rfl⟩ := row_slice hv.head
   simp only [Act.put, List.setIfInBounds_toArray, List.set_cons_succ, List.set_cons_zero]
   refine wpi_exG (v := .slice ra44 (ss.length + l.length) rc45) (fun _ => trivial) (wn rfl) rfl (ex_assign rfl rfl) ?_
   refine wpi_exG (v := .int .i64 0) (fun _ => trivial) (wn rfl) rfl (ex_assign rfl rfl) ?_
   refine wpListIn_nil ?_
   simp only [Act.put, List.setIfInBounds_toArray, List.set_cons_succ, List.set_cons_zero]
   refine then_normal (hK42 _ _ ?_)
   clear hK42 K42
   refine wpIn_ret ?_
   replace hv := hv.front 1 rfl
   simp only [List.eraseIdx_cons_succ, List.eraseIdx_cons_zero] at hv
   refine sl_end1 hv (fun w47 hv => ⟨_, results_tmp2 rfl _ _ _, ?_⟩)
   have hln : (ss.reverse ++ l).length = ss.length + l.length := by simp only [List.length_append, List.length_reverse] <;> omega
   have h9 := (hv.sub (List.Sublist.cons_cons _ (List.Sublist.cons _ (List.Sublist.refl _))))
   rw [show (textCells ss.reverse) ++ (textCells l) = textCells (ss.reverse ++ l) by simp [textCells]] at h9
   obtain ⟨D, hD, hv, hro, hoko, -⟩ := h9.rowBy
   exact ⟨D, _, _, ss.reverse ++ l, 0, hD, by show Ending.returned (Value.tuple #[.slice ra44 (ss.length + l.length) rc45, Value.int .i64 0]) = _; rw [hln], by rw [hln]; exact hoko, hro, .inr ⟨rfl, fun s hs => by have h9 := List.any_eq_false.1 hany s hs; simp only [decide_eq_true_eq] at h9; omega, by omega, by simp_all⟩, hv⟩
 refine wpListIn_nil ?_
 simp only [Act.put, List.setIfInBounds_toArray, List.set_cons_succ, List.set_cons_zero]
 refine then_normal (hK3 _ _ ?_)
 clear hK3 K3
 refine wpIn_cond_true rfl ?_
 refine wpIn_seq_k (fun K48 hK48 => ?_)
 refine wpIn_region_lit ?_
 refine wpi_exG (v := .slice none 0 0) (fun _ => trivial) (wn rfl) rfl (ex_assign rfl rfl) ?_
 refine wpi_exG (v := .int .i64 12) (fun _ => trivial) (wn rfl) rfl (ex_assign rfl rfl) ?_
 refine wpListIn_nil ?_
 simp only [Act.put, List.setIfInBounds_toArray, List.set_cons_succ, List.set_cons_zero]
 refine then_normal (hK48 _ _ ?_)
 clear hK48 K48
 refine wpIn_ret ?_
 refine then_ret ?_
 clear hK2 K2
 refine sl_end0 (results_tmp2 rfl _ _ _) ?_
 obtain ⟨s9, hs9, hs8⟩ := List.any_eq_true.1 hany
 exact ⟨B, none, 0, [], 12, Base.Le.refl _, rfl, ⟨Nat.le_refl _, Nat.zero_le _, fun _ => rfl⟩, rdV_nil, .inl ⟨by decide, rfl, .inl ⟨s9, hs9, by simp only [decide_eq_true_eq] at hs8; omega⟩⟩, hv⟩
end Go.Proofs.YtmhdpjifhfoabaaGreatDoor
