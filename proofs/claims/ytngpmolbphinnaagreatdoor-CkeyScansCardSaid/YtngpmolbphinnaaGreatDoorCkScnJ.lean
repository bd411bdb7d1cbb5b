/- The reference's Right of values; One; Alive, At, Latest, Prune of chains. -/
import Derived.Test.YtngpmolbphinnaaGreatDoorCkScnB
import Derived.Test.YtngpmolbphinnaaGreatDoorCkScnI
import Derived.Test.YtngpmolbphinnaaGreatDoorRows
import Derived.Test.YtngpmolbphinnaaGreatDoorCkScnF
import Derived.Test.YtngpmolbphinnaaGreatDoorCkScnH
import Derived.Test.YtngpmolbphinnaaGreatDoorCkScnE
import Derived.Lib.LaidTab
import Derived.LaidSub
import Derived.Lib.ItoaNum
import Derived.Deep.LoopGhost
import Derived.Lib.ParseIntBTie
set_option maxRecDepth 100000
set_option maxHeartbeats 16000000
set_option synthInstance.maxSize 4096
set_option synthInstance.maxHeartbeats 400000
namespace Go.Proofs.YtngpmolbphinnaaGreatDoor
open Go.RowKit Go.Pm
theorem llen {l : List (List UInt8)} (h : listRight l = true) : l.length ≤ 512 := by
 unfold listRight at h
 rw [Bool.and_eq_true, decide_eq_true_iff] at h
 exact h.1
theorem lleft {l : List (List UInt8)} (h : listRight l = true) (i : Nat) (x : List UInt8) (hx : l[i]? = some x) : x.length ≤ 4096 := by
 unfold listRight at h
 rw [Bool.and_eq_true, Bool.not_eq_true', List.any_eq_false] at h
 have := h.2 x (List.mem_of_getElem? hx)
 simp at this
 omega
theorem lright {l : List (List UInt8)} (h : l.length ≤ 512) (hno : ∀ j x, j < l.length → l[j]? = some x → x.length ≤ 4096) : listRight l = true := by
 unfold listRight
 rw [qT h, Bool.true_and, Bool.not_eq_true', List.any_eq_false]
 intro x hx
 obtain ⟨j, hj⟩ := List.mem_iff_getElem?.1 hx
 have := hno j x (List.getElem?_eq_some_iff.1 hj).1 hj
 simp; omega
theorem refRight_0 (B : Base) (H : List Res) (w : World) (v : Val) (ap at2 az : Option Addr) (cp ct cz : Nat) (_ : RdV B [] ap (pairCells v.pairs)) (_ : RdV B [] at2 (textCells v.texts)) (_ : RdV B [] az (memCells v.zset)) (_ : v.pairs.length ≤ 1000000) (_ : v.texts.length ≤ 1000000) (_ : v.zset.length ≤ 1000000) (hk : v.kind < 1 ∨ 5 < v.kind) (hv : Inv B H w) :
  Calls Tryz.prog 14 #[.agg #[vI v.kind, vS v.text, .slice ap v.pairs.length cp, .slice at2 v.texts.length ct, .slice az v.zset.length cz]] w fun e w' => ∃ b, e = .returned (.bool b) ∧ (b = true ↔ ValOk v) ∧ Inv B H w' := by
 refine cW Tryz.func14 rfl Tryz.ntmps14 ?_
 simp only [al]
 refine sK fun _ k1 => rL (sl_box (L := [vI v.kind, vS v.text, .slice ap v.pairs.length cp, .slice at2 v.texts.length ct, .slice az v.zset.length cz]) tV (wn rfl) rfl rfl hv (fun w => by kernel_rfl) (fun b2 w3 hv => ?_))
 refine uA rfl (uW k1 ?_)
 refine sK fun _ k4 => sK fun _ k5 => rL (uF (vP b2) rfl (s12fa43_0 _ _ _) ?_)
 refine uL _ rfl (run_load1 s2na3 (hv.load 0 0 rfl rfl)) ?_
 by_cases hb6 : v.kind < 1
 ·refine uG (.bool true) rfl (ex_lss rfl rfl rfl (qT hb6)) (uM rfl ?_)
  iterate 3 refine uP rfl ?_
  refine uK rfl (uM rfl ?_)
  iterate 8 refine uP rfl ?_
  refine uK rfl (uM rfl ?_)
  iterate 9 refine uP rfl ?_
  refine uK rfl (uM rfl ?_)
  iterate 14 refine uP rfl ?_
  refine uK rfl (uM rfl ?_)
  iterate 9 refine uP rfl ?_
  refine uK rfl (uW k5 ?_)
  refine cT rfl (sK fun _ k7 => ?_)
  refine rL (uA rfl ?_)
  refine uW k7 (rR ?_)
  refine tR (bR rfl rfl ?_)
  exact ⟨false, rfl, ⟨fun h => (by cases h), fun h => by rcases h with ⟨h1, h2, h3, h4, h5⟩ | ⟨h1, h2, h3, h4, h5, h6⟩ | ⟨h1, h2, h3, h4, h5, h6⟩ | ⟨h1, h2, h3, h4, h5, h6⟩ | ⟨h1, h2, h3, h4, h5, h6⟩ <;> first | omega | contradiction | (have h9 := hv.2 h3; cases h9)⟩, (hv.kp [] 0 1)⟩
 refine uG (.bool false) rfl (ex_lss rfl rfl rfl (qF hb6)) (uM rfl ?_)
 refine uF (vP b2) rfl (s12fa43_0 _ _ _) ?_
 refine uL _ rfl (run_load1 s2na3 (hv.load 0 0 rfl rfl)) ?_
 refine uG (.bool true) rfl (ex_gtr rfl rfl rfl (qT (by omega))) (uK rfl ?_)
 refine uM rfl ?_
 iterate 8 refine uP rfl ?_
 refine uK rfl (uM rfl ?_)
 iterate 9 refine uP rfl ?_
 refine uK rfl (uM rfl ?_)
 iterate 14 refine uP rfl ?_
 refine uK rfl (uM rfl ?_)
 iterate 9 refine uP rfl ?_
 refine uK rfl (uW k5 ?_)
 refine cT rfl (sK fun _ k8 => ?_)
 refine rL (uA rfl ?_)
 refine uW k8 (rR ?_)
 refine tR (bR rfl rfl ?_)
 exact ⟨false, rfl, ⟨fun h => (by cases h), fun h => by rcases h with ⟨h1, h2, h3, h4, h5⟩ | ⟨h1, h2, h3, h4, h5, h6⟩ | ⟨h1, h2, h3, h4, h5, h6⟩ | ⟨h1, h2, h3, h4, h5, h6⟩ | ⟨h1, h2, h3, h4, h5, h6⟩ <;> first | omega | contradiction | (have h9 := hv.2 h3; cases h9)⟩, (hv.kp [] 0 1)⟩
theorem refRight_1 (B : Base) (H : List Res) (w : World) (v : Val) (ap at2 az : Option Addr) (cp ct cz : Nat) (_ : RdV B [] ap (pairCells v.pairs)) (_ : RdV B [] at2 (textCells v.texts)) (_ : RdV B [] az (memCells v.zset)) (hpm : v.pairs.length ≤ 1000000) (htm : v.texts.length ≤ 1000000) (hzm : v.zset.length ≤ 1000000) (hk : v.kind = 1) (hv : Inv B H w) :
  Calls Tryz.prog 14 #[.agg #[vI v.kind, vS v.text, .slice ap v.pairs.length cp, .slice at2 v.texts.length ct, .slice az v.zset.length cz]] w fun e w' => ∃ b, e = .returned (.bool b) ∧ (b = true ↔ ValOk v) ∧ Inv B H w' := by
 refine cW Tryz.func14 rfl Tryz.ntmps14 ?_
 simp only [al]
 refine sK fun _ k1 => rL (sl_box (L := [vI v.kind, vS v.text, .slice ap v.pairs.length cp, .slice at2 v.texts.length ct, .slice az v.zset.length cz]) tV (wn rfl) rfl rfl hv (fun w => by kernel_rfl) (fun b2 w3 hv => ?_))
 refine uA rfl (uW k1 ?_)
 refine sK fun _ k4 => sK fun _ k5 => rL (uF (vP b2) rfl (s12fa43_0 _ _ _) ?_)
 refine uL _ rfl (run_load1 s2na3 (hv.load 0 0 rfl rfl)) ?_
 refine uG (.bool false) rfl (ex_lss rfl rfl rfl (qF (by omega))) (uM rfl ?_)
 refine uF (vP b2) rfl (s12fa43_0 _ _ _) ?_
 refine uL _ rfl (run_load1 s2na3 (hv.load 0 0 rfl rfl)) ?_
 refine uG (.bool false) rfl (ex_gtr rfl rfl rfl (qF (by omega))) (uK rfl ?_)
 refine uM rfl ?_
 refine uF (vP b2) rfl (s12fa43_0 _ _ _) ?_
 refine uL _ rfl (run_load1 s2na3 (hv.load 0 0 rfl rfl)) ?_
 refine uG (.bool false) rfl (ex_neq rfl rfl rfl (qF (by omega))) ?_
 refine uM rfl ?_
 iterate 3 refine uP rfl ?_
 refine uK rfl (uK rfl ?_)
 refine uM rfl ?_
 refine uF (vP b2) rfl (s12fa43_0 _ _ _) ?_
 refine uL _ rfl (run_load1 s2na3 (hv.load 0 0 rfl rfl)) ?_
 refine uG (.bool true) rfl (ex_neq rfl rfl rfl (qT (by omega))) ?_
 refine uM rfl ?_
 refine uF (.pointer (some ⟨b2, 2, none⟩)) rfl (s1fa43_2 _ _ _) ?_
 refine uL _ rfl (run_load1 s1na40 (hv.load 0 2 rfl rfl)) ?_
 refine uG (vI (v.pairs.length : Int)) rfl (ex_len0 Tryz.underlying40 rfl rfl) ?_
 by_cases hb6 : (v.pairs.length : Int) > 0
 ·refine uG (.bool true) rfl (ex_gtr rfl rfl rfl (qT hb6)) ?_
  refine uK rfl (uK rfl ?_)
  refine uM rfl ?_
  iterate 14 refine uP rfl ?_
  refine uK rfl (uM rfl ?_)
  iterate 9 refine uP rfl ?_
  refine uK rfl (uW k5 ?_)
  refine cT rfl (sK fun _ k7 => ?_)
  refine rL (uA rfl ?_)
  refine uW k7 (rR ?_)
  refine tR (bR rfl rfl ?_)
  exact ⟨false, rfl, ⟨fun h => (by cases h), fun h => by rcases h with ⟨h1, h2, h3, h4, h5⟩ | ⟨h1, h2, h3, h4, h5, h6⟩ | ⟨h1, h2, h3, h4, h5, h6⟩ | ⟨h1, h2, h3, h4, h5, h6⟩ | ⟨h1, h2, h3, h4, h5, h6⟩ <;> first | omega | contradiction | (have h9 := hv.2 h3; cases h9)⟩, (hv.kp [] 0 1)⟩
 refine uG (.bool false) rfl (ex_gtr rfl rfl rfl (qF hb6)) ?_
 refine uK rfl (uK rfl ?_)
 refine uM rfl ?_
 refine uF (vP b2) rfl (s12fa43_0 _ _ _) ?_
 refine uL _ rfl (run_load1 s2na3 (hv.load 0 0 rfl rfl)) ?_
 refine uG (.bool true) rfl (ex_neq rfl rfl rfl (qT (by omega))) ?_
 refine uM rfl ?_
 refine uF (vP b2) rfl (s12fa43_0 _ _ _) ?_
 refine uL _ rfl (run_load1 s2na3 (hv.load 0 0 rfl rfl)) ?_
 refine uG (.bool true) rfl (ex_neq rfl rfl rfl (qT (by omega))) ?_
 refine uK rfl ?_
 refine uM rfl ?_
 refine uF (.pointer (some ⟨b2, 3, none⟩)) rfl (s1fa43_3 _ _ _) ?_
 refine uL _ rfl (run_load1 s1na26 (hv.load 0 3 rfl rfl)) ?_
 refine uG (vI (v.texts.length : Int)) rfl (ex_len0 Tryz.underlying26 rfl rfl) ?_
 by_cases hb8 : (v.texts.length : Int) > 0
 ·refine uG (.bool true) rfl (ex_gtr rfl rfl rfl (qT hb8)) ?_
  refine uK rfl (uK rfl ?_)
  refine uM rfl ?_
  iterate 9 refine uP rfl ?_
  refine uK rfl (uW k5 ?_)
  refine cT rfl (sK fun _ k9 => ?_)
  refine rL (uA rfl ?_)
  refine uW k9 (rR ?_)
  refine tR (bR rfl rfl ?_)
  exact ⟨false, rfl, ⟨fun h => (by cases h), fun h => by rcases h with ⟨h1, h2, h3, h4, h5⟩ | ⟨h1, h2, h3, h4, h5, h6⟩ | ⟨h1, h2, h3, h4, h5, h6⟩ | ⟨h1, h2, h3, h4, h5, h6⟩ | ⟨h1, h2, h3, h4, h5, h6⟩ <;> first | omega | contradiction | (have h9 := hv.2 h3; cases h9)⟩, (hv.kp [] 0 1)⟩
 refine uG (.bool false) rfl (ex_gtr rfl rfl rfl (qF hb8)) ?_
 refine uK rfl (uK rfl ?_)
 refine uM rfl ?_
 refine uF (vP b2) rfl (s12fa43_0 _ _ _) ?_
 refine uL _ rfl (run_load1 s2na3 (hv.load 0 0 rfl rfl)) ?_
 refine uG (.bool true) rfl (ex_neq rfl rfl rfl (qT (by omega))) ?_
 refine uM rfl ?_
 refine uF (.pointer (some ⟨b2, 4, none⟩)) rfl (s1fa43_4 _ _ _) ?_
 refine uL _ rfl (run_load1 s1na41 (hv.load 0 4 rfl rfl)) ?_
 refine uG (vI (v.zset.length : Int)) rfl (ex_len0 Tryz.underlying41 rfl rfl) ?_
 by_cases hb10 : (v.zset.length : Int) > 0
 ·refine uG (.bool true) rfl (ex_gtr rfl rfl rfl (qT hb10)) ?_
  refine uK rfl (uK rfl ?_)
  refine uW k5 (cT rfl ?_)
  refine sK fun _ k11 => rL (uA rfl ?_)
  refine uW k11 (rR ?_)
  refine tR (bR rfl rfl ?_)
  exact ⟨false, rfl, ⟨fun h => (by cases h), fun h => by rcases h with ⟨h1, h2, h3, h4, h5⟩ | ⟨h1, h2, h3, h4, h5, h6⟩ | ⟨h1, h2, h3, h4, h5, h6⟩ | ⟨h1, h2, h3, h4, h5, h6⟩ | ⟨h1, h2, h3, h4, h5, h6⟩ <;> first | omega | contradiction | (have h9 := hv.2 h3; cases h9)⟩, (hv.kp [] 0 1)⟩
 refine uG (.bool false) rfl (ex_gtr rfl rfl rfl (qF hb10)) ?_
 refine uK rfl (uK rfl ?_)
 refine uW k5 (cF rfl ?_)
 refine kS (tK k4 ?_)
 refine sK fun _ k12 => sK fun _ k13 => rL (uF (vP b2) rfl (s12fa43_0 _ _ _) ?_)
 refine uL _ rfl (run_load1 s2na3 (hv.load 0 0 rfl rfl)) (uW k13 ?_)
 refine bB (sK fun _ k14 => ?_)
 refine rL (uG (.bool true) rfl (ex_eql rfl rfl rfl (qT (by omega))) ?_)
 refine uA rfl (uW k14 ?_)
 refine cT rfl (sK fun _ k15 => ?_)
 refine rL (uF (.pointer (some ⟨b2, 1, none⟩)) rfl (s12fa43_1 _ _ _) ?_)
 refine uL _ rfl (run_load1 s9na9 (hv.load 0 1 rfl rfl)) ?_
 refine uG (vI (v.text.length : Int)) rfl (ex_lenStr Tryz.underlying9 rfl rfl) ?_
 refine uG (.bool (decide ((v.text.length : Int) ≤ 4096))) rfl (ex_leq rfl rfl rfl rfl) (uA rfl ?_)
 refine uW k15 (rR ?_)
 refine bZ (tR ?_)
 refine bR rfl rfl (⟨_, rfl, by rw [decide_eq_true_iff]; exact ⟨fun h9 => .inl ⟨by omega, by omega, by omega, by omega, by omega⟩, fun h => by rcases h with ⟨h1, h2, h3, h4, h5⟩ | ⟨h1, h2, h3, h4, h5, h6⟩ | ⟨h1, h2, h3, h4, h5, h6⟩ | ⟨h1, h2, h3, h4, h5, h6⟩ | ⟨h1, h2, h3, h4, h5, h6⟩ <;> first | omega | (have h9 := llen h3; omega)⟩, (hv.kp [] 0 1)⟩)
theorem s31callable33 : Callable Tryz.prog 33 := cb Tryz.func33 (by kernel_rfl)
theorem refRight_2 (B : Base) (H : List Res) (w : World) (v : Val) (ap at2 az : Option Addr) (cp ct cz : Nat) (hrp : RdV B [] ap (pairCells v.pairs)) (_ : RdV B [] at2 (textCells v.texts)) (_ : RdV B [] az (memCells v.zset)) (hpm : v.pairs.length ≤ 1000000) (htm : v.texts.length ≤ 1000000) (hzm : v.zset.length ≤ 1000000) (hk : v.kind = 2) (hv : Inv B H w) :
  Calls Tryz.prog 14 #[.agg #[vI v.kind, vS v.text, .slice ap v.pairs.length cp, .slice at2 v.texts.length ct, .slice az v.zset.length cz]] w fun e w' => ∃ b, e = .returned (.bool b) ∧ (b = true ↔ ValOk v) ∧ Inv B H w' := by
 refine cW Tryz.func14 rfl Tryz.ntmps14 ?_
 simp only [al]
 refine sK fun _ k1 => rL (sl_box (L := [vI v.kind, vS v.text, .slice ap v.pairs.length cp, .slice at2 v.texts.length ct, .slice az v.zset.length cz]) tV (wn rfl) rfl rfl hv (fun w => by kernel_rfl) (fun b2 w3 hv => ?_))
 refine uA rfl (uW k1 ?_)
 refine sK fun _ k4 => sK fun _ k5 => rL (uF (vP b2) rfl (s12fa43_0 _ _ _) ?_)
 refine uL _ rfl (run_load1 s2na3 (hv.load 0 0 rfl rfl)) ?_
 refine uG (.bool false) rfl (ex_lss rfl rfl rfl (qF (by omega))) (uM rfl ?_)
 refine uF (vP b2) rfl (s12fa43_0 _ _ _) ?_
 refine uL _ rfl (run_load1 s2na3 (hv.load 0 0 rfl rfl)) ?_
 refine uG (.bool false) rfl (ex_gtr rfl rfl rfl (qF (by omega))) (uK rfl ?_)
 refine uM rfl ?_
 refine uF (vP b2) rfl (s12fa43_0 _ _ _) ?_
 refine uL _ rfl (run_load1 s2na3 (hv.load 0 0 rfl rfl)) ?_
 refine uG (.bool true) rfl (ex_neq rfl rfl rfl (qT (by omega))) ?_
 refine uM rfl ?_
 refine uF (.pointer (some ⟨b2, 1, none⟩)) rfl (s12fa43_1 _ _ _) ?_
 refine uL _ rfl (run_load1 s9na9 (hv.load 0 1 rfl rfl)) ?_
 by_cases hb6 : v.text ≠ ([] : List UInt8)
 ·refine uG (.bool true) rfl (ex_sneq rfl rfl rfl (qT hb6)) ?_
  refine uK rfl (uK rfl ?_)
  refine uM rfl ?_
  iterate 9 refine uP rfl ?_
  refine uK rfl (uM rfl ?_)
  iterate 14 refine uP rfl ?_
  refine uK rfl (uM rfl ?_)
  iterate 9 refine uP rfl ?_
  refine uK rfl (uW k5 ?_)
  refine cT rfl (sK fun _ k7 => ?_)
  refine rL (uA rfl ?_)
  refine uW k7 (rR ?_)
  refine tR (bR rfl rfl ?_)
  exact ⟨false, rfl, ⟨fun h => (by cases h), fun h => by rcases h with ⟨h1, h2, h3, h4, h5⟩ | ⟨h1, h2, h3, h4, h5, h6⟩ | ⟨h1, h2, h3, h4, h5, h6⟩ | ⟨h1, h2, h3, h4, h5, h6⟩ | ⟨h1, h2, h3, h4, h5, h6⟩ <;> first | omega | contradiction | (have h9 := hv.2 h3; cases h9)⟩, (hv.kp [] 0 1)⟩
 refine uG (.bool false) rfl (ex_sneq rfl rfl rfl (qF hb6)) ?_
 refine uK rfl (uK rfl ?_)
 refine uM rfl ?_
 refine uF (vP b2) rfl (s12fa43_0 _ _ _) ?_
 refine uL _ rfl (run_load1 s2na3 (hv.load 0 0 rfl rfl)) ?_
 refine uG (.bool false) rfl (ex_neq rfl rfl rfl (qF (by omega))) ?_
 refine uM rfl ?_
 iterate 4 refine uP rfl ?_
 refine uK rfl (uK rfl ?_)
 refine uM rfl ?_
 refine uF (vP b2) rfl (s12fa43_0 _ _ _) ?_
 refine uL _ rfl (run_load1 s2na3 (hv.load 0 0 rfl rfl)) ?_
 refine uG (.bool true) rfl (ex_neq rfl rfl rfl (qT (by omega))) ?_
 refine uM rfl ?_
 refine uF (vP b2) rfl (s12fa43_0 _ _ _) ?_
 refine uL _ rfl (run_load1 s2na3 (hv.load 0 0 rfl rfl)) ?_
 refine uG (.bool true) rfl (ex_neq rfl rfl rfl (qT (by omega))) ?_
 refine uK rfl ?_
 refine uM rfl ?_
 refine uF (.pointer (some ⟨b2, 3, none⟩)) rfl (s1fa43_3 _ _ _) ?_
 refine uL _ rfl (run_load1 s1na26 (hv.load 0 3 rfl rfl)) ?_
 refine uG (vI (v.texts.length : Int)) rfl (ex_len0 Tryz.underlying26 rfl rfl) ?_
 by_cases hb8 : (v.texts.length : Int) > 0
 ·refine uG (.bool true) rfl (ex_gtr rfl rfl rfl (qT hb8)) ?_
  refine uK rfl (uK rfl ?_)
  refine uM rfl ?_
  iterate 9 refine uP rfl ?_
  refine uK rfl (uW k5 ?_)
  refine cT rfl (sK fun _ k9 => ?_)
  refine rL (uA rfl ?_)
  refine uW k9 (rR ?_)
  refine tR (bR rfl rfl ?_)
  exact ⟨false, rfl, ⟨fun h => (by cases h), fun h => by rcases h with ⟨h1, h2, h3, h4, h5⟩ | ⟨h1, h2, h3, h4, h5, h6⟩ | ⟨h1, h2, h3, h4, h5, h6⟩ | ⟨h1, h2, h3, h4, h5, h6⟩ | ⟨h1, h2, h3, h4, h5, h6⟩ <;> first | omega | contradiction | (have h9 := hv.2 h3; cases h9)⟩, (hv.kp [] 0 1)⟩
 refine uG (.bool false) rfl (ex_gtr rfl rfl rfl (qF hb8)) ?_
 refine uK rfl (uK rfl ?_)
 refine uM rfl ?_
 refine uF (vP b2) rfl (s12fa43_0 _ _ _) ?_
 refine uL _ rfl (run_load1 s2na3 (hv.load 0 0 rfl rfl)) ?_
 refine uG (.bool true) rfl (ex_neq rfl rfl rfl (qT (by omega))) ?_
 refine uM rfl ?_
 refine uF (.pointer (some ⟨b2, 4, none⟩)) rfl (s1fa43_4 _ _ _) ?_
 refine uL _ rfl (run_load1 s1na41 (hv.load 0 4 rfl rfl)) ?_
 refine uG (vI (v.zset.length : Int)) rfl (ex_len0 Tryz.underlying41 rfl rfl) ?_
 by_cases hb10 : (v.zset.length : Int) > 0
 ·refine uG (.bool true) rfl (ex_gtr rfl rfl rfl (qT hb10)) ?_
  refine uK rfl (uK rfl ?_)
  refine uW k5 (cT rfl ?_)
  refine sK fun _ k11 => rL (uA rfl ?_)
  refine uW k11 (rR ?_)
  refine tR (bR rfl rfl ?_)
  exact ⟨false, rfl, ⟨fun h => (by cases h), fun h => by rcases h with ⟨h1, h2, h3, h4, h5⟩ | ⟨h1, h2, h3, h4, h5, h6⟩ | ⟨h1, h2, h3, h4, h5, h6⟩ | ⟨h1, h2, h3, h4, h5, h6⟩ | ⟨h1, h2, h3, h4, h5, h6⟩ <;> first | omega | contradiction | (have h9 := hv.2 h3; cases h9)⟩, (hv.kp [] 0 1)⟩
 refine uG (.bool false) rfl (ex_gtr rfl rfl rfl (qF hb10)) ?_
 refine uK rfl (uK rfl ?_)
 refine uW k5 (cF rfl ?_)
 refine kS (tK k4 ?_)
 refine sK fun _ k12 => sK fun _ k13 => rL (uF (vP b2) rfl (s12fa43_0 _ _ _) ?_)
 refine uL _ rfl (run_load1 s2na3 (hv.load 0 0 rfl rfl)) (uW k13 ?_)
 refine bB (sK fun _ k14 => ?_)
 refine rL (uG (.bool false) rfl (ex_eql rfl rfl rfl (qF (by omega))) ?_)
 refine uA rfl (uW k14 ?_)
 refine cF rfl (sK fun _ k15 => ?_)
 refine rL (uG (.bool true) rfl (ex_eql rfl rfl rfl (qT (by omega))) ?_)
 refine uA rfl (uW k15 ?_)
 refine cT rfl (sK fun _ k16 => ?_)
 refine rL (uF (.pointer (some ⟨b2, 2, none⟩)) rfl (s1fa43_2 _ _ _) ?_)
 refine uL _ rfl (run_load1 s1na40 (hv.load 0 2 rfl rfl)) ?_
 refine uG (vI (v.pairs.length : Int)) rfl (ex_len0 Tryz.underlying40 rfl rfl) ?_
 by_cases hb17 : (v.pairs.length : Int) > 0
 ·refine uG (.bool true) rfl (ex_gtr rfl rfl rfl (qT hb17)) (uM rfl ?_)
  refine uF (.pointer (some ⟨b2, 2, none⟩)) rfl (s1fa43_2 _ _ _) ?_
  refine uL _ rfl (run_load1 s1na40 (hv.load 0 2 rfl rfl)) ?_
  refine xC s31callable33 rfl ((refHashRight B _ _ _ _ _ hrp hpm hv).mono ?_) rfl
  rintro e w19 ⟨bl18, rfl, hbl18, hv⟩
  refine ⟨_, rfl, ?_⟩
  cases bl18
  ·refine uK rfl (uA rfl ?_)
   refine uW k16 (rR ?_)
   refine bZ (tR ?_)
   refine bR rfl rfl (⟨false, rfl, ⟨fun h => (by cases h), fun h => by rcases h with ⟨h1, h2, h3, h4, h5⟩ | ⟨h1, h2, h3, h4, h5, h6⟩ | ⟨h1, h2, h3, h4, h5, h6⟩ | ⟨h1, h2, h3, h4, h5, h6⟩ | ⟨h1, h2, h3, h4, h5, h6⟩ <;> first | omega | contradiction | (have h9 := hbl18.2 h3; cases h9)⟩, (hv.kp [] 0 1)⟩)
  refine uK rfl (uA rfl ?_)
  refine uW k16 (rR ?_)
  refine bZ (tR ?_)
  refine bR rfl rfl (⟨true, rfl, ⟨fun _ => .inr (.inl ⟨by omega, by omega, hbl18.1 rfl, Classical.not_not.1 hb6, by omega, by omega⟩), fun _ => rfl⟩, (hv.kp [] 0 1)⟩)
 refine uG (.bool false) rfl (ex_gtr rfl rfl rfl (qF hb17)) (uM rfl ?_)
 iterate 3 refine uP rfl ?_
 refine uK rfl (uA rfl ?_)
 refine uW k16 (rR ?_)
 refine bZ (tR ?_)
 refine bR rfl rfl (⟨false, rfl, ⟨fun h => (by cases h), fun h => by rcases h with ⟨h1, h2, h3, h4, h5⟩ | ⟨h1, h2, h3, h4, h5, h6⟩ | ⟨h1, h2, h3, h4, h5, h6⟩ | ⟨h1, h2, h3, h4, h5, h6⟩ | ⟨h1, h2, h3, h4, h5, h6⟩ <;> first | omega | contradiction | (have h9 := hv.2 h3; cases h9)⟩, (hv.kp [] 0 1)⟩)
theorem refRight_3 (B : Base) (H : List Res) (w : World) (v : Val) (ap at2 az : Option Addr) (cp ct cz : Nat) (_ : RdV B [] ap (pairCells v.pairs)) (hrt : RdV B [] at2 (textCells v.texts)) (_ : RdV B [] az (memCells v.zset)) (hpm : v.pairs.length ≤ 1000000) (htm : v.texts.length ≤ 1000000) (hzm : v.zset.length ≤ 1000000) (hk : v.kind = 3) (hv : Inv B H w) :
  Calls Tryz.prog 14 #[.agg #[vI v.kind, vS v.text, .slice ap v.pairs.length cp, .slice at2 v.texts.length ct, .slice az v.zset.length cz]] w fun e w' => ∃ b, e = .returned (.bool b) ∧ (b = true ↔ ValOk v) ∧ Inv B H w' := by
 refine cW Tryz.func14 rfl Tryz.ntmps14 ?_
 simp only [al]
 refine sK fun _ k1 => rL (sl_box (L := [vI v.kind, vS v.text, .slice ap v.pairs.length cp, .slice at2 v.texts.length ct, .slice az v.zset.length cz]) tV (wn rfl) rfl rfl hv (fun w => by kernel_rfl) (fun b2 w3 hv => ?_))
 refine uA rfl (uW k1 ?_)
 refine sK fun _ k4 => sK fun _ k5 => rL (uF (vP b2) rfl (s12fa43_0 _ _ _) ?_)
 refine uL _ rfl (run_load1 s2na3 (hv.load 0 0 rfl rfl)) ?_
 refine uG (.bool false) rfl (ex_lss rfl rfl rfl (qF (by omega))) (uM rfl ?_)
 refine uF (vP b2) rfl (s12fa43_0 _ _ _) ?_
 refine uL _ rfl (run_load1 s2na3 (hv.load 0 0 rfl rfl)) ?_
 refine uG (.bool false) rfl (ex_gtr rfl rfl rfl (qF (by omega))) (uK rfl ?_)
 refine uM rfl ?_
 refine uF (vP b2) rfl (s12fa43_0 _ _ _) ?_
 refine uL _ rfl (run_load1 s2na3 (hv.load 0 0 rfl rfl)) ?_
 refine uG (.bool true) rfl (ex_neq rfl rfl rfl (qT (by omega))) ?_
 refine uM rfl ?_
 refine uF (.pointer (some ⟨b2, 1, none⟩)) rfl (s12fa43_1 _ _ _) ?_
 refine uL _ rfl (run_load1 s9na9 (hv.load 0 1 rfl rfl)) ?_
 by_cases hb6 : v.text ≠ ([] : List UInt8)
 ·refine uG (.bool true) rfl (ex_sneq rfl rfl rfl (qT hb6)) ?_
  refine uK rfl (uK rfl ?_)
  refine uM rfl ?_
  iterate 9 refine uP rfl ?_
  refine uK rfl (uM rfl ?_)
  iterate 14 refine uP rfl ?_
  refine uK rfl (uM rfl ?_)
  iterate 9 refine uP rfl ?_
  refine uK rfl (uW k5 ?_)
  refine cT rfl (sK fun _ k7 => ?_)
  refine rL (uA rfl ?_)
  refine uW k7 (rR ?_)
  refine tR (bR rfl rfl ?_)
  exact ⟨false, rfl, ⟨fun h => (by cases h), fun h => by rcases h with ⟨h1, h2, h3, h4, h5⟩ | ⟨h1, h2, h3, h4, h5, h6⟩ | ⟨h1, h2, h3, h4, h5, h6⟩ | ⟨h1, h2, h3, h4, h5, h6⟩ | ⟨h1, h2, h3, h4, h5, h6⟩ <;> first | omega | contradiction | (have h9 := hv.2 h3; cases h9)⟩, (hv.kp [] 0 1)⟩
 refine uG (.bool false) rfl (ex_sneq rfl rfl rfl (qF hb6)) ?_
 refine uK rfl (uK rfl ?_)
 refine uM rfl ?_
 refine uF (vP b2) rfl (s12fa43_0 _ _ _) ?_
 refine uL _ rfl (run_load1 s2na3 (hv.load 0 0 rfl rfl)) ?_
 refine uG (.bool true) rfl (ex_neq rfl rfl rfl (qT (by omega))) ?_
 refine uM rfl ?_
 refine uF (.pointer (some ⟨b2, 2, none⟩)) rfl (s1fa43_2 _ _ _) ?_
 refine uL _ rfl (run_load1 s1na40 (hv.load 0 2 rfl rfl)) ?_
 refine uG (vI (v.pairs.length : Int)) rfl (ex_len0 Tryz.underlying40 rfl rfl) ?_
 by_cases hb8 : (v.pairs.length : Int) > 0
 ·refine uG (.bool true) rfl (ex_gtr rfl rfl rfl (qT hb8)) ?_
  refine uK rfl (uK rfl ?_)
  refine uM rfl ?_
  iterate 14 refine uP rfl ?_
  refine uK rfl (uM rfl ?_)
  iterate 9 refine uP rfl ?_
  refine uK rfl (uW k5 ?_)
  refine cT rfl (sK fun _ k9 => ?_)
  refine rL (uA rfl ?_)
  refine uW k9 (rR ?_)
  refine tR (bR rfl rfl ?_)
  exact ⟨false, rfl, ⟨fun h => (by cases h), fun h => by rcases h with ⟨h1, h2, h3, h4, h5⟩ | ⟨h1, h2, h3, h4, h5, h6⟩ | ⟨h1, h2, h3, h4, h5, h6⟩ | ⟨h1, h2, h3, h4, h5, h6⟩ | ⟨h1, h2, h3, h4, h5, h6⟩ <;> first | omega | contradiction | (have h9 := hv.2 h3; cases h9)⟩, (hv.kp [] 0 1)⟩
 refine uG (.bool false) rfl (ex_gtr rfl rfl rfl (qF hb8)) ?_
 refine uK rfl (uK rfl ?_)
 refine uM rfl ?_
 refine uF (vP b2) rfl (s12fa43_0 _ _ _) ?_
 refine uL _ rfl (run_load1 s2na3 (hv.load 0 0 rfl rfl)) ?_
 refine uG (.bool false) rfl (ex_neq rfl rfl rfl (qF (by omega))) ?_
 refine uM rfl ?_
 iterate 3 refine uP rfl ?_
 refine uK rfl ?_
 refine uM rfl ?_
 iterate 4 refine uP rfl ?_
 refine uK rfl (uK rfl ?_)
 refine uM rfl ?_
 refine uF (vP b2) rfl (s12fa43_0 _ _ _) ?_
 refine uL _ rfl (run_load1 s2na3 (hv.load 0 0 rfl rfl)) ?_
 refine uG (.bool true) rfl (ex_neq rfl rfl rfl (qT (by omega))) ?_
 refine uM rfl ?_
 refine uF (.pointer (some ⟨b2, 4, none⟩)) rfl (s1fa43_4 _ _ _) ?_
 refine uL _ rfl (run_load1 s1na41 (hv.load 0 4 rfl rfl)) ?_
 refine uG (vI (v.zset.length : Int)) rfl (ex_len0 Tryz.underlying41 rfl rfl) ?_
 by_cases hb10 : (v.zset.length : Int) > 0
 ·refine uG (.bool true) rfl (ex_gtr rfl rfl rfl (qT hb10)) ?_
  refine uK rfl (uK rfl ?_)
  refine uW k5 (cT rfl ?_)
  refine sK fun _ k11 => rL (uA rfl ?_)
  refine uW k11 (rR ?_)
  refine tR (bR rfl rfl ?_)
  exact ⟨false, rfl, ⟨fun h => (by cases h), fun h => by rcases h with ⟨h1, h2, h3, h4, h5⟩ | ⟨h1, h2, h3, h4, h5, h6⟩ | ⟨h1, h2, h3, h4, h5, h6⟩ | ⟨h1, h2, h3, h4, h5, h6⟩ | ⟨h1, h2, h3, h4, h5, h6⟩ <;> first | omega | contradiction | (have h9 := hv.2 h3; cases h9)⟩, (hv.kp [] 0 1)⟩
 refine uG (.bool false) rfl (ex_gtr rfl rfl rfl (qF hb10)) ?_
 refine uK rfl (uK rfl ?_)
 refine uW k5 (cF rfl ?_)
 refine kS (tK k4 ?_)
 refine sK fun _ k12 => sK fun _ k13 => rL (uF (vP b2) rfl (s12fa43_0 _ _ _) ?_)
 refine uL _ rfl (run_load1 s2na3 (hv.load 0 0 rfl rfl)) (uW k13 ?_)
 refine bB (sK fun _ k14 => ?_)
 refine rL (uG (.bool false) rfl (ex_eql rfl rfl rfl (qF (by omega))) ?_)
 refine uA rfl (uW k14 ?_)
 refine cF rfl (sK fun _ k15 => ?_)
 refine rL (uG (.bool false) rfl (ex_eql rfl rfl rfl (qF (by omega))) ?_)
 refine uA rfl (uW k15 ?_)
 refine cF rfl (sK fun _ k16 => ?_)
 refine rL (uG (.bool false) rfl (ex_eql rfl rfl rfl (qF (by omega))) ?_)
 refine uA rfl (uW k16 ?_)
 refine cF rfl (sK fun _ k17 => ?_)
 refine rL (uG (.bool false) rfl (ex_eql rfl rfl rfl (qF (by omega))) ?_)
 refine uA rfl (uW k17 ?_)
 refine cF rfl (kS ?_)
 refine bN (tK k12 ?_)
 refine sK fun _ k18 => sK fun _ k19 => rL (uA rfl ?_)
 refine uW k19 (bB ?_)
 gi_loopw [3] (fun x3 wr => ∃ (i : Nat), x3 = vI i ∧ i ≤ v.texts.length ∧ (∀ j x, j < i → v.texts[j]? = some x → x.length ≤ 4096) ∧ Inv B (Res.cell b2 [vI v.kind, vS v.text, .slice ap v.pairs.length cp, .slice at2 v.texts.length ct, .slice az v.zset.length cz] 43 :: H) wr) (fun x3 _ => v.texts.length - (intOf x3).toNat)
 case atStart => exact ⟨0, rfl, Nat.zero_le _, fun j x h => by omega, hv⟩
 case round =>
  obtain ⟨i, rfl, hi, hno, hv⟩ := hrel
  refine sK fun _ k21 => sK fun _ k22 => rL (uM rfl ?_)
  refine uF (.pointer (some ⟨b2, 3, none⟩)) rfl (s1fa43_3 _ _ _) ?_
  refine uL _ rfl (run_load1 s1na26 (hv.load 0 3 rfl rfl)) ?_
  refine uG (vI (v.texts.length : Int)) rfl (ex_len0 Tryz.underlying26 rfl rfl) ?_
  by_cases hb23 : (i : Int) < (v.texts.length : Int)
  ·refine uG (.bool true) rfl (ex_lss rfl rfl rfl (qT hb23)) (uW k22 ?_)
   refine cT rfl (kS ?_)
   refine tK k21 (sK fun _ k24 => ?_)
   refine bB (sK fun _ k25 => ?_)
   obtain ⟨x, hx⟩ : ∃ x, v.texts[i]? = some x := ⟨_, List.getElem?_eq_getElem (show i < v.texts.length by omega)⟩
   obtain ⟨bb, bo, had, hrdx⟩ := text_reads hrt hx
   subst had
   refine rL (uF (.pointer (some ⟨b2, 3, none⟩)) rfl (s1fa43_3 _ _ _) ?_)
   refine uL _ rfl (run_load1 s1na26 (hv.load 0 3 rfl rfl)) (uM rfl ?_)
   refine uG (.pointer (some ⟨bb, bo + i, none⟩)) rfl (ex_index rfl rfl rfl (run_idx1 (k := i) Tryz.underlying26 s9es26 (by omega))) ?_
   refine uL _ rfl (run_load1 s9na9 (hrdx _ _ _ (Base.Le.refl _) no_res hv 0 _ rfl)) ?_
   refine uG (vI (x.length : Int)) rfl (ex_lenStr Tryz.underlying9 rfl rfl) ?_
   by_cases hb26 : (x.length : Int) > 4096
   ·refine uG (.bool true) rfl (ex_gtr rfl rfl rfl (qT hb26)) (uW k25 ?_)
    refine cT rfl (sK fun _ k27 => ?_)
    refine rL (uA rfl ?_)
    refine uW k27 (rR ?_)
    refine bZ (tR ?_)
    refine tR (bZ ?_)
    refine tR (bR rfl rfl ?_)
    exact ⟨false, rfl, ⟨fun h => (by cases h), fun h => by rcases h with ⟨h1, h2, h3, h4, h5⟩ | ⟨h1, h2, h3, h4, h5, h6⟩ | ⟨h1, h2, h3, h4, h5, h6⟩ | ⟨h1, h2, h3, h4, h5, h6⟩ | ⟨h1, h2, h3, h4, h5, h6⟩ <;> first | omega | contradiction | (have h9 := hv.2 h3; cases h9) | (have h9 := lleft h3 _ _ hx; omega)⟩, (hv.kp [] 0 1)⟩
   refine uG (.bool false) rfl (ex_gtr rfl rfl rfl (qF hb26)) (uW k25 ?_)
   refine cF rfl (kS ?_)
   refine bN (tK k24 ?_)
   refine rL (uM rfl ?_)
   refine uG (vI ((i + 1 : Nat) : Int)) rfl (ex_add rfl rfl rfl (by rw [i64_in (by omega)]; omega)) (uA rfl ?_)
   refine uZ (then_normal ?_)
   go_roundw
   case rel => exact ⟨i + 1, rfl, by omega, fun j x' hj hx' => (by
      rcases Nat.lt_or_ge j i with h | h
      ·exact hno j x' h hx'
      rw [show j = i by omega, hx] at hx'; cases hx'; omega), hv⟩
   case measure => show v.texts.length - (((i + 1 : Nat) : Int)).toNat < v.texts.length - ((i : Int)).toNat; omega
  refine uG (.bool false) rfl (ex_lss rfl rfl rfl (qF hb23)) (uW k22 ?_)
  refine cF rfl (xE ?_)
  refine tX (tX ?_)
  refine bH (tK k18 ?_)
  refine sK fun _ k28 => ?_
  obtain rfl : i = v.texts.length := by omega
  refine rL (uF (.pointer (some ⟨b2, 3, none⟩)) rfl (s1fa43_3 _ _ _) ?_)
  refine uL _ rfl (run_load1 s1na26 (hv.load 0 3 rfl rfl)) ?_
  refine uG (vI (v.texts.length : Int)) rfl (ex_len0 Tryz.underlying26 rfl rfl) ?_
  by_cases hb29 : (v.texts.length : Int) > 0
  ·refine uG (.bool true) rfl (ex_gtr rfl rfl rfl (qT hb29)) (uM rfl ?_)
   refine uF (.pointer (some ⟨b2, 3, none⟩)) rfl (s1fa43_3 _ _ _) ?_
   refine uL _ rfl (run_load1 s1na26 (hv.load 0 3 rfl rfl)) ?_
   refine uG (vI (v.texts.length : Int)) rfl (ex_len0 Tryz.underlying26 rfl rfl) ?_
   refine uG (.bool (decide ((v.texts.length : Int) ≤ 512))) rfl (ex_leq rfl rfl rfl rfl) (uK rfl ?_)
   refine uA rfl (uW k28 ?_)
   refine rR (bR rfl rfl ?_)
   exact ⟨_, rfl, by rw [decide_eq_true_iff]; exact ⟨fun h9 => .inr (.inr (.inl ⟨by omega, by omega, lright (by omega) hno, Classical.not_not.1 hb6, by omega, by omega⟩)), fun h => by rcases h with ⟨h1, h2, h3, h4, h5⟩ | ⟨h1, h2, h3, h4, h5, h6⟩ | ⟨h1, h2, h3, h4, h5, h6⟩ | ⟨h1, h2, h3, h4, h5, h6⟩ | ⟨h1, h2, h3, h4, h5, h6⟩ <;> first | omega | (have h9 := llen h3; omega)⟩, (hv.kp [] 0 1)⟩
  refine uG (.bool false) rfl (ex_gtr rfl rfl rfl (qF hb29)) (uM rfl ?_)
  iterate 4 refine uP rfl ?_
  refine uK rfl (uA rfl ?_)
  refine uW k28 (rR ?_)
  refine bR rfl rfl (⟨false, rfl, ⟨fun h => (by cases h), fun h => by rcases h with ⟨h1, h2, h3, h4, h5⟩ | ⟨h1, h2, h3, h4, h5, h6⟩ | ⟨h1, h2, h3, h4, h5, h6⟩ | ⟨h1, h2, h3, h4, h5, h6⟩ | ⟨h1, h2, h3, h4, h5, h6⟩ <;> first | omega | contradiction | (have h9 := hv.2 h3; cases h9)⟩, (hv.kp [] 0 1)⟩)
theorem s31callable34 : Callable Tryz.prog 34 := cb Tryz.func34 (by kernel_rfl)
theorem refRight_4 (B : Base) (H : List Res) (w : World) (v : Val) (ap at2 az : Option Addr) (cp ct cz : Nat) (_ : RdV B [] ap (pairCells v.pairs)) (hrt : RdV B [] at2 (textCells v.texts)) (_ : RdV B [] az (memCells v.zset)) (hpm : v.pairs.length ≤ 1000000) (htm : v.texts.length ≤ 1000000) (hzm : v.zset.length ≤ 1000000) (hk : v.kind = 4) (hv : Inv B H w) :
  Calls Tryz.prog 14 #[.agg #[vI v.kind, vS v.text, .slice ap v.pairs.length cp, .slice at2 v.texts.length ct, .slice az v.zset.length cz]] w fun e w' => ∃ b, e = .returned (.bool b) ∧ (b = true ↔ ValOk v) ∧ Inv B H w' := by
 refine cW Tryz.func14 rfl Tryz.ntmps14 ?_
 simp only [al]
 refine sK fun _ k1 => rL (sl_box (L := [vI v.kind, vS v.text, .slice ap v.pairs.length cp, .slice at2 v.texts.length ct, .slice az v.zset.length cz]) tV (wn rfl) rfl rfl hv (fun w => by kernel_rfl) (fun b2 w3 hv => ?_))
 refine uA rfl (uW k1 ?_)
 refine sK fun _ k4 => sK fun _ k5 => rL (uF (vP b2) rfl (s12fa43_0 _ _ _) ?_)
 refine uL _ rfl (run_load1 s2na3 (hv.load 0 0 rfl rfl)) ?_
 refine uG (.bool false) rfl (ex_lss rfl rfl rfl (qF (by omega))) (uM rfl ?_)
 refine uF (vP b2) rfl (s12fa43_0 _ _ _) ?_
 refine uL _ rfl (run_load1 s2na3 (hv.load 0 0 rfl rfl)) ?_
 refine uG (.bool false) rfl (ex_gtr rfl rfl rfl (qF (by omega))) (uK rfl ?_)
 refine uM rfl ?_
 refine uF (vP b2) rfl (s12fa43_0 _ _ _) ?_
 refine uL _ rfl (run_load1 s2na3 (hv.load 0 0 rfl rfl)) ?_
 refine uG (.bool true) rfl (ex_neq rfl rfl rfl (qT (by omega))) ?_
 refine uM rfl ?_
 refine uF (.pointer (some ⟨b2, 1, none⟩)) rfl (s12fa43_1 _ _ _) ?_
 refine uL _ rfl (run_load1 s9na9 (hv.load 0 1 rfl rfl)) ?_
 by_cases hb6 : v.text ≠ ([] : List UInt8)
 ·refine uG (.bool true) rfl (ex_sneq rfl rfl rfl (qT hb6)) ?_
  refine uK rfl (uK rfl ?_)
  refine uM rfl ?_
  iterate 9 refine uP rfl ?_
  refine uK rfl (uM rfl ?_)
  iterate 14 refine uP rfl ?_
  refine uK rfl (uM rfl ?_)
  iterate 9 refine uP rfl ?_
  refine uK rfl (uW k5 ?_)
  refine cT rfl (sK fun _ k7 => ?_)
  refine rL (uA rfl ?_)
  refine uW k7 (rR ?_)
  refine tR (bR rfl rfl ?_)
  exact ⟨false, rfl, ⟨fun h => (by cases h), fun h => by rcases h with ⟨h1, h2, h3, h4, h5⟩ | ⟨h1, h2, h3, h4, h5, h6⟩ | ⟨h1, h2, h3, h4, h5, h6⟩ | ⟨h1, h2, h3, h4, h5, h6⟩ | ⟨h1, h2, h3, h4, h5, h6⟩ <;> first | omega | contradiction | (have h9 := hv.2 h3; cases h9)⟩, (hv.kp [] 0 1)⟩
 refine uG (.bool false) rfl (ex_sneq rfl rfl rfl (qF hb6)) ?_
 refine uK rfl (uK rfl ?_)
 refine uM rfl ?_
 refine uF (vP b2) rfl (s12fa43_0 _ _ _) ?_
 refine uL _ rfl (run_load1 s2na3 (hv.load 0 0 rfl rfl)) ?_
 refine uG (.bool true) rfl (ex_neq rfl rfl rfl (qT (by omega))) ?_
 refine uM rfl ?_
 refine uF (.pointer (some ⟨b2, 2, none⟩)) rfl (s1fa43_2 _ _ _) ?_
 refine uL _ rfl (run_load1 s1na40 (hv.load 0 2 rfl rfl)) ?_
 refine uG (vI (v.pairs.length : Int)) rfl (ex_len0 Tryz.underlying40 rfl rfl) ?_
 by_cases hb8 : (v.pairs.length : Int) > 0
 ·refine uG (.bool true) rfl (ex_gtr rfl rfl rfl (qT hb8)) ?_
  refine uK rfl (uK rfl ?_)
  refine uM rfl ?_
  iterate 14 refine uP rfl ?_
  refine uK rfl (uM rfl ?_)
  iterate 9 refine uP rfl ?_
  refine uK rfl (uW k5 ?_)
  refine cT rfl (sK fun _ k9 => ?_)
  refine rL (uA rfl ?_)
  refine uW k9 (rR ?_)
  refine tR (bR rfl rfl ?_)
  exact ⟨false, rfl, ⟨fun h => (by cases h), fun h => by rcases h with ⟨h1, h2, h3, h4, h5⟩ | ⟨h1, h2, h3, h4, h5, h6⟩ | ⟨h1, h2, h3, h4, h5, h6⟩ | ⟨h1, h2, h3, h4, h5, h6⟩ | ⟨h1, h2, h3, h4, h5, h6⟩ <;> first | omega | contradiction | (have h9 := hv.2 h3; cases h9)⟩, (hv.kp [] 0 1)⟩
 refine uG (.bool false) rfl (ex_gtr rfl rfl rfl (qF hb8)) ?_
 refine uK rfl (uK rfl ?_)
 refine uM rfl ?_
 refine uF (vP b2) rfl (s12fa43_0 _ _ _) ?_
 refine uL _ rfl (run_load1 s2na3 (hv.load 0 0 rfl rfl)) ?_
 refine uG (.bool true) rfl (ex_neq rfl rfl rfl (qT (by omega))) ?_
 refine uM rfl ?_
 refine uF (vP b2) rfl (s12fa43_0 _ _ _) ?_
 refine uL _ rfl (run_load1 s2na3 (hv.load 0 0 rfl rfl)) ?_
 refine uG (.bool false) rfl (ex_neq rfl rfl rfl (qF (by omega))) ?_
 refine uK rfl ?_
 refine uM rfl ?_
 iterate 4 refine uP rfl ?_
 refine uK rfl (uK rfl ?_)
 refine uM rfl ?_
 refine uF (vP b2) rfl (s12fa43_0 _ _ _) ?_
 refine uL _ rfl (run_load1 s2na3 (hv.load 0 0 rfl rfl)) ?_
 refine uG (.bool true) rfl (ex_neq rfl rfl rfl (qT (by omega))) ?_
 refine uM rfl ?_
 refine uF (.pointer (some ⟨b2, 4, none⟩)) rfl (s1fa43_4 _ _ _) ?_
 refine uL _ rfl (run_load1 s1na41 (hv.load 0 4 rfl rfl)) ?_
 refine uG (vI (v.zset.length : Int)) rfl (ex_len0 Tryz.underlying41 rfl rfl) ?_
 by_cases hb10 : (v.zset.length : Int) > 0
 ·refine uG (.bool true) rfl (ex_gtr rfl rfl rfl (qT hb10)) ?_
  refine uK rfl (uK rfl ?_)
  refine uW k5 (cT rfl ?_)
  refine sK fun _ k11 => rL (uA rfl ?_)
  refine uW k11 (rR ?_)
  refine tR (bR rfl rfl ?_)
  exact ⟨false, rfl, ⟨fun h => (by cases h), fun h => by rcases h with ⟨h1, h2, h3, h4, h5⟩ | ⟨h1, h2, h3, h4, h5, h6⟩ | ⟨h1, h2, h3, h4, h5, h6⟩ | ⟨h1, h2, h3, h4, h5, h6⟩ | ⟨h1, h2, h3, h4, h5, h6⟩ <;> first | omega | contradiction | (have h9 := hv.2 h3; cases h9)⟩, (hv.kp [] 0 1)⟩
 refine uG (.bool false) rfl (ex_gtr rfl rfl rfl (qF hb10)) ?_
 refine uK rfl (uK rfl ?_)
 refine uW k5 (cF rfl ?_)
 refine kS (tK k4 ?_)
 refine sK fun _ k12 => sK fun _ k13 => rL (uF (vP b2) rfl (s12fa43_0 _ _ _) ?_)
 refine uL _ rfl (run_load1 s2na3 (hv.load 0 0 rfl rfl)) (uW k13 ?_)
 refine bB (sK fun _ k14 => ?_)
 refine rL (uG (.bool false) rfl (ex_eql rfl rfl rfl (qF (by omega))) ?_)
 refine uA rfl (uW k14 ?_)
 refine cF rfl (sK fun _ k15 => ?_)
 refine rL (uG (.bool false) rfl (ex_eql rfl rfl rfl (qF (by omega))) ?_)
 refine uA rfl (uW k15 ?_)
 refine cF rfl (sK fun _ k16 => ?_)
 refine rL (uG (.bool true) rfl (ex_eql rfl rfl rfl (qT (by omega))) ?_)
 refine uA rfl (uW k16 ?_)
 refine cT rfl (sK fun _ k17 => ?_)
 refine rL (uF (.pointer (some ⟨b2, 3, none⟩)) rfl (s1fa43_3 _ _ _) ?_)
 refine uL _ rfl (run_load1 s1na26 (hv.load 0 3 rfl rfl)) ?_
 refine uG (vI (v.texts.length : Int)) rfl (ex_len0 Tryz.underlying26 rfl rfl) ?_
 by_cases hb18 : (v.texts.length : Int) > 0
 ·refine uG (.bool true) rfl (ex_gtr rfl rfl rfl (qT hb18)) (uM rfl ?_)
  refine uF (.pointer (some ⟨b2, 3, none⟩)) rfl (s1fa43_3 _ _ _) ?_
  refine uL _ rfl (run_load1 s1na26 (hv.load 0 3 rfl rfl)) ?_
  refine xC s31callable34 rfl ((refSetRight B _ _ _ _ _ hrt htm hv).mono ?_) rfl
  rintro e w20 ⟨bl19, rfl, hbl19, hv⟩
  refine ⟨_, rfl, ?_⟩
  cases bl19
  ·refine uK rfl (uA rfl ?_)
   refine uW k17 (rR ?_)
   refine bZ (tR ?_)
   refine bR rfl rfl (⟨false, rfl, ⟨fun h => (by cases h), fun h => by rcases h with ⟨h1, h2, h3, h4, h5⟩ | ⟨h1, h2, h3, h4, h5, h6⟩ | ⟨h1, h2, h3, h4, h5, h6⟩ | ⟨h1, h2, h3, h4, h5, h6⟩ | ⟨h1, h2, h3, h4, h5, h6⟩ <;> first | omega | contradiction | (have h9 := hbl19.2 h3; cases h9)⟩, (hv.kp [] 0 1)⟩)
  refine uK rfl (uA rfl ?_)
  refine uW k17 (rR ?_)
  refine bZ (tR ?_)
  refine bR rfl rfl (⟨true, rfl, ⟨fun _ => .inr (.inr (.inr (.inl ⟨by omega, by omega, hbl19.1 rfl, Classical.not_not.1 hb6, by omega, by omega⟩))), fun _ => rfl⟩, (hv.kp [] 0 1)⟩)
 refine uG (.bool false) rfl (ex_gtr rfl rfl rfl (qF hb18)) (uM rfl ?_)
 iterate 3 refine uP rfl ?_
 refine uK rfl (uA rfl ?_)
 refine uW k17 (rR ?_)
 refine bZ (tR ?_)
 refine bR rfl rfl (⟨false, rfl, ⟨fun h => (by cases h), fun h => by rcases h with ⟨h1, h2, h3, h4, h5⟩ | ⟨h1, h2, h3, h4, h5, h6⟩ | ⟨h1, h2, h3, h4, h5, h6⟩ | ⟨h1, h2, h3, h4, h5, h6⟩ | ⟨h1, h2, h3, h4, h5, h6⟩ <;> first | omega | contradiction | (have h9 := hv.2 h3; cases h9)⟩, (hv.kp [] 0 1)⟩)
theorem s31callable35 : Callable Tryz.prog 35 := cb Tryz.func35 (by kernel_rfl)
theorem refRight_5 (B : Base) (H : List Res) (w : World) (v : Val) (ap at2 az : Option Addr) (cp ct cz : Nat) (_ : RdV B [] ap (pairCells v.pairs)) (_ : RdV B [] at2 (textCells v.texts)) (hrz : RdV B [] az (memCells v.zset)) (hpm : v.pairs.length ≤ 1000000) (htm : v.texts.length ≤ 1000000) (hzm : v.zset.length ≤ 1000000) (hk : v.kind = 5) (hv : Inv B H w) :
  Calls Tryz.prog 14 #[.agg #[vI v.kind, vS v.text, .slice ap v.pairs.length cp, .slice at2 v.texts.length ct, .slice az v.zset.length cz]] w fun e w' => ∃ b, e = .returned (.bool b) ∧ (b = true ↔ ValOk v) ∧ Inv B H w' := by
 refine cW Tryz.func14 rfl Tryz.ntmps14 ?_
 simp only [al]
 refine sK fun _ k1 => rL (sl_box (L := [vI v.kind, vS v.text, .slice ap v.pairs.length cp, .slice at2 v.texts.length ct, .slice az v.zset.length cz]) tV (wn rfl) rfl rfl hv (fun w => by kernel_rfl) (fun b2 w3 hv => ?_))
 refine uA rfl (uW k1 ?_)
 refine sK fun _ k4 => sK fun _ k5 => rL (uF (vP b2) rfl (s12fa43_0 _ _ _) ?_)
 refine uL _ rfl (run_load1 s2na3 (hv.load 0 0 rfl rfl)) ?_
 refine uG (.bool false) rfl (ex_lss rfl rfl rfl (qF (by omega))) (uM rfl ?_)
 refine uF (vP b2) rfl (s12fa43_0 _ _ _) ?_
 refine uL _ rfl (run_load1 s2na3 (hv.load 0 0 rfl rfl)) ?_
 refine uG (.bool false) rfl (ex_gtr rfl rfl rfl (qF (by omega))) (uK rfl ?_)
 refine uM rfl ?_
 refine uF (vP b2) rfl (s12fa43_0 _ _ _) ?_
 refine uL _ rfl (run_load1 s2na3 (hv.load 0 0 rfl rfl)) ?_
 refine uG (.bool true) rfl (ex_neq rfl rfl rfl (qT (by omega))) ?_
 refine uM rfl ?_
 refine uF (.pointer (some ⟨b2, 1, none⟩)) rfl (s12fa43_1 _ _ _) ?_
 refine uL _ rfl (run_load1 s9na9 (hv.load 0 1 rfl rfl)) ?_
 by_cases hb6 : v.text ≠ ([] : List UInt8)
 ·refine uG (.bool true) rfl (ex_sneq rfl rfl rfl (qT hb6)) ?_
  refine uK rfl (uK rfl ?_)
  refine uM rfl ?_
  iterate 9 refine uP rfl ?_
  refine uK rfl (uM rfl ?_)
  iterate 14 refine uP rfl ?_
  refine uK rfl (uM rfl ?_)
  iterate 9 refine uP rfl ?_
  refine uK rfl (uW k5 ?_)
  refine cT rfl (sK fun _ k7 => ?_)
  refine rL (uA rfl ?_)
  refine uW k7 (rR ?_)
  refine tR (bR rfl rfl ?_)
  exact ⟨false, rfl, ⟨fun h => (by cases h), fun h => by rcases h with ⟨h1, h2, h3, h4, h5⟩ | ⟨h1, h2, h3, h4, h5, h6⟩ | ⟨h1, h2, h3, h4, h5, h6⟩ | ⟨h1, h2, h3, h4, h5, h6⟩ | ⟨h1, h2, h3, h4, h5, h6⟩ <;> first | omega | contradiction | (have h9 := hv.2 h3; cases h9)⟩, (hv.kp [] 0 1)⟩
 refine uG (.bool false) rfl (ex_sneq rfl rfl rfl (qF hb6)) ?_
 refine uK rfl (uK rfl ?_)
 refine uM rfl ?_
 refine uF (vP b2) rfl (s12fa43_0 _ _ _) ?_
 refine uL _ rfl (run_load1 s2na3 (hv.load 0 0 rfl rfl)) ?_
 refine uG (.bool true) rfl (ex_neq rfl rfl rfl (qT (by omega))) ?_
 refine uM rfl ?_
 refine uF (.pointer (some ⟨b2, 2, none⟩)) rfl (s1fa43_2 _ _ _) ?_
 refine uL _ rfl (run_load1 s1na40 (hv.load 0 2 rfl rfl)) ?_
 refine uG (vI (v.pairs.length : Int)) rfl (ex_len0 Tryz.underlying40 rfl rfl) ?_
 by_cases hb8 : (v.pairs.length : Int) > 0
 ·refine uG (.bool true) rfl (ex_gtr rfl rfl rfl (qT hb8)) ?_
  refine uK rfl (uK rfl ?_)
  refine uM rfl ?_
  iterate 14 refine uP rfl ?_
  refine uK rfl (uM rfl ?_)
  iterate 9 refine uP rfl ?_
  refine uK rfl (uW k5 ?_)
  refine cT rfl (sK fun _ k9 => ?_)
  refine rL (uA rfl ?_)
  refine uW k9 (rR ?_)
  refine tR (bR rfl rfl ?_)
  exact ⟨false, rfl, ⟨fun h => (by cases h), fun h => by rcases h with ⟨h1, h2, h3, h4, h5⟩ | ⟨h1, h2, h3, h4, h5, h6⟩ | ⟨h1, h2, h3, h4, h5, h6⟩ | ⟨h1, h2, h3, h4, h5, h6⟩ | ⟨h1, h2, h3, h4, h5, h6⟩ <;> first | omega | contradiction | (have h9 := hv.2 h3; cases h9)⟩, (hv.kp [] 0 1)⟩
 refine uG (.bool false) rfl (ex_gtr rfl rfl rfl (qF hb8)) ?_
 refine uK rfl (uK rfl ?_)
 refine uM rfl ?_
 refine uF (vP b2) rfl (s12fa43_0 _ _ _) ?_
 refine uL _ rfl (run_load1 s2na3 (hv.load 0 0 rfl rfl)) ?_
 refine uG (.bool true) rfl (ex_neq rfl rfl rfl (qT (by omega))) ?_
 refine uM rfl ?_
 refine uF (vP b2) rfl (s12fa43_0 _ _ _) ?_
 refine uL _ rfl (run_load1 s2na3 (hv.load 0 0 rfl rfl)) ?_
 refine uG (.bool true) rfl (ex_neq rfl rfl rfl (qT (by omega))) ?_
 refine uK rfl ?_
 refine uM rfl ?_
 refine uF (.pointer (some ⟨b2, 3, none⟩)) rfl (s1fa43_3 _ _ _) ?_
 refine uL _ rfl (run_load1 s1na26 (hv.load 0 3 rfl rfl)) ?_
 refine uG (vI (v.texts.length : Int)) rfl (ex_len0 Tryz.underlying26 rfl rfl) ?_
 by_cases hb10 : (v.texts.length : Int) > 0
 ·refine uG (.bool true) rfl (ex_gtr rfl rfl rfl (qT hb10)) ?_
  refine uK rfl (uK rfl ?_)
  refine uM rfl ?_
  iterate 9 refine uP rfl ?_
  refine uK rfl (uW k5 ?_)
  refine cT rfl (sK fun _ k11 => ?_)
  refine rL (uA rfl ?_)
  refine uW k11 (rR ?_)
  refine tR (bR rfl rfl ?_)
  exact ⟨false, rfl, ⟨fun h => (by cases h), fun h => by rcases h with ⟨h1, h2, h3, h4, h5⟩ | ⟨h1, h2, h3, h4, h5, h6⟩ | ⟨h1, h2, h3, h4, h5, h6⟩ | ⟨h1, h2, h3, h4, h5, h6⟩ | ⟨h1, h2, h3, h4, h5, h6⟩ <;> first | omega | contradiction | (have h9 := hv.2 h3; cases h9)⟩, (hv.kp [] 0 1)⟩
 refine uG (.bool false) rfl (ex_gtr rfl rfl rfl (qF hb10)) ?_
 refine uK rfl (uK rfl ?_)
 refine uM rfl ?_
 refine uF (vP b2) rfl (s12fa43_0 _ _ _) ?_
 refine uL _ rfl (run_load1 s2na3 (hv.load 0 0 rfl rfl)) ?_
 refine uG (.bool false) rfl (ex_neq rfl rfl rfl (qF (by omega))) ?_
 refine uM rfl ?_
 iterate 4 refine uP rfl ?_
 refine uK rfl (uK rfl ?_)
 refine uW k5 (cF rfl ?_)
 refine kS (tK k4 ?_)
 refine sK fun _ k12 => sK fun _ k13 => rL (uF (vP b2) rfl (s12fa43_0 _ _ _) ?_)
 refine uL _ rfl (run_load1 s2na3 (hv.load 0 0 rfl rfl)) (uW k13 ?_)
 refine bB (sK fun _ k14 => ?_)
 refine rL (uG (.bool false) rfl (ex_eql rfl rfl rfl (qF (by omega))) ?_)
 refine uA rfl (uW k14 ?_)
 refine cF rfl (sK fun _ k15 => ?_)
 refine rL (uG (.bool false) rfl (ex_eql rfl rfl rfl (qF (by omega))) ?_)
 refine uA rfl (uW k15 ?_)
 refine cF rfl (sK fun _ k16 => ?_)
 refine rL (uG (.bool false) rfl (ex_eql rfl rfl rfl (qF (by omega))) ?_)
 refine uA rfl (uW k16 ?_)
 refine cF rfl (sK fun _ k17 => ?_)
 refine rL (uG (.bool true) rfl (ex_eql rfl rfl rfl (qT (by omega))) ?_)
 refine uA rfl (uW k17 ?_)
 refine cT rfl (sK fun _ k18 => ?_)
 refine rL (uF (.pointer (some ⟨b2, 4, none⟩)) rfl (s1fa43_4 _ _ _) ?_)
 refine uL _ rfl (run_load1 s1na41 (hv.load 0 4 rfl rfl)) ?_
 refine uG (vI (v.zset.length : Int)) rfl (ex_len0 Tryz.underlying41 rfl rfl) ?_
 by_cases hb19 : (v.zset.length : Int) > 0
 ·refine uG (.bool true) rfl (ex_gtr rfl rfl rfl (qT hb19)) (uM rfl ?_)
  refine uF (.pointer (some ⟨b2, 4, none⟩)) rfl (s1fa43_4 _ _ _) ?_
  refine uL _ rfl (run_load1 s1na41 (hv.load 0 4 rfl rfl)) ?_
  refine xC s31callable35 rfl ((refZsetRight B _ _ _ _ _ hrz hzm hv).mono ?_) rfl
  rintro e w21 ⟨bl20, rfl, hbl20, hv⟩
  refine ⟨_, rfl, ?_⟩
  cases bl20
  ·refine uK rfl (uA rfl ?_)
   refine uW k18 (rR ?_)
   refine bZ (tR ?_)
   refine bR rfl rfl (⟨false, rfl, ⟨fun h => (by cases h), fun h => by rcases h with ⟨h1, h2, h3, h4, h5⟩ | ⟨h1, h2, h3, h4, h5, h6⟩ | ⟨h1, h2, h3, h4, h5, h6⟩ | ⟨h1, h2, h3, h4, h5, h6⟩ | ⟨h1, h2, h3, h4, h5, h6⟩ <;> first | omega | contradiction | (have h9 := hbl20.2 h3; cases h9)⟩, (hv.kp [] 0 1)⟩)
  refine uK rfl (uA rfl ?_)
  refine uW k18 (rR ?_)
  refine bZ (tR ?_)
  refine bR rfl rfl (⟨true, rfl, ⟨fun _ => .inr (.inr (.inr (.inr (⟨by omega, by omega, hbl20.1 rfl, Classical.not_not.1 hb6, by omega, by omega⟩)))), fun _ => rfl⟩, (hv.kp [] 0 1)⟩)
 refine uG (.bool false) rfl (ex_gtr rfl rfl rfl (qF hb19)) (uM rfl ?_)
 iterate 3 refine uP rfl ?_
 refine uK rfl (uA rfl ?_)
 refine uW k18 (rR ?_)
 refine bZ (tR ?_)
 refine bR rfl rfl (⟨false, rfl, ⟨fun h => (by cases h), fun h => by rcases h with ⟨h1, h2, h3, h4, h5⟩ | ⟨h1, h2, h3, h4, h5, h6⟩ | ⟨h1, h2, h3, h4, h5, h6⟩ | ⟨h1, h2, h3, h4, h5, h6⟩ | ⟨h1, h2, h3, h4, h5, h6⟩ <;> first | omega | contradiction | (have h9 := hv.2 h3; cases h9)⟩, (hv.kp [] 0 1)⟩)
theorem refRight0 (B : Base) (H : List Res) (w : World) (v : Val) (ap at2 az : Option Addr) (cp ct cz : Nat) (hrp : RdV B [] ap (pairCells v.pairs)) (hrt : RdV B [] at2 (textCells v.texts)) (hrz : RdV B [] az (memCells v.zset)) (hpm : v.pairs.length ≤ 1000000) (htm : v.texts.length ≤ 1000000) (hzm : v.zset.length ≤ 1000000) (hv : Inv B H w) :
  Calls Tryz.prog 14 #[.agg #[vI v.kind, vS v.text, .slice ap v.pairs.length cp, .slice at2 v.texts.length ct, .slice az v.zset.length cz]] w fun e w' => ∃ b, e = .returned (.bool b) ∧ (b = true ↔ ValOk v) ∧ Inv B H w' := by
 by_cases h : v.kind < 1 ∨ 5 < v.kind
 ·exact refRight_0 B H w v ap at2 az cp ct cz hrp hrt hrz hpm htm hzm h hv
 rcases (show v.kind = 1 ∨ v.kind = 2 ∨ v.kind = 3 ∨ v.kind = 4 ∨ v.kind = 5 by omega) with h | h | h | h | h
 ·exact refRight_1 B H w v ap at2 az cp ct cz hrp hrt hrz hpm htm hzm h hv
 ·exact refRight_2 B H w v ap at2 az cp ct cz hrp hrt hrz hpm htm hzm h hv
 ·exact refRight_3 B H w v ap at2 az cp ct cz hrp hrt hrz hpm htm hzm h hv
 ·exact refRight_4 B H w v ap at2 az cp ct cz hrp hrt hrz hpm htm hzm h hv
 exact refRight_5 B H w v ap at2 az cp ct cz hrp hrt hrz hpm htm hzm h hv
theorem refRightV (B : Base) (H : List Res) (w : World) (v : Val) (p t z : Value) (h : ValAt B v p t z) (hv : Inv B H w) : Calls Tryz.prog 14 #[.agg (valCells v p t z).toArray] w fun e w' => ∃ b, e = .returned (.bool b) ∧ (b = true ↔ ValOk v) ∧ Inv B H w' := by
 obtain ⟨⟨ap, cp, rfl, -, hrp⟩, ⟨at2, ct, rfl, -, hrt⟩, ⟨az, cz, rfl, -, hrz⟩, hpm, htm, hzm⟩ := h
 exact refRight0 B H w v ap at2 az cp ct cz hrp hrt hrz hpm htm hzm hv
theorem valRd_at2 {B : Base} {v : Val} {p t z : Value} (h : ValRd B v p t z) (hs : ValSm v) : ValAt B v p t z := by
 obtain ⟨h1, h2, h3⟩ := hs
 exact ⟨h.p, h.t, h.z, by omega, by omega, by omega⟩
theorem keep_ok {M M' : List (List UInt8 × Ver)} {clk exp ec : Int} {key : List UInt8} {x : Val} (hk : key.length ≤ 256) (hp : FullV x → PutOk key x exp) (h : KeepI M clk key x exp ec M') : ec = 0 ∧ ((FullV x ∧ M' = updA M key ⟨0, false, exp, x⟩) ∨ (¬ FullV x ∧ DeadM M clk key ∧ M' = M) ∨ (¬ FullV x ∧ ¬ DeadM M clk key ∧ M' = updA M key gver)) := by
 rcases h with ⟨h1, -, h2, h3⟩ | ⟨h1, h2, -⟩ | ⟨h1, h2, h3, h4⟩ | ⟨h1, ⟨y, h2, h3⟩, ⟨-, h4, h5⟩ | ⟨h4, -⟩⟩
 ·exact ⟨h2, .inl ⟨h1, h3⟩⟩
 ·exact absurd (hp h1) h2
 ·exact ⟨h3, .inr (.inl ⟨h1, h2, h4⟩)⟩
 ·exact ⟨h4, .inr (.inr ⟨h1, (fun hd => by rw [hd y h2] at h3; cases h3), h5⟩)⟩
 omega
theorem rel_step {M M' : List (List UInt8 × Ver)} {K K' : List KeyR} {clk exp : Int} {key : List UInt8} {x : Val} (hR : RelVK M K) (hm : (FullV x ∧ M' = updA M key ⟨0, false, exp, x⟩) ∨ (¬ FullV x ∧ DeadM M clk key ∧ M' = M) ∨ (¬ FullV x ∧ ¬ DeadM M clk key ∧ M' = updA M key gver)) (hk : PutK K clk key x exp K') : RelVK M' K' := by
 rcases hk with ⟨hf, rfl⟩ | ⟨hf, hi⟩
 ·rcases hm with ⟨h, -⟩ | ⟨-, hd, rfl⟩ | ⟨-, hd, rfl⟩
  ·exact absurd h hf
  ·unfold delK; rw [hR.free hd]; exact hR
  have : (getK K clk key).isSome = true := by
   cases hg : getK K clk key with
   | some x => rfl
   | none => exact absurd (hR.dead hg) hd
  unfold delK; rw [this]; exact hR.del
 rcases hm with ⟨-, rfl⟩ | ⟨h, -⟩ | ⟨h, -⟩
 ·exact hR.put hi
 ·exact absurd hf h
 exact absurd hf h
structure KeysOk (M : List (List UInt8 × Ver)) (i : Nat) : Prop where
 nd : (M.map (·.1)).Nodup
 len : M.length ≤ i
 sh : ∀ k ∈ M.map (·.1), k.length ≤ 256
theorem KeysOk.upd {M : List (List UInt8 × Ver)} {i : Nat} (h : KeysOk M i) {k : List UInt8} (hk : k.length ≤ 256) (y : Ver) : KeysOk (updA M k y) (i + 1) := by
 refine ⟨by rw [updA_keys]; exact addKey_nodup h.nd, by have := updA_len M k y; have := h.len; omega, fun k9 hk9 => ?_⟩
 rw [updA_keys] at hk9
 unfold addKey at hk9
 split at hk9
 ·exact h.sh k9 hk9
 rcases List.mem_append.1 hk9 with h9 | h9
 ·exact h.sh k9 h9
 rw [List.mem_singleton.1 h9]; exact hk
theorem KeysOk.step {M M' : List (List UInt8 × Ver)} {i : Nat} {clk exp : Int} {key : List UInt8} {x : Val} (h : KeysOk M i) (hk : key.length ≤ 256) (hm : (FullV x ∧ M' = updA M key ⟨0, false, exp, x⟩) ∨ (¬ FullV x ∧ DeadM M clk key ∧ M' = M) ∨ (¬ FullV x ∧ ¬ DeadM M clk key ∧ M' = updA M key gver)) : KeysOk M' (i + 1) := by
 rcases hm with ⟨-, rfl⟩ | ⟨-, -, rfl⟩ | ⟨-, -, rfl⟩
 ·exact h.upd hk _
 ·exact ⟨h.nd, by have := h.len; omega, h.sh⟩
 exact h.upd hk _
theorem RelVK.short {M : List (List UInt8 × Ver)} {K : List KeyR} {i : Nat} (h : RelVK M K) (hk : KeysOk M i) : ∀ x ∈ K, x.name.length ≤ 1000 := fun x hx => by
 have h1 := h.of_ x hx
 have h2 : x.name ∈ M.map (·.1) := Classical.byContradiction fun h9 => by rw [(look_none M x.name).2 h9] at h1; cases h1
 have := hk.sh _ h2
 omega
theorem others_len {K : List KeyR} {key : List UInt8} : (others K key).length ≤ K.length := List.length_filter_le _ _
theorem putK_len {K K' : List KeyR} {clk exp : Int} {key : List UInt8} {x : Val} (h : PutK K clk key x exp K') : K'.length ≤ K.length + 1 := by
 rcases h with ⟨-, rfl⟩ | ⟨-, j, hj, rfl, -⟩
 ·unfold delK; split
  ·have := others_len (K := K) (key := key); omega
  omega
 have := others_len (K := K) (key := key)
 rw [List.length_append, List.length_cons, List.length_take, List.length_drop]; omega
section
variable {M : List (List UInt8 × Ver)} {clk kd : Int} {key : List UInt8} {y : Ver} {ec : Int} {k : KeyR}
end
theorem wordsEq (B : Base) (H : List Res) (w : World) (ad ad' : Option Addr) (c c' : Nat) {l l' : List (List UInt8)} (h : l = l') (hr : RdV B [] ad (textCells l)) (hr' : RdV B [] ad' (textCells l')) (hm : l'.length ≤ 1000000) (hv : Inv B H w) :
  Calls Tryz.prog 11 #[.slice ad l.length c, .slice ad' l'.length c'] w fun e w' => e = .returned (.bool true) ∧ Inv B H w' := by
 subst h
 exact refWords B H w ad ad' c c' l hr hr' hm hv
open Go.Sort
def vText (s : List UInt8) : Val := ⟨1, s, [], [], []⟩
theorem vText_full {s : List UInt8} : FullV (vText s) := .inl rfl
theorem vText_put {k s : List UInt8} (hk : k.length ≤ 256) (hs : s.length ≤ 4096) : PutOk k (vText s) 0 := ⟨hk, .inl ⟨rfl, hs, rfl, rfl, rfl⟩, by omega, by omega⟩
theorem vText_at {B : Base} {s : List UInt8} : ValAt B (vText s) (vN) (vN) (vN) :=
 ⟨⟨none, 0, rfl, ⟨Nat.le_refl _, Nat.zero_le _, fun _ => rfl⟩, rdV_nil⟩, ⟨none, 0, rfl, ⟨Nat.le_refl _, Nat.zero_le _, fun _ => rfl⟩, rdV_nil⟩, ⟨none, 0, rfl, ⟨Nat.le_refl _, Nat.zero_le _, fun _ => rfl⟩, rdV_nil⟩, Nat.zero_le _, Nat.zero_le _, Nat.zero_le _⟩
theorem ck_put {M M' : List (List UInt8 × Ver)} {K K' : List KeyR} {i : Nat} {clk ec : Int} {k s : List UInt8} (hR : RelVK M K) (hKO : KeysOk M i) (hk : k.length ≤ 256) (hs : s.length ≤ 4096) (hkp : KeepI M clk k (vText s) 0 ec M') (hi : InsK (others K k) ⟨k, vText s, 0⟩ K') : ec = 0 ∧ RelVK M' K' ∧ KeysOk M' (i + 1) := by
 obtain ⟨h1, hm⟩ := keep_ok hk (fun _ => vText_put hk hs) hkp
 exact ⟨h1, rel_step hR hm (.inr ⟨vText_full, hi⟩), hKO.step hk hm⟩
def ckA : List KeyR := [⟨[97], vText [49], 0⟩]
def ckB : List KeyR := [⟨[97], vText [49], 0⟩, ⟨[98], vText [50], 0⟩]
def ckC : List KeyR := [⟨[97], vText [49], 0⟩, ⟨[98], vText [50], 0⟩, ⟨[99], vText [51], 0⟩]
theorem ins_A : InsK (others [] [97]) ⟨[97], vText [49], 0⟩ ckA := ⟨0, Nat.le_refl _, rfl, fun x h => (by cases h), fun x h => (by cases h)⟩
theorem ins_B : InsK (others ckA [98]) ⟨[98], vText [50], 0⟩ ckB := by
 rw [show others ckA [98] = ckA from rfl]
 exact ⟨1, Nat.le_refl _, rfl, by decide, fun x h => (by cases h)⟩
theorem ins_C : InsK (others ckB [99]) ⟨[99], vText [51], 0⟩ ckC := by
 rw [show others ckB [99] = ckB from rfl]
 exact ⟨2, Nat.le_refl _, rfl, by decide, fun x h => (by cases h)⟩
theorem ck_names {M : List (List UInt8 × Ver)} (hR : RelVK M ckC) (hKO : KeysOk M 3) : namesT M 0 = [[97], [98], [99]] := (hR.names hKO.nd).trans (by decide)
theorem ck_scan1 {r : Rp} (h : ScanR [[97], [98], [99]] [[48], wCOUNT, [50]] r) : r = rList [rStr [50], rStrs [[97], [98]]] := by
 obtain ⟨b, hb, rfl⟩ := scan_count (names := [[97], [98], [99]]) (a := 0) (c := 2) (by decide) (by decide) (by decide) (by decide) (by rw [itoa_small 0 (by decide), itoa_small 2 (by decide)]; exact h)
 obtain rfl : b = 2 := hb
 rw [show (((if 2 < [[97], [98], ([99] : List UInt8)].length then 2 else 0 : Nat)) : Int) = ((2 : Nat) : Int) from rfl, itoa_small 2 (by decide)]
 rfl
theorem ck_scan2 {r : Rp} (h : ScanR [[97], [98], [99]] [[50], wCOUNT, [50]] r) : r = rList [rStr [48], rStrs [[99]]] := by
 obtain ⟨b, hb, rfl⟩ := scan_count (names := [[97], [98], [99]]) (a := 2) (c := 2) (by decide) (by decide) (by decide) (by decide) (by rw [itoa_small 2 (by decide)]; exact h)
 obtain rfl : b = 3 := hb
 rw [show (((if 3 < [[97], [98], ([99] : List UInt8)].length then 3 else 0 : Nat)) : Int) = ((0 : Nat) : Int) from rfl, itoa_small 0 (by decide)]
 rfl
theorem scan_step {names : List (List UInt8)} {a n : Nat} {r : Rp} (hn : names.length ≤ 10) (h8 : n ≤ 8) (ha : a ≤ names.length) (h : ScanR names [Lib.itoa (a : Int), wCOUNT, [UInt8.ofNat (49 + n)]] r) :
  ∃ (b nx : Nat) (seg : List (List UInt8)), b ≤ names.length ∧ seg.length ≤ 10 ∧ r = rList [rStr (Lib.itoa (nx : Int)), rStrs seg] ∧ names.take a ++ seg = names.take b ∧ ((b = names.length ∧ nx = 0) ∨ (a < b ∧ b < names.length ∧ nx = b)) := by
 obtain ⟨b, hb, rfl⟩ := scan_count (c := n + 1) (by omega) (by omega) (by omega) ha (by rw [itoa_small (n + 1) (by omega), show 48 + (n + 1) = 49 + n by omega]; exact h)
 refine ⟨b, _, _, by omega, by rw [List.length_take, List.length_drop]; omega, rfl, ?_, ?_⟩
 ·rw [← List.take_add]; congr 1; omega
 by_cases h9 : b < names.length
 ·exact .inr ⟨by omega, h9, if_pos h9⟩
 exact .inl ⟨by omega, if_neg h9⟩
theorem itoa_zero {n : Nat} (h : n ≤ 10) : Lib.itoa (n : Int) = [48] ↔ n = 0 := by
 rw [← show Lib.itoa ((0 : Nat) : Int) = [48] from itoa_small 0 (by decide)]
 constructor
 ·intro h9
  have := itoa_inj (by omega) (by omega) (by omega) (by omega) h9
  omega
 rintro rfl; rfl
theorem rp_two {B : Base} {s : List UInt8} {l : List (List UInt8)} {cs : List Value} (h : RpAt B (rList [rStr s, rStrs l]) cs) : ∃ b off c v0 la lc, cs = rpCells 5 [] 0 (.slice (some ⟨b, off, none⟩) 2 c) ∧ Reads B [] b (off + 0 * 4) (rpCells 3 s 0 v0) ∧ v0.cells = #[v0] ∧ v0.oneCell' = true ∧ Reads B [] b (off + 1 * 4) (rpCells 5 [] 0 (.slice la l.length lc)) ∧ RpAt B (rStrs l) (rpCells 5 [] 0 (.slice la l.length lc)) ∧ (∀ (i : Nat) x, l[i]? = some x → ∃ b2 off2 v2, la = some ⟨b2, off2, none⟩ ∧ v2.cells = #[v2] ∧ v2.oneCell' = true ∧ Reads B [] b2 (off2 + i * 4) (rpCells 3 x 0 v2)) := by
 simp only [rList, RpAt] at h
 obtain ⟨v, xs, rfl, ⟨ra, rc, rfl, hok, hr⟩, hs⟩ := h
 obtain ⟨b, off, v0, y0, rfl, h0, -, hr0⟩ := hs.reads (i := 0) hr rfl
 obtain ⟨b', off', v1, y1, e1, h1, hs1, hr1⟩ := hs.reads (i := 1) hr (show [rStr s, rStrs l][1]? = some (Rp.mk 5 [] 0 (l.map rStr)) from rfl)
 cases e1
 have hR : RpAt B (rStrs l) (rpCells 5 [] 0 v1) := rpAt_of h1 hs1
 obtain ⟨la, lc, rfl, -, hl⟩ := h1
 rw [List.length_map] at hr1 hR
 refine ⟨b, off, rc, v0, la, lc, rfl, hr0, h0.cells, h0.one, hr1, hR, fun i x hx => ?_⟩
 obtain ⟨b2, off2, v2, y2, e2, h2, -, hr2⟩ := hs1.reads (i := i) hl (show (l.map rStr)[i]? = some (Rp.mk 3 x 0 []) by rw [List.getElem?_map, hx]; rfl)
 exact ⟨b2, off2, v2, e2, h2.cells, h2.one, hr2⟩
end Go.Proofs.YtngpmolbphinnaaGreatDoor
namespace Go.Pm
open Go.RowKit
inductive Tr (α : Type) where
 | lin (is : List α)
 | fork (x : α) (t1 : Tr α) (y : α) (t2 : Tr α)
section
variable {P : Program} {ops : Array Oper} {mem perm pre is : List Nat} {R : Act → World → Prop} {Q : Exit → Act → World → Prop} {a0 a aS : Act} {listed : Array Bool} {w w' : World} {val : Nat → Value} {Fl : List (Nat × (World → Prop))} {J : World → Prop} {i : Nat} {o : Oper} {K : Act → World → Prop}
end
section
variable {P : Program} {ops : Array Oper} {mem : List Nat} {Q : Exit → Act → World → Prop} {a0 : Act}
end
section
variable {n : Nat} {P : Program} {ops : Array Oper} {Q : Exit → Act → World → Prop} {a0 : Act} {w0 : World} {B : Base} {H : List Res}
end
section
variable {P : Program} {ops : Array Oper} {mem : List Nat} {R : Act → World → Prop} {D : List (Nat × (World → Prop)) → (World → Prop) → Act → Prop} {i : Nat} {o : Oper} {is : List (Nat × Oper)} {Fl : List (Nat × (World → Prop))} {J : World → Prop} {a : Act} {v : Value} {x y : Nat × Oper} {t1 t2 : Tr (Nat × Oper)} {G : (World → Prop) → Act → Prop} {B : Base} {H : List Res} {w' : World}
end
end Go.Pm
namespace Go.Proofs.YtngpmolbphinnaaGreatDoor
open Go.RowKit Go.Pm
theorem k3al43 : AL Tryz.prog 43 [vI 0, vS [], vN, vN, vN] := fun w => by kernel_rfl
theorem lawText26 (B : Base) (H : List Res) (w : World) (s : List UInt8) (hv : Inv B H w) :
  Calls Tryz.prog 25 #[vS s] w fun e w' => e = .returned (.agg #[vI 1, vS s, vN, vN, vN]) ∧ Inv B H w' := by
 refine cW Tryz.func25 rfl Tryz.ntmps25 ?_
 simp only [al]
 refine sK fun _ k1 => rL (sl_alloc tV (wn rfl) rfl hv k3al43 (fun b2 w3 hv => ?_))
 refine uW k1 (sK fun _ k4 => ?_)
 refine rL (uM rfl ?_)
 refine uG (.agg #[vI 1, vS s, vN, vN, vN]) rfl (ex_buildN (vs := #[(0, vI 1), (1, vS s)]) rfl (by simp only [List.map_toArray, List.map_cons, List.map_nil]; rfl) (by kernel_rfl)) ?_
 refine xS 0 rfl hv s1sz43 rfl (by exact ⟨rfl, rfl, rfl, rfl, rfl, trivial⟩) (fun w5 hv => ?_)
 simp only [zO, sp] at hv
 refine uW k4 (rR ?_)
 refine bC 0 s1wd43 hv rfl rfl rfl rfl (⟨rfl, (hv.kp [] 0 1)⟩)
theorem k3callable15 : Callable Tryz.prog 15 := cb Tryz.func15 (by kernel_rfl)
theorem k3callable25 : Callable Tryz.prog 25 := cb Tryz.func25 (by kernel_rfl)
theorem k3callable16 : Callable Tryz.prog 16 := cb Tryz.func16 (by kernel_rfl)
theorem k3callable10 : Callable Tryz.prog 10 := cb Tryz.func10 (by kernel_rfl)
theorem k3al34 : AL Tryz.prog 34 [vI 0, vS [], vI 0, vN] := fun w => by kernel_rfl
theorem k3callable26 : Callable Tryz.prog 26 := cb Tryz.func26 (by kernel_rfl)
theorem k3mk9 : (Tryz.prog.info? 9).map (fun i => (i.zero, i.size, i.bytes)) = some (some (vS []), 1, 16) := by kernel_rfl
theorem k3el26 : Elem Tryz.prog 26 9 (vS []) 1 16 := elem_of Tryz.underlying26 k3mk9 (by rfl) (by decide)
theorem lawAwake26 (B : Base) (H : List Res) (w : World) (hN : NumB B) (hv : Inv B H w) :
  Calls Tryz.prog 8 #[] w fun e w' => e = .returned (.bool true) ∧ Inv B H w' := by
 refine cW Tryz.func8 rfl Tryz.ntmps8 ?_
 simp only [al]
 refine sK fun _ k1 => rL (uA rfl ?_)
 refine uW k1 (sK fun _ k2 => ?_)
 refine rL (xC k3callable15 rfl ((lawOpened26 B _ _ 0 (by omega) (by omega) hv).mono ?_) rfl)
 rintro e w3 ⟨v, t, m, s, p, wb, va, vc, sv, rfl, hv⟩
 refine ⟨_, rfl, uA rfl ?_⟩
 refine uW k2 (sK fun _ k4 => ?_)
 refine sK fun _ k5 => rL (uM rfl ?_)
 refine uG (.bool false) rfl (ex_pisnil Tryz.underlying24 rfl rfl rfl rfl) (uM rfl ?_)
 refine uM rfl ?_
 refine xC k3callable25 rfl ((lawText26 B _ _ ([49] : List UInt8) hv).mono ?_) rfl
 rintro e w6 ⟨rfl, hv⟩
 refine ⟨_, rfl, ?_⟩
 simp only [zP, po]
 replace hv := hv.front 1 rfl
 simp only [eS, eZ] at hv
 replace hv := hv.front 1 rfl
 simp only [eS, eZ] at hv
 refine xC k3callable16 rfl ((viewKeep B _ _ v t m s p wb va vc sv 0 [] [] ([97] : List UInt8) (vText ([49] : List UInt8)) _ _ _ 0 ((vmNil B).more (Base.Le.refl _)) vText_at hv).mono ?_) rfl
 rintro e w7 ⟨D1, es1, M1, ec1, hD1, rfl, hM1, hkp1, hv⟩
 refine ⟨_, rfl, ?_⟩
 obtain ⟨rfl, hR1, hK1⟩ := ck_put RelVK.nil (show KeysOk [] 0 from ⟨List.Pairwise.nil, Nat.le_refl _, fun k h => (by cases h)⟩) (by decide) (by decide) hkp1 ins_A
 refine uG (.bool false) rfl (ex_neq rfl rfl rfl (by decide)) (uK rfl ?_)
 refine uM rfl ?_
 refine uM rfl ?_
 refine xC k3callable25 rfl ((lawText26 D1 _ _ ([50] : List UInt8) hv).mono ?_) rfl
 rintro e w8 ⟨rfl, hv⟩
 refine ⟨_, rfl, ?_⟩
 simp only [zP, po]
 replace hv := hv.front 1 rfl
 simp only [eS, eZ] at hv
 replace hv := hv.front 1 rfl
 simp only [eS, eZ] at hv
 refine xC k3callable16 rfl ((viewKeep D1 _ _ v t m s p wb va vc sv 0 es1 M1 ([98] : List UInt8) (vText ([50] : List UInt8)) _ _ _ 0 (hM1.more (Base.Le.refl _)) vText_at hv).mono ?_) rfl
 rintro e w9 ⟨D2, es2, M2, ec2, hD2, rfl, hM2, hkp2, hv⟩
 refine ⟨_, rfl, ?_⟩
 obtain ⟨rfl, hR2, hK2⟩ := ck_put hR1 hK1 (by decide) (by decide) hkp2 ins_B
 refine uG (.bool false) rfl (ex_neq rfl rfl rfl (by decide)) (uK rfl ?_)
 refine uM rfl ?_
 refine uM rfl ?_
 refine xC k3callable25 rfl ((lawText26 D2 _ _ ([51] : List UInt8) hv).mono ?_) rfl
 rintro e w10 ⟨rfl, hv⟩
 refine ⟨_, rfl, ?_⟩
 simp only [zP, po]
 replace hv := hv.front 1 rfl
 simp only [eS, eZ] at hv
 replace hv := hv.front 1 rfl
 simp only [eS, eZ] at hv
 refine xC k3callable16 rfl ((viewKeep D2 _ _ v t m s p wb va vc sv 0 es2 M2 ([99] : List UInt8) (vText ([51] : List UInt8)) _ _ _ 0 (hM2.more (Base.Le.refl _)) vText_at hv).mono ?_) rfl
 rintro e w11 ⟨D3, es3, M3, ec3, hD3, rfl, hM3, hkp3, hv⟩
 refine ⟨_, rfl, ?_⟩
 obtain ⟨rfl, hR3, hK3⟩ := ck_put hR2 hK2 (by decide) (by decide) hkp3 ins_C
 refine uG (.bool false) rfl (ex_neq rfl rfl rfl (by decide)) (uK rfl ?_)
 refine uW k5 (cF rfl ?_)
 refine kS (tK k4 ?_)
 refine sK fun _ k12 => rL (uM rfl ?_)
 refine sl_rowN (pv := #[(0, vS [48]), (1, vS [67, 79, 85, 78, 84]), (2, vS [50])]) (L := [vS [48], vS [67, 79, 85, 78, 84], vS [50]]) (e := 9) tV (wn rfl) rfl (by simp only [List.map_toArray, List.map_cons, List.map_nil]; rfl) hv (fun w => by kernel_rfl) (fun b13 w14 hv => ?_)
 simp only [zP, po]
 obtain ⟨D15, hD15, hv, hrD15, hoD15, -⟩ := (hv.cellRow (n := 3) (c := 3) (size := 1) rfl (by decide) (by decide)).rowBy
 replace hv := hv.front 1 rfl
 simp only [eS, eZ] at hv
 replace hv := hv.front 1 rfl
 simp only [eS, eZ] at hv
 refine xC k3callable10 rfl ((ckDoS D15 _ _ v t m s p wb va vc sv 0 es3 M3 (hM3.more hD15) _ _ [([48] : List UInt8), ([67, 79, 85, 78, 84] : List UInt8), ([50] : List UInt8)] hrD15 hoD15 (by decide) (by decide) hK3.sh (by have := hK3.len; omega) (all1 (by decide) (all1 (by decide) (all1 (by decide) all0))) (.inl (all1 (by decide) (all1 (by decide) (all1 (by decide) all0)))) (hN.more (((hD1.trans hD2).trans hD3).trans hD15)) hv).mono ?_) rfl
 rintro e w16 ⟨C1, r1, cs1, hC1, rfl, hrp1, hsr1, hv⟩
 refine ⟨_, rfl, ?_⟩
 rw [ck_names hR3 hK3] at hsr1
 obtain rfl := ck_scan1 hsr1
 obtain ⟨rb1, ro1, rc1, u1, la1, lc1, rfl, hrd1, hu1, hw1, hrl1, hrs1, -⟩ := rp_two hrp1
 refine uG (.tuple #[.agg #[vI 5, vS [], vI 0, .slice (some ⟨rb1, ro1, none⟩) 2 rc1], .bool true]) rfl (ex_move rfl rfl) ?_
 refine uG (.agg #[vI 5, vS [], vI 0, .slice (some ⟨rb1, ro1, none⟩) 2 rc1]) rfl (ex_extract rfl rfl rfl) (uE rfl ?_)
 refine sl_alloc tV (wn rfl) rfl hv k3al34 (fun b17 w18 hv => ?_)
 simp only [zP, po]
 refine xS 0 rfl hv rssz34 rfl (by exact ⟨rfl, rfl, rfl, rfl, trivial⟩) (fun w19 hv => ?_)
 simp only [zO, sp] at hv
 refine uA rfl (uW k12 ?_)
 refine sK fun _ k20 => rL (uM rfl ?_)
 refine sl_rowN (pv := #[(0, vS [50]), (1, vS [67, 79, 85, 78, 84]), (2, vS [50])]) (L := [vS [50], vS [67, 79, 85, 78, 84], vS [50]]) (e := 9) tV (wn rfl) rfl (by simp only [List.map_toArray, List.map_cons, List.map_nil]; rfl) hv (fun w => by kernel_rfl) (fun b21 w22 hv => ?_)
 simp only [zP, po]
 obtain ⟨D23, hD23, hv, hrD23, hoD23, -⟩ := (hv.cellRow (n := 3) (c := 3) (size := 1) rfl (by decide) (by decide)).rowBy
 replace hv := hv.front 2 rfl
 simp only [eS, eZ] at hv
 replace hv := hv.front 2 rfl
 simp only [eS, eZ] at hv
 refine xC k3callable10 rfl ((ckDoS D23 _ _ v t m s p wb va vc sv 0 es3 M3 (hM3.more ((hD15.trans hC1).trans hD23)) _ _ [([50] : List UInt8), ([67, 79, 85, 78, 84] : List UInt8), ([50] : List UInt8)] hrD23 hoD23 (by decide) (by decide) hK3.sh (by have := hK3.len; omega) (all1 (by decide) (all1 (by decide) (all1 (by decide) all0))) (.inl (all1 (by decide) (all1 (by decide) (all1 (by decide) all0)))) (hN.more (((((hD1.trans hD2).trans hD3).trans hD15).trans hC1).trans hD23)) hv).mono ?_) rfl
 rintro e w24 ⟨C2, r2, cs2, hC2, rfl, hrp2, hsr2, hv⟩
 refine ⟨_, rfl, ?_⟩
 rw [ck_names hR3 hK3] at hsr2
 obtain rfl := ck_scan2 hsr2
 obtain ⟨rb2, ro2, rc2, u2, la2, lc2, rfl, hrd2, hu2, hw2, hrl2, hrs2, -⟩ := rp_two hrp2
 refine uG (.tuple #[.agg #[vI 5, vS [], vI 0, .slice (some ⟨rb2, ro2, none⟩) 2 rc2], .bool true]) rfl (ex_move rfl rfl) ?_
 refine uG (.agg #[vI 5, vS [], vI 0, .slice (some ⟨rb2, ro2, none⟩) 2 rc2]) rfl (ex_extract rfl rfl rfl) (uE rfl ?_)
 refine sl_alloc tV (wn rfl) rfl hv k3al34 (fun b25 w26 hv => ?_)
 simp only [zP, po]
 refine xS 0 rfl hv rssz34 rfl (by exact ⟨rfl, rfl, rfl, rfl, trivial⟩) (fun w27 hv => ?_)
 simp only [zO, sp] at hv
 refine uA rfl (uW k20 ?_)
 refine sK fun _ k28 => rW mixed [23, 24, 25, 46, 47, 48] [0,1,2,3,4,5,6,7,8,9,10,11,12,13,14,15,16,17,18,19,20,21,22,23,24,25,26,27,28,29,30,31,32,33,34,35,36,37,38,39,40,41,42,43,44,45,46,47,48,49,50] 89 rfl (by kernel_rfl) hv ?_
 simp only [qm, opAt]
 refine dM (.bool true) rfl (dM (.bool true) rfl ?_)
 refine dM (.bool true) rfl ?_
 simp only [zP, po]
 refine dK true (.bool true) rfl (dM (.bool true) rfl ?_)
 refine dG (.pointer (some ⟨b17, 3, none⟩)) rfl (ex_field rfl rfl (rtfa34_3 _ _ _)) ?_
 simp only [zP, po]
 refine dL _ rfl (fun hv => ex_load rfl rfl (run_load1 rtna32 (hv.load 3 3 rfl rfl))) (dG (vI 2) rfl (ex_len0 Tryz.underlying32 rfl rfl) ?_)
 refine dG (.bool true) rfl (ex_eql rfl rfl rfl (by decide)) ?_
 simp only [zP, po]
 refine dK true (.bool true) rfl (dM (.bool true) rfl ?_)
 refine dG (.pointer (some ⟨b17, 3, none⟩)) rfl (ex_field rfl rfl (rtfa34_3 _ _ _)) ?_
 simp only [zP, po]
 refine dL _ rfl (fun hv => ex_load rfl rfl (run_load1 rtna32 (hv.load 3 3 rfl rfl))) (dG (.pointer (some ⟨rb1, ro1 + 0 * 4, none⟩)) rfl (ex_index rfl rfl rfl (run_idx (k := 0) Tryz.underlying32 k0es32 (by omega))) ?_)
 refine dG (.pointer (some ⟨rb1, ro1 + 0 * 4 + 1, none⟩)) rfl (ex_field rfl rfl (k0fa34_1 _ _ _)) ?_
 simp only [zP, po]
 refine dL _ rfl (fun hv => ex_load rfl rfl (run_load1 s9na9 (hrd1 _ _ _ (hD23.trans hC2) no_res hv 1 _ rfl))) (dG (.bool true) rfl (ex_seql rfl rfl rfl (qT (by decide))) ?_)
 refine dK true (.bool true) rfl ?_
 simp only [zP, po]
 refine dM (.bool true) rfl (dG (.pointer (some ⟨b17, 3, none⟩)) rfl (ex_field rfl rfl (rtfa34_3 _ _ _)) ?_)
 refine dF _ rfl (fun hv => ex_load rfl rfl (run_load1 rtna32 (hv.load 3 3 rfl rfl))) fun f29 hf29 => ?_
 simp only [zP, po]
 refine dG (.pointer (some ⟨rb1, ro1 + 1 * 4, none⟩)) rfl (ex_index rfl rfl rfl (run_idx (k := 1) Tryz.underlying32 k0es32 (by omega))) (dF (.agg #[vI 5, vS [], vI 0, .slice la1 (([[97], [98]] : List (List UInt8)).length) lc1]) rfl (fun hv => ex_load rfl rfl (run_loadR (cs := [vI 5, vS [], vI 0, .slice la1 (([[97], [98]] : List (List UInt8)).length) lc1]) rswd34 (Reads.mid (pre := []) (mid := [vI 5, vS [], vI 0, .slice la1 (([[97], [98]] : List (List UInt8)).length) lc1]) (post := []) hrl1 _ _ _ (hD23.trans hC2) no_res hv))) fun f30 hf30 => ?_)
 refine dS rfl fun w31 hv => mem_row2 (v1 := vS [97]) (v2 := vS [98]) (e := 9) rfl rfl rfl rfl hv (fun w => by kernel_rfl) (fun b32 w33 hv => ?_)
 refine dV hv (fC (fun ww hv => hf30 ww (ex_load rfl rfl (run_loadR (cs := [vI 5, vS [], vI 0, .slice la1 (([[97], [98]] : List (List UInt8)).length) lc1]) rswd34 (Reads.mid (pre := []) (mid := [vI 5, vS [], vI 0, .slice la1 (([[97], [98]] : List (List UInt8)).length) lc1]) (post := []) hrl1 _ _ _ (hD23.trans hC2) no_res hv)))) (fC (fun ww hv => hf29 ww (ex_load rfl rfl (run_load1 rtna32 (hv.load 4 3 rfl rfl)))) fN)) ?_
 simp only [zP, po]
 refine dS rfl fun w34 hv => ?_
 obtain ⟨D35, hD35, hv, hrD35, hoD35, -⟩ := (hv.cellRow (n := 2) (c := 2) (size := 1) rfl (by decide) (by decide)).rowBy
 refine mC k3callable26 rfl ((ref20Strs D35 _ _ _ _ [([97] : List UInt8), ([98] : List UInt8)] hrD35 (by decide) hv).mono ?_) rfl
 rintro e w36 ⟨E1, ve1, hE1, rfl, hrq1, hv⟩
 refine ⟨_, rfl, dV hv (fC (fun ww hv => hf30 ww (ex_load rfl rfl (run_loadR (cs := [vI 5, vS [], vI 0, .slice la1 (([[97], [98]] : List (List UInt8)).length) lc1]) rswd34 (Reads.mid (pre := []) (mid := [vI 5, vS [], vI 0, .slice la1 (([[97], [98]] : List (List UInt8)).length) lc1]) (post := []) hrl1 _ _ _ (((hD23.trans hC2).trans hD35).trans hE1) no_res hv)))) (fC (fun ww hv => hf29 ww (ex_load rfl rfl (run_load1 rtna32 (hv.load 3 3 rfl rfl)))) fN)) ?_⟩
 refine dS rfl fun w37 hv => mC k0callable22 rfl (((sameR_strs (B := E1) (l := ([[97], [98]] : List (List UInt8))) (by decide)) _ _ (rpCells 5 [] 0 (.slice la1 ([[97], [98]] : List (List UInt8)).length lc1)) (rpCells 5 [] 0 ve1) (hrs1.more (((hD23.trans hC2).trans hD35).trans hE1)) (hrq1.more (Base.Le.refl _)) hv).mono ?_) rfl
 rintro e w38 ⟨rfl, hv⟩
 refine ⟨_, rfl, dV hv (fK rfl (fK rfl fN)) ?_⟩
 refine dK true (.bool true) rfl ?_
 simp only [zP, po]
 refine dM (.bool true) rfl (dG (.pointer (some ⟨b25, 3, none⟩)) rfl (ex_field rfl rfl (rtfa34_3 _ _ _)) ?_)
 refine dL _ rfl (fun hv => ex_load rfl rfl (run_load1 rtna32 (hv.load 0 3 rfl rfl))) ?_
 simp only [zP, po]
 refine dG (vI 2) rfl (ex_len0 Tryz.underlying32 rfl rfl) (dG (.bool true) rfl (ex_eql rfl rfl rfl (by decide)) ?_)
 refine dK true (.bool true) rfl ?_
 simp only [zP, po]
 refine dM (.bool true) rfl (dG (.pointer (some ⟨b25, 3, none⟩)) rfl (ex_field rfl rfl (rtfa34_3 _ _ _)) ?_)
 refine dL _ rfl (fun hv => ex_load rfl rfl (run_load1 rtna32 (hv.load 0 3 rfl rfl))) ?_
 simp only [zP, po]
 refine dG (.pointer (some ⟨rb2, ro2 + 0 * 4, none⟩)) rfl (ex_index rfl rfl rfl (run_idx (k := 0) Tryz.underlying32 k0es32 (by omega))) (dG (.pointer (some ⟨rb2, ro2 + 0 * 4 + 1, none⟩)) rfl (ex_field rfl rfl (k0fa34_1 _ _ _)) ?_)
 refine dL _ rfl (fun hv => ex_load rfl rfl (run_load1 s9na9 (hrd2 _ _ _ (hD35.trans hE1) no_res hv 1 _ rfl))) ?_
 simp only [zP, po]
 refine dG (.bool true) rfl (ex_seql rfl rfl rfl (qT (by decide))) (dK true (.bool true) rfl ?_)
 refine dM (.bool true) rfl ?_
 simp only [zP, po]
 refine dG (.pointer (some ⟨b25, 3, none⟩)) rfl (ex_field rfl rfl (rtfa34_3 _ _ _)) (dF _ rfl (fun hv => ex_load rfl rfl (run_load1 rtna32 (hv.load 0 3 rfl rfl))) fun f39 hf39 => ?_)
 refine dG (.pointer (some ⟨rb2, ro2 + 1 * 4, none⟩)) rfl (ex_index rfl rfl rfl (run_idx (k := 1) Tryz.underlying32 k0es32 (by omega))) ?_
 simp only [zP, po]
 refine dF (.agg #[vI 5, vS [], vI 0, .slice la2 (([[99]] : List (List UInt8)).length) lc2]) rfl (fun hv => ex_load rfl rfl (run_loadR (cs := [vI 5, vS [], vI 0, .slice la2 (([[99]] : List (List UInt8)).length) lc2]) rswd34 (Reads.mid (pre := []) (mid := [vI 5, vS [], vI 0, .slice la2 (([[99]] : List (List UInt8)).length) lc2]) (post := []) hrl2 _ _ _ (hD35.trans hE1) no_res hv))) fun f40 hf40 => dS rfl fun w41 hv => mem_row1 (v := vS [99]) rfl rfl rfl hv k3el26 rfl (fun b42 w43 hv => ?_)
 refine dV hv (fC (fun ww hv => hf40 ww (ex_load rfl rfl (run_loadR (cs := [vI 5, vS [], vI 0, .slice la2 (([[99]] : List (List UInt8)).length) lc2]) rswd34 (Reads.mid (pre := []) (mid := [vI 5, vS [], vI 0, .slice la2 (([[99]] : List (List UInt8)).length) lc2]) (post := []) hrl2 _ _ _ (hD35.trans hE1) no_res hv)))) (fC (fun ww hv => hf39 ww (ex_load rfl rfl (run_load1 rtna32 (hv.load 1 3 rfl rfl)))) (fK rfl (fK rfl fN)))) (dS rfl fun w44 hv => ?_)
 obtain ⟨D45, hD45, hv, hrD45, hoD45, -⟩ := (hv.cellRow (n := 1) (c := 1) (size := 1) rfl (by decide) (by decide)).rowBy
 refine mC k3callable26 rfl ((ref20Strs D45 _ _ _ _ [([99] : List UInt8)] hrD45 (by decide) hv).mono ?_) rfl
 rintro e w46 ⟨E2, ve2, hE2, rfl, hrq2, hv⟩
 refine ⟨_, rfl, dV hv (fC (fun ww hv => hf40 ww (ex_load rfl rfl (run_loadR (cs := [vI 5, vS [], vI 0, .slice la2 (([[99]] : List (List UInt8)).length) lc2]) rswd34 (Reads.mid (pre := []) (mid := [vI 5, vS [], vI 0, .slice la2 (([[99]] : List (List UInt8)).length) lc2]) (post := []) hrl2 _ _ _ (((hD35.trans hE1).trans hD45).trans hE2) no_res hv)))) (fC (fun ww hv => hf39 ww (ex_load rfl rfl (run_load1 rtna32 (hv.load 0 3 rfl rfl)))) (fK rfl (fK rfl fN)))) ?_⟩
 simp only [zP, po]
 refine dS rfl fun w47 hv => mC k0callable22 rfl (((sameR_strs (B := E2) (l := ([[99]] : List (List UInt8))) (by decide)) _ _ (rpCells 5 [] 0 (.slice la2 ([[99]] : List (List UInt8)).length lc2)) (rpCells 5 [] 0 ve2) (hrs2.more (((hD35.trans hE1).trans hD45).trans hE2)) (hrq2.more (Base.Le.refl _)) hv).mono ?_) rfl
 rintro e w48 ⟨rfl, hv⟩
 refine ⟨_, rfl, dV hv (fK rfl (fK rfl (fK rfl (fK rfl fN)))) ?_⟩
 refine dK true (.bool true) rfl (dA (.bool true) rfl ?_)
 refine dE fun w49 hv => ?_
 simp only [zP, po]
 refine tK k28 (rR ?_)
 refine bR rfl rfl (⟨rfl, ((hv.kp [] 0 4)).weak ((((((((((hD1.trans hD2).trans hD3).trans hD15).trans hC1).trans hD23).trans hC2).trans hD35).trans hE1).trans hD45).trans hE2)⟩)
end Go.Proofs.YtngpmolbphinnaaGreatDoor
namespace Go.Pm
open Go.RowKit
def All2 {α β : Type} (R : α → β → Prop) : List α → List β → Prop
 | [], [] => True
 | a :: k, b :: l => R a b ∧ All2 R k l
 | _, _ => False
theorem rep_rowAux {W : World} {S : Nat → Prop} {t : Ty} {a : Option Addr} : ∀ (l : List t.den) (k : Nat), (∀ i (h : i < l.length), ∃ b off xs, a = some ⟨b, off, none⟩ ∧ S b ∧ xs.length = t.size ∧ (∀ j (h : j < xs.length), W.cell? ⟨b, off + (k + i) * t.size + j, none⟩ = some xs[j]) ∧ Rep W S t xs l[i]) →
  ∃ xss : List (List Value), All2 (fun xs d => xs.length = t.size ∧ Rep W S t xs d) xss l ∧ ∀ j (h : j < xss.flatten.length), ∃ b off, a = some ⟨b, off, none⟩ ∧ W.cell? ⟨b, off + k * t.size + j, none⟩ = some xss.flatten[j]
 | [], k, _ => ⟨[], trivial, fun j h => by simp at h⟩
 | d :: l, k, h => by
  obtain ⟨xss, h1, h2⟩ := rep_rowAux l (k + 1) (fun i hi => by
   obtain ⟨b, off, xs, e1, e2, e3, e4, e5⟩ := h (i + 1) (by simpa using hi)
   refine ⟨b, off, xs, e1, e2, e3, fun j hj => ?_, e5⟩
   rw [show k + 1 + i = k + (i + 1) by omega]
   exact e4 j hj)
  obtain ⟨b, off, xs, e1, e2, e3, e4, e5⟩ := h 0 (by simp)
  refine ⟨xs :: xss, ⟨⟨e3, e5⟩, h1⟩, fun j hj => ?_⟩
  rcases Nat.lt_or_ge j xs.length with hx | hx
  ·refine ⟨b, off, e1, ?_⟩
   have := e4 j hx
   rw [Nat.add_zero] at this
   rw [this]
   simp only [List.flatten_cons]
   rw [List.getElem_append_left hx]
  have hj' : j - xs.length < xss.flatten.length := by
   simp only [List.flatten_cons, List.length_append] at hj
   omega
  obtain ⟨b', off', f1, f2⟩ := h2 (j - xs.length) hj'
  refine ⟨b', off', f1, ?_⟩
  rw [show off' + k * t.size + j = off' + (k + 1) * t.size + (j - xs.length) by rw [Nat.succ_mul]; omega, f2]
  simp only [List.flatten_cons]
  rw [List.getElem_append_right hx]
theorem rep_row {W : World} {S : Nat → Prop} {t : Ty} {cs : List Value} {l : List t.den} (h : Rep W S (.slice t) cs l) :
  ∃ a cap xss, cs = [.slice a l.length cap] ∧ SliceOk a l.length cap ∧ RdV (Base.of W) [] a xss.flatten ∧ All2 (fun xs d => xs.length = t.size ∧ Rep W S t xs d) xss l := by
 obtain ⟨a, cap, h1, h2, h4⟩ := h
 obtain ⟨xss, h5, h6⟩ := rep_rowAux (t := t) l 0 (fun i hi => by
  obtain ⟨b, off, xs, e1, e2, e3, e4, e5⟩ := h4 i hi
  refine ⟨b, off, xs, e1, e2, e3, fun j hj => ?_, e5⟩
  rw [Nat.zero_add]
  exact e4 j hj)
 refine ⟨a, cap, xss, h1, h2, rdV_of W fun j hj => ?_, h5⟩
 obtain ⟨b, off, f1, f2⟩ := h6 j hj
 exact ⟨b, off, f1, by rw [← f2, Nat.zero_mul, Nat.add_zero]⟩
abbrev pairTy : Ty := .pair .str (.pair .str .unit)
abbrev memTy : Ty := .pair (.int .i64) (.pair .str .unit)
abbrev valTy : Ty := .pair (.int .i64) (.pair .str (.pair (.slice pairTy) (.pair (.slice .str) (.pair (.slice memTy) .unit))))
def valOf (d : valTy.den) : Val := ⟨d.1, d.2.1, d.2.2.1.map fun p => (p.1, p.2.1), d.2.2.2.1, d.2.2.2.2.1.map fun p => (p.1, p.2.1)⟩
theorem rep_pairs {W : World} {S : Nat → Prop} : ∀ {xss : List (List Value)} {l : List pairTy.den}, All2 (fun xs d => xs.length = pairTy.size ∧ Rep W S pairTy xs d) xss l → xss.flatten = pairCells (l.map fun p => (p.1, p.2.1))
 | [], [], _ => rfl
 | xs :: xss, d :: l, ⟨⟨h1, h2⟩, h⟩ => by
  have := rep_pairs h
  match xs, h1 with
  | [x0, x1], _ =>
   obtain ⟨⟨k1, _⟩, ⟨k2, _⟩, _⟩ := h2
   have k1' : [x0] = _ := k1
   have k2' : [x1] = _ := k2
   simp only [List.cons.injEq, and_true] at k1' k2'
   subst k1' k2'
   simp only [List.flatten_cons, this, List.map_cons, pairCells, List.flatMap_cons]
theorem rep_mems {W : World} {S : Nat → Prop} : ∀ {xss : List (List Value)} {l : List memTy.den}, All2 (fun xs d => xs.length = memTy.size ∧ Rep W S memTy xs d) xss l → xss.flatten = memCells (l.map fun p => (p.1, p.2.1))
 | [], [], _ => rfl
 | xs :: xss, d :: l, ⟨⟨h1, h2⟩, h⟩ => by
  have := rep_mems h
  match xs, h1 with
  | [x0, x1], _ =>
   obtain ⟨⟨k1, _⟩, ⟨k2, _⟩, _⟩ := h2
   have k1' : [x0] = _ := k1
   have k2' : [x1] = _ := k2
   simp only [List.cons.injEq, and_true] at k1' k2'
   subst k1' k2'
   simp only [List.flatten_cons, this, List.map_cons, memCells, List.flatMap_cons]
   rfl
theorem rep_texts {W : World} {S : Nat → Prop} : ∀ {xss : List (List Value)} {l : List (List UInt8)}, All2 (fun xs (d : Ty.str.den) => xs.length = Ty.str.size ∧ Rep W S .str xs d) xss l → xss.flatten = textCells l
 | [], [], _ => rfl
 | xs :: xss, d :: l, ⟨⟨h1, h2⟩, h⟩ => by
  have := rep_texts h
  match xs, h1 with
  | [x0], _ =>
   obtain ⟨k1, _⟩ := h2
   have k1' : [x0] = _ := k1
   simp only [List.cons.injEq, and_true] at k1'
   subst k1'
   simp only [List.flatten_cons, this, textCells, List.map_cons]
   rfl
theorem rep_val {W : World} {S : Nat → Prop} {k0 k1 k2 k3 k4 : Value} {d : valTy.den} (h : Rep W S valTy [k0, k1, k2, k3, k4] d) : k0 = .int .i64 (valOf d).kind ∧ k1 = strV (valOf d).text ∧ ValRd (Base.of W) (valOf d) k2 k3 k4 := by
 obtain ⟨⟨e0, _⟩, ⟨e1, _⟩, e2, e3, e4, _⟩ := h
 have e0' : [k0] = _ := e0
 have e1' : [k1] = _ := e1
 simp only [List.cons.injEq, and_true] at e0' e1'
 obtain ⟨a2, c2, x2, f2, g2, i2, j2⟩ := rep_row e2
 obtain ⟨a3, c3, x3, f3, g3, i3, j3⟩ := rep_row e3
 obtain ⟨a4, c4, x4, f4, g4, i4, j4⟩ := rep_row e4
 have f2' : [k2] = _ := f2
 have f3' : [k3] = _ := f3
 have f4' : [k4] = _ := f4
 simp only [List.cons.injEq, and_true] at f2' f3' f4'
 rw [rep_pairs j2] at i2
 rw [rep_texts j3] at i3
 rw [rep_mems j4] at i4
 refine ⟨e0', e1', ⟨a2, c2, ?_, ?_, i2⟩, ⟨a3, c3, f3', g3, i3⟩, ⟨a4, c4, ?_, ?_, i4⟩⟩
 ·rw [f2']; simp [valOf]
 ·simpa [valOf] using g2
 ·rw [f4']; simp [valOf]
 simpa [valOf] using g4
end Go.Pm
namespace Go.Proofs.YtngpmolbphinnaaGreatDoor
open Go
theorem tabOf {W : World} {l : List (String × DataW Unit)} (hl : l.filter (fun x => x.1 == "internal/strconv.uint64pow10") = [("internal/strconv.uint64pow10", Lib.tabData .u64 Lib.pow10Tab)]) (hL : laidMetH Tryz.prog l W) : Lib.TabIs Tryz.prog W "internal/strconv.uint64pow10" .u64 Lib.pow10Tab := by
 have h := hL.filter (fun x => x.1 == "internal/strconv.uint64pow10")
 rw [hl] at h
 have h2 := (laidMetH_iff.1 h).1
 have e : ([("internal/strconv.uint64pow10", (Lib.tabData .u64 Lib.pow10Tab : DataW Unit))].filter fun x => x.2.handleName?.isNone) = [("internal/strconv.uint64pow10", Lib.tabData .u64 Lib.pow10Tab)] := by kernel_rfl
 rw [e] at h2
 exact Lib.tabIs_of_head (g := 1) (t := 244) (e := 110) (n := 20) (by kernel_rfl) (by kernel_rfl) Tryz.underlying244 Tryz.underlying110 (by kernel_rfl) (by kernel_rfl) h2
open Go.RowKit Go.Pm
theorem parsesAny (B : Base) (H : List Res) (h1 : HasErr B 2) (h2 : HasErr B 3) : ParsesAny B H := fun w s hs hv => by
 obtain ⟨t1, v1, h1⟩ := h1
 obtain ⟨t2, v2, h2⟩ := h2
 have c1 := h1 B H w (Base.Le.refl _) hv
 have c2 := h2 B H w (Base.Le.refl _) hv
 have hmax : (ByteArray.mk s.toArray).size ≤ 20 := by show s.toArray.size ≤ 20; simpa using hs
 cases hp : Lib.parseIntB 64 s
 case ok n =>
  have hb := Lib.parseIntB_bounds hp
  have h : Calls Tryz.prog 109 #[vS s, vI 10, vI 64] w _ := Any.strconv_ParseInt_10_at64_ok Tryz.laysPI ⟨s.toArray⟩ (by omega) n hp w
  refine h.mono ?_
  rintro e w' ⟨rfl, hw⟩
  refine ⟨n, .nilIface, rfl, .inl rfl, by omega, fun m m0 m1 e9 => ⟨rfl, ?_⟩, ?_⟩
  ·rw [e9, parse_itoa m m0 m1] at hp
   cases hp; rfl
  rcases hw with rfl | ⟨t, rfl⟩
  ·exact hv
  exact hv.ext (bytesWorld_ext w _ t)
 ·skip
  have h : Calls Tryz.prog 109 #[vS s, vI 10, vI 64] w _ := Any.strconv_ParseInt_10_at64_syntax Tryz.laysPI ⟨s.toArray⟩ (by omega) hp _ w c1 (.inr ⟨_, _, rfl⟩)
  refine h.mono ?_
  rintro e w' ⟨N, rfl, -, -, hx⟩
  refine ⟨0, _, rfl, .inr ⟨_, _, rfl⟩, by omega, fun m m0 m1 e9 => ?_, hv.ext hx⟩
  rw [e9, parse_itoa m m0 m1] at hp
  cases hp
 case range =>
  have h : Calls Tryz.prog 109 #[vS s, vI 10, vI 64] w _ := Any.strconv_ParseInt_10_at64_range Tryz.laysPI ⟨s.toArray⟩ (by omega) hp _ w c2 (.inr ⟨_, _, rfl⟩)
  refine h.mono ?_
  rintro e w' ⟨N, rfl, -, -, hx⟩
  refine ⟨_, _, rfl, .inr ⟨_, _, rfl⟩, ?_, fun m m0 m1 e9 => ?_, hv.ext hx⟩
  ·unfold Lib.intSat
   split <;> decide
  rw [e9, parse_itoa m m0 m1] at hp
  cases hp
theorem numB {W : World} {l : List (String × DataW Unit)} (hl0 : l.filter (fun x => x.1 == "internal/strconv.uint64pow10") = [("internal/strconv.uint64pow10", Lib.tabData .u64 Lib.pow10Tab)])
  {n1 n2 : String} {d1 d2 : DataW Unit} (hl1 : l.filter (fun x => x.1 == "strconv.ErrSyntax") = [("strconv.ErrSyntax", .iface n1 d1)]) (he1 : ([("strconv.ErrSyntax", (DataW.iface n1 d1 : DataW Unit))].filter fun x => x.2.handleName?.isNone) = [("strconv.ErrSyntax", .iface n1 d1)])
  (hl2 : l.filter (fun x => x.1 == "strconv.ErrRange") = [("strconv.ErrRange", .iface n2 d2)]) (he2 : ([("strconv.ErrRange", (DataW.iface n2 d2 : DataW Unit))].filter fun x => x.2.handleName?.isNone) = [("strconv.ErrRange", .iface n2 d2)]) (hL : laidMetH Tryz.prog l W) : NumB (Base.of W) := by
 have ht := tabOf hl0 hL
 obtain ⟨u1, v1, h1⟩ := errOf hl1 he1 (g := 2) (t := 198) (by kernel_rfl) (by kernel_rfl) Tryz.underlying198 hL
 obtain ⟨u2, v2, h2⟩ := errOf hl2 he2 (g := 3) (t := 198) (by kernel_rfl) (by kernel_rfl) Tryz.underlying198 hL
 exact fun C H hC => ⟨formatsInt C H W hC ht, parsesAny C H ((hasErr_of h1).more hC) ((hasErr_of h2).more hC)⟩
end Go.Proofs.YtngpmolbphinnaaGreatDoor
namespace Go.Pm
open Go.RowKit
abbrev keyTy : Ty := .pair .str (.pair valTy (.pair (.int .i64) .unit))
def KeysRd (B : Base) (a : Option Addr) (n : Nat) : Prop := ∀ i, i < n → ∃ (b off : Nat) (key : List UInt8) (x : Val) (p t z : Value) (ex : Int), a = some ⟨b, off, none⟩ ∧
 Reads B [] b (off + i * 7) [strV key, vI x.kind, strV x.text, p, t, z, vI ex] ∧ ValRd B x p t z
theorem rep_keys {W : World} {cs : List Value} {l : List keyTy.den} (h : Rep W (· < W.heap.size) (.slice keyTy) cs l) :
  ∃ (a : Option Addr) (cap n : Nat), cs = [.slice a n cap] ∧ KeysRd (Base.of W) a n := by
 obtain ⟨a, cap, h1, h2, h4⟩ := h
 refine ⟨a, cap, l.length, h1, fun i hi => ?_⟩
 obtain ⟨b, off, xs, e1, e2, e3, e4, e5⟩ := h4 i hi
 match xs, e3 with
 | [x0, y4, y5, y6, y7, y8, x1], _ =>
  obtain ⟨⟨k1, _⟩, v1, ⟨m1, hm1⟩, _⟩ := e5
  have k1' : [x0] = _ := k1
  have m1' : [x1] = _ := m1
  simp only [List.cons.injEq, and_true] at k1' m1'
  obtain ⟨q1, q2, q3⟩ := rep_val (k0 := y4) (k1 := y5) (k2 := y6) (k3 := y7) (k4 := y8) v1
  subst k1' m1' q1 q2
  refine ⟨b, off, l[i].1, valOf l[i].2.1, y6, y7, y8, l[i].2.2.1, e1, ?_, q3⟩
  intro C K w hC hR hv j v hj
  obtain ⟨hj1, hj2⟩ := List.getElem?_eq_some_iff.1 hj
  simp only [List.length_cons, List.length_nil] at hj1
  have := e4 j hj1
  rw [← hj2]
  refine Eq.trans ?_ (this.trans ?_)
  ·exact World.cell?_of_block (by rw [Array.getElem?_eq_getElem e2]; exact hv.base.blk b _ (hC.blk b _ (Array.getElem?_eq_getElem e2)))
  match j, hj1 with
  | 0, _ | 1, _ | 2, _ | 3, _ | 4, _ | 5, _ | 6, _ => rfl
end Go.Pm
namespace Go.Proofs.YtngpmolbphinnaaGreatDoor
open Go.RowKit Go.Pm
def laidAll : List (String × DataW Unit) := [("math/bits.deBruijn32tab", Rows.laid_math_bits_deBruijn32tab), ("math/bits.deBruijn64tab", Rows.laid_math_bits_deBruijn64tab), ("internal/strconv.uint64pow10", Rows.laid_internal_strconv_uint64pow10), ("strconv.ErrRange", Rows.laid_strconv_ErrRange), ("strconv.ErrSyntax", Rows.laid_strconv_ErrSyntax)]
abbrev dSyn : DataW Unit := .ptr (.agg [.lit (.string [105, 110, 118, 97, 108, 105, 100, 32, 115, 121, 110, 116, 97, 120])])
abbrev dRan : DataW Unit := .ptr (.agg [.lit (.string [118, 97, 108, 117, 101, 32, 111, 117, 116, 32, 111, 102, 32, 114, 97, 110, 103, 101])])
theorem numAll {W : World} (hL : laidMetH Tryz.prog laidAll W) : NumB (Base.of W) :=
 numB (l := laidAll) (n1 := "*errors.errorString") (d1 := dSyn) (n2 := "*errors.errorString") (d2 := dRan) (by kernel_rfl) (by kernel_rfl) (by kernel_rfl) (by kernel_rfl) (by kernel_rfl) hL
theorem res_tct {P : Program} {fn : Func} {w : World} {t : TypeId} {v : Value} {r i j : Nat} (h : fn.results = #[.tmp r, .cell i t, .tmp j]) {tmps : Array Value} {ad : Addr} (hr : tmps.getD i undef = .pointer (some ad)) (hl : (Instr.loadAt t (.pointer (some ad))).run P w = .ok v w) : (results fn tmps).run P w = .ok (.tuple #[tmps.getD r undef, v, tmps.getD j undef]) w := by
 have hl' : (loadVar t ad).run P w = .ok v w := by simpa [Instr.loadAt, Instr.sureAddr] using hl
 have hr' : tmps[i]?.getD undef = .pointer (some ad) := by rw [← hr, Array.getD_eq_getD_getElem?]
 simp [results, h, hr', asAddr, hl']
theorem k5al28 : AL Tryz.prog 28 [vN, vI 0, vN] := fun w => by kernel_rfl
theorem k5callable15 : Callable Tryz.prog 15 := cb Tryz.func15 (by kernel_rfl)
theorem k5es22 (w : World) : (sizeOf (Tryz.prog.elem 22)).run Tryz.prog w = .ok 7 w := by kernel_rfl
theorem k5wd72 : Wide Tryz.prog 72 7 := wide_of (fun w => by kernel_rfl) (by kernel_rfl)
theorem k5al72 : AL Tryz.prog 72 [vS [], vI 0, vS [], vN, vN, vN, vI 0] := fun w => by kernel_rfl
theorem k5sz72 : (Tryz.prog.info? 72).map (·.size) = some 7 := by kernel_rfl
theorem k5fa72_0 : FA Tryz.prog 72 0 0 := fun w b o => by kernel_rfl
theorem k5fa72_1 : FA Tryz.prog 72 1 1 := fun w b o => by kernel_rfl
theorem k5callable13 : Callable Tryz.prog 13 := cb Tryz.func13 (by kernel_rfl)
theorem k5callable14 : Callable Tryz.prog 14 := cb Tryz.func14 (by kernel_rfl)
theorem k5fa72_2 : FA Tryz.prog 72 2 6 := fun w b o => by kernel_rfl
theorem k5callable16 : Callable Tryz.prog 16 := cb Tryz.func16 (by kernel_rfl)
theorem k5callable27 : Callable Tryz.prog 27 := cb Tryz.func27 (by kernel_rfl)
theorem lawBegun (B : Base) (H : List Res) (w : World) (ad : Option Addr) (n ac : Nat) (hkr : KeysRd B ad n) (clock : Int) (hv : Inv B H w) :
  Calls Tryz.prog 9 #[.slice ad n ac, vI clock] w fun e w' => ∃ C now v t m s p wb va vc sv es M K wl ka wa kc wc xs, B.Le C ∧ 0 ≤ now ∧ now ≤ 1099511627776 ∧ K.length ≤ 10 ∧ wl.length ≤ 10 ∧ VM C es M ∧ OkM M ∧ RelVK M K ∧ KeysOk M 10 ∧ RefV C K wl ka wa kc wc xs ∧ e = .returned (.tuple #[vP v, .agg #[.slice ka K.length kc, vI now, .slice wa wl.length wc], .bool true]) ∧ Inv C (Res.cell v [.iface 100 (vP t)] 56 :: txR t m s p wb va vc sv now es :: H) w' := by
 refine cW Tryz.func9 rfl Tryz.ntmps9 ?_
 simp only [al]
 refine sK fun _ k1 => rL (uA rfl ?_)
 refine sl_alloc tV (wn rfl) rfl hv k5al28 (fun b2 w3 hv => ?_)
 refine uA rfl (uW k1 ?_)
 refine sK fun _ k4 => rL (uM rfl ?_)
 refine uG (vI (if 0 > clock then 0 else clock)) rfl (ex_max2 (m := clock) (n := 0) rfl rfl rfl rfl) ?_
 refine uG (vI (if 1099511627776 < (if 0 > clock then 0 else clock) then 1099511627776 else (if 0 > clock then 0 else clock))) rfl (ex_min2 (m := (if 0 > clock then 0 else clock)) (n := 1099511627776) rfl rfl rfl rfl) (uA rfl ?_)
 refine uW k4 (sK fun _ k5 => ?_)
 obtain ⟨now, hnow⟩ : ∃ n : Int, n = (if 1099511627776 < (if 0 > clock then 0 else clock) then 1099511627776 else (if 0 > clock then 0 else clock)) := ⟨_, rfl⟩
 rw [← hnow]
 have h0 : 0 ≤ now := by rw [hnow]; split <;> (try split) <;> omega
 have h1 : now ≤ 1099511627776 := by rw [hnow]; split <;> (try split) <;> omega
 clear hnow
 refine rL (uM rfl ?_)
 refine xC k5callable15 rfl ((lawOpened26 B _ _ now h0 h1 hv).mono ?_) rfl
 rintro e w6 ⟨v, t, m, s, p, wb, va, vc, sv, rfl, hv⟩
 refine ⟨_, rfl, uA rfl ?_⟩
 refine uW k5 (sK fun _ k7 => ?_)
 refine rL (uM rfl ?_)
 refine uG (.agg #[vN, vI now, vN]) rfl (ex_buildN (vs := #[(1, vI now)]) rfl (by simp only [List.map_toArray, List.map_cons, List.map_nil]; rfl) (by kernel_rfl)) ?_
 refine sl_alloc tV (wn rfl) rfl hv k5al28 (fun b8 w9 hv => ?_)
 simp only [zP, po]
 refine xS 0 rfl hv v2sz28 rfl (by exact ⟨rfl, rfl, rfl, trivial⟩) (fun w10 hv => ?_)
 simp only [zO, sp] at hv
 refine uW k7 (sK fun _ k11 => ?_)
 refine sK fun _ k12 => rL (uA rfl ?_)
 refine uW k12 (bB ?_)
 gi_loopw [10] (fun x10 wr => ∃ (i : Nat) (C : Base) (es : List (List UInt8 × Value)) (M : List (List UInt8 × Ver)) (K : List KeyR) (wl : List (List UInt8)) (ka wa : Option Addr) (kc wc : Nat) (xs : List Value), x10 = vI i ∧ B.Le C ∧ i ≤ n ∧ (i ≤ 10 ∧ K.length ≤ i ∧ wl.length ≤ i ∧ VM C es M ∧ OkM M ∧ RelVK M K ∧ KeysOk M i ∧ RefV C K wl ka wa kc wc xs) ∧ Inv C (Res.cell v [.iface 100 (vP t)] 56 :: txR t m s p wb va vc sv now es :: Res.cell b8 [.slice ka K.length kc, vI now, .slice wa wl.length wc] 28 :: Res.cell b2 [vN, vI 0, vN] 28 :: H) wr) (fun x10 _ => n - (intOf x10).toNat)
 case atStart => exact ⟨0, B, [], [], [], [], none, none, 0, 0, [], rfl, Base.Le.refl _, Nat.zero_le _, ⟨Nat.zero_le _, Nat.le_refl _, Nat.le_refl _, trivial, OkM.nil, RelVK.nil, ⟨List.Pairwise.nil, Nat.le_refl _, fun k h => (by cases h)⟩, ⟨⟨Nat.le_refl _, Nat.zero_le _, fun _ => rfl⟩, rdV_nil, rfl, ⟨Nat.le_refl _, Nat.zero_le _, fun _ => rfl⟩, rdV_nil⟩⟩, ((((hv.front 3 rfl).front 1 rfl).front 3 rfl).front 3 rfl)⟩
 case round =>
  obtain ⟨i, C, es, M, K, wl, ka, wa, kc, wc, xs, rfl, hBC, hi, ⟨hi10, hKl, hwl, hM, hO, hRK, hKO, hRV⟩, hv⟩ := hrel
  refine sK fun _ k14 => sK fun _ k15 => rL (uM rfl ?_)
  refine uM rfl ?_
  refine uG (vI n) rfl (ex_len0 Tryz.underlying22 rfl rfl) ?_
  by_cases hb16 : (i : Int) < (n : Int)
  ·refine uG (.bool true) rfl (ex_lss rfl rfl rfl (qT hb16)) (uM rfl ?_)
   refine uM rfl ?_
   by_cases hb17 : (i : Int) < 10
   ·refine uG (.bool true) rfl (ex_lss rfl rfl rfl (qT hb17)) (uK rfl ?_)
    refine uW k15 (cT rfl ?_)
    refine kS (tK k14 ?_)
    refine sK fun _ k18 => bB (sK fun _ k19 => ?_)
    obtain ⟨bb, bo, key, x, xp, xt, xz, ex, had, hrd, hrdv⟩ := hkr i (by omega)
    subst had
    refine rL (uM rfl ?_)
    refine uM rfl ?_
    refine uG (.pointer (some ⟨bb, bo + i * 7, none⟩)) rfl (ex_index rfl rfl rfl (run_idx (k := i) Tryz.underlying22 k5es22 (by omega))) ?_
    refine uL (.agg #[vS key, vI x.kind, vS x.text, xp, xt, xz, vI ex]) rfl (run_loadR (cs := [vS key, vI x.kind, vS x.text, xp, xt, xz, vI ex]) k5wd72 (Reads.mid (pre := []) (mid := [vS key, vI x.kind, vS x.text, xp, xt, xz, vI ex]) (post := []) hrd _ _ _ hBC no_res hv)) ?_
    refine sl_alloc tV (wn rfl) rfl hv k5al72 (fun b20 w21 hv => ?_)
    simp only [zP, po]
    refine xS 0 rfl hv k5sz72 rfl (by exact ⟨rfl, rfl, rfl, hrdv.p.one, hrdv.t.one, hrdv.z.one, rfl, trivial⟩) (fun w22 hv => ?_)
    simp only [zO, sp] at hv
    refine uW k19 (sK fun _ k23 => ?_)
    refine sK fun _ k24 => rL (uF (vP b20) rfl (k5fa72_0 _ _ _) ?_)
    refine uL _ rfl (run_load1 s9na9 (hv.load 0 0 rfl rfl)) ?_
    refine uG (vI (key.length : Int)) rfl (ex_lenStr Tryz.underlying9 rfl rfl) ?_
    by_cases hb25 : (key.length : Int) > 256
    ·refine uG (.bool true) rfl (ex_gtr rfl rfl rfl (qT hb25)) (uM rfl ?_)
     iterate 4 refine uP rfl ?_
     refine uK rfl (uM rfl ?_)
     iterate 4 refine uP rfl ?_
     refine uK rfl (uM rfl ?_)
     iterate 3 refine uP rfl ?_
     refine uK rfl (uM rfl ?_)
     iterate 3 refine uP rfl ?_
     refine uK rfl (uW k24 ?_)
     refine cT rfl (xE ?_)
     refine tX (bH ?_)
     refine tK k18 (rL ?_)
     refine uM rfl ?_
     refine uG (vI ((i + 1 : Nat) : Int)) rfl (ex_add rfl rfl rfl (by rw [i64_in (by omega)]; omega)) (uA rfl ?_)
     refine uZ (then_normal ?_)
     go_roundw
     case rel => exact ⟨i + 1, _, _, _, _, _, _, _, _, _, _, rfl, hBC, by omega, ⟨by omega, by omega, by omega, hM, hO, hRK, ⟨hKO.nd, by have := hKO.len; omega, hKO.sh⟩, hRV⟩, (hv.kp [4, 4, 4, 4] 4 1)⟩
     case measure => show n - (((i + 1 : Nat) : Int)).toNat < n - ((i : Int)).toNat; omega
    refine uG (.bool false) rfl (ex_gtr rfl rfl rfl (qF hb25)) (uM rfl ?_)
    refine uF (.pointer (some ⟨b20, 1, none⟩)) rfl (k5fa72_1 _ _ _) ?_
    refine uL (.agg #[vI x.kind, vS x.text, xp, xt, xz]) rfl (lM 0 s1wd43 hv rfl rfl rfl rfl) ?_
    refine xC k5callable13 rfl ((refSmall C _ _ x xp xt xz (hrdv.more hBC) hv).mono ?_) rfl
    rintro e w27 ⟨bl26, rfl, hbl26, hv⟩
    refine ⟨_, rfl, ?_⟩
    cases bl26
    ·refine uG (.bool true) rfl (ex_not rfl rfl rfl) (uK rfl ?_)
     refine uM rfl ?_
     iterate 4 refine uP rfl ?_
     refine uK rfl (uM rfl ?_)
     iterate 3 refine uP rfl ?_
     refine uK rfl (uM rfl ?_)
     iterate 3 refine uP rfl ?_
     refine uK rfl (uW k24 ?_)
     refine cT rfl (xE ?_)
     refine tX (bH ?_)
     refine tK k18 (rL ?_)
     refine uM rfl ?_
     refine uG (vI ((i + 1 : Nat) : Int)) rfl (ex_add rfl rfl rfl (by rw [i64_in (by omega)]; omega)) (uA rfl ?_)
     refine uZ (then_normal ?_)
     go_roundw
     case rel => exact ⟨i + 1, _, _, _, _, _, _, _, _, _, _, rfl, hBC, by omega, ⟨by omega, by omega, by omega, hM, hO, hRK, ⟨hKO.nd, by have := hKO.len; omega, hKO.sh⟩, hRV⟩, (hv.kp [4, 4, 4, 4] 4 1)⟩
     case measure => show n - (((i + 1 : Nat) : Int)).toNat < n - ((i : Int)).toNat; omega
    have hva := valRd_at2 hrdv (hbl26 rfl)
    refine uG (.bool false) rfl (ex_not rfl rfl rfl) (uK rfl ?_)
    refine uM rfl ?_
    refine uF (.pointer (some ⟨b20, 1, none⟩)) rfl (k5fa72_1 _ _ _) ?_
    refine uL (.agg #[vI x.kind, vS x.text, xp, xt, xz]) rfl (lM 0 s1wd43 hv rfl rfl rfl rfl) ?_
    refine xC k5callable14 rfl ((refRightV C _ _ x xp xt xz (hva.more hBC) hv).mono ?_) rfl
    rintro e w29 ⟨bl28, rfl, hbl28, hv⟩
    refine ⟨_, rfl, ?_⟩
    cases bl28
    ·refine uG (.bool true) rfl (ex_not rfl rfl rfl) (uK rfl ?_)
     refine uM rfl ?_
     iterate 3 refine uP rfl ?_
     refine uK rfl (uM rfl ?_)
     iterate 3 refine uP rfl ?_
     refine uK rfl (uW k24 ?_)
     refine cT rfl (xE ?_)
     refine tX (bH ?_)
     refine tK k18 (rL ?_)
     refine uM rfl ?_
     refine uG (vI ((i + 1 : Nat) : Int)) rfl (ex_add rfl rfl rfl (by rw [i64_in (by omega)]; omega)) (uA rfl ?_)
     refine uZ (then_normal ?_)
     go_roundw
     case rel => exact ⟨i + 1, _, _, _, _, _, _, _, _, _, _, rfl, hBC, by omega, ⟨by omega, by omega, by omega, hM, hO, hRK, ⟨hKO.nd, by have := hKO.len; omega, hKO.sh⟩, hRV⟩, (hv.kp [4, 4, 4, 4] 4 1)⟩
     case measure => show n - (((i + 1 : Nat) : Int)).toNat < n - ((i : Int)).toNat; omega
    refine uG (.bool false) rfl (ex_not rfl rfl rfl) (uK rfl ?_)
    refine uM rfl ?_
    refine uF (.pointer (some ⟨b20, 6, none⟩)) rfl (k5fa72_2 _ _ _) ?_
    refine uL _ rfl (run_load1 s2na3 (hv.load 0 6 rfl rfl)) ?_
    by_cases hb30 : ex < 0
    ·refine uG (.bool true) rfl (ex_lss rfl rfl rfl (qT hb30)) (uK rfl ?_)
     refine uM rfl ?_
     iterate 3 refine uP rfl ?_
     refine uK rfl (uW k24 ?_)
     refine cT rfl (xE ?_)
     refine tX (bH ?_)
     refine tK k18 (rL ?_)
     refine uM rfl ?_
     refine uG (vI ((i + 1 : Nat) : Int)) rfl (ex_add rfl rfl rfl (by rw [i64_in (by omega)]; omega)) (uA rfl ?_)
     refine uZ (then_normal ?_)
     go_roundw
     case rel => exact ⟨i + 1, _, _, _, _, _, _, _, _, _, _, rfl, hBC, by omega, ⟨by omega, by omega, by omega, hM, hO, hRK, ⟨hKO.nd, by have := hKO.len; omega, hKO.sh⟩, hRV⟩, (hv.kp [4, 4, 4, 4] 4 1)⟩
     case measure => show n - (((i + 1 : Nat) : Int)).toNat < n - ((i : Int)).toNat; omega
    refine uG (.bool false) rfl (ex_lss rfl rfl rfl (qF hb30)) (uK rfl ?_)
    refine uM rfl ?_
    refine uF (.pointer (some ⟨b20, 6, none⟩)) rfl (k5fa72_2 _ _ _) ?_
    refine uL _ rfl (run_load1 s2na3 (hv.load 0 6 rfl rfl)) ?_
    by_cases hb31 : ex > 1099511627776
    ·refine uG (.bool true) rfl (ex_gtr rfl rfl rfl (qT hb31)) (uK rfl ?_)
     refine uW k24 (cT rfl ?_)
     refine xE (tX ?_)
     refine bH (tK k18 ?_)
     refine rL (uM rfl ?_)
     refine uG (vI ((i + 1 : Nat) : Int)) rfl (ex_add rfl rfl rfl (by rw [i64_in (by omega)]; omega)) (uA rfl ?_)
     refine uZ (then_normal ?_)
     go_roundw
     case rel => exact ⟨i + 1, _, _, _, _, _, _, _, _, _, _, rfl, hBC, by omega, ⟨by omega, by omega, by omega, hM, hO, hRK, ⟨hKO.nd, by have := hKO.len; omega, hKO.sh⟩, hRV⟩, (hv.kp [4, 4, 4, 4] 4 1)⟩
     case measure => show n - (((i + 1 : Nat) : Int)).toNat < n - ((i : Int)).toNat; omega
    refine uG (.bool false) rfl (ex_gtr rfl rfl rfl (qF hb31)) (uK rfl ?_)
    refine uW k24 (cF rfl ?_)
    refine kS (tK k23 ?_)
    refine sK fun _ k32 => sK fun _ k33 => rL (uM rfl ?_)
    refine uF (vP b20) rfl (k5fa72_0 _ _ _) ?_
    refine uL _ rfl (run_load1 s9na9 (hv.load 0 0 rfl rfl)) ?_
    refine uF (.pointer (some ⟨b20, 1, none⟩)) rfl (k5fa72_1 _ _ _) ?_
    refine uL (.agg #[vI x.kind, vS x.text, xp, xt, xz]) rfl (lM 0 s1wd43 hv rfl rfl rfl rfl) ?_
    refine uF (.pointer (some ⟨b20, 6, none⟩)) rfl (k5fa72_2 _ _ _) ?_
    refine uL _ rfl (run_load1 s2na3 (hv.load 0 6 rfl rfl)) ?_
    replace hv := hv.front 2 rfl
    simp only [eS, eZ] at hv
    replace hv := hv.front 2 rfl
    simp only [eS, eZ] at hv
    refine xC k5callable16 rfl ((viewKeep C _ _ v t m s p wb va vc sv now es M key x xp xt xz ex (hM.more (Base.Le.refl _)) (hva.more hBC) hv).mono ?_) rfl
    rintro e w34 ⟨D, es2, M2, ec, hD, rfl, hM2, hkp, hv⟩
    refine ⟨_, rfl, ?_⟩
    have hO2 := hO.keep hkp
    obtain ⟨hec, hmm⟩ := keep_ok (by omega) (fun _ => ⟨by omega, hbl28.1 rfl, by omega, by omega⟩) hkp
    subst hec
    refine uG (.bool false) rfl (ex_neq rfl rfl rfl (by decide)) (uW k33 ?_)
    refine cF rfl (kS ?_)
    refine tK k32 (rL ?_)
    refine uL (.agg #[.slice ka K.length kc, vI now, .slice wa wl.length wc]) rfl (lM 3 v2wd28 hv rfl rfl rfl rfl) ?_
    refine uF (vP b20) rfl (k5fa72_0 _ _ _) ?_
    refine uL _ rfl (run_load1 s9na9 (hv.load 2 0 rfl rfl)) ?_
    refine uF (.pointer (some ⟨b20, 1, none⟩)) rfl (k5fa72_1 _ _ _) ?_
    refine uL (.agg #[vI x.kind, vS x.text, xp, xt, xz]) rfl (lM 2 s1wd43 hv rfl rfl rfl rfl) ?_
    refine uF (.pointer (some ⟨b20, 6, none⟩)) rfl (k5fa72_2 _ _ _) ?_
    refine uL _ rfl (run_load1 s2na3 (hv.load 2 6 rfl rfl)) ?_
    refine xC k5callable27 rfl ((refPut20 D _ _ K wl ka wa kc wc xs now (hRV.more hD) (by omega) (by omega) (hRK.short hKO) key x xp xt xz ex (hva.more (hBC.trans hD)) hv).mono ?_) rfl
    rintro e w35 ⟨E, K2, wl2, ka2, kc2, wa2, wc2, xs2, hE, rfl, hRV2, hK2, hwl2, hv⟩
    refine ⟨_, rfl, ?_⟩
    have hRK2 := rel_step hRK hmm hK2
    have hKO2 := hKO.step (by omega) hmm
    have hKl2 := putK_len hK2
    simp only [zP, po]
    refine xS 3 rfl hv v2sz28 rfl (by exact ⟨rfl, rfl, rfl, trivial⟩) (fun w36 hv => ?_)
    simp only [zS, zO, sp] at hv
    refine uZ (bN ?_)
    refine tK k18 (rL ?_)
    refine uM rfl ?_
    refine uG (vI ((i + 1 : Nat) : Int)) rfl (ex_add rfl rfl rfl (by rw [i64_in (by omega)]; omega)) (uA rfl ?_)
    refine uZ (then_normal ?_)
    go_roundw
    case rel => exact ⟨i + 1, _, _, _, _, _, _, _, _, _, _, rfl, ((hBC.trans hD).trans hE), by omega, ⟨by omega, by omega, by omega, hM2.more hE, hO2, hRK2, hKO2, hRV2.more (Base.Le.refl _)⟩, (hv.kp [4, 4, 3, 3] 4 1)⟩
    case measure => show n - (((i + 1 : Nat) : Int)).toNat < n - ((i : Int)).toNat; omega
   refine uG (.bool false) rfl (ex_lss rfl rfl rfl (qF hb17)) (uK rfl ?_)
   refine uW k15 (cF rfl ?_)
   refine xE (tX ?_)
   refine tX (bH ?_)
   refine tK k11 (sK fun _ k37 => ?_)
   refine rW mixed [3] [0,1,2,3,4] 80 rfl (by kernel_rfl) hv ?_
   simp only [qm, opAt]
   refine dM (vP v) rfl (dL (.agg #[.slice ka K.length kc, vI now, .slice wa wl.length wc]) rfl (fun hv => ex_load rfl rfl (lM 2 v2wd28 hv rfl rfl rfl rfl)) ?_)
   refine dA (vP v) rfl ?_
   simp only [zP, po]
   refine dS rfl fun w38 hv => mS 3 rfl hv v2sz28 rfl (by exact ⟨rfl, rfl, rfl, trivial⟩) (fun w39 hv => ?_)
   simp only [zS, zO, sp] at hv
   refine dW hv (dA (.bool true) rfl ?_)
   refine dE fun w40 hv => ?_
   simp only [zP, po]
   refine tK k37 (rR ?_)
   refine bodyPost_ret (res_tct rfl rfl (lM 3 v2wd28 hv rfl rfl rfl rfl)) rfl (⟨C, now, v, t, m, s, p, wb, va, vc, sv, es, M, K, wl, ka, wa, kc, wc, xs, hBC, h0, h1, by omega, by omega, hM, hO, hRK, ⟨hKO.nd, by have := hKO.len; omega, hKO.sh⟩, hRV, rfl, (hv.kp [1, 1] 2 2)⟩)
  refine uG (.bool false) rfl (ex_lss rfl rfl rfl (qF hb16)) (uM rfl ?_)
  refine uP rfl ?_
  refine uP rfl (uK rfl ?_)
  refine uW k15 (cF rfl ?_)
  refine xE (tX ?_)
  refine tX (bH ?_)
  refine tK k11 (sK fun _ k41 => ?_)
  refine rW mixed [3] [0,1,2,3,4] 80 rfl (by kernel_rfl) hv ?_
  simp only [qm, opAt]
  refine dM (vP v) rfl (dL (.agg #[.slice ka K.length kc, vI now, .slice wa wl.length wc]) rfl (fun hv => ex_load rfl rfl (lM 2 v2wd28 hv rfl rfl rfl rfl)) ?_)
  refine dA (vP v) rfl ?_
  simp only [zP, po]
  refine dS rfl fun w42 hv => mS 3 rfl hv v2sz28 rfl (by exact ⟨rfl, rfl, rfl, trivial⟩) (fun w43 hv => ?_)
  simp only [zS, zO, sp] at hv
  refine dW hv (dA (.bool true) rfl ?_)
  refine dE fun w44 hv => ?_
  simp only [zP, po]
  refine tK k41 (rR ?_)
  refine bodyPost_ret (res_tct rfl rfl (lM 3 v2wd28 hv rfl rfl rfl rfl)) rfl (⟨C, now, v, t, m, s, p, wb, va, vc, sv, es, M, K, wl, ka, wa, kc, wc, xs, hBC, h0, h1, by omega, by omega, hM, hO, hRK, ⟨hKO.nd, by have := hKO.len; omega, hKO.sh⟩, hRV, rfl, (hv.kp [1, 1] 2 2)⟩)
end Go.Proofs.YtngpmolbphinnaaGreatDoor
