/- The reference's Right of values; One; Alive, At, Latest, Prune of chains. -/
import Derived.Test.YtngpmolbphinnaaGreatDoorCkBakB
import Derived.Test.YtngpmolbphinnaaGreatDoorCkBakI
import Derived.Test.YtngpmolbphinnaaGreatDoorRows
import Derived.Test.YtngpmolbphinnaaGreatDoorCkBakF
import Derived.Test.YtngpmolbphinnaaGreatDoorCkBakH
import Derived.Test.YtngpmolbphinnaaGreatDoorCkBakE
import Derived.Test.YtngpmolbphinnaaGreatDoorCkBakD
set_option maxRecDepth 100000
set_option maxHeartbeats 16000000
set_option synthInstance.maxSize 4096
set_option synthInstance.maxHeartbeats 400000
namespace Go.Proofs.YtngpmolbphinnaaGreatDoor
open Go.RowKit Go.Pm
theorem llen {l : List (List UInt8)} (h : listRight l = true) : l.length ≤ 512 := by
 unfold listRight at h
 rw [Bool.and_eq_true, decide_eq_true_iff] at h
 exact h.1
theorem lleft {l : List (List UInt8)} (h : listRight l = true) (i : Nat) (x : List UInt8) (hx : l[i]? = some x) : x.length ≤ 4096 := by
 unfold listRight at h
 rw [Bool.and_eq_true, Bool.not_eq_true', List.any_eq_false] at h
 have := h.2 x (List.mem_of_getElem? hx)
 simp at this
 omega
theorem lright {l : List (List UInt8)} (h : l.length ≤ 512) (hno : ∀ j x, j < l.length → l[j]? = some x → x.length ≤ 4096) : listRight l = true := by
 unfold listRight
 rw [qT h, Bool.true_and, Bool.not_eq_true', List.any_eq_false]
 intro x hx
 obtain ⟨j, hj⟩ := List.mem_iff_getElem?.1 hx
 have := hno j x (List.getElem?_eq_some_iff.1 hj).1 hj
 simp; omega
theorem refRight_0 (B : Base) (H : List Res) (w : World) (v : Val) (ap at2 az : Option Addr) (cp ct cz : Nat) (_ : RdV B [] ap (pairCells v.pairs)) (_ : RdV B [] at2 (textCells v.texts)) (_ : RdV B [] az (memCells v.zset)) (_ : v.pairs.length ≤ 1000000) (_ : v.texts.length ≤ 1000000) (_ : v.zset.length ≤ 1000000) (hk : v.kind < 1 ∨ 5 < v.kind) (hv : Inv B H w) :
  Calls Tryz.prog 14 #[.agg #[vI v.kind, vS v.text, .slice ap v.pairs.length cp, .slice at2 v.texts.length ct, .slice az v.zset.length cz]] w fun e w' => ∃ b, e = .returned (.bool b) ∧ (b = true ↔ ValOk v) ∧ Inv B H w' := by
 refine cW Tryz.func14 rfl Tryz.ntmps14 ?_
 simp only [al]
 refine sK fun _ k1 => rL (sl_box (L := [vI v.kind, vS v.text, .slice ap v.pairs.length cp, .slice at2 v.texts.length ct, .slice az v.zset.length cz]) tV (wn rfl) rfl rfl hv (fun w => by kernel_rfl) (fun b2 w3 hv => ?_))
 refine uA rfl (uW k1 ?_)
 refine sK fun _ k4 => sK fun _ k5 => rL (uF (vP b2) rfl (s12fa43_0 _ _ _) ?_)
 refine uL _ rfl (run_load1 s2na3 (hv.load 0 0 rfl rfl)) ?_
 by_cases hb6 : v.kind < 1
 ·refine uG (.bool true) rfl (ex_lss rfl rfl rfl (qT hb6)) (uM rfl ?_)
  iterate 3 refine uP rfl ?_
  refine uK rfl (uM rfl ?_)
  iterate 8 refine uP rfl ?_
  refine uK rfl (uM rfl ?_)
  iterate 9 refine uP rfl ?_
  refine uK rfl (uM rfl ?_)
  iterate 14 refine uP rfl ?_
  refine uK rfl (uM rfl ?_)
  iterate 9 refine uP rfl ?_
  refine uK rfl (uW k5 ?_)
  refine cT rfl (sK fun _ k7 => ?_)
  refine rL (uA rfl ?_)
  refine uW k7 (rR ?_)
  refine tR (bR rfl rfl ?_)
  exact ⟨false, rfl, ⟨fun h => (by cases h), fun h => by rcases h with ⟨h1, h2, h3, h4, h5⟩ | ⟨h1, h2, h3, h4, h5, h6⟩ | ⟨h1, h2, h3, h4, h5, h6⟩ | ⟨h1, h2, h3, h4, h5, h6⟩ | ⟨h1, h2, h3, h4, h5, h6⟩ <;> first | omega | contradiction | (have h9 := hv.2 h3; cases h9)⟩, (hv.kp [] 0 1)⟩
 refine uG (.bool false) rfl (ex_lss rfl rfl rfl (qF hb6)) (uM rfl ?_)
 refine uF (vP b2) rfl (s12fa43_0 _ _ _) ?_
 refine uL _ rfl (run_load1 s2na3 (hv.load 0 0 rfl rfl)) ?_
 refine uG (.bool true) rfl (ex_gtr rfl rfl rfl (qT (by omega))) (uK rfl ?_)
 refine uM rfl ?_
 iterate 8 refine uP rfl ?_
 refine uK rfl (uM rfl ?_)
 iterate 9 refine uP rfl ?_
 refine uK rfl (uM rfl ?_)
 iterate 14 refine uP rfl ?_
 refine uK rfl (uM rfl ?_)
 iterate 9 refine uP rfl ?_
 refine uK rfl (uW k5 ?_)
 refine cT rfl (sK fun _ k8 => ?_)
 refine rL (uA rfl ?_)
 refine uW k8 (rR ?_)
 refine tR (bR rfl rfl ?_)
 exact ⟨false, rfl, ⟨fun h => (by cases h), fun h => by rcases h with ⟨h1, h2, h3, h4, h5⟩ | ⟨h1, h2, h3, h4, h5, h6⟩ | ⟨h1, h2, h3, h4, h5, h6⟩ | ⟨h1, h2, h3, h4, h5, h6⟩ | ⟨h1, h2, h3, h4, h5, h6⟩ <;> first | omega | contradiction | (have h9 := hv.2 h3; cases h9)⟩, (hv.kp [] 0 1)⟩
theorem refRight_1 (B : Base) (H : List Res) (w : World) (v : Val) (ap at2 az : Option Addr) (cp ct cz : Nat) (_ : RdV B [] ap (pairCells v.pairs)) (_ : RdV B [] at2 (textCells v.texts)) (_ : RdV B [] az (memCells v.zset)) (hpm : v.pairs.length ≤ 1000000) (htm : v.texts.length ≤ 1000000) (hzm : v.zset.length ≤ 1000000) (hk : v.kind = 1) (hv : Inv B H w) :
  Calls Tryz.prog 14 #[.agg #[vI v.kind, vS v.text, .slice ap v.pairs.length cp, .slice at2 v.texts.length ct, .slice az v.zset.length cz]] w fun e w' => ∃ b, e = .returned (.bool b) ∧ (b = true ↔ ValOk v) ∧ Inv B H w' := by
 refine cW Tryz.func14 rfl Tryz.ntmps14 ?_
 simp only [al]
 refine sK fun _ k1 => rL (sl_box (L := [vI v.kind, vS v.text, .slice ap v.pairs.length cp, .slice at2 v.texts.length ct, .slice az v.zset.length cz]) tV (wn rfl) rfl rfl hv (fun w => by kernel_rfl) (fun b2 w3 hv => ?_))
 refine uA rfl (uW k1 ?_)
 refine sK fun _ k4 => sK fun _ k5 => rL (uF (vP b2) rfl (s12fa43_0 _ _ _) ?_)
 refine uL _ rfl (run_load1 s2na3 (hv.load 0 0 rfl rfl)) ?_
 refine uG (.bool false) rfl (ex_lss rfl rfl rfl (qF (by omega))) (uM rfl ?_)
 refine uF (vP b2) rfl (s12fa43_0 _ _ _) ?_
 refine uL _ rfl (run_load1 s2na3 (hv.load 0 0 rfl rfl)) ?_
 refine uG (.bool false) rfl (ex_gtr rfl rfl rfl (qF (by omega))) (uK rfl ?_)
 refine uM rfl ?_
 refine uF (vP b2) rfl (s12fa43_0 _ _ _) ?_
 refine uL _ rfl (run_load1 s2na3 (hv.load 0 0 rfl rfl)) ?_
 refine uG (.bool false) rfl (ex_neq rfl rfl rfl (qF (by omega))) ?_
 refine uM rfl ?_
 iterate 3 refine uP rfl ?_
 refine uK rfl (uK rfl ?_)
 refine uM rfl ?_
 refine uF (vP b2) rfl (s12fa43_0 _ _ _) ?_
 refine uL _ rfl (run_load1 s2na3 (hv.load 0 0 rfl rfl)) ?_
 refine uG (.bool true) rfl (ex_neq rfl rfl rfl (qT (by omega))) ?_
 refine uM rfl ?_
 refine uF (.pointer (some ⟨b2, 2, none⟩)) rfl (s1fa43_2 _ _ _) ?_
 refine uL _ rfl (run_load1 s1na40 (hv.load 0 2 rfl rfl)) ?_
 refine uG (vI (v.pairs.length : Int)) rfl (ex_len0 Tryz.underlying40 rfl rfl) ?_
 by_cases hb6 : (v.pairs.length : Int) > 0
 ·refine uG (.bool true) rfl (ex_gtr rfl rfl rfl (qT hb6)) ?_
  refine uK rfl (uK rfl ?_)
  refine uM rfl ?_
  iterate 14 refine uP rfl ?_
  refine uK rfl (uM rfl ?_)
  iterate 9 refine uP rfl ?_
  refine uK rfl (uW k5 ?_)
  refine cT rfl (sK fun _ k7 => ?_)
  refine rL (uA rfl ?_)
  refine uW k7 (rR ?_)
  refine tR (bR rfl rfl ?_)
  exact ⟨false, rfl, ⟨fun h => (by cases h), fun h => by rcases h with ⟨h1, h2, h3, h4, h5⟩ | ⟨h1, h2, h3, h4, h5, h6⟩ | ⟨h1, h2, h3, h4, h5, h6⟩ | ⟨h1, h2, h3, h4, h5, h6⟩ | ⟨h1, h2, h3, h4, h5, h6⟩ <;> first | omega | contradiction | (have h9 := hv.2 h3; cases h9)⟩, (hv.kp [] 0 1)⟩
 refine uG (.bool false) rfl (ex_gtr rfl rfl rfl (qF hb6)) ?_
 refine uK rfl (uK rfl ?_)
 refine uM rfl ?_
 refine uF (vP b2) rfl (s12fa43_0 _ _ _) ?_
 refine uL _ rfl (run_load1 s2na3 (hv.load 0 0 rfl rfl)) ?_
 refine uG (.bool true) rfl (ex_neq rfl rfl rfl (qT (by omega))) ?_
 refine uM rfl ?_
 refine uF (vP b2) rfl (s12fa43_0 _ _ _) ?_
 refine uL _ rfl (run_load1 s2na3 (hv.load 0 0 rfl rfl)) ?_
 refine uG (.bool true) rfl (ex_neq rfl rfl rfl (qT (by omega))) ?_
 refine uK rfl ?_
 refine uM rfl ?_
 refine uF (.pointer (some ⟨b2, 3, none⟩)) rfl (s1fa43_3 _ _ _) ?_
 refine uL _ rfl (run_load1 s1na26 (hv.load 0 3 rfl rfl)) ?_
 refine uG (vI (v.texts.length : Int)) rfl (ex_len0 Tryz.underlying26 rfl rfl) ?_
 by_cases hb8 : (v.texts.length : Int) > 0
 ·refine uG (.bool true) rfl (ex_gtr rfl rfl rfl (qT hb8)) ?_
  refine uK rfl (uK rfl ?_)
  refine uM rfl ?_
  iterate 9 refine uP rfl ?_
  refine uK rfl (uW k5 ?_)
  refine cT rfl (sK fun _ k9 => ?_)
  refine rL (uA rfl ?_)
  refine uW k9 (rR ?_)
  refine tR (bR rfl rfl ?_)
  exact ⟨false, rfl, ⟨fun h => (by cases h), fun h => by rcases h with ⟨h1, h2, h3, h4, h5⟩ | ⟨h1, h2, h3, h4, h5, h6⟩ | ⟨h1, h2, h3, h4, h5, h6⟩ | ⟨h1, h2, h3, h4, h5, h6⟩ | ⟨h1, h2, h3, h4, h5, h6⟩ <;> first | omega | contradiction | (have h9 := hv.2 h3; cases h9)⟩, (hv.kp [] 0 1)⟩
 refine uG (.bool false) rfl (ex_gtr rfl rfl rfl (qF hb8)) ?_
 refine uK rfl (uK rfl ?_)
 refine uM rfl ?_
 refine uF (vP b2) rfl (s12fa43_0 _ _ _) ?_
 refine uL _ rfl (run_load1 s2na3 (hv.load 0 0 rfl rfl)) ?_
 refine uG (.bool true) rfl (ex_neq rfl rfl rfl (qT (by omega))) ?_
 refine uM rfl ?_
 refine uF (.pointer (some ⟨b2, 4, none⟩)) rfl (s1fa43_4 _ _ _) ?_
 refine uL _ rfl (run_load1 s1na41 (hv.load 0 4 rfl rfl)) ?_
 refine uG (vI (v.zset.length : Int)) rfl (ex_len0 Tryz.underlying41 rfl rfl) ?_
 by_cases hb10 : (v.zset.length : Int) > 0
 ·refine uG (.bool true) rfl (ex_gtr rfl rfl rfl (qT hb10)) ?_
  refine uK rfl (uK rfl ?_)
  refine uW k5 (cT rfl ?_)
  refine sK fun _ k11 => rL (uA rfl ?_)
  refine uW k11 (rR ?_)
  refine tR (bR rfl rfl ?_)
  exact ⟨false, rfl, ⟨fun h => (by cases h), fun h => by rcases h with ⟨h1, h2, h3, h4, h5⟩ | ⟨h1, h2, h3, h4, h5, h6⟩ | ⟨h1, h2, h3, h4, h5, h6⟩ | ⟨h1, h2, h3, h4, h5, h6⟩ | ⟨h1, h2, h3, h4, h5, h6⟩ <;> first | omega | contradiction | (have h9 := hv.2 h3; cases h9)⟩, (hv.kp [] 0 1)⟩
 refine uG (.bool false) rfl (ex_gtr rfl rfl rfl (qF hb10)) ?_
 refine uK rfl (uK rfl ?_)
 refine uW k5 (cF rfl ?_)
 refine kS (tK k4 ?_)
 refine sK fun _ k12 => sK fun _ k13 => rL (uF (vP b2) rfl (s12fa43_0 _ _ _) ?_)
 refine uL _ rfl (run_load1 s2na3 (hv.load 0 0 rfl rfl)) (uW k13 ?_)
 refine bB (sK fun _ k14 => ?_)
 refine rL (uG (.bool true) rfl (ex_eql rfl rfl rfl (qT (by omega))) ?_)
 refine uA rfl (uW k14 ?_)
 refine cT rfl (sK fun _ k15 => ?_)
 refine rL (uF (.pointer (some ⟨b2, 1, none⟩)) rfl (s12fa43_1 _ _ _) ?_)
 refine uL _ rfl (run_load1 s9na9 (hv.load 0 1 rfl rfl)) ?_
 refine uG (vI (v.text.length : Int)) rfl (ex_lenStr Tryz.underlying9 rfl rfl) ?_
 refine uG (.bool (decide ((v.text.length : Int) ≤ 4096))) rfl (ex_leq rfl rfl rfl rfl) (uA rfl ?_)
 refine uW k15 (rR ?_)
 refine bZ (tR ?_)
 refine bR rfl rfl (⟨_, rfl, by rw [decide_eq_true_iff]; exact ⟨fun h9 => .inl ⟨by omega, by omega, by omega, by omega, by omega⟩, fun h => by rcases h with ⟨h1, h2, h3, h4, h5⟩ | ⟨h1, h2, h3, h4, h5, h6⟩ | ⟨h1, h2, h3, h4, h5, h6⟩ | ⟨h1, h2, h3, h4, h5, h6⟩ | ⟨h1, h2, h3, h4, h5, h6⟩ <;> first | omega | (have h9 := llen h3; omega)⟩, (hv.kp [] 0 1)⟩)
theorem s31callable33 : Callable Tryz.prog 33 := cb Tryz.func33 (by kernel_rfl)
theorem refRight_2 (B : Base) (H : List Res) (w : World) (v : Val) (ap at2 az : Option Addr) (cp ct cz : Nat) (hrp : RdV B [] ap (pairCells v.pairs)) (_ : RdV B [] at2 (textCells v.texts)) (_ : RdV B [] az (memCells v.zset)) (hpm : v.pairs.length ≤ 1000000) (htm : v.texts.length ≤ 1000000) (hzm : v.zset.length ≤ 1000000) (hk : v.kind = 2) (hv : Inv B H w) :
  Calls Tryz.prog 14 #[.agg #[vI v.kind, vS v.text, .slice ap v.pairs.length cp, .slice at2 v.texts.length ct, .slice az v.zset.length cz]] w fun e w' => ∃ b, e = .returned (.bool b) ∧ (b = true ↔ ValOk v) ∧ Inv B H w' := by
 refine cW Tryz.func14 rfl Tryz.ntmps14 ?_
 simp only [al]
 refine sK fun _ k1 => rL (sl_box (L := [vI v.kind, vS v.text, .slice ap v.pairs.length cp, .slice at2 v.texts.length ct, .slice az v.zset.length cz]) tV (wn rfl) rfl rfl hv (fun w => by kernel_rfl) (fun b2 w3 hv => ?_))
 refine uA rfl (uW k1 ?_)
 refine sK fun _ k4 => sK fun _ k5 => rL (uF (vP b2) rfl (s12fa43_0 _ _ _) ?_)
 refine uL _ rfl (run_load1 s2na3 (hv.load 0 0 rfl rfl)) ?_
 refine uG (.bool false) rfl (ex_lss rfl rfl rfl (qF (by omega))) (uM rfl ?_)
 refine uF (vP b2) rfl (s12fa43_0 _ _ _) ?_
 refine uL _ rfl (run_load1 s2na3 (hv.load 0 0 rfl rfl)) ?_
 refine uG (.bool false) rfl (ex_gtr rfl rfl rfl (qF (by omega))) (uK rfl ?_)
 refine uM rfl ?_
 refine uF (vP b2) rfl (s12fa43_0 _ _ _) ?_
 refine uL _ rfl (run_load1 s2na3 (hv.load 0 0 rfl rfl)) ?_
 refine uG (.bool true) rfl (ex_neq rfl rfl rfl (qT (by omega))) ?_
 refine uM rfl ?_
 refine uF (.pointer (some ⟨b2, 1, none⟩)) rfl (s12fa43_1 _ _ _) ?_
 refine uL _ rfl (run_load1 s9na9 (hv.load 0 1 rfl rfl)) ?_
 by_cases hb6 : v.text ≠ ([] : List UInt8)
 ·refine uG (.bool true) rfl (ex_sneq rfl rfl rfl (qT hb6)) ?_
  refine uK rfl (uK rfl ?_)
  refine uM rfl ?_
  iterate 9 refine uP rfl ?_
  refine uK rfl (uM rfl ?_)
  iterate 14 refine uP rfl ?_
  refine uK rfl (uM rfl ?_)
  iterate 9 refine uP rfl ?_
  refine uK rfl (uW k5 ?_)
  refine cT rfl (sK fun _ k7 => ?_)
  refine rL (uA rfl ?_)
  refine uW k7 (rR ?_)
  refine tR (bR rfl rfl ?_)
  exact ⟨false, rfl, ⟨fun h => (by cases h), fun h => by rcases h with ⟨h1, h2, h3, h4, h5⟩ | ⟨h1, h2, h3, h4, h5, h6⟩ | ⟨h1, h2, h3, h4, h5, h6⟩ | ⟨h1, h2, h3, h4, h5, h6⟩ | ⟨h1, h2, h3, h4, h5, h6⟩ <;> first | omega | contradiction | (have h9 := hv.2 h3; cases h9)⟩, (hv.kp [] 0 1)⟩
 refine uG (.bool false) rfl (ex_sneq rfl rfl rfl (qF hb6)) ?_
 refine uK rfl (uK rfl ?_)
 refine uM rfl ?_
 refine uF (vP b2) rfl (s12fa43_0 _ _ _) ?_
 refine uL _ rfl (run_load1 s2na3 (hv.load 0 0 rfl rfl)) ?_
 refine uG (.bool false) rfl (ex_neq rfl rfl rfl (qF (by omega))) ?_
 refine uM rfl ?_
 iterate 4 refine uP rfl ?_
 refine uK rfl (uK rfl ?_)
 refine uM rfl ?_
 refine uF (vP b2) rfl (s12fa43_0 _ _ _) ?_
 refine uL _ rfl (run_load1 s2na3 (hv.load 0 0 rfl rfl)) ?_
 refine uG (.bool true) rfl (ex_neq rfl rfl rfl (qT (by omega))) ?_
 refine uM rfl ?_
 refine uF (vP b2) rfl (s12fa43_0 _ _ _) ?_
 refine uL _ rfl (run_load1 s2na3 (hv.load 0 0 rfl rfl)) ?_
 refine uG (.bool true) rfl (ex_neq rfl rfl rfl (qT (by omega))) ?_
 refine uK rfl ?_
 refine uM rfl ?_
 refine uF (.pointer (some ⟨b2, 3, none⟩)) rfl (s1fa43_3 _ _ _) ?_
 refine uL _ rfl (run_load1 s1na26 (hv.load 0 3 rfl rfl)) ?_
 refine uG (vI (v.texts.length : Int)) rfl (ex_len0 Tryz.underlying26 rfl rfl) ?_
 by_cases hb8 : (v.texts.length : Int) > 0
 ·refine uG (.bool true) rfl (ex_gtr rfl rfl rfl (qT hb8)) ?_
  refine uK rfl (uK rfl ?_)
  refine uM rfl ?_
  iterate 9 refine uP rfl ?_
  refine uK rfl (uW k5 ?_)
  refine cT rfl (sK fun _ k9 => ?_)
  refine rL (uA rfl ?_)
  refine uW k9 (rR ?_)
  refine tR (bR rfl rfl ?_)
  exact ⟨false, rfl, ⟨fun h => (by cases h), fun h => by rcases h with ⟨h1, h2, h3, h4, h5⟩ | ⟨h1, h2, h3, h4, h5, h6⟩ | ⟨h1, h2, h3, h4, h5, h6⟩ | ⟨h1, h2, h3, h4, h5, h6⟩ | ⟨h1, h2, h3, h4, h5, h6⟩ <;> first | omega | contradiction | (have h9 := hv.2 h3; cases h9)⟩, (hv.kp [] 0 1)⟩
 refine uG (.bool false) rfl (ex_gtr rfl rfl rfl (qF hb8)) ?_
 refine uK rfl (uK rfl ?_)
 refine uM rfl ?_
 refine uF (vP b2) rfl (s12fa43_0 _ _ _) ?_
 refine uL _ rfl (run_load1 s2na3 (hv.load 0 0 rfl rfl)) ?_
 refine uG (.bool true) rfl (ex_neq rfl rfl rfl (qT (by omega))) ?_
 refine uM rfl ?_
 refine uF (.pointer (some ⟨b2, 4, none⟩)) rfl (s1fa43_4 _ _ _) ?_
 refine uL _ rfl (run_load1 s1na41 (hv.load 0 4 rfl rfl)) ?_
 refine uG (vI (v.zset.length : Int)) rfl (ex_len0 Tryz.underlying41 rfl rfl) ?_
 by_cases hb10 : (v.zset.length : Int) > 0
 ·refine uG (.bool true) rfl (ex_gtr rfl rfl rfl (qT hb10)) ?_
  refine uK rfl (uK rfl ?_)
  refine uW k5 (cT rfl ?_)
  refine sK fun _ k11 => rL (uA rfl ?_)
  refine uW k11 (rR ?_)
  refine tR (bR rfl rfl ?_)
  exact ⟨false, rfl, ⟨fun h => (by cases h), fun h => by rcases h with ⟨h1, h2, h3, h4, h5⟩ | ⟨h1, h2, h3, h4, h5, h6⟩ | ⟨h1, h2, h3, h4, h5, h6⟩ | ⟨h1, h2, h3, h4, h5, h6⟩ | ⟨h1, h2, h3, h4, h5, h6⟩ <;> first | omega | contradiction | (have h9 := hv.2 h3; cases h9)⟩, (hv.kp [] 0 1)⟩
 refine uG (.bool false) rfl (ex_gtr rfl rfl rfl (qF hb10)) ?_
 refine uK rfl (uK rfl ?_)
 refine uW k5 (cF rfl ?_)
 refine kS (tK k4 ?_)
 refine sK fun _ k12 => sK fun _ k13 => rL (uF (vP b2) rfl (s12fa43_0 _ _ _) ?_)
 refine uL _ rfl (run_load1 s2na3 (hv.load 0 0 rfl rfl)) (uW k13 ?_)
 refine bB (sK fun _ k14 => ?_)
 refine rL (uG (.bool false) rfl (ex_eql rfl rfl rfl (qF (by omega))) ?_)
 refine uA rfl (uW k14 ?_)
 refine cF rfl (sK fun _ k15 => ?_)
 refine rL (uG (.bool true) rfl (ex_eql rfl rfl rfl (qT (by omega))) ?_)
 refine uA rfl (uW k15 ?_)
 refine cT rfl (sK fun _ k16 => ?_)
 refine rL (uF (.pointer (some ⟨b2, 2, none⟩)) rfl (s1fa43_2 _ _ _) ?_)
 refine uL _ rfl (run_load1 s1na40 (hv.load 0 2 rfl rfl)) ?_
 refine uG (vI (v.pairs.length : Int)) rfl (ex_len0 Tryz.underlying40 rfl rfl) ?_
 by_cases hb17 : (v.pairs.length : Int) > 0
 ·refine uG (.bool true) rfl (ex_gtr rfl rfl rfl (qT hb17)) (uM rfl ?_)
  refine uF (.pointer (some ⟨b2, 2, none⟩)) rfl (s1fa43_2 _ _ _) ?_
  refine uL _ rfl (run_load1 s1na40 (hv.load 0 2 rfl rfl)) ?_
  refine xC s31callable33 rfl ((refHashRight B _ _ _ _ _ hrp hpm hv).mono ?_) rfl
  rintro e w19 ⟨bl18, rfl, hbl18, hv⟩
  refine ⟨_, rfl, ?_⟩
  cases bl18
  ·refine uK rfl (uA rfl ?_)
   refine uW k16 (rR ?_)
   refine bZ (tR ?_)
   refine bR rfl rfl (⟨false, rfl, ⟨fun h => (by cases h), fun h => by rcases h with ⟨h1, h2, h3, h4, h5⟩ | ⟨h1, h2, h3, h4, h5, h6⟩ | ⟨h1, h2, h3, h4, h5, h6⟩ | ⟨h1, h2, h3, h4, h5, h6⟩ | ⟨h1, h2, h3, h4, h5, h6⟩ <;> first | omega | contradiction | (have h9 := hbl18.2 h3; cases h9)⟩, (hv.kp [] 0 1)⟩)
  refine uK rfl (uA rfl ?_)
  refine uW k16 (rR ?_)
  refine bZ (tR ?_)
  refine bR rfl rfl (⟨true, rfl, ⟨fun _ => .inr (.inl ⟨by omega, by omega, hbl18.1 rfl, Classical.not_not.1 hb6, by omega, by omega⟩), fun _ => rfl⟩, (hv.kp [] 0 1)⟩)
 refine uG (.bool false) rfl (ex_gtr rfl rfl rfl (qF hb17)) (uM rfl ?_)
 iterate 3 refine uP rfl ?_
 refine uK rfl (uA rfl ?_)
 refine uW k16 (rR ?_)
 refine bZ (tR ?_)
 refine bR rfl rfl (⟨false, rfl, ⟨fun h => (by cases h), fun h => by rcases h with ⟨h1, h2, h3, h4, h5⟩ | ⟨h1, h2, h3, h4, h5, h6⟩ | ⟨h1, h2, h3, h4, h5, h6⟩ | ⟨h1, h2, h3, h4, h5, h6⟩ | ⟨h1, h2, h3, h4, h5, h6⟩ <;> first | omega | contradiction | (have h9 := hv.2 h3; cases h9)⟩, (hv.kp [] 0 1)⟩)
theorem refRight_3 (B : Base) (H : List Res) (w : World) (v : Val) (ap at2 az : Option Addr) (cp ct cz : Nat) (_ : RdV B [] ap (pairCells v.pairs)) (hrt : RdV B [] at2 (textCells v.texts)) (_ : RdV B [] az (memCells v.zset)) (hpm : v.pairs.length ≤ 1000000) (htm : v.texts.length ≤ 1000000) (hzm : v.zset.length ≤ 1000000) (hk : v.kind = 3) (hv : Inv B H w) :
  Calls Tryz.prog 14 #[.agg #[vI v.kind, vS v.text, .slice ap v.pairs.length cp, .slice at2 v.texts.length ct, .slice az v.zset.length cz]] w fun e w' => ∃ b, e = .returned (.bool b) ∧ (b = true ↔ ValOk v) ∧ Inv B H w' := by
 refine cW Tryz.func14 rfl Tryz.ntmps14 ?_
 simp only [al]
 refine sK fun _ k1 => rL (sl_box (L := [vI v.kind, vS v.text, .slice ap v.pairs.length cp, .slice at2 v.texts.length ct, .slice az v.zset.length cz]) tV (wn rfl) rfl rfl hv (fun w => by kernel_rfl) (fun b2 w3 hv => ?_))
 refine uA rfl (uW k1 ?_)
 refine sK fun _ k4 => sK fun _ k5 => rL (uF (vP b2) rfl (s12fa43_0 _ _ _) ?_)
 refine uL _ rfl (run_load1 s2na3 (hv.load 0 0 rfl rfl)) ?_
 refine uG (.bool false) rfl (ex_lss rfl rfl rfl (qF (by omega))) (uM rfl ?_)
 refine uF (vP b2) rfl (s12fa43_0 _ _ _) ?_
 refine uL _ rfl (run_load1 s2na3 (hv.load 0 0 rfl rfl)) ?_
 refine uG (.bool false) rfl (ex_gtr rfl rfl rfl (qF (by omega))) (uK rfl ?_)
 refine uM rfl ?_
 refine uF (vP b2) rfl (s12fa43_0 _ _ _) ?_
 refine uL _ rfl (run_load1 s2na3 (hv.load 0 0 rfl rfl)) ?_
 refine uG (.bool true) rfl (ex_neq rfl rfl rfl (qT (by omega))) ?_
 refine uM rfl ?_
 refine uF (.pointer (some ⟨b2, 1, none⟩)) rfl (s12fa43_1 _ _ _) ?_
 refine uL _ rfl (run_load1 s9na9 (hv.load 0 1 rfl rfl)) ?_
 by_cases hb6 : v.text ≠ ([] : List UInt8)
 ·refine uG (.bool true) rfl (ex_sneq rfl rfl rfl (qT hb6)) ?_
  refine uK rfl (uK rfl ?_)
  refine uM rfl ?_
  iterate 9 refine uP rfl ?_
  refine uK rfl (uM rfl ?_)
  iterate 14 refine uP rfl ?_
  refine uK rfl (uM rfl ?_)
  iterate 9 refine uP rfl ?_
  refine uK rfl (uW k5 ?_)
  refine cT rfl (sK fun _ k7 => ?_)
  refine rL (uA rfl ?_)
  refine uW k7 (rR ?_)
  refine tR (bR rfl rfl ?_)
  exact ⟨false, rfl, ⟨fun h => (by cases h), fun h => by rcases h with ⟨h1, h2, h3, h4, h5⟩ | ⟨h1, h2, h3, h4, h5, h6⟩ | ⟨h1, h2, h3, h4, h5, h6⟩ | ⟨h1, h2, h3, h4, h5, h6⟩ | ⟨h1, h2, h3, h4, h5, h6⟩ <;> first | omega | contradiction | (have h9 := hv.2 h3; cases h9)⟩, (hv.kp [] 0 1)⟩
 refine uG (.bool false) rfl (ex_sneq rfl rfl rfl (qF hb6)) ?_
 refine uK rfl (uK rfl ?_)
 refine uM rfl ?_
 refine uF (vP b2) rfl (s12fa43_0 _ _ _) ?_
 refine uL _ rfl (run_load1 s2na3 (hv.load 0 0 rfl rfl)) ?_
 refine uG (.bool true) rfl (ex_neq rfl rfl rfl (qT (by omega))) ?_
 refine uM rfl ?_
 refine uF (.pointer (some ⟨b2, 2, none⟩)) rfl (s1fa43_2 _ _ _) ?_
 refine uL _ rfl (run_load1 s1na40 (hv.load 0 2 rfl rfl)) ?_
 refine uG (vI (v.pairs.length : Int)) rfl (ex_len0 Tryz.underlying40 rfl rfl) ?_
 by_cases hb8 : (v.pairs.length : Int) > 0
 ·refine uG (.bool true) rfl (ex_gtr rfl rfl rfl (qT hb8)) ?_
  refine uK rfl (uK rfl ?_)
  refine uM rfl ?_
  iterate 14 refine uP rfl ?_
  refine uK rfl (uM rfl ?_)
  iterate 9 refine uP rfl ?_
  refine uK rfl (uW k5 ?_)
  refine cT rfl (sK fun _ k9 => ?_)
  refine rL (uA rfl ?_)
  refine uW k9 (rR ?_)
  refine tR (bR rfl rfl ?_)
  exact ⟨false, rfl, ⟨fun h => (by cases h), fun h => by rcases h with ⟨h1, h2, h3, h4, h5⟩ | ⟨h1, h2, h3, h4, h5, h6⟩ | ⟨h1, h2, h3, h4, h5, h6⟩ | ⟨h1, h2, h3, h4, h5, h6⟩ | ⟨h1, h2, h3, h4, h5, h6⟩ <;> first | omega | contradiction | (have h9 := hv.2 h3; cases h9)⟩, (hv.kp [] 0 1)⟩
 refine uG (.bool false) rfl (ex_gtr rfl rfl rfl (qF hb8)) ?_
 refine uK rfl (uK rfl ?_)
 refine uM rfl ?_
 refine uF (vP b2) rfl (s12fa43_0 _ _ _) ?_
 refine uL _ rfl (run_load1 s2na3 (hv.load 0 0 rfl rfl)) ?_
 refine uG (.bool false) rfl (ex_neq rfl rfl rfl (qF (by omega))) ?_
 refine uM rfl ?_
 iterate 3 refine uP rfl ?_
 refine uK rfl ?_
 refine uM rfl ?_
 iterate 4 refine uP rfl ?_
 refine uK rfl (uK rfl ?_)
 refine uM rfl ?_
 refine uF (vP b2) rfl (s12fa43_0 _ _ _) ?_
 refine uL _ rfl (run_load1 s2na3 (hv.load 0 0 rfl rfl)) ?_
 refine uG (.bool true) rfl (ex_neq rfl rfl rfl (qT (by omega))) ?_
 refine uM rfl ?_
 refine uF (.pointer (some ⟨b2, 4, none⟩)) rfl (s1fa43_4 _ _ _) ?_
 refine uL _ rfl (run_load1 s1na41 (hv.load 0 4 rfl rfl)) ?_
 refine uG (vI (v.zset.length : Int)) rfl (ex_len0 Tryz.underlying41 rfl rfl) ?_
 by_cases hb10 : (v.zset.length : Int) > 0
 ·refine uG (.bool true) rfl (ex_gtr rfl rfl rfl (qT hb10)) ?_
  refine uK rfl (uK rfl ?_)
  refine uW k5 (cT rfl ?_)
  refine sK fun _ k11 => rL (uA rfl ?_)
  refine uW k11 (rR ?_)
  refine tR (bR rfl rfl ?_)
  exact ⟨false, rfl, ⟨fun h => (by cases h), fun h => by rcases h with ⟨h1, h2, h3, h4, h5⟩ | ⟨h1, h2, h3, h4, h5, h6⟩ | ⟨h1, h2, h3, h4, h5, h6⟩ | ⟨h1, h2, h3, h4, h5, h6⟩ | ⟨h1, h2, h3, h4, h5, h6⟩ <;> first | omega | contradiction | (have h9 := hv.2 h3; cases h9)⟩, (hv.kp [] 0 1)⟩
 refine uG (.bool false) rfl (ex_gtr rfl rfl rfl (qF hb10)) ?_
 refine uK rfl (uK rfl ?_)
 refine uW k5 (cF rfl ?_)
 refine kS (tK k4 ?_)
 refine sK fun _ k12 => sK fun _ k13 => rL (uF (vP b2) rfl (s12fa43_0 _ _ _) ?_)
 refine uL _ rfl (run_load1 s2na3 (hv.load 0 0 rfl rfl)) (uW k13 ?_)
 refine bB (sK fun _ k14 => ?_)
 refine rL (uG (.bool false) rfl (ex_eql rfl rfl rfl (qF (by omega))) ?_)
 refine uA rfl (uW k14 ?_)
 refine cF rfl (sK fun _ k15 => ?_)
 refine rL (uG (.bool false) rfl (ex_eql rfl rfl rfl (qF (by omega))) ?_)
 refine uA rfl (uW k15 ?_)
 refine cF rfl (sK fun _ k16 => ?_)
 refine rL (uG (.bool false) rfl (ex_eql rfl rfl rfl (qF (by omega))) ?_)
 refine uA rfl (uW k16 ?_)
 refine cF rfl (sK fun _ k17 => ?_)
 refine rL (uG (.bool false) rfl (ex_eql rfl rfl rfl (qF (by omega))) ?_)
 refine uA rfl (uW k17 ?_)
 refine cF rfl (kS ?_)
 refine bN (tK k12 ?_)
 refine sK fun _ k18 => sK fun _ k19 => rL (uA rfl ?_)
 refine uW k19 (bB ?_)
 gi_loopw [3] (fun x3 wr => ∃ (i : Nat), x3 = vI i ∧ i ≤ v.texts.length ∧ (∀ j x, j < i → v.texts[j]? = some x → x.length ≤ 4096) ∧ Inv B (Res.cell b2 [vI v.kind, vS v.text, .slice ap v.pairs.length cp, .slice at2 v.texts.length ct, .slice az v.zset.length cz] 43 :: H) wr) (fun x3 _ => v.texts.length - (intOf x3).toNat)
 case atStart => exact ⟨0, rfl, Nat.zero_le _, fun j x h => by omega, hv⟩
 case round =>
  obtain ⟨i, rfl, hi, hno, hv⟩ := hrel
  refine sK fun _ k21 => sK fun _ k22 => rL (uM rfl ?_)
  refine uF (.pointer (some ⟨b2, 3, none⟩)) rfl (s1fa43_3 _ _ _) ?_
  refine uL _ rfl (run_load1 s1na26 (hv.load 0 3 rfl rfl)) ?_
  refine uG (vI (v.texts.length : Int)) rfl (ex_len0 Tryz.underlying26 rfl rfl) ?_
  by_cases hb23 : (i : Int) < (v.texts.length : Int)
  ·refine uG (.bool true) rfl (ex_lss rfl rfl rfl (qT hb23)) (uW k22 ?_)
   refine cT rfl (kS ?_)
   refine tK k21 (sK fun _ k24 => ?_)
   refine bB (sK fun _ k25 => ?_)
   obtain ⟨x, hx⟩ : ∃ x, v.texts[i]? = some x := ⟨_, List.getElem?_eq_getElem (show i < v.texts.length by omega)⟩
   obtain ⟨bb, bo, had, hrdx⟩ := text_reads hrt hx
   subst had
   refine rL (uF (.pointer (some ⟨b2, 3, none⟩)) rfl (s1fa43_3 _ _ _) ?_)
   refine uL _ rfl (run_load1 s1na26 (hv.load 0 3 rfl rfl)) (uM rfl ?_)
   refine uG (.pointer (some ⟨bb, bo + i, none⟩)) rfl (ex_index rfl rfl rfl (run_idx1 (k := i) Tryz.underlying26 s9es26 (by omega))) ?_
   refine uL _ rfl (run_load1 s9na9 (hrdx _ _ _ (Base.Le.refl _) no_res hv 0 _ rfl)) ?_
   refine uG (vI (x.length : Int)) rfl (ex_lenStr Tryz.underlying9 rfl rfl) ?_
   by_cases hb26 : (x.length : Int) > 4096
   ·refine uG (.bool true) rfl (ex_gtr rfl rfl rfl (qT hb26)) (uW k25 ?_)
    refine cT rfl (sK fun _ k27 => ?_)
    refine rL (uA rfl ?_)
    refine uW k27 (rR ?_)
    refine bZ (tR ?_)
    refine tR (bZ ?_)
    refine tR (bR rfl rfl ?_)
    exact ⟨false, rfl, ⟨fun h => (by cases h), fun h => by rcases h with ⟨h1, h2, h3, h4, h5⟩ | ⟨h1, h2, h3, h4, h5, h6⟩ | ⟨h1, h2, h3, h4, h5, h6⟩ | ⟨h1, h2, h3, h4, h5, h6⟩ | ⟨h1, h2, h3, h4, h5, h6⟩ <;> first | omega | contradiction | (have h9 := hv.2 h3; cases h9) | (have h9 := lleft h3 _ _ hx; omega)⟩, (hv.kp [] 0 1)⟩
   refine uG (.bool false) rfl (ex_gtr rfl rfl rfl (qF hb26)) (uW k25 ?_)
   refine cF rfl (kS ?_)
   refine bN (tK k24 ?_)
   refine rL (uM rfl ?_)
   refine uG (vI ((i + 1 : Nat) : Int)) rfl (ex_add rfl rfl rfl (by rw [i64_in (by omega)]; omega)) (uA rfl ?_)
   refine uZ (then_normal ?_)
   go_roundw
   case rel => exact ⟨i + 1, rfl, by omega, fun j x' hj hx' => (by
      rcases Nat.lt_or_ge j i with h | h
      ·exact hno j x' h hx'
      rw [show j = i by omega, hx] at hx'; cases hx'; omega), hv⟩
   case measure => show v.texts.length - (((i + 1 : Nat) : Int)).toNat < v.texts.length - ((i : Int)).toNat; omega
  refine uG (.bool false) rfl (ex_lss rfl rfl rfl (qF hb23)) (uW k22 ?_)
  refine cF rfl (xE ?_)
  refine tX (tX ?_)
  refine bH (tK k18 ?_)
  refine sK fun _ k28 => ?_
  obtain rfl : i = v.texts.length := by omega
  refine rL (uF (.pointer (some ⟨b2, 3, none⟩)) rfl (s1fa43_3 _ _ _) ?_)
  refine uL _ rfl (run_load1 s1na26 (hv.load 0 3 rfl rfl)) ?_
  refine uG (vI (v.texts.length : Int)) rfl (ex_len0 Tryz.underlying26 rfl rfl) ?_
  by_cases hb29 : (v.texts.length : Int) > 0
  ·refine uG (.bool true) rfl (ex_gtr rfl rfl rfl (qT hb29)) (uM rfl ?_)
   refine uF (.pointer (some ⟨b2, 3, none⟩)) rfl (s1fa43_3 _ _ _) ?_
   refine uL _ rfl (run_load1 s1na26 (hv.load 0 3 rfl rfl)) ?_
   refine uG (vI (v.texts.length : Int)) rfl (ex_len0 Tryz.underlying26 rfl rfl) ?_
   refine uG (.bool (decide ((v.texts.length : Int) ≤ 512))) rfl (ex_leq rfl rfl rfl rfl) (uK rfl ?_)
   refine uA rfl (uW k28 ?_)
   refine rR (bR rfl rfl ?_)
   exact ⟨_, rfl, by rw [decide_eq_true_iff]; exact ⟨fun h9 => .inr (.inr (.inl ⟨by omega, by omega, lright (by omega) hno, Classical.not_not.1 hb6, by omega, by omega⟩)), fun h => by rcases h with ⟨h1, h2, h3, h4, h5⟩ | ⟨h1, h2, h3, h4, h5, h6⟩ | ⟨h1, h2, h3, h4, h5, h6⟩ | ⟨h1, h2, h3, h4, h5, h6⟩ | ⟨h1, h2, h3, h4, h5, h6⟩ <;> first | omega | (have h9 := llen h3; omega)⟩, (hv.kp [] 0 1)⟩
  refine uG (.bool false) rfl (ex_gtr rfl rfl rfl (qF hb29)) (uM rfl ?_)
  iterate 4 refine uP rfl ?_
  refine uK rfl (uA rfl ?_)
  refine uW k28 (rR ?_)
  refine bR rfl rfl (⟨false, rfl, ⟨fun h => (by cases h), fun h => by rcases h with ⟨h1, h2, h3, h4, h5⟩ | ⟨h1, h2, h3, h4, h5, h6⟩ | ⟨h1, h2, h3, h4, h5, h6⟩ | ⟨h1, h2, h3, h4, h5, h6⟩ | ⟨h1, h2, h3, h4, h5, h6⟩ <;> first | omega | contradiction | (have h9 := hv.2 h3; cases h9)⟩, (hv.kp [] 0 1)⟩)
theorem s31callable34 : Callable Tryz.prog 34 := cb Tryz.func34 (by kernel_rfl)
theorem refRight_4 (B : Base) (H : List Res) (w : World) (v : Val) (ap at2 az : Option Addr) (cp ct cz : Nat) (_ : RdV B [] ap (pairCells v.pairs)) (hrt : RdV B [] at2 (textCells v.texts)) (_ : RdV B [] az (memCells v.zset)) (hpm : v.pairs.length ≤ 1000000) (htm : v.texts.length ≤ 1000000) (hzm : v.zset.length ≤ 1000000) (hk : v.kind = 4) (hv : Inv B H w) :
  Calls Tryz.prog 14 #[.agg #[vI v.kind, vS v.text, .slice ap v.pairs.length cp, .slice at2 v.texts.length ct, .slice az v.zset.length cz]] w fun e w' => ∃ b, e = .returned (.bool b) ∧ (b = true ↔ ValOk v) ∧ Inv B H w' := by
 refine cW Tryz.func14 rfl Tryz.ntmps14 ?_
 simp only [al]
 refine sK fun _ k1 => rL (sl_box (L := [vI v.kind, vS v.text, .slice ap v.pairs.length cp, .slice at2 v.texts.length ct, .slice az v.zset.length cz]) tV (wn rfl) rfl rfl hv (fun w => by kernel_rfl) (fun b2 w3 hv => ?_))
 refine uA rfl (uW k1 ?_)
 refine sK fun _ k4 => sK fun _ k5 => rL (uF (vP b2) rfl (s12fa43_0 _ _ _) ?_)
 refine uL _ rfl (run_load1 s2na3 (hv.load 0 0 rfl rfl)) ?_
 refine uG (.bool false) rfl (ex_lss rfl rfl rfl (qF (by omega))) (uM rfl ?_)
 refine uF (vP b2) rfl (s12fa43_0 _ _ _) ?_
 refine uL _ rfl (run_load1 s2na3 (hv.load 0 0 rfl rfl)) ?_
 refine uG (.bool false) rfl (ex_gtr rfl rfl rfl (qF (by omega))) (uK rfl ?_)
 refine uM rfl ?_
 refine uF (vP b2) rfl (s12fa43_0 _ _ _) ?_
 refine uL _ rfl (run_load1 s2na3 (hv.load 0 0 rfl rfl)) ?_
 refine uG (.bool true) rfl (ex_neq rfl rfl rfl (qT (by omega))) ?_
 refine uM rfl ?_
 refine uF (.pointer (some ⟨b2, 1, none⟩)) rfl (s12fa43_1 _ _ _) ?_
 refine uL _ rfl (run_load1 s9na9 (hv.load 0 1 rfl rfl)) ?_
 by_cases hb6 : v.text ≠ ([] : List UInt8)
 ·refine uG (.bool true) rfl (ex_sneq rfl rfl rfl (qT hb6)) ?_
  refine uK rfl (uK rfl ?_)
  refine uM rfl ?_
  iterate 9 refine uP rfl ?_
  refine uK rfl (uM rfl ?_)
  iterate 14 refine uP rfl ?_
  refine uK rfl (uM rfl ?_)
  iterate 9 refine uP rfl ?_
  refine uK rfl (uW k5 ?_)
  refine cT rfl (sK fun _ k7 => ?_)
  refine rL (uA rfl ?_)
  refine uW k7 (rR ?_)
  refine tR (bR rfl rfl ?_)
  exact ⟨false, rfl, ⟨fun h => (by cases h), fun h => by rcases h with ⟨h1, h2, h3, h4, h5⟩ | ⟨h1, h2, h3, h4, h5, h6⟩ | ⟨h1, h2, h3, h4, h5, h6⟩ | ⟨h1, h2, h3, h4, h5, h6⟩ | ⟨h1, h2, h3, h4, h5, h6⟩ <;> first | omega | contradiction | (have h9 := hv.2 h3; cases h9)⟩, (hv.kp [] 0 1)⟩
 refine uG (.bool false) rfl (ex_sneq rfl rfl rfl (qF hb6)) ?_
 refine uK rfl (uK rfl ?_)
 refine uM rfl ?_
 refine uF (vP b2) rfl (s12fa43_0 _ _ _) ?_
 refine uL _ rfl (run_load1 s2na3 (hv.load 0 0 rfl rfl)) ?_
 refine uG (.bool true) rfl (ex_neq rfl rfl rfl (qT (by omega))) ?_
 refine uM rfl ?_
 refine uF (.pointer (some ⟨b2, 2, none⟩)) rfl (s1fa43_2 _ _ _) ?_
 refine uL _ rfl (run_load1 s1na40 (hv.load 0 2 rfl rfl)) ?_
 refine uG (vI (v.pairs.length : Int)) rfl (ex_len0 Tryz.underlying40 rfl rfl) ?_
 by_cases hb8 : (v.pairs.length : Int) > 0
 ·refine uG (.bool true) rfl (ex_gtr rfl rfl rfl (qT hb8)) ?_
  refine uK rfl (uK rfl ?_)
  refine uM rfl ?_
  iterate 14 refine uP rfl ?_
  refine uK rfl (uM rfl ?_)
  iterate 9 refine uP rfl ?_
  refine uK rfl (uW k5 ?_)
  refine cT rfl (sK fun _ k9 => ?_)
  refine rL (uA rfl ?_)
  refine uW k9 (rR ?_)
  refine tR (bR rfl rfl ?_)
  exact ⟨false, rfl, ⟨fun h => (by cases h), fun h => by rcases h with ⟨h1, h2, h3, h4, h5⟩ | ⟨h1, h2, h3, h4, h5, h6⟩ | ⟨h1, h2, h3, h4, h5, h6⟩ | ⟨h1, h2, h3, h4, h5, h6⟩ | ⟨h1, h2, h3, h4, h5, h6⟩ <;> first | omega | contradiction | (have h9 := hv.2 h3; cases h9)⟩, (hv.kp [] 0 1)⟩
 refine uG (.bool false) rfl (ex_gtr rfl rfl rfl (qF hb8)) ?_
 refine uK rfl (uK rfl ?_)
 refine uM rfl ?_
 refine uF (vP b2) rfl (s12fa43_0 _ _ _) ?_
 refine uL _ rfl (run_load1 s2na3 (hv.load 0 0 rfl rfl)) ?_
 refine uG (.bool true) rfl (ex_neq rfl rfl rfl (qT (by omega))) ?_
 refine uM rfl ?_
 refine uF (vP b2) rfl (s12fa43_0 _ _ _) ?_
 refine uL _ rfl (run_load1 s2na3 (hv.load 0 0 rfl rfl)) ?_
 refine uG (.bool false) rfl (ex_neq rfl rfl rfl (qF (by omega))) ?_
 refine uK rfl ?_
 refine uM rfl ?_
 iterate 4 refine uP rfl ?_
 refine uK rfl (uK rfl ?_)
 refine uM rfl ?_
 refine uF (vP b2) rfl (s12fa43_0 _ _ _) ?_
 refine uL _ rfl (run_load1 s2na3 (hv.load 0 0 rfl rfl)) ?_
 refine uG (.bool true) rfl (ex_neq rfl rfl rfl (qT (by omega))) ?_
 refine uM rfl ?_
 refine uF (.pointer (some ⟨b2, 4, none⟩)) rfl (s1fa43_4 _ _ _) ?_
 refine uL _ rfl (run_load1 s1na41 (hv.load 0 4 rfl rfl)) ?_
 refine uG (vI (v.zset.length : Int)) rfl (ex_len0 Tryz.underlying41 rfl rfl) ?_
 by_cases hb10 : (v.zset.length : Int) > 0
 ·refine uG (.bool true) rfl (ex_gtr rfl rfl rfl (qT hb10)) ?_
  refine uK rfl (uK rfl ?_)
  refine uW k5 (cT rfl ?_)
  refine sK fun _ k11 => rL (uA rfl ?_)
  refine uW k11 (rR ?_)
  refine tR (bR rfl rfl ?_)
  exact ⟨false, rfl, ⟨fun h => (by cases h), fun h => by rcases h with ⟨h1, h2, h3, h4, h5⟩ | ⟨h1, h2, h3, h4, h5, h6⟩ | ⟨h1, h2, h3, h4, h5, h6⟩ | ⟨h1, h2, h3, h4, h5, h6⟩ | ⟨h1, h2, h3, h4, h5, h6⟩ <;> first | omega | contradiction | (have h9 := hv.2 h3; cases h9)⟩, (hv.kp [] 0 1)⟩
 refine uG (.bool false) rfl (ex_gtr rfl rfl rfl (qF hb10)) ?_
 refine uK rfl (uK rfl ?_)
 refine uW k5 (cF rfl ?_)
 refine kS (tK k4 ?_)
 refine sK fun _ k12 => sK fun _ k13 => rL (uF (vP b2) rfl (s12fa43_0 _ _ _) ?_)
 refine uL _ rfl (run_load1 s2na3 (hv.load 0 0 rfl rfl)) (uW k13 ?_)
 refine bB (sK fun _ k14 => ?_)
 refine rL (uG (.bool false) rfl (ex_eql rfl rfl rfl (qF (by omega))) ?_)
 refine uA rfl (uW k14 ?_)
 refine cF rfl (sK fun _ k15 => ?_)
 refine rL (uG (.bool false) rfl (ex_eql rfl rfl rfl (qF (by omega))) ?_)
 refine uA rfl (uW k15 ?_)
 refine cF rfl (sK fun _ k16 => ?_)
 refine rL (uG (.bool true) rfl (ex_eql rfl rfl rfl (qT (by omega))) ?_)
 refine uA rfl (uW k16 ?_)
 refine cT rfl (sK fun _ k17 => ?_)
 refine rL (uF (.pointer (some ⟨b2, 3, none⟩)) rfl (s1fa43_3 _ _ _) ?_)
 refine uL _ rfl (run_load1 s1na26 (hv.load 0 3 rfl rfl)) ?_
 refine uG (vI (v.texts.length : Int)) rfl (ex_len0 Tryz.underlying26 rfl rfl) ?_
 by_cases hb18 : (v.texts.length : Int) > 0
 ·refine uG (.bool true) rfl (ex_gtr rfl rfl rfl (qT hb18)) (uM rfl ?_)
  refine uF (.pointer (some ⟨b2, 3, none⟩)) rfl (s1fa43_3 _ _ _) ?_
  refine uL _ rfl (run_load1 s1na26 (hv.load 0 3 rfl rfl)) ?_
  refine xC s31callable34 rfl ((refSetRight B _ _ _ _ _ hrt htm hv).mono ?_) rfl
  rintro e w20 ⟨bl19, rfl, hbl19, hv⟩
  refine ⟨_, rfl, ?_⟩
  cases bl19
  ·refine uK rfl (uA rfl ?_)
   refine uW k17 (rR ?_)
   refine bZ (tR ?_)
   refine bR rfl rfl (⟨false, rfl, ⟨fun h => (by cases h), fun h => by rcases h with ⟨h1, h2, h3, h4, h5⟩ | ⟨h1, h2, h3, h4, h5, h6⟩ | ⟨h1, h2, h3, h4, h5, h6⟩ | ⟨h1, h2, h3, h4, h5, h6⟩ | ⟨h1, h2, h3, h4, h5, h6⟩ <;> first | omega | contradiction | (have h9 := hbl19.2 h3; cases h9)⟩, (hv.kp [] 0 1)⟩)
  refine uK rfl (uA rfl ?_)
  refine uW k17 (rR ?_)
  refine bZ (tR ?_)
  refine bR rfl rfl (⟨true, rfl, ⟨fun _ => .inr (.inr (.inr (.inl ⟨by omega, by omega, hbl19.1 rfl, Classical.not_not.1 hb6, by omega, by omega⟩))), fun _ => rfl⟩, (hv.kp [] 0 1)⟩)
 refine uG (.bool false) rfl (ex_gtr rfl rfl rfl (qF hb18)) (uM rfl ?_)
 iterate 3 refine uP rfl ?_
 refine uK rfl (uA rfl ?_)
 refine uW k17 (rR ?_)
 refine bZ (tR ?_)
 refine bR rfl rfl (⟨false, rfl, ⟨fun h => (by cases h), fun h => by rcases h with ⟨h1, h2, h3, h4, h5⟩ | ⟨h1, h2, h3, h4, h5, h6⟩ | ⟨h1, h2, h3, h4, h5, h6⟩ | ⟨h1, h2, h3, h4, h5, h6⟩ | ⟨h1, h2, h3, h4, h5, h6⟩ <;> first | omega | contradiction | (have h9 := hv.2 h3; cases h9)⟩, (hv.kp [] 0 1)⟩)
theorem s31callable35 : Callable Tryz.prog 35 := cb Tryz.func35 (by kernel_rfl)
theorem refRight_5 (B : Base) (H : List Res) (w : World) (v : Val) (ap at2 az : Option Addr) (cp ct cz : Nat) (_ : RdV B [] ap (pairCells v.pairs)) (_ : RdV B [] at2 (textCells v.texts)) (hrz : RdV B [] az (memCells v.zset)) (hpm : v.pairs.length ≤ 1000000) (htm : v.texts.length ≤ 1000000) (hzm : v.zset.length ≤ 1000000) (hk : v.kind = 5) (hv : Inv B H w) :
  Calls Tryz.prog 14 #[.agg #[vI v.kind, vS v.text, .slice ap v.pairs.length cp, .slice at2 v.texts.length ct, .slice az v.zset.length cz]] w fun e w' => ∃ b, e = .returned (.bool b) ∧ (b = true ↔ ValOk v) ∧ Inv B H w' := by
 refine cW Tryz.func14 rfl Tryz.ntmps14 ?_
 simp only [al]
 refine sK fun _ k1 => rL (sl_box (L := [vI v.kind, vS v.text, .slice ap v.pairs.length cp, .slice at2 v.texts.length ct, .slice az v.zset.length cz]) tV (wn rfl) rfl rfl hv (fun w => by kernel_rfl) (fun b2 w3 hv => ?_))
 refine uA rfl (uW k1 ?_)
 refine sK fun _ k4 => sK fun _ k5 => rL (uF (vP b2) rfl (s12fa43_0 _ _ _) ?_)
 refine uL _ rfl (run_load1 s2na3 (hv.load 0 0 rfl rfl)) ?_
 refine uG (.bool false) rfl (ex_lss rfl rfl rfl (qF (by omega))) (uM rfl ?_)
 refine uF (vP b2) rfl (s12fa43_0 _ _ _) ?_
 refine uL _ rfl (run_load1 s2na3 (hv.load 0 0 rfl rfl)) ?_
 refine uG (.bool false) rfl (ex_gtr rfl rfl rfl (qF (by omega))) (uK rfl ?_)
 refine uM rfl ?_
 refine uF (vP b2) rfl (s12fa43_0 _ _ _) ?_
 refine uL _ rfl (run_load1 s2na3 (hv.load 0 0 rfl rfl)) ?_
 refine uG (.bool true) rfl (ex_neq rfl rfl rfl (qT (by omega))) ?_
 refine uM rfl ?_
 refine uF (.pointer (some ⟨b2, 1, none⟩)) rfl (s12fa43_1 _ _ _) ?_
 refine uL _ rfl (run_load1 s9na9 (hv.load 0 1 rfl rfl)) ?_
 by_cases hb6 : v.text ≠ ([] : List UInt8)
 ·refine uG (.bool true) rfl (ex_sneq rfl rfl rfl (qT hb6)) ?_
  refine uK rfl (uK rfl ?_)
  refine uM rfl ?_
  iterate 9 refine uP rfl ?_
  refine uK rfl (uM rfl ?_)
  iterate 14 refine uP rfl ?_
  refine uK rfl (uM rfl ?_)
  iterate 9 refine uP rfl ?_
  refine uK rfl (uW k5 ?_)
  refine cT rfl (sK fun _ k7 => ?_)
  refine rL (uA rfl ?_)
  refine uW k7 (rR ?_)
  refine tR (bR rfl rfl ?_)
  exact ⟨false, rfl, ⟨fun h => (by cases h), fun h => by rcases h with ⟨h1, h2, h3, h4, h5⟩ | ⟨h1, h2, h3, h4, h5, h6⟩ | ⟨h1, h2, h3, h4, h5, h6⟩ | ⟨h1, h2, h3, h4, h5, h6⟩ | ⟨h1, h2, h3, h4, h5, h6⟩ <;> first | omega | contradiction | (have h9 := hv.2 h3; cases h9)⟩, (hv.kp [] 0 1)⟩
 refine uG (.bool false) rfl (ex_sneq rfl rfl rfl (qF hb6)) ?_
 refine uK rfl (uK rfl ?_)
 refine uM rfl ?_
 refine uF (vP b2) rfl (s12fa43_0 _ _ _) ?_
 refine uL _ rfl (run_load1 s2na3 (hv.load 0 0 rfl rfl)) ?_
 refine uG (.bool true) rfl (ex_neq rfl rfl rfl (qT (by omega))) ?_
 refine uM rfl ?_
 refine uF (.pointer (some ⟨b2, 2, none⟩)) rfl (s1fa43_2 _ _ _) ?_
 refine uL _ rfl (run_load1 s1na40 (hv.load 0 2 rfl rfl)) ?_
 refine uG (vI (v.pairs.length : Int)) rfl (ex_len0 Tryz.underlying40 rfl rfl) ?_
 by_cases hb8 : (v.pairs.length : Int) > 0
 ·refine uG (.bool true) rfl (ex_gtr rfl rfl rfl (qT hb8)) ?_
  refine uK rfl (uK rfl ?_)
  refine uM rfl ?_
  iterate 14 refine uP rfl ?_
  refine uK rfl (uM rfl ?_)
  iterate 9 refine uP rfl ?_
  refine uK rfl (uW k5 ?_)
  refine cT rfl (sK fun _ k9 => ?_)
  refine rL (uA rfl ?_)
  refine uW k9 (rR ?_)
  refine tR (bR rfl rfl ?_)
  exact ⟨false, rfl, ⟨fun h => (by cases h), fun h => by rcases h with ⟨h1, h2, h3, h4, h5⟩ | ⟨h1, h2, h3, h4, h5, h6⟩ | ⟨h1, h2, h3, h4, h5, h6⟩ | ⟨h1, h2, h3, h4, h5, h6⟩ | ⟨h1, h2, h3, h4, h5, h6⟩ <;> first | omega | contradiction | (have h9 := hv.2 h3; cases h9)⟩, (hv.kp [] 0 1)⟩
 refine uG (.bool false) rfl (ex_gtr rfl rfl rfl (qF hb8)) ?_
 refine uK rfl (uK rfl ?_)
 refine uM rfl ?_
 refine uF (vP b2) rfl (s12fa43_0 _ _ _) ?_
 refine uL _ rfl (run_load1 s2na3 (hv.load 0 0 rfl rfl)) ?_
 refine uG (.bool true) rfl (ex_neq rfl rfl rfl (qT (by omega))) ?_
 refine uM rfl ?_
 refine uF (vP b2) rfl (s12fa43_0 _ _ _) ?_
 refine uL _ rfl (run_load1 s2na3 (hv.load 0 0 rfl rfl)) ?_
 refine uG (.bool true) rfl (ex_neq rfl rfl rfl (qT (by omega))) ?_
 refine uK rfl ?_
 refine uM rfl ?_
 refine uF (.pointer (some ⟨b2, 3, none⟩)) rfl (s1fa43_3 _ _ _) ?_
 refine uL _ rfl (run_load1 s1na26 (hv.load 0 3 rfl rfl)) ?_
 refine uG (vI (v.texts.length : Int)) rfl (ex_len0 Tryz.underlying26 rfl rfl) ?_
 by_cases hb10 : (v.texts.length : Int) > 0
 ·refine uG (.bool true) rfl (ex_gtr rfl rfl rfl (qT hb10)) ?_
  refine uK rfl (uK rfl ?_)
  refine uM rfl ?_
  iterate 9 refine uP rfl ?_
  refine uK rfl (uW k5 ?_)
  refine cT rfl (sK fun _ k11 => ?_)
  refine rL (uA rfl ?_)
  refine uW k11 (rR ?_)
  refine tR (bR rfl rfl ?_)
  exact ⟨false, rfl, ⟨fun h => (by cases h), fun h => by rcases h with ⟨h1, h2, h3, h4, h5⟩ | ⟨h1, h2, h3, h4, h5, h6⟩ | ⟨h1, h2, h3, h4, h5, h6⟩ | ⟨h1, h2, h3, h4, h5, h6⟩ | ⟨h1, h2, h3, h4, h5, h6⟩ <;> first | omega | contradiction | (have h9 := hv.2 h3; cases h9)⟩, (hv.kp [] 0 1)⟩
 refine uG (.bool false) rfl (ex_gtr rfl rfl rfl (qF hb10)) ?_
 refine uK rfl (uK rfl ?_)
 refine uM rfl ?_
 refine uF (vP b2) rfl (s12fa43_0 _ _ _) ?_
 refine uL _ rfl (run_load1 s2na3 (hv.load 0 0 rfl rfl)) ?_
 refine uG (.bool false) rfl (ex_neq rfl rfl rfl (qF (by omega))) ?_
 refine uM rfl ?_
 iterate 4 refine uP rfl ?_
 refine uK rfl (uK rfl ?_)
 refine uW k5 (cF rfl ?_)
 refine kS (tK k4 ?_)
 refine sK fun _ k12 => sK fun _ k13 => rL (uF (vP b2) rfl (s12fa43_0 _ _ _) ?_)
 refine uL _ rfl (run_load1 s2na3 (hv.load 0 0 rfl rfl)) (uW k13 ?_)
 refine bB (sK fun _ k14 => ?_)
 refine rL (uG (.bool false) rfl (ex_eql rfl rfl rfl (qF (by omega))) ?_)
 refine uA rfl (uW k14 ?_)
 refine cF rfl (sK fun _ k15 => ?_)
 refine rL (uG (.bool false) rfl (ex_eql rfl rfl rfl (qF (by omega))) ?_)
 refine uA rfl (uW k15 ?_)
 refine cF rfl (sK fun _ k16 => ?_)
 refine rL (uG (.bool false) rfl (ex_eql rfl rfl rfl (qF (by omega))) ?_)
 refine uA rfl (uW k16 ?_)
 refine cF rfl (sK fun _ k17 => ?_)
 refine rL (uG (.bool true) rfl (ex_eql rfl rfl rfl (qT (by omega))) ?_)
 refine uA rfl (uW k17 ?_)
 refine cT rfl (sK fun _ k18 => ?_)
 refine rL (uF (.pointer (some ⟨b2, 4, none⟩)) rfl (s1fa43_4 _ _ _) ?_)
 refine uL _ rfl (run_load1 s1na41 (hv.load 0 4 rfl rfl)) ?_
 refine uG (vI (v.zset.length : Int)) rfl (ex_len0 Tryz.underlying41 rfl rfl) ?_
 by_cases hb19 : (v.zset.length : Int) > 0
 ·refine uG (.bool true) rfl (ex_gtr rfl rfl rfl (qT hb19)) (uM rfl ?_)
  refine uF (.pointer (some ⟨b2, 4, none⟩)) rfl (s1fa43_4 _ _ _) ?_
  refine uL _ rfl (run_load1 s1na41 (hv.load 0 4 rfl rfl)) ?_
  refine xC s31callable35 rfl ((refZsetRight B _ _ _ _ _ hrz hzm hv).mono ?_) rfl
  rintro e w21 ⟨bl20, rfl, hbl20, hv⟩
  refine ⟨_, rfl, ?_⟩
  cases bl20
  ·refine uK rfl (uA rfl ?_)
   refine uW k18 (rR ?_)
   refine bZ (tR ?_)
   refine bR rfl rfl (⟨false, rfl, ⟨fun h => (by cases h), fun h => by rcases h with ⟨h1, h2, h3, h4, h5⟩ | ⟨h1, h2, h3, h4, h5, h6⟩ | ⟨h1, h2, h3, h4, h5, h6⟩ | ⟨h1, h2, h3, h4, h5, h6⟩ | ⟨h1, h2, h3, h4, h5, h6⟩ <;> first | omega | contradiction | (have h9 := hbl20.2 h3; cases h9)⟩, (hv.kp [] 0 1)⟩)
  refine uK rfl (uA rfl ?_)
  refine uW k18 (rR ?_)
  refine bZ (tR ?_)
  refine bR rfl rfl (⟨true, rfl, ⟨fun _ => .inr (.inr (.inr (.inr (⟨by omega, by omega, hbl20.1 rfl, Classical.not_not.1 hb6, by omega, by omega⟩)))), fun _ => rfl⟩, (hv.kp [] 0 1)⟩)
 refine uG (.bool false) rfl (ex_gtr rfl rfl rfl (qF hb19)) (uM rfl ?_)
 iterate 3 refine uP rfl ?_
 refine uK rfl (uA rfl ?_)
 refine uW k18 (rR ?_)
 refine bZ (tR ?_)
 refine bR rfl rfl (⟨false, rfl, ⟨fun h => (by cases h), fun h => by rcases h with ⟨h1, h2, h3, h4, h5⟩ | ⟨h1, h2, h3, h4, h5, h6⟩ | ⟨h1, h2, h3, h4, h5, h6⟩ | ⟨h1, h2, h3, h4, h5, h6⟩ | ⟨h1, h2, h3, h4, h5, h6⟩ <;> first | omega | contradiction | (have h9 := hv.2 h3; cases h9)⟩, (hv.kp [] 0 1)⟩)
theorem refRight0 (B : Base) (H : List Res) (w : World) (v : Val) (ap at2 az : Option Addr) (cp ct cz : Nat) (hrp : RdV B [] ap (pairCells v.pairs)) (hrt : RdV B [] at2 (textCells v.texts)) (hrz : RdV B [] az (memCells v.zset)) (hpm : v.pairs.length ≤ 1000000) (htm : v.texts.length ≤ 1000000) (hzm : v.zset.length ≤ 1000000) (hv : Inv B H w) :
  Calls Tryz.prog 14 #[.agg #[vI v.kind, vS v.text, .slice ap v.pairs.length cp, .slice at2 v.texts.length ct, .slice az v.zset.length cz]] w fun e w' => ∃ b, e = .returned (.bool b) ∧ (b = true ↔ ValOk v) ∧ Inv B H w' := by
 by_cases h : v.kind < 1 ∨ 5 < v.kind
 ·exact refRight_0 B H w v ap at2 az cp ct cz hrp hrt hrz hpm htm hzm h hv
 rcases (show v.kind = 1 ∨ v.kind = 2 ∨ v.kind = 3 ∨ v.kind = 4 ∨ v.kind = 5 by omega) with h | h | h | h | h
 ·exact refRight_1 B H w v ap at2 az cp ct cz hrp hrt hrz hpm htm hzm h hv
 ·exact refRight_2 B H w v ap at2 az cp ct cz hrp hrt hrz hpm htm hzm h hv
 ·exact refRight_3 B H w v ap at2 az cp ct cz hrp hrt hrz hpm htm hzm h hv
 ·exact refRight_4 B H w v ap at2 az cp ct cz hrp hrt hrz hpm htm hzm h hv
 exact refRight_5 B H w v ap at2 az cp ct cz hrp hrt hrz hpm htm hzm h hv
theorem refRightV (B : Base) (H : List Res) (w : World) (v : Val) (p t z : Value) (h : ValAt B v p t z) (hv : Inv B H w) : Calls Tryz.prog 14 #[.agg (valCells v p t z).toArray] w fun e w' => ∃ b, e = .returned (.bool b) ∧ (b = true ↔ ValOk v) ∧ Inv B H w' := by
 obtain ⟨⟨ap, cp, rfl, -, hrp⟩, ⟨at2, ct, rfl, -, hrt⟩, ⟨az, cz, rfl, -, hrz⟩, hpm, htm, hzm⟩ := h
 exact refRight0 B H w v ap at2 az cp ct cz hrp hrt hrz hpm htm hzm hv
theorem valRd_at2 {B : Base} {v : Val} {p t z : Value} (h : ValRd B v p t z) (hs : ValSm v) : ValAt B v p t z := by
 obtain ⟨h1, h2, h3⟩ := hs
 exact ⟨h.p, h.t, h.z, by omega, by omega, by omega⟩
theorem keep_ok {M M' : List (List UInt8 × Ver)} {clk exp ec : Int} {key : List UInt8} {x : Val} (hk : key.length ≤ 256) (hp : FullV x → PutOk key x exp) (h : KeepI M clk key x exp ec M') : ec = 0 ∧ ((FullV x ∧ M' = updA M key ⟨0, false, exp, x⟩) ∨ (¬ FullV x ∧ DeadM M clk key ∧ M' = M) ∨ (¬ FullV x ∧ ¬ DeadM M clk key ∧ M' = updA M key gver)) := by
 rcases h with ⟨h1, -, h2, h3⟩ | ⟨h1, h2, -⟩ | ⟨h1, h2, h3, h4⟩ | ⟨h1, ⟨y, h2, h3⟩, ⟨-, h4, h5⟩ | ⟨h4, -⟩⟩
 ·exact ⟨h2, .inl ⟨h1, h3⟩⟩
 ·exact absurd (hp h1) h2
 ·exact ⟨h3, .inr (.inl ⟨h1, h2, h4⟩)⟩
 ·exact ⟨h4, .inr (.inr ⟨h1, (fun hd => by rw [hd y h2] at h3; cases h3), h5⟩)⟩
 omega
theorem rel_step {M M' : List (List UInt8 × Ver)} {K K' : List KeyR} {clk exp : Int} {key : List UInt8} {x : Val} (hR : RelVK M K) (hm : (FullV x ∧ M' = updA M key ⟨0, false, exp, x⟩) ∨ (¬ FullV x ∧ DeadM M clk key ∧ M' = M) ∨ (¬ FullV x ∧ ¬ DeadM M clk key ∧ M' = updA M key gver)) (hk : PutK K clk key x exp K') : RelVK M' K' := by
 rcases hk with ⟨hf, rfl⟩ | ⟨hf, hi⟩
 ·rcases hm with ⟨h, -⟩ | ⟨-, hd, rfl⟩ | ⟨-, hd, rfl⟩
  ·exact absurd h hf
  ·unfold delK; rw [hR.free hd]; exact hR
  have : (getK K clk key).isSome = true := by
   cases hg : getK K clk key with
   | some x => rfl
   | none => exact absurd (hR.dead hg) hd
  unfold delK; rw [this]; exact hR.del
 rcases hm with ⟨-, rfl⟩ | ⟨h, -⟩ | ⟨h, -⟩
 ·exact hR.put hi
 ·exact absurd hf h
 exact absurd hf h
structure KeysOk (M : List (List UInt8 × Ver)) (i : Nat) : Prop where
 nd : (M.map (·.1)).Nodup
 len : M.length ≤ i
 sh : ∀ k ∈ M.map (·.1), k.length ≤ 256
theorem KeysOk.upd {M : List (List UInt8 × Ver)} {i : Nat} (h : KeysOk M i) {k : List UInt8} (hk : k.length ≤ 256) (y : Ver) : KeysOk (updA M k y) (i + 1) := by
 refine ⟨by rw [updA_keys]; exact addKey_nodup h.nd, by have := updA_len M k y; have := h.len; omega, fun k9 hk9 => ?_⟩
 rw [updA_keys] at hk9
 unfold addKey at hk9
 split at hk9
 ·exact h.sh k9 hk9
 rcases List.mem_append.1 hk9 with h9 | h9
 ·exact h.sh k9 h9
 rw [List.mem_singleton.1 h9]; exact hk
theorem KeysOk.step {M M' : List (List UInt8 × Ver)} {i : Nat} {clk exp : Int} {key : List UInt8} {x : Val} (h : KeysOk M i) (hk : key.length ≤ 256) (hm : (FullV x ∧ M' = updA M key ⟨0, false, exp, x⟩) ∨ (¬ FullV x ∧ DeadM M clk key ∧ M' = M) ∨ (¬ FullV x ∧ ¬ DeadM M clk key ∧ M' = updA M key gver)) : KeysOk M' (i + 1) := by
 rcases hm with ⟨-, rfl⟩ | ⟨-, -, rfl⟩ | ⟨-, -, rfl⟩
 ·exact h.upd hk _
 ·exact ⟨h.nd, by have := h.len; omega, h.sh⟩
 exact h.upd hk _
section
variable {M : List (List UInt8 × Ver)} {clk kd : Int} {key : List UInt8} {y : Ver} {ec : Int} {k : KeyR}
end
open Go.Sort
def vText (s : List UInt8) : Val := ⟨1, s, [], [], []⟩
theorem vText_full {s : List UInt8} : FullV (vText s) := .inl rfl
theorem vText_put {k s : List UInt8} (hk : k.length ≤ 256) (hs : s.length ≤ 4096) : PutOk k (vText s) 0 := ⟨hk, .inl ⟨rfl, hs, rfl, rfl, rfl⟩, by omega, by omega⟩
theorem vText_at {B : Base} {s : List UInt8} : ValAt B (vText s) (vN) (vN) (vN) :=
 ⟨⟨none, 0, rfl, ⟨Nat.le_refl _, Nat.zero_le _, fun _ => rfl⟩, rdV_nil⟩, ⟨none, 0, rfl, ⟨Nat.le_refl _, Nat.zero_le _, fun _ => rfl⟩, rdV_nil⟩, ⟨none, 0, rfl, ⟨Nat.le_refl _, Nat.zero_le _, fun _ => rfl⟩, rdV_nil⟩, Nat.zero_le _, Nat.zero_le _, Nat.zero_le _⟩
theorem ck_put {M M' : List (List UInt8 × Ver)} {K K' : List KeyR} {i : Nat} {clk ec : Int} {k s : List UInt8} (hR : RelVK M K) (hKO : KeysOk M i) (hk : k.length ≤ 256) (hs : s.length ≤ 4096) (hkp : KeepI M clk k (vText s) 0 ec M') (hi : InsK (others K k) ⟨k, vText s, 0⟩ K') : ec = 0 ∧ RelVK M' K' ∧ KeysOk M' (i + 1) := by
 obtain ⟨h1, hm⟩ := keep_ok hk (fun _ => vText_put hk hs) hkp
 exact ⟨h1, rel_step hR hm (.inr ⟨vText_full, hi⟩), hKO.step hk hm⟩
def ckA : List KeyR := [⟨[97], vText [49], 0⟩]
def ckB : List KeyR := [⟨[97], vText [49], 0⟩, ⟨[98], vText [50], 0⟩]
def ckC : List KeyR := [⟨[97], vText [49], 0⟩, ⟨[98], vText [50], 0⟩, ⟨[99], vText [51], 0⟩]
theorem ins_A : InsK (others [] [97]) ⟨[97], vText [49], 0⟩ ckA := ⟨0, Nat.le_refl _, rfl, fun x h => (by cases h), fun x h => (by cases h)⟩
theorem ins_B : InsK (others ckA [98]) ⟨[98], vText [50], 0⟩ ckB := by
 rw [show others ckA [98] = ckA from rfl]
 exact ⟨1, Nat.le_refl _, rfl, by decide, fun x h => (by cases h)⟩
theorem ins_C : InsK (others ckB [99]) ⟨[99], vText [51], 0⟩ ckC := by
 rw [show others ckB [99] = ckB from rfl]
 exact ⟨2, Nat.le_refl _, rfl, by decide, fun x h => (by cases h)⟩
theorem ck_names {M : List (List UInt8 × Ver)} (hR : RelVK M ckC) (hKO : KeysOk M 3) : namesT M 0 = [[97], [98], [99]] := (hR.names hKO.nd).trans (by decide)
theorem ck_scan1 {r : Rp} (h : ScanR [[97], [98], [99]] [[48], wCOUNT, [50]] r) : r = rList [rStr [50], rStrs [[97], [98]]] := by
 obtain ⟨b, hb, rfl⟩ := scan_count (names := [[97], [98], [99]]) (a := 0) (c := 2) (by decide) (by decide) (by decide) (by decide) (by rw [itoa_small 0 (by decide), itoa_small 2 (by decide)]; exact h)
 obtain rfl : b = 2 := hb
 rw [show (((if 2 < [[97], [98], ([99] : List UInt8)].length then 2 else 0 : Nat)) : Int) = ((2 : Nat) : Int) from rfl, itoa_small 2 (by decide)]
 rfl
theorem ck_scan2 {r : Rp} (h : ScanR [[97], [98], [99]] [[50], wCOUNT, [50]] r) : r = rList [rStr [48], rStrs [[99]]] := by
 obtain ⟨b, hb, rfl⟩ := scan_count (names := [[97], [98], [99]]) (a := 2) (c := 2) (by decide) (by decide) (by decide) (by decide) (by rw [itoa_small 2 (by decide)]; exact h)
 obtain rfl : b = 3 := hb
 rw [show (((if 3 < [[97], [98], ([99] : List UInt8)].length then 3 else 0 : Nat)) : Int) = ((0 : Nat) : Int) from rfl, itoa_small 0 (by decide)]
 rfl
theorem rp_two {B : Base} {s : List UInt8} {l : List (List UInt8)} {cs : List Value} (h : RpAt B (rList [rStr s, rStrs l]) cs) : ∃ b off c v0 la lc, cs = rpCells 5 [] 0 (.slice (some ⟨b, off, none⟩) 2 c) ∧ Reads B [] b (off + 0 * 4) (rpCells 3 s 0 v0) ∧ v0.cells = #[v0] ∧ v0.oneCell' = true ∧ Reads B [] b (off + 1 * 4) (rpCells 5 [] 0 (.slice la l.length lc)) ∧ RpAt B (rStrs l) (rpCells 5 [] 0 (.slice la l.length lc)) ∧ (∀ (i : Nat) x, l[i]? = some x → ∃ b2 off2 v2, la = some ⟨b2, off2, none⟩ ∧ v2.cells = #[v2] ∧ v2.oneCell' = true ∧ Reads B [] b2 (off2 + i * 4) (rpCells 3 x 0 v2)) := by
 simp only [rList, RpAt] at h
 obtain ⟨v, xs, rfl, ⟨ra, rc, rfl, hok, hr⟩, hs⟩ := h
 obtain ⟨b, off, v0, y0, rfl, h0, -, hr0⟩ := hs.reads (i := 0) hr rfl
 obtain ⟨b', off', v1, y1, e1, h1, hs1, hr1⟩ := hs.reads (i := 1) hr (show [rStr s, rStrs l][1]? = some (Rp.mk 5 [] 0 (l.map rStr)) from rfl)
 cases e1
 have hR : RpAt B (rStrs l) (rpCells 5 [] 0 v1) := rpAt_of h1 hs1
 obtain ⟨la, lc, rfl, -, hl⟩ := h1
 rw [List.length_map] at hr1 hR
 refine ⟨b, off, rc, v0, la, lc, rfl, hr0, h0.cells, h0.one, hr1, hR, fun i x hx => ?_⟩
 obtain ⟨b2, off2, v2, y2, e2, h2, -, hr2⟩ := hs1.reads (i := i) hl (show (l.map rStr)[i]? = some (Rp.mk 3 x 0 []) by rw [List.getElem?_map, hx]; rfl)
 exact ⟨b2, off2, v2, e2, h2.cells, h2.one, hr2⟩
end Go.Proofs.YtngpmolbphinnaaGreatDoor
namespace Go.Pm
open Go.RowKit
inductive Tr (α : Type) where
 | lin (is : List α)
 | fork (x : α) (t1 : Tr α) (y : α) (t2 : Tr α)
section
variable {P : Program} {ops : Array Oper} {mem perm pre is : List Nat} {R : Act → World → Prop} {Q : Exit → Act → World → Prop} {a0 a aS : Act} {listed : Array Bool} {w w' : World} {val : Nat → Value} {Fl : List (Nat × (World → Prop))} {J : World → Prop} {i : Nat} {o : Oper} {K : Act → World → Prop}
end
section
variable {P : Program} {ops : Array Oper} {mem : List Nat} {Q : Exit → Act → World → Prop} {a0 : Act}
end
section
variable {n : Nat} {P : Program} {ops : Array Oper} {Q : Exit → Act → World → Prop} {a0 : Act} {w0 : World} {B : Base} {H : List Res}
end
section
variable {P : Program} {ops : Array Oper} {mem : List Nat} {R : Act → World → Prop} {D : List (Nat × (World → Prop)) → (World → Prop) → Act → Prop} {i : Nat} {o : Oper} {is : List (Nat × Oper)} {Fl : List (Nat × (World → Prop))} {J : World → Prop} {a : Act} {v : Value} {x y : Nat × Oper} {t1 t2 : Tr (Nat × Oper)} {G : (World → Prop) → Act → Prop} {B : Base} {H : List Res} {w' : World}
theorem ex_fieldv {t : TypeId} {k : Nat} {z : Operand} {r u : Value} {w : World} (ho : o.op = .field t z k) (hx : a.eval z = u) (hr : ∀ w, (Instr.field t u k).run P w = .ok r w) : Ex P a o w r w := by unfold Ex; simp [execOp, ho, hx, hr]
end
end Go.Pm
namespace Go.Proofs.YtngpmolbphinnaaGreatDoor
open Go.RowKit Go.Pm
theorem k3al43 : AL Tryz.prog 43 [vI 0, vS [], vN, vN, vN] := fun w => by kernel_rfl
theorem lawText26 (B : Base) (H : List Res) (w : World) (s : List UInt8) (hv : Inv B H w) :
  Calls Tryz.prog 25 #[vS s] w fun e w' => e = .returned (.agg #[vI 1, vS s, vN, vN, vN]) ∧ Inv B H w' := by
 refine cW Tryz.func25 rfl Tryz.ntmps25 ?_
 simp only [al]
 refine sK fun _ k1 => rL (sl_alloc tV (wn rfl) rfl hv k3al43 (fun b2 w3 hv => ?_))
 refine uW k1 (sK fun _ k4 => ?_)
 refine rL (uM rfl ?_)
 refine uG (.agg #[vI 1, vS s, vN, vN, vN]) rfl (ex_buildN (vs := #[(0, vI 1), (1, vS s)]) rfl (by simp only [List.map_toArray, List.map_cons, List.map_nil]; rfl) (by kernel_rfl)) ?_
 refine xS 0 rfl hv s1sz43 rfl (by exact ⟨rfl, rfl, rfl, rfl, rfl, trivial⟩) (fun w5 hv => ?_)
 simp only [zO, sp] at hv
 refine uW k4 (rR ?_)
 refine bC 0 s1wd43 hv rfl rfl rfl rfl (⟨rfl, (hv.kp [] 0 1)⟩)
theorem k3callable15 : Callable Tryz.prog 15 := cb Tryz.func15 (by kernel_rfl)
theorem k3callable25 : Callable Tryz.prog 25 := cb Tryz.func25 (by kernel_rfl)
theorem k3callable16 : Callable Tryz.prog 16 := cb Tryz.func16 (by kernel_rfl)
theorem k3callable10 : Callable Tryz.prog 10 := cb Tryz.func10 (by kernel_rfl)
theorem k3al34 : AL Tryz.prog 34 [vI 0, vS [], vI 0, vN] := fun w => by kernel_rfl
theorem k3callable26 : Callable Tryz.prog 26 := cb Tryz.func26 (by kernel_rfl)
theorem k3mk9 : (Tryz.prog.info? 9).map (fun i => (i.zero, i.size, i.bytes)) = some (some (vS []), 1, 16) := by kernel_rfl
theorem k3el26 : Elem Tryz.prog 26 9 (vS []) 1 16 := elem_of Tryz.underlying26 k3mk9 (by rfl) (by decide)
theorem lawAwake26 (B : Base) (H : List Res) (w : World) (hN : NumB B) (hv : Inv B H w) :
  Calls Tryz.prog 8 #[] w fun e w' => e = .returned (.bool true) ∧ Inv B H w' := by
 refine cW Tryz.func8 rfl Tryz.ntmps8 ?_
 simp only [al]
 refine sK fun _ k1 => rL (uA rfl ?_)
 refine uW k1 (sK fun _ k2 => ?_)
 refine rL (xC k3callable15 rfl ((lawOpened26 B _ _ 0 (by omega) (by omega) hv).mono ?_) rfl)
 rintro e w3 ⟨v, t, m, s, p, wb, va, vc, sv, rfl, hv⟩
 refine ⟨_, rfl, uA rfl ?_⟩
 refine uW k2 (sK fun _ k4 => ?_)
 refine sK fun _ k5 => rL (uM rfl ?_)
 refine uG (.bool false) rfl (ex_pisnil Tryz.underlying24 rfl rfl rfl rfl) (uM rfl ?_)
 refine uM rfl ?_
 refine xC k3callable25 rfl ((lawText26 B _ _ ([49] : List UInt8) hv).mono ?_) rfl
 rintro e w6 ⟨rfl, hv⟩
 refine ⟨_, rfl, ?_⟩
 simp only [zP, po]
 replace hv := hv.front 1 rfl
 simp only [eS, eZ] at hv
 replace hv := hv.front 1 rfl
 simp only [eS, eZ] at hv
 refine xC k3callable16 rfl ((viewKeep B _ _ v t m s p wb va vc sv 0 [] [] ([97] : List UInt8) (vText ([49] : List UInt8)) _ _ _ 0 ((vmNil B).more (Base.Le.refl _)) vText_at hv).mono ?_) rfl
 rintro e w7 ⟨D1, es1, M1, ec1, hD1, rfl, hM1, hkp1, hv⟩
 refine ⟨_, rfl, ?_⟩
 obtain ⟨rfl, hR1, hK1⟩ := ck_put RelVK.nil (show KeysOk [] 0 from ⟨List.Pairwise.nil, Nat.le_refl _, fun k h => (by cases h)⟩) (by decide) (by decide) hkp1 ins_A
 refine uG (.bool false) rfl (ex_neq rfl rfl rfl (by decide)) (uK rfl ?_)
 refine uM rfl ?_
 refine uM rfl ?_
 refine xC k3callable25 rfl ((lawText26 D1 _ _ ([50] : List UInt8) hv).mono ?_) rfl
 rintro e w8 ⟨rfl, hv⟩
 refine ⟨_, rfl, ?_⟩
 simp only [zP, po]
 replace hv := hv.front 1 rfl
 simp only [eS, eZ] at hv
 replace hv := hv.front 1 rfl
 simp only [eS, eZ] at hv
 refine xC k3callable16 rfl ((viewKeep D1 _ _ v t m s p wb va vc sv 0 es1 M1 ([98] : List UInt8) (vText ([50] : List UInt8)) _ _ _ 0 (hM1.more (Base.Le.refl _)) vText_at hv).mono ?_) rfl
 rintro e w9 ⟨D2, es2, M2, ec2, hD2, rfl, hM2, hkp2, hv⟩
 refine ⟨_, rfl, ?_⟩
 obtain ⟨rfl, hR2, hK2⟩ := ck_put hR1 hK1 (by decide) (by decide) hkp2 ins_B
 refine uG (.bool false) rfl (ex_neq rfl rfl rfl (by decide)) (uK rfl ?_)
 refine uM rfl ?_
 refine uM rfl ?_
 refine xC k3callable25 rfl ((lawText26 D2 _ _ ([51] : List UInt8) hv).mono ?_) rfl
 rintro e w10 ⟨rfl, hv⟩
 refine ⟨_, rfl, ?_⟩
 simp only [zP, po]
 replace hv := hv.front 1 rfl
 simp only [eS, eZ] at hv
 replace hv := hv.front 1 rfl
 simp only [eS, eZ] at hv
 refine xC k3callable16 rfl ((viewKeep D2 _ _ v t m s p wb va vc sv 0 es2 M2 ([99] : List UInt8) (vText ([51] : List UInt8)) _ _ _ 0 (hM2.more (Base.Le.refl _)) vText_at hv).mono ?_) rfl
 rintro e w11 ⟨D3, es3, M3, ec3, hD3, rfl, hM3, hkp3, hv⟩
 refine ⟨_, rfl, ?_⟩
 obtain ⟨rfl, hR3, hK3⟩ := ck_put hR2 hK2 (by decide) (by decide) hkp3 ins_C
 refine uG (.bool false) rfl (ex_neq rfl rfl rfl (by decide)) (uK rfl ?_)
 refine uW k5 (cF rfl ?_)
 refine kS (tK k4 ?_)
 refine sK fun _ k12 => rL (uM rfl ?_)
 refine sl_rowN (pv := #[(0, vS [48]), (1, vS [67, 79, 85, 78, 84]), (2, vS [50])]) (L := [vS [48], vS [67, 79, 85, 78, 84], vS [50]]) (e := 9) tV (wn rfl) rfl (by simp only [List.map_toArray, List.map_cons, List.map_nil]; rfl) hv (fun w => by kernel_rfl) (fun b13 w14 hv => ?_)
 simp only [zP, po]
 obtain ⟨D15, hD15, hv, hrD15, hoD15, -⟩ := (hv.cellRow (n := 3) (c := 3) (size := 1) rfl (by decide) (by decide)).rowBy
 replace hv := hv.front 1 rfl
 simp only [eS, eZ] at hv
 replace hv := hv.front 1 rfl
 simp only [eS, eZ] at hv
 refine xC k3callable10 rfl ((ckDoS D15 _ _ v t m s p wb va vc sv 0 es3 M3 (hM3.more hD15) _ _ [([48] : List UInt8), ([67, 79, 85, 78, 84] : List UInt8), ([50] : List UInt8)] hrD15 hoD15 (by decide) (by decide) hK3.sh (by have := hK3.len; omega) (all1 (by decide) (all1 (by decide) (all1 (by decide) all0))) (.inl (all1 (by decide) (all1 (by decide) (all1 (by decide) all0)))) (hN.more (((hD1.trans hD2).trans hD3).trans hD15)) hv).mono ?_) rfl
 rintro e w16 ⟨C1, r1, cs1, hC1, rfl, hrp1, hsr1, hv⟩
 refine ⟨_, rfl, ?_⟩
 rw [ck_names hR3 hK3] at hsr1
 obtain rfl := ck_scan1 hsr1
 obtain ⟨rb1, ro1, rc1, u1, la1, lc1, rfl, hrd1, hu1, hw1, hrl1, hrs1, -⟩ := rp_two hrp1
 refine uG (.tuple #[.agg #[vI 5, vS [], vI 0, .slice (some ⟨rb1, ro1, none⟩) 2 rc1], .bool true]) rfl (ex_move rfl rfl) ?_
 refine uG (.agg #[vI 5, vS [], vI 0, .slice (some ⟨rb1, ro1, none⟩) 2 rc1]) rfl (ex_extract rfl rfl rfl) (uE rfl ?_)
 refine sl_alloc tV (wn rfl) rfl hv k3al34 (fun b17 w18 hv => ?_)
 simp only [zP, po]
 refine xS 0 rfl hv rssz34 rfl (by exact ⟨rfl, rfl, rfl, rfl, trivial⟩) (fun w19 hv => ?_)
 simp only [zO, sp] at hv
 refine uA rfl (uW k12 ?_)
 refine sK fun _ k20 => rL (uM rfl ?_)
 refine sl_rowN (pv := #[(0, vS [50]), (1, vS [67, 79, 85, 78, 84]), (2, vS [50])]) (L := [vS [50], vS [67, 79, 85, 78, 84], vS [50]]) (e := 9) tV (wn rfl) rfl (by simp only [List.map_toArray, List.map_cons, List.map_nil]; rfl) hv (fun w => by kernel_rfl) (fun b21 w22 hv => ?_)
 simp only [zP, po]
 obtain ⟨D23, hD23, hv, hrD23, hoD23, -⟩ := (hv.cellRow (n := 3) (c := 3) (size := 1) rfl (by decide) (by decide)).rowBy
 replace hv := hv.front 2 rfl
 simp only [eS, eZ] at hv
 replace hv := hv.front 2 rfl
 simp only [eS, eZ] at hv
 refine xC k3callable10 rfl ((ckDoS D23 _ _ v t m s p wb va vc sv 0 es3 M3 (hM3.more ((hD15.trans hC1).trans hD23)) _ _ [([50] : List UInt8), ([67, 79, 85, 78, 84] : List UInt8), ([50] : List UInt8)] hrD23 hoD23 (by decide) (by decide) hK3.sh (by have := hK3.len; omega) (all1 (by decide) (all1 (by decide) (all1 (by decide) all0))) (.inl (all1 (by decide) (all1 (by decide) (all1 (by decide) all0)))) (hN.more (((((hD1.trans hD2).trans hD3).trans hD15).trans hC1).trans hD23)) hv).mono ?_) rfl
 rintro e w24 ⟨C2, r2, cs2, hC2, rfl, hrp2, hsr2, hv⟩
 refine ⟨_, rfl, ?_⟩
 rw [ck_names hR3 hK3] at hsr2
 obtain rfl := ck_scan2 hsr2
 obtain ⟨rb2, ro2, rc2, u2, la2, lc2, rfl, hrd2, hu2, hw2, hrl2, hrs2, -⟩ := rp_two hrp2
 refine uG (.tuple #[.agg #[vI 5, vS [], vI 0, .slice (some ⟨rb2, ro2, none⟩) 2 rc2], .bool true]) rfl (ex_move rfl rfl) ?_
 refine uG (.agg #[vI 5, vS [], vI 0, .slice (some ⟨rb2, ro2, none⟩) 2 rc2]) rfl (ex_extract rfl rfl rfl) (uE rfl ?_)
 refine sl_alloc tV (wn rfl) rfl hv k3al34 (fun b25 w26 hv => ?_)
 simp only [zP, po]
 refine xS 0 rfl hv rssz34 rfl (by exact ⟨rfl, rfl, rfl, rfl, trivial⟩) (fun w27 hv => ?_)
 simp only [zO, sp] at hv
 refine uA rfl (uW k20 ?_)
 refine sK fun _ k28 => rW mixed [23, 24, 25, 46, 47, 48] [0,1,2,3,4,5,6,7,8,9,10,11,12,13,14,15,16,17,18,19,20,21,22,23,24,25,26,27,28,29,30,31,32,33,34,35,36,37,38,39,40,41,42,43,44,45,46,47,48,49,50] 89 rfl (by kernel_rfl) hv ?_
 simp only [qm, opAt]
 refine dM (.bool true) rfl (dM (.bool true) rfl ?_)
 refine dM (.bool true) rfl ?_
 simp only [zP, po]
 refine dK true (.bool true) rfl (dM (.bool true) rfl ?_)
 refine dG (.pointer (some ⟨b17, 3, none⟩)) rfl (ex_field rfl rfl (rtfa34_3 _ _ _)) ?_
 simp only [zP, po]
 refine dL _ rfl (fun hv => ex_load rfl rfl (run_load1 rtna32 (hv.load 3 3 rfl rfl))) (dG (vI 2) rfl (ex_len0 Tryz.underlying32 rfl rfl) ?_)
 refine dG (.bool true) rfl (ex_eql rfl rfl rfl (by decide)) ?_
 simp only [zP, po]
 refine dK true (.bool true) rfl (dM (.bool true) rfl ?_)
 refine dG (.pointer (some ⟨b17, 3, none⟩)) rfl (ex_field rfl rfl (rtfa34_3 _ _ _)) ?_
 simp only [zP, po]
 refine dL _ rfl (fun hv => ex_load rfl rfl (run_load1 rtna32 (hv.load 3 3 rfl rfl))) (dG (.pointer (some ⟨rb1, ro1 + 0 * 4, none⟩)) rfl (ex_index rfl rfl rfl (run_idx (k := 0) Tryz.underlying32 k0es32 (by omega))) ?_)
 refine dG (.pointer (some ⟨rb1, ro1 + 0 * 4 + 1, none⟩)) rfl (ex_field rfl rfl (k0fa34_1 _ _ _)) ?_
 simp only [zP, po]
 refine dL _ rfl (fun hv => ex_load rfl rfl (run_load1 s9na9 (hrd1 _ _ _ (hD23.trans hC2) no_res hv 1 _ rfl))) (dG (.bool true) rfl (ex_seql rfl rfl rfl (qT (by decide))) ?_)
 refine dK true (.bool true) rfl ?_
 simp only [zP, po]
 refine dM (.bool true) rfl (dG (.pointer (some ⟨b17, 3, none⟩)) rfl (ex_field rfl rfl (rtfa34_3 _ _ _)) ?_)
 refine dF _ rfl (fun hv => ex_load rfl rfl (run_load1 rtna32 (hv.load 3 3 rfl rfl))) fun f29 hf29 => ?_
 simp only [zP, po]
 refine dG (.pointer (some ⟨rb1, ro1 + 1 * 4, none⟩)) rfl (ex_index rfl rfl rfl (run_idx (k := 1) Tryz.underlying32 k0es32 (by omega))) (dF (.agg #[vI 5, vS [], vI 0, .slice la1 (([[97], [98]] : List (List UInt8)).length) lc1]) rfl (fun hv => ex_load rfl rfl (run_loadR (cs := [vI 5, vS [], vI 0, .slice la1 (([[97], [98]] : List (List UInt8)).length) lc1]) rswd34 (Reads.mid (pre := []) (mid := [vI 5, vS [], vI 0, .slice la1 (([[97], [98]] : List (List UInt8)).length) lc1]) (post := []) hrl1 _ _ _ (hD23.trans hC2) no_res hv))) fun f30 hf30 => ?_)
 refine dS rfl fun w31 hv => mem_row2 (v1 := vS [97]) (v2 := vS [98]) (e := 9) rfl rfl rfl rfl hv (fun w => by kernel_rfl) (fun b32 w33 hv => ?_)
 refine dV hv (fC (fun ww hv => hf30 ww (ex_load rfl rfl (run_loadR (cs := [vI 5, vS [], vI 0, .slice la1 (([[97], [98]] : List (List UInt8)).length) lc1]) rswd34 (Reads.mid (pre := []) (mid := [vI 5, vS [], vI 0, .slice la1 (([[97], [98]] : List (List UInt8)).length) lc1]) (post := []) hrl1 _ _ _ (hD23.trans hC2) no_res hv)))) (fC (fun ww hv => hf29 ww (ex_load rfl rfl (run_load1 rtna32 (hv.load 4 3 rfl rfl)))) fN)) ?_
 simp only [zP, po]
 refine dS rfl fun w34 hv => ?_
 obtain ⟨D35, hD35, hv, hrD35, hoD35, -⟩ := (hv.cellRow (n := 2) (c := 2) (size := 1) rfl (by decide) (by decide)).rowBy
 refine mC k3callable26 rfl ((ref20Strs D35 _ _ _ _ [([97] : List UInt8), ([98] : List UInt8)] hrD35 (by decide) hv).mono ?_) rfl
 rintro e w36 ⟨E1, ve1, hE1, rfl, hrq1, hv⟩
 refine ⟨_, rfl, dV hv (fC (fun ww hv => hf30 ww (ex_load rfl rfl (run_loadR (cs := [vI 5, vS [], vI 0, .slice la1 (([[97], [98]] : List (List UInt8)).length) lc1]) rswd34 (Reads.mid (pre := []) (mid := [vI 5, vS [], vI 0, .slice la1 (([[97], [98]] : List (List UInt8)).length) lc1]) (post := []) hrl1 _ _ _ (((hD23.trans hC2).trans hD35).trans hE1) no_res hv)))) (fC (fun ww hv => hf29 ww (ex_load rfl rfl (run_load1 rtna32 (hv.load 3 3 rfl rfl)))) fN)) ?_⟩
 refine dS rfl fun w37 hv => mC k0callable22 rfl (((sameR_strs (B := E1) (l := ([[97], [98]] : List (List UInt8))) (by decide)) _ _ (rpCells 5 [] 0 (.slice la1 ([[97], [98]] : List (List UInt8)).length lc1)) (rpCells 5 [] 0 ve1) (hrs1.more (((hD23.trans hC2).trans hD35).trans hE1)) (hrq1.more (Base.Le.refl _)) hv).mono ?_) rfl
 rintro e w38 ⟨rfl, hv⟩
 refine ⟨_, rfl, dV hv (fK rfl (fK rfl fN)) ?_⟩
 refine dK true (.bool true) rfl ?_
 simp only [zP, po]
 refine dM (.bool true) rfl (dG (.pointer (some ⟨b25, 3, none⟩)) rfl (ex_field rfl rfl (rtfa34_3 _ _ _)) ?_)
 refine dL _ rfl (fun hv => ex_load rfl rfl (run_load1 rtna32 (hv.load 0 3 rfl rfl))) ?_
 simp only [zP, po]
 refine dG (vI 2) rfl (ex_len0 Tryz.underlying32 rfl rfl) (dG (.bool true) rfl (ex_eql rfl rfl rfl (by decide)) ?_)
 refine dK true (.bool true) rfl ?_
 simp only [zP, po]
 refine dM (.bool true) rfl (dG (.pointer (some ⟨b25, 3, none⟩)) rfl (ex_field rfl rfl (rtfa34_3 _ _ _)) ?_)
 refine dL _ rfl (fun hv => ex_load rfl rfl (run_load1 rtna32 (hv.load 0 3 rfl rfl))) ?_
 simp only [zP, po]
 refine dG (.pointer (some ⟨rb2, ro2 + 0 * 4, none⟩)) rfl (ex_index rfl rfl rfl (run_idx (k := 0) Tryz.underlying32 k0es32 (by omega))) (dG (.pointer (some ⟨rb2, ro2 + 0 * 4 + 1, none⟩)) rfl (ex_field rfl rfl (k0fa34_1 _ _ _)) ?_)
 refine dL _ rfl (fun hv => ex_load rfl rfl (run_load1 s9na9 (hrd2 _ _ _ (hD35.trans hE1) no_res hv 1 _ rfl))) ?_
 simp only [zP, po]
 refine dG (.bool true) rfl (ex_seql rfl rfl rfl (qT (by decide))) (dK true (.bool true) rfl ?_)
 refine dM (.bool true) rfl ?_
 simp only [zP, po]
 refine dG (.pointer (some ⟨b25, 3, none⟩)) rfl (ex_field rfl rfl (rtfa34_3 _ _ _)) (dF _ rfl (fun hv => ex_load rfl rfl (run_load1 rtna32 (hv.load 0 3 rfl rfl))) fun f39 hf39 => ?_)
 refine dG (.pointer (some ⟨rb2, ro2 + 1 * 4, none⟩)) rfl (ex_index rfl rfl rfl (run_idx (k := 1) Tryz.underlying32 k0es32 (by omega))) ?_
 simp only [zP, po]
 refine dF (.agg #[vI 5, vS [], vI 0, .slice la2 (([[99]] : List (List UInt8)).length) lc2]) rfl (fun hv => ex_load rfl rfl (run_loadR (cs := [vI 5, vS [], vI 0, .slice la2 (([[99]] : List (List UInt8)).length) lc2]) rswd34 (Reads.mid (pre := []) (mid := [vI 5, vS [], vI 0, .slice la2 (([[99]] : List (List UInt8)).length) lc2]) (post := []) hrl2 _ _ _ (hD35.trans hE1) no_res hv))) fun f40 hf40 => dS rfl fun w41 hv => mem_row1 (v := vS [99]) rfl rfl rfl hv k3el26 rfl (fun b42 w43 hv => ?_)
 refine dV hv (fC (fun ww hv => hf40 ww (ex_load rfl rfl (run_loadR (cs := [vI 5, vS [], vI 0, .slice la2 (([[99]] : List (List UInt8)).length) lc2]) rswd34 (Reads.mid (pre := []) (mid := [vI 5, vS [], vI 0, .slice la2 (([[99]] : List (List UInt8)).length) lc2]) (post := []) hrl2 _ _ _ (hD35.trans hE1) no_res hv)))) (fC (fun ww hv => hf39 ww (ex_load rfl rfl (run_load1 rtna32 (hv.load 1 3 rfl rfl)))) (fK rfl (fK rfl fN)))) (dS rfl fun w44 hv => ?_)
 obtain ⟨D45, hD45, hv, hrD45, hoD45, -⟩ := (hv.cellRow (n := 1) (c := 1) (size := 1) rfl (by decide) (by decide)).rowBy
 refine mC k3callable26 rfl ((ref20Strs D45 _ _ _ _ [([99] : List UInt8)] hrD45 (by decide) hv).mono ?_) rfl
 rintro e w46 ⟨E2, ve2, hE2, rfl, hrq2, hv⟩
 refine ⟨_, rfl, dV hv (fC (fun ww hv => hf40 ww (ex_load rfl rfl (run_loadR (cs := [vI 5, vS [], vI 0, .slice la2 (([[99]] : List (List UInt8)).length) lc2]) rswd34 (Reads.mid (pre := []) (mid := [vI 5, vS [], vI 0, .slice la2 (([[99]] : List (List UInt8)).length) lc2]) (post := []) hrl2 _ _ _ (((hD35.trans hE1).trans hD45).trans hE2) no_res hv)))) (fC (fun ww hv => hf39 ww (ex_load rfl rfl (run_load1 rtna32 (hv.load 0 3 rfl rfl)))) (fK rfl (fK rfl fN)))) ?_⟩
 simp only [zP, po]
 refine dS rfl fun w47 hv => mC k0callable22 rfl (((sameR_strs (B := E2) (l := ([[99]] : List (List UInt8))) (by decide)) _ _ (rpCells 5 [] 0 (.slice la2 ([[99]] : List (List UInt8)).length lc2)) (rpCells 5 [] 0 ve2) (hrs2.more (((hD35.trans hE1).trans hD45).trans hE2)) (hrq2.more (Base.Le.refl _)) hv).mono ?_) rfl
 rintro e w48 ⟨rfl, hv⟩
 refine ⟨_, rfl, dV hv (fK rfl (fK rfl (fK rfl (fK rfl fN)))) ?_⟩
 refine dK true (.bool true) rfl (dA (.bool true) rfl ?_)
 refine dE fun w49 hv => ?_
 simp only [zP, po]
 refine tK k28 (rR ?_)
 refine bR rfl rfl (⟨rfl, ((hv.kp [] 0 4)).weak ((((((((((hD1.trans hD2).trans hD3).trans hD15).trans hC1).trans hD23).trans hC2).trans hD35).trans hE1).trans hD45).trans hE2)⟩)
section
variable {M M' : List (List UInt8 × Ver)} {clk : Int} {k l : List UInt8} {y : Ver} {ok : Bool} {r : Rp} {ec : Int}
def gotM (M : List (List UInt8 × Ver)) (clk : Int) (k : List UInt8) : Option Ver := match lookA M k with
 | some y => if aliveB y clk = true then some y else none
 | none => none
theorem got_of (h : (ok = true ∧ lookA M k = some y ∧ aliveB y clk = true) ∨ (ok = false ∧ y = zver0 ∧ ∀ y9, lookA M k = some y9 → aliveB y9 clk = false)) : (ok = true ∧ gotM M clk k = some y) ∨ (ok = false ∧ y = zver0 ∧ gotM M clk k = none) := by
 rcases h with ⟨h1, h2, h3⟩ | ⟨h1, h2, h3⟩
 ·exact .inl ⟨h1, by unfold gotM; rw [h2]; exact if_pos h3⟩
 refine .inr ⟨h1, h2, ?_⟩
 unfold gotM
 cases hl : lookA M k with
 | none => rfl
 | some y9 => exact if_neg (by rw [h3 y9 hl]; decide)
def DelI (M : List (List UInt8 × Ver)) (ks : List (List UInt8)) (ec : Int) (M' : List (List UInt8 × Ver)) : Prop := (ec = 0 ∧ (∀ k ∈ ks, k.length ≤ 256) ∧ M' = delM M ks) ∨ (ec ≠ 0 ∧ (∃ k ∈ ks, 256 < k.length) ∧ M' = M)
theorem delI_of {ks : List (List UInt8)} {B : Base} {es es' : List (List UInt8 × Value)} (hM : VM B es M) (h : (ec = 0 ∧ ks.any (fun s : List UInt8 => decide (s.length > 256)) = false ∧ VM B es' (delM M ks)) ∨ (ec = 2 ∧ ks.any (fun s : List UInt8 => decide (s.length > 256)) = true ∧ es' = es)) : ∃ M', VM B es' M' ∧ DelI M ks ec M' := by
 rcases h with ⟨h1, h2, h3⟩ | ⟨h1, h2, rfl⟩
 ·refine ⟨_, h3, .inl ⟨h1, fun k hk => ?_, rfl⟩⟩
  have := List.any_eq_false.1 h2 k hk
  simp only [decide_eq_true_eq] at this
  omega
 obtain ⟨k, h3, h4⟩ := List.any_eq_true.1 h2
 exact ⟨M, hM, .inr ⟨by omega, ⟨k, h3, of_decide_eq_true h4⟩, rfl⟩⟩
def stepK (M : List (List UInt8 × Ver)) (clk : Int) (acc : List (List UInt8)) (x : List UInt8) : List (List UInt8) := if x ∈ acc then acc else if (gotM M clk x).isSome then acc ++ [x] else acc
def dropK (M : List (List UInt8 × Ver)) (clk : Int) (ks : List (List UInt8)) : List (List UInt8) := ks.foldl (stepK M clk) []
theorem dropK_next {ks : List (List UInt8)} {i : Nat} {x : List UInt8} (hx : ks[i]? = some x) : dropK M clk (ks.take (i + 1)) = stepK M clk (dropK M clk (ks.take i)) x := by
 unfold dropK
 rw [take_next hx, List.foldl_append]; rfl
theorem stepK_in {acc : List (List UInt8)} {x : List UInt8} (h : x ∈ acc) : stepK M clk acc x = acc := if_pos h
theorem stepK_no {acc : List (List UInt8)} {x : List UInt8} (h : gotM M clk x = none) : stepK M clk acc x = acc := by
 unfold stepK; rw [h]; split <;> rfl
theorem stepK_add {acc : List (List UInt8)} {x : List UInt8} (h : x ∉ acc) (h2 : gotM M clk x ≠ none) : stepK M clk acc x = acc ++ [x] := by
 unfold stepK
 rw [if_neg h]
 cases hg : gotM M clk x with
 | none => exact absurd hg h2
 | some y => rfl
theorem dropK_le {ks : List (List UInt8)} : ∀ (i : Nat), i ≤ ks.length → (dropK M clk (ks.take i)).length ≤ i := fun i => by
 induction i with
 | zero => intro _; exact Nat.le_refl _
 | succ i ih =>
  intro hi
  rw [dropK_next (List.getElem?_eq_getElem (show i < ks.length by omega))]
  have := ih (by omega)
  unfold stepK
  split
  ·omega
  split
  ·rw [List.length_append, List.length_singleton]; omega
  omega
def SeenK (es : List (List UInt8 × Value)) (gn : List (List UInt8)) : Prop := ∀ q, (lookA es q = none ∧ q ∉ gn) ∨ (lookA es q = some (.agg #[]) ∧ q ∈ gn)
theorem SeenK.nil : SeenK [] [] := fun _ => .inl ⟨rfl, List.not_mem_nil⟩
theorem SeenK.upd {es : List (List UInt8 × Value)} {gn : List (List UInt8)} {x : List UInt8} (h : SeenK es gn) : SeenK (updA es x (.agg #[])) (gn ++ [x]) := fun q => by
 rw [look_upd]
 split
 ·rename_i e; exact .inr ⟨rfl, by rw [List.mem_append, List.mem_singleton]; first | exact .inr e | exact .inr e.symm⟩
 rename_i e
 rcases h q with ⟨h1, h2⟩ | ⟨h1, h2⟩
 ·refine .inl ⟨h1, fun h9 => ?_⟩
  rcases List.mem_append.1 h9 with h9 | h9
  ·exact h2 h9
  first | exact e (List.mem_singleton.1 h9) | exact e (List.mem_singleton.1 h9).symm
 exact .inr ⟨h1, List.mem_append_left _ h2⟩
def manyK (M : List (List UInt8 × Ver)) (clk : Int) (ks : List (List UInt8)) : Nat := (ks.filter fun k => (gotM M clk k).isSome).length
theorem manyK_yes {ks : List (List UInt8)} {i : Nat} {x : List UInt8} (hx : ks[i]? = some x) (h : gotM M clk x = some y) : manyK M clk (ks.take (i + 1)) = manyK M clk (ks.take i) + 1 := by
 unfold manyK
 rw [take_next hx, List.filter_append]; simp [h]
theorem manyK_no {ks : List (List UInt8)} {i : Nat} {x : List UInt8} (hx : ks[i]? = some x) (h : gotM M clk x = none) : manyK M clk (ks.take (i + 1)) = manyK M clk (ks.take i) := by
 unfold manyK
 rw [take_next hx, List.filter_append]; simp [h]
def RenameR (M : List (List UInt8 × Ver)) (clk : Int) (k l : List UInt8) (M' : List (List UInt8 × Ver)) (r : Rp) : Prop :=
 (gotM M clk k = none ∧ M' = M ∧ IsF r) ∨ ∃ y, gotM M clk k = some y ∧ ((k = l ∧ M' = M ∧ r = rText [79, 75]) ∨ (k ≠ l ∧ ∃ e M1, KeepI M clk l y.val y.expire e M1 ∧ ((e ≠ 0 ∧ M' = M1 ∧ IsF r) ∨ (e = 0 ∧ ∃ e2, DelI M1 [k] e2 M' ∧ DoneR e2 (rText [79, 75]) r))))
def RenamenxR (M : List (List UInt8 × Ver)) (clk : Int) (k l : List UInt8) (M' : List (List UInt8 × Ver)) (r : Rp) : Prop :=
 (gotM M clk k = none ∧ M' = M ∧ IsF r) ∨ (gotM M clk k ≠ none ∧ ((gotM M clk l ≠ none ∧ M' = M ∧ r = rInt 0) ∨ (gotM M clk l = none ∧ ∃ r1, RenameR M clk k l M' r1 ∧ ((IsF r1 ∧ r = r1) ∨ (¬ IsF r1 ∧ r = rInt 1)))))
def CopyR (M : List (List UInt8 × Ver)) (clk : Int) (k l : List UInt8) (ws : List (List UInt8)) (M' : List (List UInt8 × Ver)) (r : Rp) : Prop :=
 (ws ≠ [] ∧ M' = M ∧ IsF r) ∨ ((gotM M clk k = none ∨ k = l ∨ (ws = [] ∧ gotM M clk l ≠ none)) ∧ M' = M ∧ r = rInt 0) ∨ (∃ y, gotM M clk k = some y ∧ k ≠ l ∧ (ws = [] → gotM M clk l = none) ∧ ∃ e, KeepI M clk l y.val y.expire e M' ∧ DoneR e (rInt 1) r)
end
theorem k6fa80_0 : FA Tryz.prog 80 0 0 := fun w b o => by kernel_rfl
theorem k6na24 (w : World) : (isAgg 24).run Tryz.prog w = .ok false w := by kernel_rfl
theorem k6al50 : AL Tryz.prog 50 [vI 0, .bool false, vI 0, vI 0, vS [], vN, vN, vN] := fun w => by kernel_rfl
theorem ckHas (B : Base) (H : List Res) (w : World) (v t m s p wb : Nat) (va : Option Addr) (vc : Nat) (sv : Value) (clk : Int) (es : List (List UInt8 × Value)) (M : List (List UInt8 × Ver)) (hM : VM B es M) (aa : Option Addr) (an ac : Nat) (k : List UInt8) (hv : Inv B (Res.cell v [.iface 100 (vP t)] 56 :: txR t m s p wb va vc sv clk es :: H) w) :
  Calls Tryz.prog 76 #[.agg #[vP v, .slice aa an ac], vS k] w fun e w' => ∃ C b, B.Le C ∧ e = .returned (.bool b) ∧ ((b = true ∧ gotM M clk k ≠ none) ∨ (b = false ∧ gotM M clk k = none)) ∧ Inv C (Res.cell v [.iface 100 (vP t)] 56 :: txR t m s p wb va vc sv clk es :: H) w' := by
 refine cW Tryz.func76 rfl Tryz.ntmps76 ?_
 simp only [al]
 refine sK fun _ k1 => rL (sl_box (L := [vP v, .slice aa an ac]) tV (wn rfl) rfl rfl hv (fun w => by kernel_rfl) (fun b2 w3 hv => ?_))
 refine uA rfl (uW k1 ?_)
 refine sK fun _ k4 => rL (uF (vP b2) rfl (k6fa80_0 _ _ _) ?_)
 refine uL _ rfl (run_load1 k6na24 (hv.load 0 0 rfl rfl)) ?_
 refine uG (vP v) rfl (ex_nil rfl rfl) ?_
 refine uF (vP v) rfl (v1fa56_0 _ _ _) ?_
 refine uL _ rfl (run_load1 v1na54 (hv.load 1 0 rfl rfl)) (uM rfl ?_)
 replace hv := hv.front 2 rfl
 simp only [eS, eZ] at hv
 refine wpi_callI v1callable215 tV wideC rfl (wn rfl) rfl rfl (r := vP t) (fun w => by kernel_rfl) (args := #[vS k]) (by simp only [List.map_toArray, List.map_cons, List.map_nil]; rfl) ((txnGet B _ _ t m s p wb va vc sv clk es M k (hM.more (Base.Le.refl _)) hv).mono ?_)
 rintro e w5 ⟨G, y, yp, yt, yz, oky, hG, rfl, hgot, hyv, hv⟩
 refine ⟨_, rfl, ?_⟩
 rcases got_of hgot with ⟨rfl, hg⟩ | ⟨rfl, rfl, hg⟩
 ·refine uM rfl (uE rfl ?_)
  refine uE rfl ?_
  refine sl_alloc tV (wn rfl) rfl hv k6al50 (fun b6 w7 hv => ?_)
  refine xS 0 rfl hv x0sz50 rfl (by exact ⟨rfl, rfl, rfl, rfl, rfl, hyv.p.one, hyv.t.one, hyv.z.one, trivial⟩) (fun w8 hv => ?_)
  simp only [zO, sp] at hv
  refine uA rfl (uW k4 ?_)
  refine sK fun _ k9 => rL (uM rfl ?_)
  refine uA rfl (uW k9 ?_)
  refine rR (bR rfl rfl ?_)
  exact ⟨G, _, hG, rfl, .inl ⟨rfl, by rw [hg]; exact Option.some_ne_none _⟩, (hv.kp [1, 3] 2 2)⟩
 refine uM rfl (uE rfl ?_)
 refine uE rfl ?_
 refine sl_alloc tV (wn rfl) rfl hv k6al50 (fun b10 w11 hv => ?_)
 refine xS 0 rfl hv x0sz50 rfl (by exact ⟨rfl, rfl, rfl, rfl, rfl, hyv.p.one, hyv.t.one, hyv.z.one, trivial⟩) (fun w12 hv => ?_)
 simp only [zO, sp] at hv
 refine uA rfl (uW k4 ?_)
 refine sK fun _ k13 => rL (uM rfl ?_)
 refine uA rfl (uW k13 ?_)
 refine rR (bR rfl rfl ?_)
 exact ⟨G, _, hG, rfl, .inr ⟨rfl, hg⟩, (hv.kp [1, 3] 2 2)⟩
theorem rp_kind {B : Base} {r : Rp} {k : Int} {s : List UInt8} {n : Int} {v : Value} (h : RpAt B r (rpCells k s n v)) : r.kind = k := by
 cases r; simp only [RpAt] at h
 obtain ⟨v2, xs, h1, -⟩ := h
 simp only [List.cons.injEq, Value.int.injEq, true_and] at h1
 exact h1.1.symm
theorem k6al34 : AL Tryz.prog 34 [vI 0, vS [], vI 0, vN] := fun w => by kernel_rfl
theorem k6callable58 : Callable Tryz.prog 58 := cb Tryz.func58 (by kernel_rfl)
theorem k6callable16 : Callable Tryz.prog 16 := cb Tryz.func16 (by kernel_rfl)
theorem k6mk9 : (Tryz.prog.info? 9).map (fun i => (i.zero, i.size, i.bytes)) = some (some (vS []), 1, 16) := by kernel_rfl
theorem k6el26 : Elem Tryz.prog 26 9 (vS []) 1 16 := elem_of Tryz.underlying26 k6mk9 (by rfl) (by decide)
theorem k6callable56 : Callable Tryz.prog 56 := cb Tryz.func56 (by kernel_rfl)
theorem ckRename (B : Base) (H : List Res) (w : World) (v t m s p wb : Nat) (va : Option Addr) (vc : Nat) (sv : Value) (clk : Int) (es : List (List UInt8 × Value)) (M : List (List UInt8 × Ver)) (hM : VM B es M) (aa : Option Addr) (an ac : Nat) (k l : List UInt8) (hv : Inv B (Res.cell v [.iface 100 (vP t)] 56 :: txR t m s p wb va vc sv clk es :: H) w) :
  Calls Tryz.prog 61 #[.agg #[vP v, .slice aa an ac], vS k, vS l] w fun e w' => ∃ C es' M' r cs, B.Le C ∧ e = .returned (.agg cs.toArray) ∧ RpAt C r cs ∧ VM C es' M' ∧ RenameR M clk k l M' r ∧ Inv C (Res.cell v [.iface 100 (vP t)] 56 :: txR t m s p wb va vc sv clk es' :: H) w' := by
 refine cW Tryz.func61 rfl Tryz.ntmps61 ?_
 simp only [al]
 refine sK fun _ k1 => rL (sl_box (L := [vP v, .slice aa an ac]) tV (wn rfl) rfl rfl hv (fun w => by kernel_rfl) (fun b2 w3 hv => ?_))
 refine sl_alloc tV (wn rfl) rfl hv k6al34 (fun b4 w5 hv => ?_)
 refine uW k1 (sK fun _ k6 => ?_)
 refine rL (uF (vP b2) rfl (k6fa80_0 _ _ _) ?_)
 refine uL _ rfl (run_load1 k6na24 (hv.load 1 0 rfl rfl)) ?_
 refine uG (vP v) rfl (ex_nil rfl rfl) ?_
 refine uF (vP v) rfl (v1fa56_0 _ _ _) ?_
 refine uL _ rfl (run_load1 v1na54 (hv.load 2 0 rfl rfl)) (uM rfl ?_)
 replace hv := hv.front 3 rfl
 simp only [eS, eZ] at hv
 refine wpi_callI v1callable215 tV wideC rfl (wn rfl) rfl rfl (r := vP t) (fun w => by kernel_rfl) (args := #[vS k]) (by simp only [List.map_toArray, List.map_cons, List.map_nil]; rfl) ((txnGet B _ _ t m s p wb va vc sv clk es M k (hM.more (Base.Le.refl _)) hv).mono ?_)
 rintro e w7 ⟨G, y, yp, yt, yz, oky, hG, rfl, hgot, hyv, hv⟩
 refine ⟨_, rfl, ?_⟩
 rcases got_of hgot with ⟨rfl, hg⟩ | ⟨rfl, rfl, hg⟩
 ·refine uM rfl (uE rfl ?_)
  refine uE rfl ?_
  refine sl_alloc tV (wn rfl) rfl hv k6al50 (fun b8 w9 hv => ?_)
  refine xS 0 rfl hv x0sz50 rfl (by exact ⟨rfl, rfl, rfl, rfl, rfl, hyv.p.one, hyv.t.one, hyv.z.one, trivial⟩) (fun w10 hv => ?_)
  simp only [zO, sp] at hv
  refine uA rfl (uW k6 ?_)
  refine sK fun _ k11 => sK fun _ k12 => rL (uM rfl ?_)
  refine uG (.bool false) rfl (ex_not rfl rfl rfl) (uW k12 ?_)
  refine cF rfl (kS ?_)
  refine tK k11 (sK fun _ k13 => ?_)
  refine sK fun _ k14 => rL (uM rfl ?_)
  refine uM rfl ?_
  by_cases hb15 : k = l
  ·refine uG (.bool true) rfl (ex_seql rfl rfl rfl (qT hb15)) (uW k14 ?_)
   refine cT rfl (sK fun _ k16 => ?_)
   refine rL (xC k6callable58 rfl ((respText G _ _ ([79, 75] : List UInt8) hv).mono ?_) rfl)
   rintro e w17 ⟨rfl, hv⟩
   refine ⟨_, rfl, ?_⟩
   refine xS 2 rfl hv rssz34 rfl (by exact ⟨rfl, rfl, rfl, rfl, trivial⟩) (fun w18 hv => ?_)
   simp only [zS, zO, sp] at hv
   refine uW k16 (rR ?_)
   refine tR (bC 2 rswd34 hv rfl rfl rfl rfl ?_)
   exact ⟨G, es, M, (.mk 0 ([79, 75] : List UInt8) 0 []), _, hG, rfl, rpAt_leaf, hM.more hG, .inr ⟨y, hg, .inl ⟨hb15, rfl, rfl⟩⟩, (hv.kp [1, 4] 2 3)⟩
  refine uG (.bool false) rfl (ex_seql rfl rfl rfl (qF hb15)) (uW k14 ?_)
  refine cF rfl (kS ?_)
  refine tK k13 (sK fun _ k19 => ?_)
  refine sK fun _ k20 => rL (uF (vP b2) rfl (k6fa80_0 _ _ _) ?_)
  refine uL _ rfl (run_load1 k6na24 (hv.load 3 0 rfl rfl)) (uM rfl ?_)
  refine uF (.pointer (some ⟨b8, 3, none⟩)) rfl (x2fa50_3 _ _ _) ?_
  refine uL (.agg #[vI y.val.kind, vS y.val.text, yp, yt, yz]) rfl (lM 0 s1wd43 hv rfl rfl rfl rfl) ?_
  refine uF (.pointer (some ⟨b8, 2, none⟩)) rfl (s2fa50_2 _ _ _) ?_
  refine uL _ rfl (run_load1 s2na3 (hv.load 0 2 rfl rfl)) ?_
  replace hv := hv.front 1 rfl
  simp only [eS, eZ] at hv
  replace hv := hv.front 4 rfl
  simp only [eS, eZ] at hv
  refine xC k6callable16 rfl ((viewKeep G _ _ v t m s p wb va vc sv clk es M l y.val yp yt yz y.expire (hM.more hG) (hyv.more (Base.Le.refl _)) hv).mono ?_) rfl
  rintro e w21 ⟨D, es1, M1, e1, hD, rfl, hM1, hkp, hv⟩
  refine ⟨_, rfl, uA rfl ?_⟩
  refine uW k20 (sK fun _ k22 => ?_)
  refine rL (uM rfl ?_)
  by_cases hb23 : e1 ≠ 0
  ·refine uG (.bool true) rfl (ex_neq rfl rfl rfl (qT hb23)) (uW k22 ?_)
   refine cT rfl (sK fun _ k24 => ?_)
   refine rL (uM rfl ?_)
   refine xC rscallable29 rfl ((viewWrong D _ _ e1 hv).mono ?_) rfl
   rintro e w26 ⟨s25, rfl, hv⟩
   refine ⟨_, rfl, ?_⟩
   refine xS 3 rfl hv rssz34 rfl (by exact ⟨rfl, rfl, rfl, rfl, trivial⟩) (fun w27 hv => ?_)
   simp only [zS, zO, sp] at hv
   refine uW k24 (rR ?_)
   refine tR (bC 3 rswd34 hv rfl rfl rfl rfl ?_)
   exact ⟨D, es1, M1, (.mk 1 s25 0 []), _, (hG.trans hD), rfl, rpAt_leaf, hM1.more (Base.Le.refl _), .inr ⟨y, hg, .inr ⟨hb15, e1, M1, hkp, .inl ⟨by omega, rfl, rfl⟩⟩⟩, (hv.kp [1, 1] 2 3)⟩
  refine uG (.bool false) rfl (ex_neq rfl rfl rfl (qF hb23)) (uW k22 ?_)
  refine cF rfl (kS ?_)
  refine tK k19 (sK fun _ k28 => ?_)
  refine rL (uF (vP b2) rfl (k6fa80_0 _ _ _) ?_)
  refine uL _ rfl (run_load1 k6na24 (hv.load 4 0 rfl rfl)) ?_
  refine uG (vP v) rfl (ex_nil rfl rfl) ?_
  refine uF (vP v) rfl (v1fa56_0 _ _ _) ?_
  refine uL _ rfl (run_load1 v1na54 (hv.load 0 0 rfl rfl)) (uM rfl ?_)
  refine sl_rowOne (v := vS k) tV (wn rfl) rfl rfl hv k6el26 rfl (fun b29 w30 hv => ?_)
  obtain ⟨K31, hK31, hv, hrkK31, hokK31, -⟩ := (hv.cellRow (n := 1) (c := 1) (size := 1) rfl (by decide) (by decide)).rowBy
  replace hv := hv.front 1 rfl
  simp only [eS, eZ] at hv
  refine wpi_callI v1callable214 tV wideC rfl (wn rfl) rfl rfl (r := vP t) (fun w => by kernel_rfl) (args := #[.slice (some ⟨b29, 0, none⟩) 1 1]) (by simp only [List.map_toArray, List.map_cons, List.map_nil]; rfl) ((txnDel K31 _ _ t m s p wb va vc sv clk es1 M1 _ 1 [k] hrkK31 (by simp) (hM1.more hK31) hv).mono ?_)
  rintro e w32 ⟨es2, e2, rfl, hdel, hv⟩
  refine ⟨_, rfl, ?_⟩
  obtain ⟨M2, hM2, hdl⟩ := delI_of (hM1.more hK31) hdel
  refine xC k6callable58 rfl ((respText K31 _ _ ([79, 75] : List UInt8) hv).mono ?_) rfl
  rintro e w33 ⟨rfl, hv⟩
  refine ⟨_, rfl, ?_⟩
  simp only [zP, po]
  refine xC k6callable56 rfl ((viewDone K31 _ _ e2 0 0 ([79, 75] : List UInt8) (vN) rfl rfl hv).mono ?_) rfl
  rintro e w34 ⟨xr, hxr, rfl, hv⟩
  refine ⟨_, rfl, ?_⟩
  rcases hxr with ⟨hec0, rfl⟩ | ⟨hec0, s35, rfl⟩
  ·refine xS 3 rfl hv rssz34 rfl (by exact ⟨rfl, rfl, rfl, rfl, trivial⟩) (fun w36 hv => ?_)
   simp only [zS, zO, sp] at hv
   refine uW k28 (rR ?_)
   refine bC 3 rswd34 hv rfl rfl rfl rfl (⟨K31, es2, M2, (.mk 0 ([79, 75] : List UInt8) 0 []), _, ((hG.trans hD).trans hK31), rfl, rpAt_leaf, hM2.more (Base.Le.refl _), .inr ⟨y, hg, .inr ⟨hb15, e1, M1, hkp, .inr ⟨by omega, e2, hdl, .inl ⟨by omega, rfl⟩⟩⟩⟩, (hv.kp [1] 2 3)⟩)
  refine xS 3 rfl hv rssz34 rfl (by exact ⟨rfl, rfl, rfl, rfl, trivial⟩) (fun w37 hv => ?_)
  simp only [zS, zO, sp] at hv
  refine uW k28 (rR ?_)
  refine bC 3 rswd34 hv rfl rfl rfl rfl (⟨K31, es2, M2, (.mk 1 s35 0 []), _, ((hG.trans hD).trans hK31), rfl, rpAt_leaf, hM2.more (Base.Le.refl _), .inr ⟨y, hg, .inr ⟨hb15, e1, M1, hkp, .inr ⟨by omega, e2, hdl, .inr ⟨by omega, rfl⟩⟩⟩⟩, (hv.kp [1] 2 3)⟩)
 refine uM rfl (uE rfl ?_)
 refine uE rfl ?_
 refine sl_alloc tV (wn rfl) rfl hv k6al50 (fun b38 w39 hv => ?_)
 refine xS 0 rfl hv x0sz50 rfl (by exact ⟨rfl, rfl, rfl, rfl, rfl, hyv.p.one, hyv.t.one, hyv.z.one, trivial⟩) (fun w40 hv => ?_)
 simp only [zO, sp] at hv
 refine uA rfl (uW k6 ?_)
 refine sK fun _ k41 => sK fun _ k42 => rL (uM rfl ?_)
 refine uG (.bool true) rfl (ex_not rfl rfl rfl) (uW k42 ?_)
 refine cT rfl (sK fun _ k43 => ?_)
 refine rL (xC rscallable29 rfl ((viewWrong G _ _ 23 hv).mono ?_) rfl)
 rintro e w45 ⟨s44, rfl, hv⟩
 refine ⟨_, rfl, ?_⟩
 refine xS 2 rfl hv rssz34 rfl (by exact ⟨rfl, rfl, rfl, rfl, trivial⟩) (fun w46 hv => ?_)
 simp only [zS, zO, sp] at hv
 refine uW k43 (rR ?_)
 refine tR (bC 2 rswd34 hv rfl rfl rfl rfl ?_)
 exact ⟨G, es, M, (.mk 1 s44 0 []), _, hG, rfl, rpAt_leaf, hM.more hG, .inl ⟨hg, rfl, rfl⟩, (hv.kp [1, 4] 2 3)⟩
theorem k6wd80 : Wide Tryz.prog 80 2 := wide_of (fun w => by kernel_rfl) (by kernel_rfl)
theorem k6callable76 : Callable Tryz.prog 76 := cb Tryz.func76 (by kernel_rfl)
theorem k6callable54 : Callable Tryz.prog 54 := cb Tryz.func54 (by kernel_rfl)
theorem k6callable61 : Callable Tryz.prog 61 := cb Tryz.func61 (by kernel_rfl)
theorem ckRenamenx (B : Base) (H : List Res) (w : World) (v t m s p wb : Nat) (va : Option Addr) (vc : Nat) (sv : Value) (clk : Int) (es : List (List UInt8 × Value)) (M : List (List UInt8 × Ver)) (hM : VM B es M) (aa : Option Addr) (an ac : Nat) (k l : List UInt8) (hv : Inv B (Res.cell v [.iface 100 (vP t)] 56 :: txR t m s p wb va vc sv clk es :: H) w) :
  Calls Tryz.prog 62 #[.agg #[vP v, .slice aa an ac], vS k, vS l] w fun e w' => ∃ C es' M' r cs, B.Le C ∧ e = .returned (.agg cs.toArray) ∧ RpAt C r cs ∧ VM C es' M' ∧ RenamenxR M clk k l M' r ∧ Inv C (Res.cell v [.iface 100 (vP t)] 56 :: txR t m s p wb va vc sv clk es' :: H) w' := by
 refine cW Tryz.func62 rfl Tryz.ntmps62 ?_
 simp only [al]
 refine sK fun _ k1 => rL (sl_box (L := [vP v, .slice aa an ac]) tV (wn rfl) rfl rfl hv (fun w => by kernel_rfl) (fun b2 w3 hv => ?_))
 refine sl_alloc tV (wn rfl) rfl hv k6al34 (fun b4 w5 hv => ?_)
 refine uW k1 (sK fun _ k6 => ?_)
 refine sK fun _ k7 => rL (uL (.agg #[vP v, .slice aa an ac]) rfl (lM 1 k6wd80 hv rfl rfl rfl rfl) ?_)
 refine uM rfl ?_
 replace hv := hv.front 3 rfl
 simp only [eS, eZ] at hv
 replace hv := hv.front 3 rfl
 simp only [eS, eZ] at hv
 refine xC k6callable76 rfl ((ckHas B _ _ v t m s p wb va vc sv clk es M (hM.more (Base.Le.refl _)) aa an ac k hv).mono ?_) rfl
 rintro e w8 ⟨P1, b1, hP1, rfl, hh1, hv⟩
 refine ⟨_, rfl, ?_⟩
 rcases hh1 with ⟨rfl, hg1⟩ | ⟨rfl, hg1⟩
 ·refine uG (.bool false) rfl (ex_not rfl rfl rfl) (uW k7 ?_)
  refine cF rfl (kS ?_)
  refine tK k6 (sK fun _ k9 => ?_)
  refine sK fun _ k10 => rL (uL (.agg #[vP v, .slice aa an ac]) rfl (lM 3 k6wd80 hv rfl rfl rfl rfl) ?_)
  refine uM rfl ?_
  replace hv := hv.front 1 rfl
  simp only [eS, eZ] at hv
  replace hv := hv.front 1 rfl
  simp only [eS, eZ] at hv
  refine xC k6callable76 rfl ((ckHas P1 _ _ v t m s p wb va vc sv clk es M (hM.more hP1) aa an ac l hv).mono ?_) rfl
  rintro e w11 ⟨P2, b2, hP2, rfl, hh2, hv⟩
  refine ⟨_, rfl, ?_⟩
  rcases hh2 with ⟨rfl, hg2⟩ | ⟨rfl, hg2⟩
  ·refine uW k10 (cT rfl ?_)
   refine sK fun _ k12 => rL (xC k6callable54 rfl ((respInt P2 _ _ 0 hv).mono ?_) rfl)
   rintro e w13 ⟨rfl, hv⟩
   refine ⟨_, rfl, ?_⟩
   refine xS 2 rfl hv rssz34 rfl (by exact ⟨rfl, rfl, rfl, rfl, trivial⟩) (fun w14 hv => ?_)
   simp only [zS, zO, sp] at hv
   refine uW k12 (rR ?_)
   refine tR (bC 2 rswd34 hv rfl rfl rfl rfl ?_)
   exact ⟨P2, es, M, (.mk 2 ([] : List UInt8) 0 []), _, (hP1.trans hP2), rfl, rpAt_leaf, hM.more (hP1.trans hP2), .inr ⟨hg1, .inl ⟨hg2, rfl, rfl⟩⟩, (hv.kp [1, 1] 2 2)⟩
  refine uW k10 (cF rfl ?_)
  refine kS (tK k9 ?_)
  refine sK fun _ k15 => sK fun _ k16 => rL (uL (.agg #[vP v, .slice aa an ac]) rfl (lM 3 k6wd80 hv rfl rfl rfl rfl) ?_)
  refine uM rfl (uM rfl ?_)
  replace hv := hv.front 1 rfl
  simp only [eS, eZ] at hv
  replace hv := hv.front 1 rfl
  simp only [eS, eZ] at hv
  refine xC k6callable61 rfl ((ckRename P2 _ _ v t m s p wb va vc sv clk es M (hM.more (hP1.trans hP2)) aa an ac k l hv).mono ?_) rfl
  rintro e w17 ⟨D, es1, M1, r1, cs, hD, rfl, hrp, hM1, hrn, hv⟩
  refine ⟨_, rfl, ?_⟩
  obtain ⟨rk, rs, rn, rv, rfl⟩ := rp_parts hrp
  refine sl_alloc tV (wn rfl) rfl hv k6al34 (fun b18 w19 hv => ?_)
  refine xS 0 rfl hv rssz34 rfl (by exact ⟨rfl, rfl, rfl, hrp.lv.2, trivial⟩) (fun w20 hv => ?_)
  simp only [zO, sp] at hv
  refine uW k16 (sK fun _ k21 => ?_)
  refine rL (uF (vP b18) rfl (k0fa34_0 _ _ _) ?_)
  refine uL _ rfl (run_load1 s2na3 (hv.load 0 0 rfl rfl)) ?_
  by_cases hb22 : rk = 1
  ·refine uG (.bool true) rfl (ex_eql rfl rfl rfl (qT hb22)) (uW k21 ?_)
   refine cT rfl (sK fun _ k23 => ?_)
   refine rL (uL (.agg #[vI rk, vS rs, vI rn, rv]) rfl (lM 0 rswd34 hv rfl rfl rfl rfl) ?_)
   refine xS 3 rfl hv rssz34 rfl (by exact ⟨rfl, rfl, rfl, hrp.lv.2, trivial⟩) (fun w24 hv => ?_)
   simp only [zS, zO, sp] at hv
   refine uW k23 (rR ?_)
   refine tR (bC 3 rswd34 hv rfl rfl rfl rfl ?_)
   exact ⟨D, es1, M1, r1, _, ((hP1.trans hP2).trans hD), rfl, (hrp.more (Base.Le.refl _)), hM1.more (Base.Le.refl _), .inr ⟨hg1, .inr ⟨hg2, r1, hrn, .inl ⟨(rp_kind hrp).trans hb22, rfl⟩⟩⟩, (hv.kp [2, 2] 2 3)⟩
  refine uG (.bool false) rfl (ex_eql rfl rfl rfl (qF hb22)) (uW k21 ?_)
  refine cF rfl (kS ?_)
  refine tK k15 (sK fun _ k25 => ?_)
  refine rL (xC k6callable54 rfl ((respInt D _ _ 1 hv).mono ?_) rfl)
  rintro e w26 ⟨rfl, hv⟩
  refine ⟨_, rfl, ?_⟩
  refine xS 3 rfl hv rssz34 rfl (by exact ⟨rfl, rfl, rfl, rfl, trivial⟩) (fun w27 hv => ?_)
  simp only [zS, zO, sp] at hv
  refine uW k25 (rR ?_)
  refine bC 3 rswd34 hv rfl rfl rfl rfl (⟨D, es1, M1, (.mk 2 ([] : List UInt8) 1 []), _, ((hP1.trans hP2).trans hD), rfl, rpAt_leaf, hM1.more (Base.Le.refl _), .inr ⟨hg1, .inr ⟨hg2, r1, hrn, .inr ⟨fun h9 => hb22 ((rp_kind hrp).symm.trans h9), rfl⟩⟩⟩, (hv.kp [2, 2] 2 3)⟩)
 refine uG (.bool true) rfl (ex_not rfl rfl rfl) (uW k7 ?_)
 refine cT rfl (sK fun _ k28 => ?_)
 refine rL (xC rscallable29 rfl ((viewWrong P1 _ _ 23 hv).mono ?_) rfl)
 rintro e w30 ⟨s29, rfl, hv⟩
 refine ⟨_, rfl, ?_⟩
 refine xS 2 rfl hv rssz34 rfl (by exact ⟨rfl, rfl, rfl, rfl, trivial⟩) (fun w31 hv => ?_)
 simp only [zS, zO, sp] at hv
 refine uW k28 (rR ?_)
 refine tR (bC 2 rswd34 hv rfl rfl rfl rfl ?_)
 exact ⟨P1, es, M, (.mk 1 s29 0 []), _, hP1, rfl, rpAt_leaf, hM.more hP1, .inl ⟨hg1, rfl, rfl⟩, (hv.kp [1, 1] 2 2)⟩
end Go.Proofs.YtngpmolbphinnaaGreatDoor
