/- The reference's Right of values; One; Alive, At, Latest, Prune of chains. -/
import Derived.Test.YtmpackidbgfoiaaGreatDoorCtFauC
import Derived.Test.YtmpackidbgfoiaaGreatDoorCtFauH
import Derived.Test.YtmpackidbgfoiaaGreatDoorCtFauB
import Derived.Test.YtmpackidbgfoiaaGreatDoorRows
import Derived.Test.YtmpackidbgfoiaaGreatDoorCtFauG
import Derived.Test.YtmpackidbgfoiaaGreatDoorCtFauF
import Derived.Lib.LaidTab
import Derived.LaidSub
import Derived.Lib.ItoaNum
import Derived.Deep.LoopGhost
import Derived.Test.YtmpackidbgfoiaaGreatDoorCtFauE
import Derived.Lib.ParseIntBTie
set_option maxRecDepth 100000
set_option maxHeartbeats 16000000
set_option synthInstance.maxSize 4096
set_option synthInstance.maxHeartbeats 400000
namespace Go.Proofs.YtmpackidbgfoiaaGreatDoor
open Go.RowKit Go.Pm
theorem llen {l : List (List UInt8)} (h : listRight l = true) : l.length ≤ 512 := by
 unfold listRight at h
 rw [Bool.and_eq_true, decide_eq_true_iff] at h
 exact h.1
theorem lleft {l : List (List UInt8)} (h : listRight l = true) (i : Nat) (x : List UInt8) (hx : l[i]? = some x) : x.length ≤ 4096 := by
 unfold listRight at h
 rw [Bool.and_eq_true, Bool.not_eq_true', List.any_eq_false] at h
 have := h.2 x (List.mem_of_getElem? hx)
 simp at this
 omega
theorem lright {l : List (List UInt8)} (h : l.length ≤ 512) (hno : ∀ j x, j < l.length → l[j]? = some x → x.length ≤ 4096) : listRight l = true := by
 unfold listRight
 rw [qT h, Bool.true_and, Bool.not_eq_true', List.any_eq_false]
 intro x hx
 obtain ⟨j, hj⟩ := List.mem_iff_getElem?.1 hx
 have := hno j x (List.getElem?_eq_some_iff.1 hj).1 hj
 simp; omega
theorem refRight_0 (B : Base) (H : List Res) (w : World) (v : Val) (ap at2 az : Option Addr) (cp ct cz : Nat) (_ : RdV B [] ap (pairCells v.pairs)) (_ : RdV B [] at2 (textCells v.texts)) (_ : RdV B [] az (memCells v.zset)) (_ : v.pairs.length ≤ 1000000) (_ : v.texts.length ≤ 1000000) (_ : v.zset.length ≤ 1000000) (hk : v.kind < 1 ∨ 5 < v.kind) (hv : Inv B H w) :
  Calls Tryz.prog 17 #[.agg #[vI v.kind, vS v.text, .slice ap v.pairs.length cp, .slice at2 v.texts.length ct, .slice az v.zset.length cz]] w fun e w' => ∃ b, e = .returned (.bool b) ∧ (b = true ↔ ValOk v) ∧ Inv B H w' := by
 refine cW Tryz.func17 rfl Tryz.ntmps17 ?_
 simp only [al]
 refine sK fun _ k1 => rL (sl_box (L := [vI v.kind, vS v.text, .slice ap v.pairs.length cp, .slice at2 v.texts.length ct, .slice az v.zset.length cz]) tV (wn rfl) rfl rfl hv (fun w => by kernel_rfl) (fun b2 w3 hv => ?_))
 refine uA rfl (uW k1 ?_)
 refine sK fun _ k4 => sK fun _ k5 => rL (uF (vP b2) rfl (s12fa60_0 _ _ _) ?_)
 refine uL _ rfl (run_load1 s2na3 (hv.load 0 0 rfl rfl)) ?_
 by_cases hb6 : v.kind < 1
 ·refine uG (.bool true) rfl (ex_lss rfl rfl rfl (qT hb6)) (uM rfl ?_)
  iterate 3 refine uP rfl ?_
  refine uK rfl (uM rfl ?_)
  iterate 8 refine uP rfl ?_
  refine uK rfl (uM rfl ?_)
  iterate 9 refine uP rfl ?_
  refine uK rfl (uM rfl ?_)
  iterate 14 refine uP rfl ?_
  refine uK rfl (uM rfl ?_)
  iterate 9 refine uP rfl ?_
  refine uK rfl (uW k5 ?_)
  refine cT rfl (sK fun _ k7 => ?_)
  refine rL (uA rfl ?_)
  refine uW k7 (rR ?_)
  refine tR (bR rfl rfl ?_)
  exact ⟨false, rfl, ⟨fun h => (by cases h), fun h => by rcases h with ⟨h1, h2, h3, h4, h5⟩ | ⟨h1, h2, h3, h4, h5, h6⟩ | ⟨h1, h2, h3, h4, h5, h6⟩ | ⟨h1, h2, h3, h4, h5, h6⟩ | ⟨h1, h2, h3, h4, h5, h6⟩ <;> first | omega | contradiction | (have h9 := hv.2 h3; cases h9)⟩, (hv.kp [] 0 1)⟩
 refine uG (.bool false) rfl (ex_lss rfl rfl rfl (qF hb6)) (uM rfl ?_)
 refine uF (vP b2) rfl (s12fa60_0 _ _ _) ?_
 refine uL _ rfl (run_load1 s2na3 (hv.load 0 0 rfl rfl)) ?_
 refine uG (.bool true) rfl (ex_gtr rfl rfl rfl (qT (by omega))) (uK rfl ?_)
 refine uM rfl ?_
 iterate 8 refine uP rfl ?_
 refine uK rfl (uM rfl ?_)
 iterate 9 refine uP rfl ?_
 refine uK rfl (uM rfl ?_)
 iterate 14 refine uP rfl ?_
 refine uK rfl (uM rfl ?_)
 iterate 9 refine uP rfl ?_
 refine uK rfl (uW k5 ?_)
 refine cT rfl (sK fun _ k8 => ?_)
 refine rL (uA rfl ?_)
 refine uW k8 (rR ?_)
 refine tR (bR rfl rfl ?_)
 exact ⟨false, rfl, ⟨fun h => (by cases h), fun h => by rcases h with ⟨h1, h2, h3, h4, h5⟩ | ⟨h1, h2, h3, h4, h5, h6⟩ | ⟨h1, h2, h3, h4, h5, h6⟩ | ⟨h1, h2, h3, h4, h5, h6⟩ | ⟨h1, h2, h3, h4, h5, h6⟩ <;> first | omega | contradiction | (have h9 := hv.2 h3; cases h9)⟩, (hv.kp [] 0 1)⟩
theorem refRight_1 (B : Base) (H : List Res) (w : World) (v : Val) (ap at2 az : Option Addr) (cp ct cz : Nat) (_ : RdV B [] ap (pairCells v.pairs)) (_ : RdV B [] at2 (textCells v.texts)) (_ : RdV B [] az (memCells v.zset)) (hpm : v.pairs.length ≤ 1000000) (htm : v.texts.length ≤ 1000000) (hzm : v.zset.length ≤ 1000000) (hk : v.kind = 1) (hv : Inv B H w) :
  Calls Tryz.prog 17 #[.agg #[vI v.kind, vS v.text, .slice ap v.pairs.length cp, .slice at2 v.texts.length ct, .slice az v.zset.length cz]] w fun e w' => ∃ b, e = .returned (.bool b) ∧ (b = true ↔ ValOk v) ∧ Inv B H w' := by
 refine cW Tryz.func17 rfl Tryz.ntmps17 ?_
 simp only [al]
 refine sK fun _ k1 => rL (sl_box (L := [vI v.kind, vS v.text, .slice ap v.pairs.length cp, .slice at2 v.texts.length ct, .slice az v.zset.length cz]) tV (wn rfl) rfl rfl hv (fun w => by kernel_rfl) (fun b2 w3 hv => ?_))
 refine uA rfl (uW k1 ?_)
 refine sK fun _ k4 => sK fun _ k5 => rL (uF (vP b2) rfl (s12fa60_0 _ _ _) ?_)
 refine uL _ rfl (run_load1 s2na3 (hv.load 0 0 rfl rfl)) ?_
 refine uG (.bool false) rfl (ex_lss rfl rfl rfl (qF (by omega))) (uM rfl ?_)
 refine uF (vP b2) rfl (s12fa60_0 _ _ _) ?_
 refine uL _ rfl (run_load1 s2na3 (hv.load 0 0 rfl rfl)) ?_
 refine uG (.bool false) rfl (ex_gtr rfl rfl rfl (qF (by omega))) (uK rfl ?_)
 refine uM rfl ?_
 refine uF (vP b2) rfl (s12fa60_0 _ _ _) ?_
 refine uL _ rfl (run_load1 s2na3 (hv.load 0 0 rfl rfl)) ?_
 refine uG (.bool false) rfl (ex_neq rfl rfl rfl (qF (by omega))) ?_
 refine uM rfl ?_
 iterate 3 refine uP rfl ?_
 refine uK rfl (uK rfl ?_)
 refine uM rfl ?_
 refine uF (vP b2) rfl (s12fa60_0 _ _ _) ?_
 refine uL _ rfl (run_load1 s2na3 (hv.load 0 0 rfl rfl)) ?_
 refine uG (.bool true) rfl (ex_neq rfl rfl rfl (qT (by omega))) ?_
 refine uM rfl ?_
 refine uF (.pointer (some ⟨b2, 2, none⟩)) rfl (s1fa60_2 _ _ _) ?_
 refine uL _ rfl (run_load1 s1na57 (hv.load 0 2 rfl rfl)) ?_
 refine uG (vI (v.pairs.length : Int)) rfl (ex_len0 Tryz.underlying57 rfl rfl) ?_
 by_cases hb6 : (v.pairs.length : Int) > 0
 ·refine uG (.bool true) rfl (ex_gtr rfl rfl rfl (qT hb6)) ?_
  refine uK rfl (uK rfl ?_)
  refine uM rfl ?_
  iterate 14 refine uP rfl ?_
  refine uK rfl (uM rfl ?_)
  iterate 9 refine uP rfl ?_
  refine uK rfl (uW k5 ?_)
  refine cT rfl (sK fun _ k7 => ?_)
  refine rL (uA rfl ?_)
  refine uW k7 (rR ?_)
  refine tR (bR rfl rfl ?_)
  exact ⟨false, rfl, ⟨fun h => (by cases h), fun h => by rcases h with ⟨h1, h2, h3, h4, h5⟩ | ⟨h1, h2, h3, h4, h5, h6⟩ | ⟨h1, h2, h3, h4, h5, h6⟩ | ⟨h1, h2, h3, h4, h5, h6⟩ | ⟨h1, h2, h3, h4, h5, h6⟩ <;> first | omega | contradiction | (have h9 := hv.2 h3; cases h9)⟩, (hv.kp [] 0 1)⟩
 refine uG (.bool false) rfl (ex_gtr rfl rfl rfl (qF hb6)) ?_
 refine uK rfl (uK rfl ?_)
 refine uM rfl ?_
 refine uF (vP b2) rfl (s12fa60_0 _ _ _) ?_
 refine uL _ rfl (run_load1 s2na3 (hv.load 0 0 rfl rfl)) ?_
 refine uG (.bool true) rfl (ex_neq rfl rfl rfl (qT (by omega))) ?_
 refine uM rfl ?_
 refine uF (vP b2) rfl (s12fa60_0 _ _ _) ?_
 refine uL _ rfl (run_load1 s2na3 (hv.load 0 0 rfl rfl)) ?_
 refine uG (.bool true) rfl (ex_neq rfl rfl rfl (qT (by omega))) ?_
 refine uK rfl ?_
 refine uM rfl ?_
 refine uF (.pointer (some ⟨b2, 3, none⟩)) rfl (s1fa60_3 _ _ _) ?_
 refine uL _ rfl (run_load1 s1na23 (hv.load 0 3 rfl rfl)) ?_
 refine uG (vI (v.texts.length : Int)) rfl (ex_len0 Tryz.underlying23 rfl rfl) ?_
 by_cases hb8 : (v.texts.length : Int) > 0
 ·refine uG (.bool true) rfl (ex_gtr rfl rfl rfl (qT hb8)) ?_
  refine uK rfl (uK rfl ?_)
  refine uM rfl ?_
  iterate 9 refine uP rfl ?_
  refine uK rfl (uW k5 ?_)
  refine cT rfl (sK fun _ k9 => ?_)
  refine rL (uA rfl ?_)
  refine uW k9 (rR ?_)
  refine tR (bR rfl rfl ?_)
  exact ⟨false, rfl, ⟨fun h => (by cases h), fun h => by rcases h with ⟨h1, h2, h3, h4, h5⟩ | ⟨h1, h2, h3, h4, h5, h6⟩ | ⟨h1, h2, h3, h4, h5, h6⟩ | ⟨h1, h2, h3, h4, h5, h6⟩ | ⟨h1, h2, h3, h4, h5, h6⟩ <;> first | omega | contradiction | (have h9 := hv.2 h3; cases h9)⟩, (hv.kp [] 0 1)⟩
 refine uG (.bool false) rfl (ex_gtr rfl rfl rfl (qF hb8)) ?_
 refine uK rfl (uK rfl ?_)
 refine uM rfl ?_
 refine uF (vP b2) rfl (s12fa60_0 _ _ _) ?_
 refine uL _ rfl (run_load1 s2na3 (hv.load 0 0 rfl rfl)) ?_
 refine uG (.bool true) rfl (ex_neq rfl rfl rfl (qT (by omega))) ?_
 refine uM rfl ?_
 refine uF (.pointer (some ⟨b2, 4, none⟩)) rfl (s1fa60_4 _ _ _) ?_
 refine uL _ rfl (run_load1 s1na58 (hv.load 0 4 rfl rfl)) ?_
 refine uG (vI (v.zset.length : Int)) rfl (ex_len0 Tryz.underlying58 rfl rfl) ?_
 by_cases hb10 : (v.zset.length : Int) > 0
 ·refine uG (.bool true) rfl (ex_gtr rfl rfl rfl (qT hb10)) ?_
  refine uK rfl (uK rfl ?_)
  refine uW k5 (cT rfl ?_)
  refine sK fun _ k11 => rL (uA rfl ?_)
  refine uW k11 (rR ?_)
  refine tR (bR rfl rfl ?_)
  exact ⟨false, rfl, ⟨fun h => (by cases h), fun h => by rcases h with ⟨h1, h2, h3, h4, h5⟩ | ⟨h1, h2, h3, h4, h5, h6⟩ | ⟨h1, h2, h3, h4, h5, h6⟩ | ⟨h1, h2, h3, h4, h5, h6⟩ | ⟨h1, h2, h3, h4, h5, h6⟩ <;> first | omega | contradiction | (have h9 := hv.2 h3; cases h9)⟩, (hv.kp [] 0 1)⟩
 refine uG (.bool false) rfl (ex_gtr rfl rfl rfl (qF hb10)) ?_
 refine uK rfl (uK rfl ?_)
 refine uW k5 (cF rfl ?_)
 refine kS (tK k4 ?_)
 refine sK fun _ k12 => sK fun _ k13 => rL (uF (vP b2) rfl (s12fa60_0 _ _ _) ?_)
 refine uL _ rfl (run_load1 s2na3 (hv.load 0 0 rfl rfl)) (uW k13 ?_)
 refine bB (sK fun _ k14 => ?_)
 refine rL (uG (.bool true) rfl (ex_eql rfl rfl rfl (qT (by omega))) ?_)
 refine uA rfl (uW k14 ?_)
 refine cT rfl (sK fun _ k15 => ?_)
 refine rL (uF (.pointer (some ⟨b2, 1, none⟩)) rfl (s12fa60_1 _ _ _) ?_)
 refine uL _ rfl (run_load1 s9na9 (hv.load 0 1 rfl rfl)) ?_
 refine uG (vI (v.text.length : Int)) rfl (ex_lenStr Tryz.underlying9 rfl rfl) ?_
 refine uG (.bool (decide ((v.text.length : Int) ≤ 4096))) rfl (ex_leq rfl rfl rfl rfl) (uA rfl ?_)
 refine uW k15 (rR ?_)
 refine bZ (tR ?_)
 refine bR rfl rfl (⟨_, rfl, by rw [decide_eq_true_iff]; exact ⟨fun h9 => .inl ⟨by omega, by omega, by omega, by omega, by omega⟩, fun h => by rcases h with ⟨h1, h2, h3, h4, h5⟩ | ⟨h1, h2, h3, h4, h5, h6⟩ | ⟨h1, h2, h3, h4, h5, h6⟩ | ⟨h1, h2, h3, h4, h5, h6⟩ | ⟨h1, h2, h3, h4, h5, h6⟩ <;> first | omega | (have h9 := llen h3; omega)⟩, (hv.kp [] 0 1)⟩)
theorem s31callable32 : Callable Tryz.prog 32 := cb Tryz.func32 (by kernel_rfl)
theorem refRight_2 (B : Base) (H : List Res) (w : World) (v : Val) (ap at2 az : Option Addr) (cp ct cz : Nat) (hrp : RdV B [] ap (pairCells v.pairs)) (_ : RdV B [] at2 (textCells v.texts)) (_ : RdV B [] az (memCells v.zset)) (hpm : v.pairs.length ≤ 1000000) (htm : v.texts.length ≤ 1000000) (hzm : v.zset.length ≤ 1000000) (hk : v.kind = 2) (hv : Inv B H w) :
  Calls Tryz.prog 17 #[.agg #[vI v.kind, vS v.text, .slice ap v.pairs.length cp, .slice at2 v.texts.length ct, .slice az v.zset.length cz]] w fun e w' => ∃ b, e = .returned (.bool b) ∧ (b = true ↔ ValOk v) ∧ Inv B H w' := by
 refine cW Tryz.func17 rfl Tryz.ntmps17 ?_
 simp only [al]
 refine sK fun _ k1 => rL (sl_box (L := [vI v.kind, vS v.text, .slice ap v.pairs.length cp, .slice at2 v.texts.length ct, .slice az v.zset.length cz]) tV (wn rfl) rfl rfl hv (fun w => by kernel_rfl) (fun b2 w3 hv => ?_))
 refine uA rfl (uW k1 ?_)
 refine sK fun _ k4 => sK fun _ k5 => rL (uF (vP b2) rfl (s12fa60_0 _ _ _) ?_)
 refine uL _ rfl (run_load1 s2na3 (hv.load 0 0 rfl rfl)) ?_
 refine uG (.bool false) rfl (ex_lss rfl rfl rfl (qF (by omega))) (uM rfl ?_)
 refine uF (vP b2) rfl (s12fa60_0 _ _ _) ?_
 refine uL _ rfl (run_load1 s2na3 (hv.load 0 0 rfl rfl)) ?_
 refine uG (.bool false) rfl (ex_gtr rfl rfl rfl (qF (by omega))) (uK rfl ?_)
 refine uM rfl ?_
 refine uF (vP b2) rfl (s12fa60_0 _ _ _) ?_
 refine uL _ rfl (run_load1 s2na3 (hv.load 0 0 rfl rfl)) ?_
 refine uG (.bool true) rfl (ex_neq rfl rfl rfl (qT (by omega))) ?_
 refine uM rfl ?_
 refine uF (.pointer (some ⟨b2, 1, none⟩)) rfl (s12fa60_1 _ _ _) ?_
 refine uL _ rfl (run_load1 s9na9 (hv.load 0 1 rfl rfl)) ?_
 by_cases hb6 : v.text ≠ ([] : List UInt8)
 ·refine uG (.bool true) rfl (ex_sneq rfl rfl rfl (qT hb6)) ?_
  refine uK rfl (uK rfl ?_)
  refine uM rfl ?_
  iterate 9 refine uP rfl ?_
  refine uK rfl (uM rfl ?_)
  iterate 14 refine uP rfl ?_
  refine uK rfl (uM rfl ?_)
  iterate 9 refine uP rfl ?_
  refine uK rfl (uW k5 ?_)
  refine cT rfl (sK fun _ k7 => ?_)
  refine rL (uA rfl ?_)
  refine uW k7 (rR ?_)
  refine tR (bR rfl rfl ?_)
  exact ⟨false, rfl, ⟨fun h => (by cases h), fun h => by rcases h with ⟨h1, h2, h3, h4, h5⟩ | ⟨h1, h2, h3, h4, h5, h6⟩ | ⟨h1, h2, h3, h4, h5, h6⟩ | ⟨h1, h2, h3, h4, h5, h6⟩ | ⟨h1, h2, h3, h4, h5, h6⟩ <;> first | omega | contradiction | (have h9 := hv.2 h3; cases h9)⟩, (hv.kp [] 0 1)⟩
 refine uG (.bool false) rfl (ex_sneq rfl rfl rfl (qF hb6)) ?_
 refine uK rfl (uK rfl ?_)
 refine uM rfl ?_
 refine uF (vP b2) rfl (s12fa60_0 _ _ _) ?_
 refine uL _ rfl (run_load1 s2na3 (hv.load 0 0 rfl rfl)) ?_
 refine uG (.bool false) rfl (ex_neq rfl rfl rfl (qF (by omega))) ?_
 refine uM rfl ?_
 iterate 4 refine uP rfl ?_
 refine uK rfl (uK rfl ?_)
 refine uM rfl ?_
 refine uF (vP b2) rfl (s12fa60_0 _ _ _) ?_
 refine uL _ rfl (run_load1 s2na3 (hv.load 0 0 rfl rfl)) ?_
 refine uG (.bool true) rfl (ex_neq rfl rfl rfl (qT (by omega))) ?_
 refine uM rfl ?_
 refine uF (vP b2) rfl (s12fa60_0 _ _ _) ?_
 refine uL _ rfl (run_load1 s2na3 (hv.load 0 0 rfl rfl)) ?_
 refine uG (.bool true) rfl (ex_neq rfl rfl rfl (qT (by omega))) ?_
 refine uK rfl ?_
 refine uM rfl ?_
 refine uF (.pointer (some ⟨b2, 3, none⟩)) rfl (s1fa60_3 _ _ _) ?_
 refine uL _ rfl (run_load1 s1na23 (hv.load 0 3 rfl rfl)) ?_
 refine uG (vI (v.texts.length : Int)) rfl (ex_len0 Tryz.underlying23 rfl rfl) ?_
 by_cases hb8 : (v.texts.length : Int) > 0
 ·refine uG (.bool true) rfl (ex_gtr rfl rfl rfl (qT hb8)) ?_
  refine uK rfl (uK rfl ?_)
  refine uM rfl ?_
  iterate 9 refine uP rfl ?_
  refine uK rfl (uW k5 ?_)
  refine cT rfl (sK fun _ k9 => ?_)
  refine rL (uA rfl ?_)
  refine uW k9 (rR ?_)
  refine tR (bR rfl rfl ?_)
  exact ⟨false, rfl, ⟨fun h => (by cases h), fun h => by rcases h with ⟨h1, h2, h3, h4, h5⟩ | ⟨h1, h2, h3, h4, h5, h6⟩ | ⟨h1, h2, h3, h4, h5, h6⟩ | ⟨h1, h2, h3, h4, h5, h6⟩ | ⟨h1, h2, h3, h4, h5, h6⟩ <;> first | omega | contradiction | (have h9 := hv.2 h3; cases h9)⟩, (hv.kp [] 0 1)⟩
 refine uG (.bool false) rfl (ex_gtr rfl rfl rfl (qF hb8)) ?_
 refine uK rfl (uK rfl ?_)
 refine uM rfl ?_
 refine uF (vP b2) rfl (s12fa60_0 _ _ _) ?_
 refine uL _ rfl (run_load1 s2na3 (hv.load 0 0 rfl rfl)) ?_
 refine uG (.bool true) rfl (ex_neq rfl rfl rfl (qT (by omega))) ?_
 refine uM rfl ?_
 refine uF (.pointer (some ⟨b2, 4, none⟩)) rfl (s1fa60_4 _ _ _) ?_
 refine uL _ rfl (run_load1 s1na58 (hv.load 0 4 rfl rfl)) ?_
 refine uG (vI (v.zset.length : Int)) rfl (ex_len0 Tryz.underlying58 rfl rfl) ?_
 by_cases hb10 : (v.zset.length : Int) > 0
 ·refine uG (.bool true) rfl (ex_gtr rfl rfl rfl (qT hb10)) ?_
  refine uK rfl (uK rfl ?_)
  refine uW k5 (cT rfl ?_)
  refine sK fun _ k11 => rL (uA rfl ?_)
  refine uW k11 (rR ?_)
  refine tR (bR rfl rfl ?_)
  exact ⟨false, rfl, ⟨fun h => (by cases h), fun h => by rcases h with ⟨h1, h2, h3, h4, h5⟩ | ⟨h1, h2, h3, h4, h5, h6⟩ | ⟨h1, h2, h3, h4, h5, h6⟩ | ⟨h1, h2, h3, h4, h5, h6⟩ | ⟨h1, h2, h3, h4, h5, h6⟩ <;> first | omega | contradiction | (have h9 := hv.2 h3; cases h9)⟩, (hv.kp [] 0 1)⟩
 refine uG (.bool false) rfl (ex_gtr rfl rfl rfl (qF hb10)) ?_
 refine uK rfl (uK rfl ?_)
 refine uW k5 (cF rfl ?_)
 refine kS (tK k4 ?_)
 refine sK fun _ k12 => sK fun _ k13 => rL (uF (vP b2) rfl (s12fa60_0 _ _ _) ?_)
 refine uL _ rfl (run_load1 s2na3 (hv.load 0 0 rfl rfl)) (uW k13 ?_)
 refine bB (sK fun _ k14 => ?_)
 refine rL (uG (.bool false) rfl (ex_eql rfl rfl rfl (qF (by omega))) ?_)
 refine uA rfl (uW k14 ?_)
 refine cF rfl (sK fun _ k15 => ?_)
 refine rL (uG (.bool true) rfl (ex_eql rfl rfl rfl (qT (by omega))) ?_)
 refine uA rfl (uW k15 ?_)
 refine cT rfl (sK fun _ k16 => ?_)
 refine rL (uF (.pointer (some ⟨b2, 2, none⟩)) rfl (s1fa60_2 _ _ _) ?_)
 refine uL _ rfl (run_load1 s1na57 (hv.load 0 2 rfl rfl)) ?_
 refine uG (vI (v.pairs.length : Int)) rfl (ex_len0 Tryz.underlying57 rfl rfl) ?_
 by_cases hb17 : (v.pairs.length : Int) > 0
 ·refine uG (.bool true) rfl (ex_gtr rfl rfl rfl (qT hb17)) (uM rfl ?_)
  refine uF (.pointer (some ⟨b2, 2, none⟩)) rfl (s1fa60_2 _ _ _) ?_
  refine uL _ rfl (run_load1 s1na57 (hv.load 0 2 rfl rfl)) ?_
  refine xC s31callable32 rfl ((refHashRight B _ _ _ _ _ hrp hpm hv).mono ?_) rfl
  rintro e w19 ⟨bl18, rfl, hbl18, hv⟩
  refine ⟨_, rfl, ?_⟩
  cases bl18
  ·refine uK rfl (uA rfl ?_)
   refine uW k16 (rR ?_)
   refine bZ (tR ?_)
   refine bR rfl rfl (⟨false, rfl, ⟨fun h => (by cases h), fun h => by rcases h with ⟨h1, h2, h3, h4, h5⟩ | ⟨h1, h2, h3, h4, h5, h6⟩ | ⟨h1, h2, h3, h4, h5, h6⟩ | ⟨h1, h2, h3, h4, h5, h6⟩ | ⟨h1, h2, h3, h4, h5, h6⟩ <;> first | omega | contradiction | (have h9 := hbl18.2 h3; cases h9)⟩, (hv.kp [] 0 1)⟩)
  refine uK rfl (uA rfl ?_)
  refine uW k16 (rR ?_)
  refine bZ (tR ?_)
  refine bR rfl rfl (⟨true, rfl, ⟨fun _ => .inr (.inl ⟨by omega, by omega, hbl18.1 rfl, Classical.not_not.1 hb6, by omega, by omega⟩), fun _ => rfl⟩, (hv.kp [] 0 1)⟩)
 refine uG (.bool false) rfl (ex_gtr rfl rfl rfl (qF hb17)) (uM rfl ?_)
 iterate 3 refine uP rfl ?_
 refine uK rfl (uA rfl ?_)
 refine uW k16 (rR ?_)
 refine bZ (tR ?_)
 refine bR rfl rfl (⟨false, rfl, ⟨fun h => (by cases h), fun h => by rcases h with ⟨h1, h2, h3, h4, h5⟩ | ⟨h1, h2, h3, h4, h5, h6⟩ | ⟨h1, h2, h3, h4, h5, h6⟩ | ⟨h1, h2, h3, h4, h5, h6⟩ | ⟨h1, h2, h3, h4, h5, h6⟩ <;> first | omega | contradiction | (have h9 := hv.2 h3; cases h9)⟩, (hv.kp [] 0 1)⟩)
theorem refRight_3 (B : Base) (H : List Res) (w : World) (v : Val) (ap at2 az : Option Addr) (cp ct cz : Nat) (_ : RdV B [] ap (pairCells v.pairs)) (hrt : RdV B [] at2 (textCells v.texts)) (_ : RdV B [] az (memCells v.zset)) (hpm : v.pairs.length ≤ 1000000) (htm : v.texts.length ≤ 1000000) (hzm : v.zset.length ≤ 1000000) (hk : v.kind = 3) (hv : Inv B H w) :
  Calls Tryz.prog 17 #[.agg #[vI v.kind, vS v.text, .slice ap v.pairs.length cp, .slice at2 v.texts.length ct, .slice az v.zset.length cz]] w fun e w' => ∃ b, e = .returned (.bool b) ∧ (b = true ↔ ValOk v) ∧ Inv B H w' := by
 refine cW Tryz.func17 rfl Tryz.ntmps17 ?_
 simp only [al]
 refine sK fun _ k1 => rL (sl_box (L := [vI v.kind, vS v.text, .slice ap v.pairs.length cp, .slice at2 v.texts.length ct, .slice az v.zset.length cz]) tV (wn rfl) rfl rfl hv (fun w => by kernel_rfl) (fun b2 w3 hv => ?_))
 refine uA rfl (uW k1 ?_)
 refine sK fun _ k4 => sK fun _ k5 => rL (uF (vP b2) rfl (s12fa60_0 _ _ _) ?_)
 refine uL _ rfl (run_load1 s2na3 (hv.load 0 0 rfl rfl)) ?_
 refine uG (.bool false) rfl (ex_lss rfl rfl rfl (qF (by omega))) (uM rfl ?_)
 refine uF (vP b2) rfl (s12fa60_0 _ _ _) ?_
 refine uL _ rfl (run_load1 s2na3 (hv.load 0 0 rfl rfl)) ?_
 refine uG (.bool false) rfl (ex_gtr rfl rfl rfl (qF (by omega))) (uK rfl ?_)
 refine uM rfl ?_
 refine uF (vP b2) rfl (s12fa60_0 _ _ _) ?_
 refine uL _ rfl (run_load1 s2na3 (hv.load 0 0 rfl rfl)) ?_
 refine uG (.bool true) rfl (ex_neq rfl rfl rfl (qT (by omega))) ?_
 refine uM rfl ?_
 refine uF (.pointer (some ⟨b2, 1, none⟩)) rfl (s12fa60_1 _ _ _) ?_
 refine uL _ rfl (run_load1 s9na9 (hv.load 0 1 rfl rfl)) ?_
 by_cases hb6 : v.text ≠ ([] : List UInt8)
 ·refine uG (.bool true) rfl (ex_sneq rfl rfl rfl (qT hb6)) ?_
  refine uK rfl (uK rfl ?_)
  refine uM rfl ?_
  iterate 9 refine uP rfl ?_
  refine uK rfl (uM rfl ?_)
  iterate 14 refine uP rfl ?_
  refine uK rfl (uM rfl ?_)
  iterate 9 refine uP rfl ?_
  refine uK rfl (uW k5 ?_)
  refine cT rfl (sK fun _ k7 => ?_)
  refine rL (uA rfl ?_)
  refine uW k7 (rR ?_)
  refine tR (bR rfl rfl ?_)
  exact ⟨false, rfl, ⟨fun h => (by cases h), fun h => by rcases h with ⟨h1, h2, h3, h4, h5⟩ | ⟨h1, h2, h3, h4, h5, h6⟩ | ⟨h1, h2, h3, h4, h5, h6⟩ | ⟨h1, h2, h3, h4, h5, h6⟩ | ⟨h1, h2, h3, h4, h5, h6⟩ <;> first | omega | contradiction | (have h9 := hv.2 h3; cases h9)⟩, (hv.kp [] 0 1)⟩
 refine uG (.bool false) rfl (ex_sneq rfl rfl rfl (qF hb6)) ?_
 refine uK rfl (uK rfl ?_)
 refine uM rfl ?_
 refine uF (vP b2) rfl (s12fa60_0 _ _ _) ?_
 refine uL _ rfl (run_load1 s2na3 (hv.load 0 0 rfl rfl)) ?_
 refine uG (.bool true) rfl (ex_neq rfl rfl rfl (qT (by omega))) ?_
 refine uM rfl ?_
 refine uF (.pointer (some ⟨b2, 2, none⟩)) rfl (s1fa60_2 _ _ _) ?_
 refine uL _ rfl (run_load1 s1na57 (hv.load 0 2 rfl rfl)) ?_
 refine uG (vI (v.pairs.length : Int)) rfl (ex_len0 Tryz.underlying57 rfl rfl) ?_
 by_cases hb8 : (v.pairs.length : Int) > 0
 ·refine uG (.bool true) rfl (ex_gtr rfl rfl rfl (qT hb8)) ?_
  refine uK rfl (uK rfl ?_)
  refine uM rfl ?_
  iterate 14 refine uP rfl ?_
  refine uK rfl (uM rfl ?_)
  iterate 9 refine uP rfl ?_
  refine uK rfl (uW k5 ?_)
  refine cT rfl (sK fun _ k9 => ?_)
  refine rL (uA rfl ?_)
  refine uW k9 (rR ?_)
  refine tR (bR rfl rfl ?_)
  exact ⟨false, rfl, ⟨fun h => (by cases h), fun h => by rcases h with ⟨h1, h2, h3, h4, h5⟩ | ⟨h1, h2, h3, h4, h5, h6⟩ | ⟨h1, h2, h3, h4, h5, h6⟩ | ⟨h1, h2, h3, h4, h5, h6⟩ | ⟨h1, h2, h3, h4, h5, h6⟩ <;> first | omega | contradiction | (have h9 := hv.2 h3; cases h9)⟩, (hv.kp [] 0 1)⟩
 refine uG (.bool false) rfl (ex_gtr rfl rfl rfl (qF hb8)) ?_
 refine uK rfl (uK rfl ?_)
 refine uM rfl ?_
 refine uF (vP b2) rfl (s12fa60_0 _ _ _) ?_
 refine uL _ rfl (run_load1 s2na3 (hv.load 0 0 rfl rfl)) ?_
 refine uG (.bool false) rfl (ex_neq rfl rfl rfl (qF (by omega))) ?_
 refine uM rfl ?_
 iterate 3 refine uP rfl ?_
 refine uK rfl ?_
 refine uM rfl ?_
 iterate 4 refine uP rfl ?_
 refine uK rfl (uK rfl ?_)
 refine uM rfl ?_
 refine uF (vP b2) rfl (s12fa60_0 _ _ _) ?_
 refine uL _ rfl (run_load1 s2na3 (hv.load 0 0 rfl rfl)) ?_
 refine uG (.bool true) rfl (ex_neq rfl rfl rfl (qT (by omega))) ?_
 refine uM rfl ?_
 refine uF (.pointer (some ⟨b2, 4, none⟩)) rfl (s1fa60_4 _ _ _) ?_
 refine uL _ rfl (run_load1 s1na58 (hv.load 0 4 rfl rfl)) ?_
 refine uG (vI (v.zset.length : Int)) rfl (ex_len0 Tryz.underlying58 rfl rfl) ?_
 by_cases hb10 : (v.zset.length : Int) > 0
 ·refine uG (.bool true) rfl (ex_gtr rfl rfl rfl (qT hb10)) ?_
  refine uK rfl (uK rfl ?_)
  refine uW k5 (cT rfl ?_)
  refine sK fun _ k11 => rL (uA rfl ?_)
  refine uW k11 (rR ?_)
  refine tR (bR rfl rfl ?_)
  exact ⟨false, rfl, ⟨fun h => (by cases h), fun h => by rcases h with ⟨h1, h2, h3, h4, h5⟩ | ⟨h1, h2, h3, h4, h5, h6⟩ | ⟨h1, h2, h3, h4, h5, h6⟩ | ⟨h1, h2, h3, h4, h5, h6⟩ | ⟨h1, h2, h3, h4, h5, h6⟩ <;> first | omega | contradiction | (have h9 := hv.2 h3; cases h9)⟩, (hv.kp [] 0 1)⟩
 refine uG (.bool false) rfl (ex_gtr rfl rfl rfl (qF hb10)) ?_
 refine uK rfl (uK rfl ?_)
 refine uW k5 (cF rfl ?_)
 refine kS (tK k4 ?_)
 refine sK fun _ k12 => sK fun _ k13 => rL (uF (vP b2) rfl (s12fa60_0 _ _ _) ?_)
 refine uL _ rfl (run_load1 s2na3 (hv.load 0 0 rfl rfl)) (uW k13 ?_)
 refine bB (sK fun _ k14 => ?_)
 refine rL (uG (.bool false) rfl (ex_eql rfl rfl rfl (qF (by omega))) ?_)
 refine uA rfl (uW k14 ?_)
 refine cF rfl (sK fun _ k15 => ?_)
 refine rL (uG (.bool false) rfl (ex_eql rfl rfl rfl (qF (by omega))) ?_)
 refine uA rfl (uW k15 ?_)
 refine cF rfl (sK fun _ k16 => ?_)
 refine rL (uG (.bool false) rfl (ex_eql rfl rfl rfl (qF (by omega))) ?_)
 refine uA rfl (uW k16 ?_)
 refine cF rfl (sK fun _ k17 => ?_)
 refine rL (uG (.bool false) rfl (ex_eql rfl rfl rfl (qF (by omega))) ?_)
 refine uA rfl (uW k17 ?_)
 refine cF rfl (kS ?_)
 refine bN (tK k12 ?_)
 refine sK fun _ k18 => sK fun _ k19 => rL (uA rfl ?_)
 refine uW k19 (bB ?_)
 gi_loopw [3] (fun x3 wr => ∃ (i : Nat), x3 = vI i ∧ i ≤ v.texts.length ∧ (∀ j x, j < i → v.texts[j]? = some x → x.length ≤ 4096) ∧ Inv B (Res.cell b2 [vI v.kind, vS v.text, .slice ap v.pairs.length cp, .slice at2 v.texts.length ct, .slice az v.zset.length cz] 60 :: H) wr) (fun x3 _ => v.texts.length - (intOf x3).toNat)
 case atStart => exact ⟨0, rfl, Nat.zero_le _, fun j x h => by omega, hv⟩
 case round =>
  obtain ⟨i, rfl, hi, hno, hv⟩ := hrel
  refine sK fun _ k21 => sK fun _ k22 => rL (uM rfl ?_)
  refine uF (.pointer (some ⟨b2, 3, none⟩)) rfl (s1fa60_3 _ _ _) ?_
  refine uL _ rfl (run_load1 s1na23 (hv.load 0 3 rfl rfl)) ?_
  refine uG (vI (v.texts.length : Int)) rfl (ex_len0 Tryz.underlying23 rfl rfl) ?_
  by_cases hb23 : (i : Int) < (v.texts.length : Int)
  ·refine uG (.bool true) rfl (ex_lss rfl rfl rfl (qT hb23)) (uW k22 ?_)
   refine cT rfl (kS ?_)
   refine tK k21 (sK fun _ k24 => ?_)
   refine bB (sK fun _ k25 => ?_)
   obtain ⟨x, hx⟩ : ∃ x, v.texts[i]? = some x := ⟨_, List.getElem?_eq_getElem (show i < v.texts.length by omega)⟩
   obtain ⟨bb, bo, had, hrdx⟩ := text_reads hrt hx
   subst had
   refine rL (uF (.pointer (some ⟨b2, 3, none⟩)) rfl (s1fa60_3 _ _ _) ?_)
   refine uL _ rfl (run_load1 s1na23 (hv.load 0 3 rfl rfl)) (uM rfl ?_)
   refine uG (.pointer (some ⟨bb, bo + i, none⟩)) rfl (ex_index rfl rfl rfl (run_idx1 (k := i) Tryz.underlying23 s9es23 (by omega))) ?_
   refine uL _ rfl (run_load1 s9na9 (hrdx _ _ _ (Base.Le.refl _) no_res hv 0 _ rfl)) ?_
   refine uG (vI (x.length : Int)) rfl (ex_lenStr Tryz.underlying9 rfl rfl) ?_
   by_cases hb26 : (x.length : Int) > 4096
   ·refine uG (.bool true) rfl (ex_gtr rfl rfl rfl (qT hb26)) (uW k25 ?_)
    refine cT rfl (sK fun _ k27 => ?_)
    refine rL (uA rfl ?_)
    refine uW k27 (rR ?_)
    refine bZ (tR ?_)
    refine tR (bZ ?_)
    refine tR (bR rfl rfl ?_)
    exact ⟨false, rfl, ⟨fun h => (by cases h), fun h => by rcases h with ⟨h1, h2, h3, h4, h5⟩ | ⟨h1, h2, h3, h4, h5, h6⟩ | ⟨h1, h2, h3, h4, h5, h6⟩ | ⟨h1, h2, h3, h4, h5, h6⟩ | ⟨h1, h2, h3, h4, h5, h6⟩ <;> first | omega | contradiction | (have h9 := hv.2 h3; cases h9) | (have h9 := lleft h3 _ _ hx; omega)⟩, (hv.kp [] 0 1)⟩
   refine uG (.bool false) rfl (ex_gtr rfl rfl rfl (qF hb26)) (uW k25 ?_)
   refine cF rfl (kS ?_)
   refine bN (tK k24 ?_)
   refine rL (uM rfl ?_)
   refine uG (vI ((i + 1 : Nat) : Int)) rfl (ex_add rfl rfl rfl (by rw [i64_in (by omega)]; omega)) (uA rfl ?_)
   refine uZ (then_normal ?_)
   go_roundw
   case rel => exact ⟨i + 1, rfl, by omega, fun j x' hj hx' => (by
      rcases Nat.lt_or_ge j i with h | h
      ·exact hno j x' h hx'
      rw [show j = i by omega, hx] at hx'; cases hx'; omega), hv⟩
   case measure => show v.texts.length - (((i + 1 : Nat) : Int)).toNat < v.texts.length - ((i : Int)).toNat; omega
  refine uG (.bool false) rfl (ex_lss rfl rfl rfl (qF hb23)) (uW k22 ?_)
  refine cF rfl (xE ?_)
  refine tX (tX ?_)
  refine bH (tK k18 ?_)
  refine sK fun _ k28 => ?_
  obtain rfl : i = v.texts.length := by omega
  refine rL (uF (.pointer (some ⟨b2, 3, none⟩)) rfl (s1fa60_3 _ _ _) ?_)
  refine uL _ rfl (run_load1 s1na23 (hv.load 0 3 rfl rfl)) ?_
  refine uG (vI (v.texts.length : Int)) rfl (ex_len0 Tryz.underlying23 rfl rfl) ?_
  by_cases hb29 : (v.texts.length : Int) > 0
  ·refine uG (.bool true) rfl (ex_gtr rfl rfl rfl (qT hb29)) (uM rfl ?_)
   refine uF (.pointer (some ⟨b2, 3, none⟩)) rfl (s1fa60_3 _ _ _) ?_
   refine uL _ rfl (run_load1 s1na23 (hv.load 0 3 rfl rfl)) ?_
   refine uG (vI (v.texts.length : Int)) rfl (ex_len0 Tryz.underlying23 rfl rfl) ?_
   refine uG (.bool (decide ((v.texts.length : Int) ≤ 512))) rfl (ex_leq rfl rfl rfl rfl) (uK rfl ?_)
   refine uA rfl (uW k28 ?_)
   refine rR (bR rfl rfl ?_)
   exact ⟨_, rfl, by rw [decide_eq_true_iff]; exact ⟨fun h9 => .inr (.inr (.inl ⟨by omega, by omega, lright (by omega) hno, Classical.not_not.1 hb6, by omega, by omega⟩)), fun h => by rcases h with ⟨h1, h2, h3, h4, h5⟩ | ⟨h1, h2, h3, h4, h5, h6⟩ | ⟨h1, h2, h3, h4, h5, h6⟩ | ⟨h1, h2, h3, h4, h5, h6⟩ | ⟨h1, h2, h3, h4, h5, h6⟩ <;> first | omega | (have h9 := llen h3; omega)⟩, (hv.kp [] 0 1)⟩
  refine uG (.bool false) rfl (ex_gtr rfl rfl rfl (qF hb29)) (uM rfl ?_)
  iterate 4 refine uP rfl ?_
  refine uK rfl (uA rfl ?_)
  refine uW k28 (rR ?_)
  refine bR rfl rfl (⟨false, rfl, ⟨fun h => (by cases h), fun h => by rcases h with ⟨h1, h2, h3, h4, h5⟩ | ⟨h1, h2, h3, h4, h5, h6⟩ | ⟨h1, h2, h3, h4, h5, h6⟩ | ⟨h1, h2, h3, h4, h5, h6⟩ | ⟨h1, h2, h3, h4, h5, h6⟩ <;> first | omega | contradiction | (have h9 := hv.2 h3; cases h9)⟩, (hv.kp [] 0 1)⟩)
theorem s31callable33 : Callable Tryz.prog 33 := cb Tryz.func33 (by kernel_rfl)
theorem refRight_4 (B : Base) (H : List Res) (w : World) (v : Val) (ap at2 az : Option Addr) (cp ct cz : Nat) (_ : RdV B [] ap (pairCells v.pairs)) (hrt : RdV B [] at2 (textCells v.texts)) (_ : RdV B [] az (memCells v.zset)) (hpm : v.pairs.length ≤ 1000000) (htm : v.texts.length ≤ 1000000) (hzm : v.zset.length ≤ 1000000) (hk : v.kind = 4) (hv : Inv B H w) :
  Calls Tryz.prog 17 #[.agg #[vI v.kind, vS v.text, .slice ap v.pairs.length cp, .slice at2 v.texts.length ct, .slice az v.zset.length cz]] w fun e w' => ∃ b, e = .returned (.bool b) ∧ (b = true ↔ ValOk v) ∧ Inv B H w' := by
 refine cW Tryz.func17 rfl Tryz.ntmps17 ?_
 simp only [al]
 refine sK fun _ k1 => rL (sl_box (L := [vI v.kind, vS v.text, .slice ap v.pairs.length cp, .slice at2 v.texts.length ct, .slice az v.zset.length cz]) tV (wn rfl) rfl rfl hv (fun w => by kernel_rfl) (fun b2 w3 hv => ?_))
 refine uA rfl (uW k1 ?_)
 refine sK fun _ k4 => sK fun _ k5 => rL (uF (vP b2) rfl (s12fa60_0 _ _ _) ?_)
 refine uL _ rfl (run_load1 s2na3 (hv.load 0 0 rfl rfl)) ?_
 refine uG (.bool false) rfl (ex_lss rfl rfl rfl (qF (by omega))) (uM rfl ?_)
 refine uF (vP b2) rfl (s12fa60_0 _ _ _) ?_
 refine uL _ rfl (run_load1 s2na3 (hv.load 0 0 rfl rfl)) ?_
 refine uG (.bool false) rfl (ex_gtr rfl rfl rfl (qF (by omega))) (uK rfl ?_)
 refine uM rfl ?_
 refine uF (vP b2) rfl (s12fa60_0 _ _ _) ?_
 refine uL _ rfl (run_load1 s2na3 (hv.load 0 0 rfl rfl)) ?_
 refine uG (.bool true) rfl (ex_neq rfl rfl rfl (qT (by omega))) ?_
 refine uM rfl ?_
 refine uF (.pointer (some ⟨b2, 1, none⟩)) rfl (s12fa60_1 _ _ _) ?_
 refine uL _ rfl (run_load1 s9na9 (hv.load 0 1 rfl rfl)) ?_
 by_cases hb6 : v.text ≠ ([] : List UInt8)
 ·refine uG (.bool true) rfl (ex_sneq rfl rfl rfl (qT hb6)) ?_
  refine uK rfl (uK rfl ?_)
  refine uM rfl ?_
  iterate 9 refine uP rfl ?_
  refine uK rfl (uM rfl ?_)
  iterate 14 refine uP rfl ?_
  refine uK rfl (uM rfl ?_)
  iterate 9 refine uP rfl ?_
  refine uK rfl (uW k5 ?_)
  refine cT rfl (sK fun _ k7 => ?_)
  refine rL (uA rfl ?_)
  refine uW k7 (rR ?_)
  refine tR (bR rfl rfl ?_)
  exact ⟨false, rfl, ⟨fun h => (by cases h), fun h => by rcases h with ⟨h1, h2, h3, h4, h5⟩ | ⟨h1, h2, h3, h4, h5, h6⟩ | ⟨h1, h2, h3, h4, h5, h6⟩ | ⟨h1, h2, h3, h4, h5, h6⟩ | ⟨h1, h2, h3, h4, h5, h6⟩ <;> first | omega | contradiction | (have h9 := hv.2 h3; cases h9)⟩, (hv.kp [] 0 1)⟩
 refine uG (.bool false) rfl (ex_sneq rfl rfl rfl (qF hb6)) ?_
 refine uK rfl (uK rfl ?_)
 refine uM rfl ?_
 refine uF (vP b2) rfl (s12fa60_0 _ _ _) ?_
 refine uL _ rfl (run_load1 s2na3 (hv.load 0 0 rfl rfl)) ?_
 refine uG (.bool true) rfl (ex_neq rfl rfl rfl (qT (by omega))) ?_
 refine uM rfl ?_
 refine uF (.pointer (some ⟨b2, 2, none⟩)) rfl (s1fa60_2 _ _ _) ?_
 refine uL _ rfl (run_load1 s1na57 (hv.load 0 2 rfl rfl)) ?_
 refine uG (vI (v.pairs.length : Int)) rfl (ex_len0 Tryz.underlying57 rfl rfl) ?_
 by_cases hb8 : (v.pairs.length : Int) > 0
 ·refine uG (.bool true) rfl (ex_gtr rfl rfl rfl (qT hb8)) ?_
  refine uK rfl (uK rfl ?_)
  refine uM rfl ?_
  iterate 14 refine uP rfl ?_
  refine uK rfl (uM rfl ?_)
  iterate 9 refine uP rfl ?_
  refine uK rfl (uW k5 ?_)
  refine cT rfl (sK fun _ k9 => ?_)
  refine rL (uA rfl ?_)
  refine uW k9 (rR ?_)
  refine tR (bR rfl rfl ?_)
  exact ⟨false, rfl, ⟨fun h => (by cases h), fun h => by rcases h with ⟨h1, h2, h3, h4, h5⟩ | ⟨h1, h2, h3, h4, h5, h6⟩ | ⟨h1, h2, h3, h4, h5, h6⟩ | ⟨h1, h2, h3, h4, h5, h6⟩ | ⟨h1, h2, h3, h4, h5, h6⟩ <;> first | omega | contradiction | (have h9 := hv.2 h3; cases h9)⟩, (hv.kp [] 0 1)⟩
 refine uG (.bool false) rfl (ex_gtr rfl rfl rfl (qF hb8)) ?_
 refine uK rfl (uK rfl ?_)
 refine uM rfl ?_
 refine uF (vP b2) rfl (s12fa60_0 _ _ _) ?_
 refine uL _ rfl (run_load1 s2na3 (hv.load 0 0 rfl rfl)) ?_
 refine uG (.bool true) rfl (ex_neq rfl rfl rfl (qT (by omega))) ?_
 refine uM rfl ?_
 refine uF (vP b2) rfl (s12fa60_0 _ _ _) ?_
 refine uL _ rfl (run_load1 s2na3 (hv.load 0 0 rfl rfl)) ?_
 refine uG (.bool false) rfl (ex_neq rfl rfl rfl (qF (by omega))) ?_
 refine uK rfl ?_
 refine uM rfl ?_
 iterate 4 refine uP rfl ?_
 refine uK rfl (uK rfl ?_)
 refine uM rfl ?_
 refine uF (vP b2) rfl (s12fa60_0 _ _ _) ?_
 refine uL _ rfl (run_load1 s2na3 (hv.load 0 0 rfl rfl)) ?_
 refine uG (.bool true) rfl (ex_neq rfl rfl rfl (qT (by omega))) ?_
 refine uM rfl ?_
 refine uF (.pointer (some ⟨b2, 4, none⟩)) rfl (s1fa60_4 _ _ _) ?_
 refine uL _ rfl (run_load1 s1na58 (hv.load 0 4 rfl rfl)) ?_
 refine uG (vI (v.zset.length : Int)) rfl (ex_len0 Tryz.underlying58 rfl rfl) ?_
 by_cases hb10 : (v.zset.length : Int) > 0
 ·refine uG (.bool true) rfl (ex_gtr rfl rfl rfl (qT hb10)) ?_
  refine uK rfl (uK rfl ?_)
  refine uW k5 (cT rfl ?_)
  refine sK fun _ k11 => rL (uA rfl ?_)
  refine uW k11 (rR ?_)
  refine tR (bR rfl rfl ?_)
  exact ⟨false, rfl, ⟨fun h => (by cases h), fun h => by rcases h with ⟨h1, h2, h3, h4, h5⟩ | ⟨h1, h2, h3, h4, h5, h6⟩ | ⟨h1, h2, h3, h4, h5, h6⟩ | ⟨h1, h2, h3, h4, h5, h6⟩ | ⟨h1, h2, h3, h4, h5, h6⟩ <;> first | omega | contradiction | (have h9 := hv.2 h3; cases h9)⟩, (hv.kp [] 0 1)⟩
 refine uG (.bool false) rfl (ex_gtr rfl rfl rfl (qF hb10)) ?_
 refine uK rfl (uK rfl ?_)
 refine uW k5 (cF rfl ?_)
 refine kS (tK k4 ?_)
 refine sK fun _ k12 => sK fun _ k13 => rL (uF (vP b2) rfl (s12fa60_0 _ _ _) ?_)
 refine uL _ rfl (run_load1 s2na3 (hv.load 0 0 rfl rfl)) (uW k13 ?_)
 refine bB (sK fun _ k14 => ?_)
 refine rL (uG (.bool false) rfl (ex_eql rfl rfl rfl (qF (by omega))) ?_)
 refine uA rfl (uW k14 ?_)
 refine cF rfl (sK fun _ k15 => ?_)
 refine rL (uG (.bool false) rfl (ex_eql rfl rfl rfl (qF (by omega))) ?_)
 refine uA rfl (uW k15 ?_)
 refine cF rfl (sK fun _ k16 => ?_)
 refine rL (uG (.bool true) rfl (ex_eql rfl rfl rfl (qT (by omega))) ?_)
 refine uA rfl (uW k16 ?_)
 refine cT rfl (sK fun _ k17 => ?_)
 refine rL (uF (.pointer (some ⟨b2, 3, none⟩)) rfl (s1fa60_3 _ _ _) ?_)
 refine uL _ rfl (run_load1 s1na23 (hv.load 0 3 rfl rfl)) ?_
 refine uG (vI (v.texts.length : Int)) rfl (ex_len0 Tryz.underlying23 rfl rfl) ?_
 by_cases hb18 : (v.texts.length : Int) > 0
 ·refine uG (.bool true) rfl (ex_gtr rfl rfl rfl (qT hb18)) (uM rfl ?_)
  refine uF (.pointer (some ⟨b2, 3, none⟩)) rfl (s1fa60_3 _ _ _) ?_
  refine uL _ rfl (run_load1 s1na23 (hv.load 0 3 rfl rfl)) ?_
  refine xC s31callable33 rfl ((refSetRight B _ _ _ _ _ hrt htm hv).mono ?_) rfl
  rintro e w20 ⟨bl19, rfl, hbl19, hv⟩
  refine ⟨_, rfl, ?_⟩
  cases bl19
  ·refine uK rfl (uA rfl ?_)
   refine uW k17 (rR ?_)
   refine bZ (tR ?_)
   refine bR rfl rfl (⟨false, rfl, ⟨fun h => (by cases h), fun h => by rcases h with ⟨h1, h2, h3, h4, h5⟩ | ⟨h1, h2, h3, h4, h5, h6⟩ | ⟨h1, h2, h3, h4, h5, h6⟩ | ⟨h1, h2, h3, h4, h5, h6⟩ | ⟨h1, h2, h3, h4, h5, h6⟩ <;> first | omega | contradiction | (have h9 := hbl19.2 h3; cases h9)⟩, (hv.kp [] 0 1)⟩)
  refine uK rfl (uA rfl ?_)
  refine uW k17 (rR ?_)
  refine bZ (tR ?_)
  refine bR rfl rfl (⟨true, rfl, ⟨fun _ => .inr (.inr (.inr (.inl ⟨by omega, by omega, hbl19.1 rfl, Classical.not_not.1 hb6, by omega, by omega⟩))), fun _ => rfl⟩, (hv.kp [] 0 1)⟩)
 refine uG (.bool false) rfl (ex_gtr rfl rfl rfl (qF hb18)) (uM rfl ?_)
 iterate 3 refine uP rfl ?_
 refine uK rfl (uA rfl ?_)
 refine uW k17 (rR ?_)
 refine bZ (tR ?_)
 refine bR rfl rfl (⟨false, rfl, ⟨fun h => (by cases h), fun h => by rcases h with ⟨h1, h2, h3, h4, h5⟩ | ⟨h1, h2, h3, h4, h5, h6⟩ | ⟨h1, h2, h3, h4, h5, h6⟩ | ⟨h1, h2, h3, h4, h5, h6⟩ | ⟨h1, h2, h3, h4, h5, h6⟩ <;> first | omega | contradiction | (have h9 := hv.2 h3; cases h9)⟩, (hv.kp [] 0 1)⟩)
theorem s31callable34 : Callable Tryz.prog 34 := cb Tryz.func34 (by kernel_rfl)
theorem refRight_5 (B : Base) (H : List Res) (w : World) (v : Val) (ap at2 az : Option Addr) (cp ct cz : Nat) (_ : RdV B [] ap (pairCells v.pairs)) (_ : RdV B [] at2 (textCells v.texts)) (hrz : RdV B [] az (memCells v.zset)) (hpm : v.pairs.length ≤ 1000000) (htm : v.texts.length ≤ 1000000) (hzm : v.zset.length ≤ 1000000) (hk : v.kind = 5) (hv : Inv B H w) :
  Calls Tryz.prog 17 #[.agg #[vI v.kind, vS v.text, .slice ap v.pairs.length cp, .slice at2 v.texts.length ct, .slice az v.zset.length cz]] w fun e w' => ∃ b, e = .returned (.bool b) ∧ (b = true ↔ ValOk v) ∧ Inv B H w' := by
 refine cW Tryz.func17 rfl Tryz.ntmps17 ?_
 simp only [al]
 refine sK fun _ k1 => rL (sl_box (L := [vI v.kind, vS v.text, .slice ap v.pairs.length cp, .slice at2 v.texts.length ct, .slice az v.zset.length cz]) tV (wn rfl) rfl rfl hv (fun w => by kernel_rfl) (fun b2 w3 hv => ?_))
 refine uA rfl (uW k1 ?_)
 refine sK fun _ k4 => sK fun _ k5 => rL (uF (vP b2) rfl (s12fa60_0 _ _ _) ?_)
 refine uL _ rfl (run_load1 s2na3 (hv.load 0 0 rfl rfl)) ?_
 refine uG (.bool false) rfl (ex_lss rfl rfl rfl (qF (by omega))) (uM rfl ?_)
 refine uF (vP b2) rfl (s12fa60_0 _ _ _) ?_
 refine uL _ rfl (run_load1 s2na3 (hv.load 0 0 rfl rfl)) ?_
 refine uG (.bool false) rfl (ex_gtr rfl rfl rfl (qF (by omega))) (uK rfl ?_)
 refine uM rfl ?_
 refine uF (vP b2) rfl (s12fa60_0 _ _ _) ?_
 refine uL _ rfl (run_load1 s2na3 (hv.load 0 0 rfl rfl)) ?_
 refine uG (.bool true) rfl (ex_neq rfl rfl rfl (qT (by omega))) ?_
 refine uM rfl ?_
 refine uF (.pointer (some ⟨b2, 1, none⟩)) rfl (s12fa60_1 _ _ _) ?_
 refine uL _ rfl (run_load1 s9na9 (hv.load 0 1 rfl rfl)) ?_
 by_cases hb6 : v.text ≠ ([] : List UInt8)
 ·refine uG (.bool true) rfl (ex_sneq rfl rfl rfl (qT hb6)) ?_
  refine uK rfl (uK rfl ?_)
  refine uM rfl ?_
  iterate 9 refine uP rfl ?_
  refine uK rfl (uM rfl ?_)
  iterate 14 refine uP rfl ?_
  refine uK rfl (uM rfl ?_)
  iterate 9 refine uP rfl ?_
  refine uK rfl (uW k5 ?_)
  refine cT rfl (sK fun _ k7 => ?_)
  refine rL (uA rfl ?_)
  refine uW k7 (rR ?_)
  refine tR (bR rfl rfl ?_)
  exact ⟨false, rfl, ⟨fun h => (by cases h), fun h => by rcases h with ⟨h1, h2, h3, h4, h5⟩ | ⟨h1, h2, h3, h4, h5, h6⟩ | ⟨h1, h2, h3, h4, h5, h6⟩ | ⟨h1, h2, h3, h4, h5, h6⟩ | ⟨h1, h2, h3, h4, h5, h6⟩ <;> first | omega | contradiction | (have h9 := hv.2 h3; cases h9)⟩, (hv.kp [] 0 1)⟩
 refine uG (.bool false) rfl (ex_sneq rfl rfl rfl (qF hb6)) ?_
 refine uK rfl (uK rfl ?_)
 refine uM rfl ?_
 refine uF (vP b2) rfl (s12fa60_0 _ _ _) ?_
 refine uL _ rfl (run_load1 s2na3 (hv.load 0 0 rfl rfl)) ?_
 refine uG (.bool true) rfl (ex_neq rfl rfl rfl (qT (by omega))) ?_
 refine uM rfl ?_
 refine uF (.pointer (some ⟨b2, 2, none⟩)) rfl (s1fa60_2 _ _ _) ?_
 refine uL _ rfl (run_load1 s1na57 (hv.load 0 2 rfl rfl)) ?_
 refine uG (vI (v.pairs.length : Int)) rfl (ex_len0 Tryz.underlying57 rfl rfl) ?_
 by_cases hb8 : (v.pairs.length : Int) > 0
 ·refine uG (.bool true) rfl (ex_gtr rfl rfl rfl (qT hb8)) ?_
  refine uK rfl (uK rfl ?_)
  refine uM rfl ?_
  iterate 14 refine uP rfl ?_
  refine uK rfl (uM rfl ?_)
  iterate 9 refine uP rfl ?_
  refine uK rfl (uW k5 ?_)
  refine cT rfl (sK fun _ k9 => ?_)
  refine rL (uA rfl ?_)
  refine uW k9 (rR ?_)
  refine tR (bR rfl rfl ?_)
  exact ⟨false, rfl, ⟨fun h => (by cases h), fun h => by rcases h with ⟨h1, h2, h3, h4, h5⟩ | ⟨h1, h2, h3, h4, h5, h6⟩ | ⟨h1, h2, h3, h4, h5, h6⟩ | ⟨h1, h2, h3, h4, h5, h6⟩ | ⟨h1, h2, h3, h4, h5, h6⟩ <;> first | omega | contradiction | (have h9 := hv.2 h3; cases h9)⟩, (hv.kp [] 0 1)⟩
 refine uG (.bool false) rfl (ex_gtr rfl rfl rfl (qF hb8)) ?_
 refine uK rfl (uK rfl ?_)
 refine uM rfl ?_
 refine uF (vP b2) rfl (s12fa60_0 _ _ _) ?_
 refine uL _ rfl (run_load1 s2na3 (hv.load 0 0 rfl rfl)) ?_
 refine uG (.bool true) rfl (ex_neq rfl rfl rfl (qT (by omega))) ?_
 refine uM rfl ?_
 refine uF (vP b2) rfl (s12fa60_0 _ _ _) ?_
 refine uL _ rfl (run_load1 s2na3 (hv.load 0 0 rfl rfl)) ?_
 refine uG (.bool true) rfl (ex_neq rfl rfl rfl (qT (by omega))) ?_
 refine uK rfl ?_
 refine uM rfl ?_
 refine uF (.pointer (some ⟨b2, 3, none⟩)) rfl (s1fa60_3 _ _ _) ?_
 refine uL _ rfl (run_load1 s1na23 (hv.load 0 3 rfl rfl)) ?_
 refine uG (vI (v.texts.length : Int)) rfl (ex_len0 Tryz.underlying23 rfl rfl) ?_
 by_cases hb10 : (v.texts.length : Int) > 0
 ·refine uG (.bool true) rfl (ex_gtr rfl rfl rfl (qT hb10)) ?_
  refine uK rfl (uK rfl ?_)
  refine uM rfl ?_
  iterate 9 refine uP rfl ?_
  refine uK rfl (uW k5 ?_)
  refine cT rfl (sK fun _ k11 => ?_)
  refine rL (uA rfl ?_)
  refine uW k11 (rR ?_)
  refine tR (bR rfl rfl ?_)
  exact ⟨false, rfl, ⟨fun h => (by cases h), fun h => by rcases h with ⟨h1, h2, h3, h4, h5⟩ | ⟨h1, h2, h3, h4, h5, h6⟩ | ⟨h1, h2, h3, h4, h5, h6⟩ | ⟨h1, h2, h3, h4, h5, h6⟩ | ⟨h1, h2, h3, h4, h5, h6⟩ <;> first | omega | contradiction | (have h9 := hv.2 h3; cases h9)⟩, (hv.kp [] 0 1)⟩
 refine uG (.bool false) rfl (ex_gtr rfl rfl rfl (qF hb10)) ?_
 refine uK rfl (uK rfl ?_)
 refine uM rfl ?_
 refine uF (vP b2) rfl (s12fa60_0 _ _ _) ?_
 refine uL _ rfl (run_load1 s2na3 (hv.load 0 0 rfl rfl)) ?_
 refine uG (.bool false) rfl (ex_neq rfl rfl rfl (qF (by omega))) ?_
 refine uM rfl ?_
 iterate 4 refine uP rfl ?_
 refine uK rfl (uK rfl ?_)
 refine uW k5 (cF rfl ?_)
 refine kS (tK k4 ?_)
 refine sK fun _ k12 => sK fun _ k13 => rL (uF (vP b2) rfl (s12fa60_0 _ _ _) ?_)
 refine uL _ rfl (run_load1 s2na3 (hv.load 0 0 rfl rfl)) (uW k13 ?_)
 refine bB (sK fun _ k14 => ?_)
 refine rL (uG (.bool false) rfl (ex_eql rfl rfl rfl (qF (by omega))) ?_)
 refine uA rfl (uW k14 ?_)
 refine cF rfl (sK fun _ k15 => ?_)
 refine rL (uG (.bool false) rfl (ex_eql rfl rfl rfl (qF (by omega))) ?_)
 refine uA rfl (uW k15 ?_)
 refine cF rfl (sK fun _ k16 => ?_)
 refine rL (uG (.bool false) rfl (ex_eql rfl rfl rfl (qF (by omega))) ?_)
 refine uA rfl (uW k16 ?_)
 refine cF rfl (sK fun _ k17 => ?_)
 refine rL (uG (.bool true) rfl (ex_eql rfl rfl rfl (qT (by omega))) ?_)
 refine uA rfl (uW k17 ?_)
 refine cT rfl (sK fun _ k18 => ?_)
 refine rL (uF (.pointer (some ⟨b2, 4, none⟩)) rfl (s1fa60_4 _ _ _) ?_)
 refine uL _ rfl (run_load1 s1na58 (hv.load 0 4 rfl rfl)) ?_
 refine uG (vI (v.zset.length : Int)) rfl (ex_len0 Tryz.underlying58 rfl rfl) ?_
 by_cases hb19 : (v.zset.length : Int) > 0
 ·refine uG (.bool true) rfl (ex_gtr rfl rfl rfl (qT hb19)) (uM rfl ?_)
  refine uF (.pointer (some ⟨b2, 4, none⟩)) rfl (s1fa60_4 _ _ _) ?_
  refine uL _ rfl (run_load1 s1na58 (hv.load 0 4 rfl rfl)) ?_
  refine xC s31callable34 rfl ((refZsetRight B _ _ _ _ _ hrz hzm hv).mono ?_) rfl
  rintro e w21 ⟨bl20, rfl, hbl20, hv⟩
  refine ⟨_, rfl, ?_⟩
  cases bl20
  ·refine uK rfl (uA rfl ?_)
   refine uW k18 (rR ?_)
   refine bZ (tR ?_)
   refine bR rfl rfl (⟨false, rfl, ⟨fun h => (by cases h), fun h => by rcases h with ⟨h1, h2, h3, h4, h5⟩ | ⟨h1, h2, h3, h4, h5, h6⟩ | ⟨h1, h2, h3, h4, h5, h6⟩ | ⟨h1, h2, h3, h4, h5, h6⟩ | ⟨h1, h2, h3, h4, h5, h6⟩ <;> first | omega | contradiction | (have h9 := hbl20.2 h3; cases h9)⟩, (hv.kp [] 0 1)⟩)
  refine uK rfl (uA rfl ?_)
  refine uW k18 (rR ?_)
  refine bZ (tR ?_)
  refine bR rfl rfl (⟨true, rfl, ⟨fun _ => .inr (.inr (.inr (.inr (⟨by omega, by omega, hbl20.1 rfl, Classical.not_not.1 hb6, by omega, by omega⟩)))), fun _ => rfl⟩, (hv.kp [] 0 1)⟩)
 refine uG (.bool false) rfl (ex_gtr rfl rfl rfl (qF hb19)) (uM rfl ?_)
 iterate 3 refine uP rfl ?_
 refine uK rfl (uA rfl ?_)
 refine uW k18 (rR ?_)
 refine bZ (tR ?_)
 refine bR rfl rfl (⟨false, rfl, ⟨fun h => (by cases h), fun h => by rcases h with ⟨h1, h2, h3, h4, h5⟩ | ⟨h1, h2, h3, h4, h5, h6⟩ | ⟨h1, h2, h3, h4, h5, h6⟩ | ⟨h1, h2, h3, h4, h5, h6⟩ | ⟨h1, h2, h3, h4, h5, h6⟩ <;> first | omega | contradiction | (have h9 := hv.2 h3; cases h9)⟩, (hv.kp [] 0 1)⟩)
theorem refRight0 (B : Base) (H : List Res) (w : World) (v : Val) (ap at2 az : Option Addr) (cp ct cz : Nat) (hrp : RdV B [] ap (pairCells v.pairs)) (hrt : RdV B [] at2 (textCells v.texts)) (hrz : RdV B [] az (memCells v.zset)) (hpm : v.pairs.length ≤ 1000000) (htm : v.texts.length ≤ 1000000) (hzm : v.zset.length ≤ 1000000) (hv : Inv B H w) :
  Calls Tryz.prog 17 #[.agg #[vI v.kind, vS v.text, .slice ap v.pairs.length cp, .slice at2 v.texts.length ct, .slice az v.zset.length cz]] w fun e w' => ∃ b, e = .returned (.bool b) ∧ (b = true ↔ ValOk v) ∧ Inv B H w' := by
 by_cases h : v.kind < 1 ∨ 5 < v.kind
 ·exact refRight_0 B H w v ap at2 az cp ct cz hrp hrt hrz hpm htm hzm h hv
 rcases (show v.kind = 1 ∨ v.kind = 2 ∨ v.kind = 3 ∨ v.kind = 4 ∨ v.kind = 5 by omega) with h | h | h | h | h
 ·exact refRight_1 B H w v ap at2 az cp ct cz hrp hrt hrz hpm htm hzm h hv
 ·exact refRight_2 B H w v ap at2 az cp ct cz hrp hrt hrz hpm htm hzm h hv
 ·exact refRight_3 B H w v ap at2 az cp ct cz hrp hrt hrz hpm htm hzm h hv
 ·exact refRight_4 B H w v ap at2 az cp ct cz hrp hrt hrz hpm htm hzm h hv
 exact refRight_5 B H w v ap at2 az cp ct cz hrp hrt hrz hpm htm hzm h hv
theorem refRightV (B : Base) (H : List Res) (w : World) (v : Val) (p t z : Value) (h : ValAt B v p t z) (hv : Inv B H w) : Calls Tryz.prog 17 #[.agg (valCells v p t z).toArray] w fun e w' => ∃ b, e = .returned (.bool b) ∧ (b = true ↔ ValOk v) ∧ Inv B H w' := by
 obtain ⟨⟨ap, cp, rfl, -, hrp⟩, ⟨at2, ct, rfl, -, hrt⟩, ⟨az, cz, rfl, -, hrz⟩, hpm, htm, hzm⟩ := h
 exact refRight0 B H w v ap at2 az cp ct cz hrp hrt hrz hpm htm hzm hv
theorem valRd_at2 {B : Base} {v : Val} {p t z : Value} (h : ValRd B v p t z) (hs : ValSm v) : ValAt B v p t z := by
 obtain ⟨h1, h2, h3⟩ := hs
 exact ⟨h.p, h.t, h.z, by omega, by omega, by omega⟩
theorem keep_ok {M M' : List (List UInt8 × Ver)} {clk exp ec : Int} {key : List UInt8} {x : Val} (hk : key.length ≤ 256) (hp : FullV x → PutOk key x exp) (h : KeepI M clk key x exp ec M') : ec = 0 ∧ ((FullV x ∧ M' = updA M key ⟨0, false, exp, x⟩) ∨ (¬ FullV x ∧ DeadM M clk key ∧ M' = M) ∨ (¬ FullV x ∧ ¬ DeadM M clk key ∧ M' = updA M key gver)) := by
 rcases h with ⟨h1, -, h2, h3⟩ | ⟨h1, h2, -⟩ | ⟨h1, h2, h3, h4⟩ | ⟨h1, ⟨y, h2, h3⟩, ⟨-, h4, h5⟩ | ⟨h4, -⟩⟩
 ·exact ⟨h2, .inl ⟨h1, h3⟩⟩
 ·exact absurd (hp h1) h2
 ·exact ⟨h3, .inr (.inl ⟨h1, h2, h4⟩)⟩
 ·exact ⟨h4, .inr (.inr ⟨h1, (fun hd => by rw [hd y h2] at h3; cases h3), h5⟩)⟩
 omega
theorem rel_step {M M' : List (List UInt8 × Ver)} {K K' : List KeyR} {clk exp : Int} {key : List UInt8} {x : Val} (hR : RelVK M K) (hm : (FullV x ∧ M' = updA M key ⟨0, false, exp, x⟩) ∨ (¬ FullV x ∧ DeadM M clk key ∧ M' = M) ∨ (¬ FullV x ∧ ¬ DeadM M clk key ∧ M' = updA M key gver)) (hk : PutK K clk key x exp K') : RelVK M' K' := by
 rcases hk with ⟨hf, rfl⟩ | ⟨hf, hi⟩
 ·rcases hm with ⟨h, -⟩ | ⟨-, hd, rfl⟩ | ⟨-, hd, rfl⟩
  ·exact absurd h hf
  ·unfold delK; rw [hR.free hd]; exact hR
  have : (getK K clk key).isSome = true := by
   cases hg : getK K clk key with
   | some x => rfl
   | none => exact absurd (hR.dead hg) hd
  unfold delK; rw [this]; exact hR.del
 rcases hm with ⟨-, rfl⟩ | ⟨h, -⟩ | ⟨h, -⟩
 ·exact hR.put hi
 ·exact absurd hf h
 exact absurd hf h
structure KeysOk (M : List (List UInt8 × Ver)) (i : Nat) : Prop where
 nd : (M.map (·.1)).Nodup
 len : M.length ≤ i
 sh : ∀ k ∈ M.map (·.1), k.length ≤ 256
theorem KeysOk.upd {M : List (List UInt8 × Ver)} {i : Nat} (h : KeysOk M i) {k : List UInt8} (hk : k.length ≤ 256) (y : Ver) : KeysOk (updA M k y) (i + 1) := by
 refine ⟨by rw [updA_keys]; exact addKey_nodup h.nd, by have := updA_len M k y; have := h.len; omega, fun k9 hk9 => ?_⟩
 rw [updA_keys] at hk9
 unfold addKey at hk9
 split at hk9
 ·exact h.sh k9 hk9
 rcases List.mem_append.1 hk9 with h9 | h9
 ·exact h.sh k9 h9
 rw [List.mem_singleton.1 h9]; exact hk
theorem KeysOk.step {M M' : List (List UInt8 × Ver)} {i : Nat} {clk exp : Int} {key : List UInt8} {x : Val} (h : KeysOk M i) (hk : key.length ≤ 256) (hm : (FullV x ∧ M' = updA M key ⟨0, false, exp, x⟩) ∨ (¬ FullV x ∧ DeadM M clk key ∧ M' = M) ∨ (¬ FullV x ∧ ¬ DeadM M clk key ∧ M' = updA M key gver)) : KeysOk M' (i + 1) := by
 rcases hm with ⟨-, rfl⟩ | ⟨-, -, rfl⟩ | ⟨-, -, rfl⟩
 ·exact h.upd hk _
 ·exact ⟨h.nd, by have := h.len; omega, h.sh⟩
 exact h.upd hk _
theorem RelVK.short {M : List (List UInt8 × Ver)} {K : List KeyR} {i : Nat} (h : RelVK M K) (hk : KeysOk M i) : ∀ x ∈ K, x.name.length ≤ 1000 := fun x hx => by
 have h1 := h.of_ x hx
 have h2 : x.name ∈ M.map (·.1) := Classical.byContradiction fun h9 => by rw [(look_none M x.name).2 h9] at h1; cases h1
 have := hk.sh _ h2
 omega
theorem others_len {K : List KeyR} {key : List UInt8} : (others K key).length ≤ K.length := List.length_filter_le _ _
theorem putK_len {K K' : List KeyR} {clk exp : Int} {key : List UInt8} {x : Val} (h : PutK K clk key x exp K') : K'.length ≤ K.length + 1 := by
 rcases h with ⟨-, rfl⟩ | ⟨-, j, hj, rfl, -⟩
 ·unfold delK; split
  ·have := others_len (K := K) (key := key); omega
  omega
 have := others_len (K := K) (key := key)
 rw [List.length_append, List.length_cons, List.length_take, List.length_drop]; omega
def kver (k : KeyR) : Ver := ⟨0, false, k.exp, k.val⟩
section
variable {M : List (List UInt8 × Ver)} {clk kd : Int} {key : List UInt8} {y : Ver} {ec : Int} {k : KeyR}
end
theorem wordsEq (B : Base) (H : List Res) (w : World) (ad ad' : Option Addr) (c c' : Nat) {l l' : List (List UInt8)} (h : l = l') (hr : RdV B [] ad (textCells l)) (hr' : RdV B [] ad' (textCells l')) (hm : l'.length ≤ 1000000) (hv : Inv B H w) :
  Calls Tryz.prog 25 #[.slice ad l.length c, .slice ad' l'.length c'] w fun e w' => e = .returned (.bool true) ∧ Inv B H w' := by
 subst h
 exact refWords B H w ad ad' c c' l hr hr' hm hv
end Go.Proofs.YtmpackidbgfoiaaGreatDoor
namespace Go.Pm
open Go.RowKit
def All2 {α β : Type} (R : α → β → Prop) : List α → List β → Prop
 | [], [] => True
 | a :: k, b :: l => R a b ∧ All2 R k l
 | _, _ => False
theorem rep_rowAux {W : World} {S : Nat → Prop} {t : Ty} {a : Option Addr} : ∀ (l : List t.den) (k : Nat), (∀ i (h : i < l.length), ∃ b off xs, a = some ⟨b, off, none⟩ ∧ S b ∧ xs.length = t.size ∧ (∀ j (h : j < xs.length), W.cell? ⟨b, off + (k + i) * t.size + j, none⟩ = some xs[j]) ∧ Rep W S t xs l[i]) →
  ∃ xss : List (List Value), All2 (fun xs d => xs.length = t.size ∧ Rep W S t xs d) xss l ∧ ∀ j (h : j < xss.flatten.length), ∃ b off, a = some ⟨b, off, none⟩ ∧ W.cell? ⟨b, off + k * t.size + j, none⟩ = some xss.flatten[j]
 | [], k, _ => ⟨[], trivial, fun j h => by simp at h⟩
 | d :: l, k, h => by
  obtain ⟨xss, h1, h2⟩ := rep_rowAux l (k + 1) (fun i hi => by
   obtain ⟨b, off, xs, e1, e2, e3, e4, e5⟩ := h (i + 1) (by simpa using hi)
   refine ⟨b, off, xs, e1, e2, e3, fun j hj => ?_, e5⟩
   rw [show k + 1 + i = k + (i + 1) by omega]
   exact e4 j hj)
  obtain ⟨b, off, xs, e1, e2, e3, e4, e5⟩ := h 0 (by simp)
  refine ⟨xs :: xss, ⟨⟨e3, e5⟩, h1⟩, fun j hj => ?_⟩
  rcases Nat.lt_or_ge j xs.length with hx | hx
  ·refine ⟨b, off, e1, ?_⟩
   have := e4 j hx
   rw [Nat.add_zero] at this
   rw [this]
   simp only [List.flatten_cons]
   rw [List.getElem_append_left hx]
  have hj' : j - xs.length < xss.flatten.length := by
   simp only [List.flatten_cons, List.length_append] at hj
   omega
  obtain ⟨b', off', f1, f2⟩ := h2 (j - xs.length) hj'
  refine ⟨b', off', f1, ?_⟩
  rw [show off' + k * t.size + j = off' + (k + 1) * t.size + (j - xs.length) by rw [Nat.succ_mul]; omega, f2]
  simp only [List.flatten_cons]
  rw [List.getElem_append_right hx]
theorem rep_row {W : World} {S : Nat → Prop} {t : Ty} {cs : List Value} {l : List t.den} (h : Rep W S (.slice t) cs l) :
  ∃ a cap xss, cs = [.slice a l.length cap] ∧ SliceOk a l.length cap ∧ RdV (Base.of W) [] a xss.flatten ∧ All2 (fun xs d => xs.length = t.size ∧ Rep W S t xs d) xss l := by
 obtain ⟨a, cap, h1, h2, h4⟩ := h
 obtain ⟨xss, h5, h6⟩ := rep_rowAux (t := t) l 0 (fun i hi => by
  obtain ⟨b, off, xs, e1, e2, e3, e4, e5⟩ := h4 i hi
  refine ⟨b, off, xs, e1, e2, e3, fun j hj => ?_, e5⟩
  rw [Nat.zero_add]
  exact e4 j hj)
 refine ⟨a, cap, xss, h1, h2, rdV_of W fun j hj => ?_, h5⟩
 obtain ⟨b, off, f1, f2⟩ := h6 j hj
 exact ⟨b, off, f1, by rw [← f2, Nat.zero_mul, Nat.add_zero]⟩
abbrev pairTy : Ty := .pair .str (.pair .str .unit)
abbrev memTy : Ty := .pair (.int .i64) (.pair .str .unit)
abbrev valTy : Ty := .pair (.int .i64) (.pair .str (.pair (.slice pairTy) (.pair (.slice .str) (.pair (.slice memTy) .unit))))
def valOf (d : valTy.den) : Val := ⟨d.1, d.2.1, d.2.2.1.map fun p => (p.1, p.2.1), d.2.2.2.1, d.2.2.2.2.1.map fun p => (p.1, p.2.1)⟩
theorem rep_pairs {W : World} {S : Nat → Prop} : ∀ {xss : List (List Value)} {l : List pairTy.den}, All2 (fun xs d => xs.length = pairTy.size ∧ Rep W S pairTy xs d) xss l → xss.flatten = pairCells (l.map fun p => (p.1, p.2.1))
 | [], [], _ => rfl
 | xs :: xss, d :: l, ⟨⟨h1, h2⟩, h⟩ => by
  have := rep_pairs h
  match xs, h1 with
  | [x0, x1], _ =>
   obtain ⟨⟨k1, _⟩, ⟨k2, _⟩, _⟩ := h2
   have k1' : [x0] = _ := k1
   have k2' : [x1] = _ := k2
   simp only [List.cons.injEq, and_true] at k1' k2'
   subst k1' k2'
   simp only [List.flatten_cons, this, List.map_cons, pairCells, List.flatMap_cons]
theorem rep_mems {W : World} {S : Nat → Prop} : ∀ {xss : List (List Value)} {l : List memTy.den}, All2 (fun xs d => xs.length = memTy.size ∧ Rep W S memTy xs d) xss l → xss.flatten = memCells (l.map fun p => (p.1, p.2.1))
 | [], [], _ => rfl
 | xs :: xss, d :: l, ⟨⟨h1, h2⟩, h⟩ => by
  have := rep_mems h
  match xs, h1 with
  | [x0, x1], _ =>
   obtain ⟨⟨k1, _⟩, ⟨k2, _⟩, _⟩ := h2
   have k1' : [x0] = _ := k1
   have k2' : [x1] = _ := k2
   simp only [List.cons.injEq, and_true] at k1' k2'
   subst k1' k2'
   simp only [List.flatten_cons, this, List.map_cons, memCells, List.flatMap_cons]
   rfl
theorem rep_texts {W : World} {S : Nat → Prop} : ∀ {xss : List (List Value)} {l : List (List UInt8)}, All2 (fun xs (d : Ty.str.den) => xs.length = Ty.str.size ∧ Rep W S .str xs d) xss l → xss.flatten = textCells l
 | [], [], _ => rfl
 | xs :: xss, d :: l, ⟨⟨h1, h2⟩, h⟩ => by
  have := rep_texts h
  match xs, h1 with
  | [x0], _ =>
   obtain ⟨k1, _⟩ := h2
   have k1' : [x0] = _ := k1
   simp only [List.cons.injEq, and_true] at k1'
   subst k1'
   simp only [List.flatten_cons, this, textCells, List.map_cons]
   rfl
theorem rep_val {W : World} {S : Nat → Prop} {k0 k1 k2 k3 k4 : Value} {d : valTy.den} (h : Rep W S valTy [k0, k1, k2, k3, k4] d) : k0 = .int .i64 (valOf d).kind ∧ k1 = strV (valOf d).text ∧ ValRd (Base.of W) (valOf d) k2 k3 k4 := by
 obtain ⟨⟨e0, _⟩, ⟨e1, _⟩, e2, e3, e4, _⟩ := h
 have e0' : [k0] = _ := e0
 have e1' : [k1] = _ := e1
 simp only [List.cons.injEq, and_true] at e0' e1'
 obtain ⟨a2, c2, x2, f2, g2, i2, j2⟩ := rep_row e2
 obtain ⟨a3, c3, x3, f3, g3, i3, j3⟩ := rep_row e3
 obtain ⟨a4, c4, x4, f4, g4, i4, j4⟩ := rep_row e4
 have f2' : [k2] = _ := f2
 have f3' : [k3] = _ := f3
 have f4' : [k4] = _ := f4
 simp only [List.cons.injEq, and_true] at f2' f3' f4'
 rw [rep_pairs j2] at i2
 rw [rep_texts j3] at i3
 rw [rep_mems j4] at i4
 refine ⟨e0', e1', ⟨a2, c2, ?_, ?_, i2⟩, ⟨a3, c3, f3', g3, i3⟩, ⟨a4, c4, ?_, ?_, i4⟩⟩
 ·rw [f2']; simp [valOf]
 ·simpa [valOf] using g2
 ·rw [f4']; simp [valOf]
 simpa [valOf] using g4
end Go.Pm
namespace Go.Proofs.YtmpackidbgfoiaaGreatDoor
open Go
theorem tabOf {W : World} {l : List (String × DataW Unit)} (hl : l.filter (fun x => x.1 == "internal/strconv.uint64pow10") = [("internal/strconv.uint64pow10", Lib.tabData .u64 Lib.pow10Tab)]) (hL : laidMetH Tryz.prog l W) : Lib.TabIs Tryz.prog W "internal/strconv.uint64pow10" .u64 Lib.pow10Tab := by
 have h := hL.filter (fun x => x.1 == "internal/strconv.uint64pow10")
 rw [hl] at h
 have h2 := (laidMetH_iff.1 h).1
 have e : ([("internal/strconv.uint64pow10", (Lib.tabData .u64 Lib.pow10Tab : DataW Unit))].filter fun x => x.2.handleName?.isNone) = [("internal/strconv.uint64pow10", Lib.tabData .u64 Lib.pow10Tab)] := by kernel_rfl
 rw [e] at h2
 exact Lib.tabIs_of_head (g := 2) (t := 214) (e := 196) (n := 20) (by kernel_rfl) (by kernel_rfl) Tryz.underlying214 Tryz.underlying196 (by kernel_rfl) (by kernel_rfl) h2
open Go.RowKit Go.Pm
theorem parsesAny (B : Base) (H : List Res) (h1 : HasErr B 0) (h2 : HasErr B 1) : ParsesAny B H := fun w s hs hv => by
 obtain ⟨t1, v1, h1⟩ := h1
 obtain ⟨t2, v2, h2⟩ := h2
 have c1 := h1 B H w (Base.Le.refl _) hv
 have c2 := h2 B H w (Base.Le.refl _) hv
 have hmax : (ByteArray.mk s.toArray).size ≤ 20 := by show s.toArray.size ≤ 20; simpa using hs
 cases hp : Lib.parseIntB 64 s
 case ok n =>
  have hb := Lib.parseIntB_bounds hp
  have h : Calls Tryz.prog 104 #[vS s, vI 10, vI 64] w _ := Any.strconv_ParseInt_10_at64_ok Tryz.laysPI ⟨s.toArray⟩ (by omega) n hp w
  refine h.mono ?_
  rintro e w' ⟨rfl, hw⟩
  refine ⟨n, .nilIface, rfl, .inl rfl, by omega, fun m m0 m1 e9 => ⟨rfl, ?_⟩, ?_⟩
  ·rw [e9, parse_itoa m m0 m1] at hp
   cases hp; rfl
  rcases hw with rfl | ⟨t, rfl⟩
  ·exact hv
  exact hv.ext (bytesWorld_ext w _ t)
 ·skip
  have h : Calls Tryz.prog 104 #[vS s, vI 10, vI 64] w _ := Any.strconv_ParseInt_10_at64_syntax Tryz.laysPI ⟨s.toArray⟩ (by omega) hp _ w c1 (.inr ⟨_, _, rfl⟩)
  refine h.mono ?_
  rintro e w' ⟨N, rfl, -, -, hx⟩
  refine ⟨0, _, rfl, .inr ⟨_, _, rfl⟩, by omega, fun m m0 m1 e9 => ?_, hv.ext hx⟩
  rw [e9, parse_itoa m m0 m1] at hp
  cases hp
 case range =>
  have h : Calls Tryz.prog 104 #[vS s, vI 10, vI 64] w _ := Any.strconv_ParseInt_10_at64_range Tryz.laysPI ⟨s.toArray⟩ (by omega) hp _ w c2 (.inr ⟨_, _, rfl⟩)
  refine h.mono ?_
  rintro e w' ⟨N, rfl, -, -, hx⟩
  refine ⟨_, _, rfl, .inr ⟨_, _, rfl⟩, ?_, fun m m0 m1 e9 => ?_, hv.ext hx⟩
  ·unfold Lib.intSat
   split <;> decide
  rw [e9, parse_itoa m m0 m1] at hp
  cases hp
theorem numB {W : World} {l : List (String × DataW Unit)} (hl0 : l.filter (fun x => x.1 == "internal/strconv.uint64pow10") = [("internal/strconv.uint64pow10", Lib.tabData .u64 Lib.pow10Tab)])
  {n1 n2 : String} {d1 d2 : DataW Unit} (hl1 : l.filter (fun x => x.1 == "strconv.ErrSyntax") = [("strconv.ErrSyntax", .iface n1 d1)]) (he1 : ([("strconv.ErrSyntax", (DataW.iface n1 d1 : DataW Unit))].filter fun x => x.2.handleName?.isNone) = [("strconv.ErrSyntax", .iface n1 d1)])
  (hl2 : l.filter (fun x => x.1 == "strconv.ErrRange") = [("strconv.ErrRange", .iface n2 d2)]) (he2 : ([("strconv.ErrRange", (DataW.iface n2 d2 : DataW Unit))].filter fun x => x.2.handleName?.isNone) = [("strconv.ErrRange", .iface n2 d2)]) (hL : laidMetH Tryz.prog l W) : NumB (Base.of W) := by
 have ht := tabOf hl0 hL
 obtain ⟨u1, v1, h1⟩ := errOf hl1 he1 (g := 0) (t := 185) (by kernel_rfl) (by kernel_rfl) Tryz.underlying185 hL
 obtain ⟨u2, v2, h2⟩ := errOf hl2 he2 (g := 1) (t := 185) (by kernel_rfl) (by kernel_rfl) Tryz.underlying185 hL
 exact fun C H hC => ⟨formatsInt C H W hC ht, parsesAny C H ((hasErr_of h1).more hC) ((hasErr_of h2).more hC)⟩
end Go.Proofs.YtmpackidbgfoiaaGreatDoor
namespace Go.Pm
open Go.RowKit
theorem rep_textsM {W : World} {S : Nat → Prop} {cs : List Value} {l : List (List UInt8)} (h : Rep W S (.slice .str) cs l) : ∃ a c, cs = [.slice a l.length c] ∧ SliceOk a l.length c ∧ RdV (Base.of W) [] a (textCells l) ∧ ∀ x ∈ l, x.length ≤ 9223372036854775807 := by
 have hb : ∀ x ∈ l, x.length ≤ 9223372036854775807 := by
  obtain ⟨a, cap, h1, h2, h4⟩ := h
  intro x hx
  obtain ⟨i, hi, rfl⟩ := List.getElem_of_mem hx
  obtain ⟨b, off, xs, e1, e2, e3, e4, e5⟩ := h4 i hi
  exact e5.2
 obtain ⟨a, c, xss, h1, h2, h3, h4⟩ := rep_row h
 rw [rep_texts h4] at h3
 exact ⟨a, c, h1, h2, h3, hb⟩
abbrev keyTy : Ty := .pair .str (.pair valTy (.pair (.int .i64) .unit))
def KeysRd (B : Base) (a : Option Addr) (n : Nat) : Prop := ∀ i, i < n → ∃ (b off : Nat) (key : List UInt8) (x : Val) (p t z : Value) (ex : Int), a = some ⟨b, off, none⟩ ∧
 Reads B [] b (off + i * 7) [strV key, vI x.kind, strV x.text, p, t, z, vI ex] ∧ ValRd B x p t z
theorem rep_keys {W : World} {cs : List Value} {l : List keyTy.den} (h : Rep W (· < W.heap.size) (.slice keyTy) cs l) :
  ∃ (a : Option Addr) (cap n : Nat), cs = [.slice a n cap] ∧ KeysRd (Base.of W) a n := by
 obtain ⟨a, cap, h1, h2, h4⟩ := h
 refine ⟨a, cap, l.length, h1, fun i hi => ?_⟩
 obtain ⟨b, off, xs, e1, e2, e3, e4, e5⟩ := h4 i hi
 match xs, e3 with
 | [x0, y4, y5, y6, y7, y8, x1], _ =>
  obtain ⟨⟨k1, _⟩, v1, ⟨m1, hm1⟩, _⟩ := e5
  have k1' : [x0] = _ := k1
  have m1' : [x1] = _ := m1
  simp only [List.cons.injEq, and_true] at k1' m1'
  obtain ⟨q1, q2, q3⟩ := rep_val (k0 := y4) (k1 := y5) (k2 := y6) (k3 := y7) (k4 := y8) v1
  subst k1' m1' q1 q2
  refine ⟨b, off, l[i].1, valOf l[i].2.1, y6, y7, y8, l[i].2.2.1, e1, ?_, q3⟩
  intro C K w hC hR hv j v hj
  obtain ⟨hj1, hj2⟩ := List.getElem?_eq_some_iff.1 hj
  simp only [List.length_cons, List.length_nil] at hj1
  have := e4 j hj1
  rw [← hj2]
  refine Eq.trans ?_ (this.trans ?_)
  ·exact World.cell?_of_block (by rw [Array.getElem?_eq_getElem e2]; exact hv.base.blk b _ (hC.blk b _ (Array.getElem?_eq_getElem e2)))
  match j, hj1 with
  | 0, _ | 1, _ | 2, _ | 3, _ | 4, _ | 5, _ | 6, _ => rfl
abbrev cmdTy : Ty := .pair (.int .i64) (.pair (.slice .str) .unit)
theorem rep_cmd {W : World} {S : Nat → Prop} {cs : List Value} {d : cmdTy.den} (h : Rep W S cmdTy cs d) : ∃ a c, cs = [vI d.1, .slice a d.2.1.length c] ∧ -9223372036854775808 ≤ d.1 ∧ d.1 ≤ 9223372036854775807 ∧ SliceOk a d.2.1.length c ∧ RdV (Base.of W) [] a (textCells d.2.1) ∧ ∀ x ∈ d.2.1, x.length ≤ 9223372036854775807 := by
 obtain ⟨⟨h1, hw⟩, h2, h3⟩ := h
 obtain ⟨a, c, e, hok, hr, hb⟩ := rep_textsM h2
 have hbd := bounds_i64 hw
 have h3' : (cs.drop 1).drop 1 = [] := h3
 have h1' : cs.take 1 = [vI d.1] := h1
 have e' : (cs.drop 1).take 1 = [.slice a d.2.1.length c] := e
 refine ⟨a, c, ?_, hbd.1, hbd.2, hok, hr, hb⟩
 match cs, h1', e', h3' with
 | [], h1', _, _ => cases h1'
 | [x], _, e', _ => cases e'
 | [x, y], h1', e', _ =>
  simp only [List.take, List.drop, List.cons.injEq, and_true] at h1' e'
  rw [h1', e']
 | x :: y :: z :: l, _, _, h3' => cases h3'
end Go.Pm
namespace Go.Proofs.YtmpackidbgfoiaaGreatDoor
open Go.RowKit Go.Pm
def laidAll : List (String × DataW Unit) := [("math/bits.deBruijn32tab", Rows.laid_math_bits_deBruijn32tab), ("math/bits.deBruijn64tab", Rows.laid_math_bits_deBruijn64tab), ("internal/strconv.uint64pow10", Rows.laid_internal_strconv_uint64pow10), ("strconv.ErrRange", Rows.laid_strconv_ErrRange), ("strconv.ErrSyntax", Rows.laid_strconv_ErrSyntax)]
abbrev dSyn : DataW Unit := .ptr (.agg [.lit (.string [105, 110, 118, 97, 108, 105, 100, 32, 115, 121, 110, 116, 97, 120])])
abbrev dRan : DataW Unit := .ptr (.agg [.lit (.string [118, 97, 108, 117, 101, 32, 111, 117, 116, 32, 111, 102, 32, 114, 97, 110, 103, 101])])
theorem numAll {W : World} (hL : laidMetH Tryz.prog laidAll W) : NumB (Base.of W) :=
 numB (l := laidAll) (n1 := "*errors.errorString") (d1 := dSyn) (n2 := "*errors.errorString") (d2 := dRan) (by kernel_rfl) (by kernel_rfl) (by kernel_rfl) (by kernel_rfl) (by kernel_rfl) hL
theorem lwpal32 : AL Tryz.prog 32 [vN, vI 0, vN] := fun w => by kernel_rfl
theorem lwpes22 (w : World) : (sizeOf (Tryz.prog.elem 22)).run Tryz.prog w = .ok 7 w := by kernel_rfl
theorem lwpwd62 : Wide Tryz.prog 62 7 := wide_of (fun w => by kernel_rfl) (by kernel_rfl)
theorem lwpal62 : AL Tryz.prog 62 [vS [], vI 0, vS [], vN, vN, vN, vI 0] := fun w => by kernel_rfl
theorem lwpsz62 : (Tryz.prog.info? 62).map (·.size) = some 7 := by kernel_rfl
theorem lwpfa62_0 : FA Tryz.prog 62 0 0 := fun w b o => by kernel_rfl
theorem lwpfa62_1 : FA Tryz.prog 62 1 1 := fun w b o => by kernel_rfl
theorem lwpcallable16 : Callable Tryz.prog 16 := cb Tryz.func16 (by kernel_rfl)
theorem lwpcallable17 : Callable Tryz.prog 17 := cb Tryz.func17 (by kernel_rfl)
theorem lwpfa62_2 : FA Tryz.prog 62 2 6 := fun w b o => by kernel_rfl
theorem lwpcallable18 : Callable Tryz.prog 18 := cb Tryz.func18 (by kernel_rfl)
theorem lwpcallable19 : Callable Tryz.prog 19 := cb Tryz.func19 (by kernel_rfl)
theorem lawPut (B : Base) (H : List Res) (w : World) (v t m s p wb : Nat) (va : Option Addr) (vc : Nat) (sv : Value) (now : Int) (_ : 0 ≤ now) (_ : now ≤ 1099511627776) (ad : Option Addr) (n ac : Nat) (hkr : KeysRd B ad n) (hv : Inv B (Res.cell v [.iface 52 (vP t)] 79 :: txR t m s p wb va vc sv now [] :: H) w) :
  Calls Tryz.prog 7 #[vP v, .agg #[vN, vI now, vN], .slice ad n ac] w fun e w' => ∃ C es M K wl ka wa kc wc xs, B.Le C ∧ K.length ≤ 10 ∧ wl.length ≤ 10 ∧ VM C es M ∧ OkM M ∧ RelVK M K ∧ KeysOk M 10 ∧ RefV C K wl ka wa kc wc xs ∧ e = .returned (.tuple #[.agg #[.slice ka K.length kc, vI now, .slice wa wl.length wc], .bool true]) ∧ Inv C (Res.cell v [.iface 52 (vP t)] 79 :: txR t m s p wb va vc sv now es :: H) w' := by
 refine cW Tryz.func7 rfl Tryz.ntmps7 ?_
 simp only [al]
 refine sK fun _ k1 => rL (sl_box (L := [vN, vI now, vN]) tV (wn rfl) rfl rfl hv (fun w => by kernel_rfl) (fun b2 w3 hv => ?_))
 refine sl_alloc tV (wn rfl) rfl hv lwpal32 (fun b4 w5 hv => ?_)
 refine uA rfl (uW k1 ?_)
 refine sK fun _ k6 => sK fun _ k7 => rL (uA rfl ?_)
 refine uW k7 (bB ?_)
 gi_loopw [8] (fun x8 wr => ∃ (i : Nat) (C : Base) (es : List (List UInt8 × Value)) (M : List (List UInt8 × Ver)) (K : List KeyR) (wl : List (List UInt8)) (ka wa : Option Addr) (kc wc : Nat) (xs : List Value), x8 = vI i ∧ B.Le C ∧ i ≤ n ∧ (i ≤ 10 ∧ K.length ≤ i ∧ wl.length ≤ i ∧ VM C es M ∧ OkM M ∧ RelVK M K ∧ KeysOk M i ∧ RefV C K wl ka wa kc wc xs) ∧ Inv C (Res.cell v [.iface 52 (vP t)] 79 :: txR t m s p wb va vc sv now es :: Res.cell b2 [.slice ka K.length kc, vI now, .slice wa wl.length wc] 32 :: Res.cell b4 [vN, vI 0, vN] 32 :: H) wr) (fun x8 _ => n - (intOf x8).toNat)
 case atStart => exact ⟨0, B, [], [], [], [], none, none, 0, 0, [], rfl, Base.Le.refl _, Nat.zero_le _, ⟨Nat.zero_le _, Nat.le_refl _, Nat.le_refl _, trivial, OkM.nil, RelVK.nil, ⟨List.Pairwise.nil, Nat.le_refl _, fun k h => (by cases h)⟩, ⟨⟨Nat.le_refl _, Nat.zero_le _, fun _ => rfl⟩, rdV_nil, rfl, ⟨Nat.le_refl _, Nat.zero_le _, fun _ => rfl⟩, rdV_nil⟩⟩, (((hv.front 1 rfl).front 3 rfl).front 3 rfl)⟩
 case round =>
  obtain ⟨i, C, es, M, K, wl, ka, wa, kc, wc, xs, rfl, hBC, hi, ⟨hi10, hKl, hwl, hM, hO, hRK, hKO, hRV⟩, hv⟩ := hrel
  refine sK fun _ k9 => sK fun _ k10 => rL (uM rfl ?_)
  refine uM rfl ?_
  refine uG (vI n) rfl (ex_len0 Tryz.underlying22 rfl rfl) ?_
  by_cases hb11 : (i : Int) < (n : Int)
  ·refine uG (.bool true) rfl (ex_lss rfl rfl rfl (qT hb11)) (uM rfl ?_)
   refine uM rfl ?_
   by_cases hb12 : (i : Int) < 10
   ·refine uG (.bool true) rfl (ex_lss rfl rfl rfl (qT hb12)) (uK rfl ?_)
    refine uW k10 (cT rfl ?_)
    refine kS (tK k9 ?_)
    refine sK fun _ k13 => bB (sK fun _ k14 => ?_)
    obtain ⟨bb, bo, key, x, xp, xt, xz, ex, had, hrd, hrdv⟩ := hkr i (by omega)
    subst had
    refine rL (uM rfl ?_)
    refine uM rfl ?_
    refine uG (.pointer (some ⟨bb, bo + i * 7, none⟩)) rfl (ex_index rfl rfl rfl (run_idx (k := i) Tryz.underlying22 lwpes22 (by omega))) ?_
    refine uL (.agg #[vS key, vI x.kind, vS x.text, xp, xt, xz, vI ex]) rfl (run_loadR (cs := [vS key, vI x.kind, vS x.text, xp, xt, xz, vI ex]) lwpwd62 (Reads.mid (pre := []) (mid := [vS key, vI x.kind, vS x.text, xp, xt, xz, vI ex]) (post := []) hrd _ _ _ hBC no_res hv)) ?_
    refine sl_alloc tV (wn rfl) rfl hv lwpal62 (fun b15 w16 hv => ?_)
    refine xS 0 rfl hv lwpsz62 rfl (by exact ⟨rfl, rfl, rfl, hrdv.p.one, hrdv.t.one, hrdv.z.one, rfl, trivial⟩) (fun w17 hv => ?_)
    simp only [zO, sp] at hv
    refine uW k14 (sK fun _ k18 => ?_)
    refine sK fun _ k19 => rL (uF (vP b15) rfl (lwpfa62_0 _ _ _) ?_)
    refine uL _ rfl (run_load1 s9na9 (hv.load 0 0 rfl rfl)) ?_
    refine uG (vI (key.length : Int)) rfl (ex_lenStr Tryz.underlying9 rfl rfl) ?_
    by_cases hb20 : (key.length : Int) > 256
    ·refine uG (.bool true) rfl (ex_gtr rfl rfl rfl (qT hb20)) (uM rfl ?_)
     iterate 4 refine uP rfl ?_
     refine uK rfl (uM rfl ?_)
     iterate 4 refine uP rfl ?_
     refine uK rfl (uM rfl ?_)
     iterate 3 refine uP rfl ?_
     refine uK rfl (uM rfl ?_)
     iterate 3 refine uP rfl ?_
     refine uK rfl (uW k19 ?_)
     refine cT rfl (xE ?_)
     refine tX (bH ?_)
     refine tK k13 (rL ?_)
     refine uM rfl ?_
     refine uG (vI ((i + 1 : Nat) : Int)) rfl (ex_add rfl rfl rfl (by rw [i64_in (by omega)]; omega)) (uA rfl ?_)
     refine uZ (then_normal ?_)
     go_roundw
     case rel => exact ⟨i + 1, _, _, _, _, _, _, _, _, _, _, rfl, hBC, by omega, ⟨by omega, by omega, by omega, hM, hO, hRK, ⟨hKO.nd, by have := hKO.len; omega, hKO.sh⟩, hRV⟩, (hv.kp [4, 4, 4, 4] 4 1)⟩
     case measure => show n - (((i + 1 : Nat) : Int)).toNat < n - ((i : Int)).toNat; omega
    refine uG (.bool false) rfl (ex_gtr rfl rfl rfl (qF hb20)) (uM rfl ?_)
    refine uF (.pointer (some ⟨b15, 1, none⟩)) rfl (lwpfa62_1 _ _ _) ?_
    refine uL (.agg #[vI x.kind, vS x.text, xp, xt, xz]) rfl (lM 0 s1wd60 hv rfl rfl rfl rfl) ?_
    refine xC lwpcallable16 rfl ((refSmall C _ _ x xp xt xz (hrdv.more hBC) hv).mono ?_) rfl
    rintro e w22 ⟨bl21, rfl, hbl21, hv⟩
    refine ⟨_, rfl, ?_⟩
    cases bl21
    ·refine uG (.bool true) rfl (ex_not rfl rfl rfl) (uK rfl ?_)
     refine uM rfl ?_
     iterate 4 refine uP rfl ?_
     refine uK rfl (uM rfl ?_)
     iterate 3 refine uP rfl ?_
     refine uK rfl (uM rfl ?_)
     iterate 3 refine uP rfl ?_
     refine uK rfl (uW k19 ?_)
     refine cT rfl (xE ?_)
     refine tX (bH ?_)
     refine tK k13 (rL ?_)
     refine uM rfl ?_
     refine uG (vI ((i + 1 : Nat) : Int)) rfl (ex_add rfl rfl rfl (by rw [i64_in (by omega)]; omega)) (uA rfl ?_)
     refine uZ (then_normal ?_)
     go_roundw
     case rel => exact ⟨i + 1, _, _, _, _, _, _, _, _, _, _, rfl, hBC, by omega, ⟨by omega, by omega, by omega, hM, hO, hRK, ⟨hKO.nd, by have := hKO.len; omega, hKO.sh⟩, hRV⟩, (hv.kp [4, 4, 4, 4] 4 1)⟩
     case measure => show n - (((i + 1 : Nat) : Int)).toNat < n - ((i : Int)).toNat; omega
    have hva := valRd_at2 hrdv (hbl21 rfl)
    refine uG (.bool false) rfl (ex_not rfl rfl rfl) (uK rfl ?_)
    refine uM rfl ?_
    refine uF (.pointer (some ⟨b15, 1, none⟩)) rfl (lwpfa62_1 _ _ _) ?_
    refine uL (.agg #[vI x.kind, vS x.text, xp, xt, xz]) rfl (lM 0 s1wd60 hv rfl rfl rfl rfl) ?_
    refine xC lwpcallable17 rfl ((refRightV C _ _ x xp xt xz (hva.more hBC) hv).mono ?_) rfl
    rintro e w24 ⟨bl23, rfl, hbl23, hv⟩
    refine ⟨_, rfl, ?_⟩
    cases bl23
    ·refine uG (.bool true) rfl (ex_not rfl rfl rfl) (uK rfl ?_)
     refine uM rfl ?_
     iterate 3 refine uP rfl ?_
     refine uK rfl (uM rfl ?_)
     iterate 3 refine uP rfl ?_
     refine uK rfl (uW k19 ?_)
     refine cT rfl (xE ?_)
     refine tX (bH ?_)
     refine tK k13 (rL ?_)
     refine uM rfl ?_
     refine uG (vI ((i + 1 : Nat) : Int)) rfl (ex_add rfl rfl rfl (by rw [i64_in (by omega)]; omega)) (uA rfl ?_)
     refine uZ (then_normal ?_)
     go_roundw
     case rel => exact ⟨i + 1, _, _, _, _, _, _, _, _, _, _, rfl, hBC, by omega, ⟨by omega, by omega, by omega, hM, hO, hRK, ⟨hKO.nd, by have := hKO.len; omega, hKO.sh⟩, hRV⟩, (hv.kp [4, 4, 4, 4] 4 1)⟩
     case measure => show n - (((i + 1 : Nat) : Int)).toNat < n - ((i : Int)).toNat; omega
    refine uG (.bool false) rfl (ex_not rfl rfl rfl) (uK rfl ?_)
    refine uM rfl ?_
    refine uF (.pointer (some ⟨b15, 6, none⟩)) rfl (lwpfa62_2 _ _ _) ?_
    refine uL _ rfl (run_load1 s2na3 (hv.load 0 6 rfl rfl)) ?_
    by_cases hb25 : ex < 0
    ·refine uG (.bool true) rfl (ex_lss rfl rfl rfl (qT hb25)) (uK rfl ?_)
     refine uM rfl ?_
     iterate 3 refine uP rfl ?_
     refine uK rfl (uW k19 ?_)
     refine cT rfl (xE ?_)
     refine tX (bH ?_)
     refine tK k13 (rL ?_)
     refine uM rfl ?_
     refine uG (vI ((i + 1 : Nat) : Int)) rfl (ex_add rfl rfl rfl (by rw [i64_in (by omega)]; omega)) (uA rfl ?_)
     refine uZ (then_normal ?_)
     go_roundw
     case rel => exact ⟨i + 1, _, _, _, _, _, _, _, _, _, _, rfl, hBC, by omega, ⟨by omega, by omega, by omega, hM, hO, hRK, ⟨hKO.nd, by have := hKO.len; omega, hKO.sh⟩, hRV⟩, (hv.kp [4, 4, 4, 4] 4 1)⟩
     case measure => show n - (((i + 1 : Nat) : Int)).toNat < n - ((i : Int)).toNat; omega
    refine uG (.bool false) rfl (ex_lss rfl rfl rfl (qF hb25)) (uK rfl ?_)
    refine uM rfl ?_
    refine uF (.pointer (some ⟨b15, 6, none⟩)) rfl (lwpfa62_2 _ _ _) ?_
    refine uL _ rfl (run_load1 s2na3 (hv.load 0 6 rfl rfl)) ?_
    by_cases hb26 : ex > 1099511627776
    ·refine uG (.bool true) rfl (ex_gtr rfl rfl rfl (qT hb26)) (uK rfl ?_)
     refine uW k19 (cT rfl ?_)
     refine xE (tX ?_)
     refine bH (tK k13 ?_)
     refine rL (uM rfl ?_)
     refine uG (vI ((i + 1 : Nat) : Int)) rfl (ex_add rfl rfl rfl (by rw [i64_in (by omega)]; omega)) (uA rfl ?_)
     refine uZ (then_normal ?_)
     go_roundw
     case rel => exact ⟨i + 1, _, _, _, _, _, _, _, _, _, _, rfl, hBC, by omega, ⟨by omega, by omega, by omega, hM, hO, hRK, ⟨hKO.nd, by have := hKO.len; omega, hKO.sh⟩, hRV⟩, (hv.kp [4, 4, 4, 4] 4 1)⟩
     case measure => show n - (((i + 1 : Nat) : Int)).toNat < n - ((i : Int)).toNat; omega
    refine uG (.bool false) rfl (ex_gtr rfl rfl rfl (qF hb26)) (uK rfl ?_)
    refine uW k19 (cF rfl ?_)
    refine kS (tK k18 ?_)
    refine sK fun _ k27 => sK fun _ k28 => rL (uM rfl ?_)
    refine uF (vP b15) rfl (lwpfa62_0 _ _ _) ?_
    refine uL _ rfl (run_load1 s9na9 (hv.load 0 0 rfl rfl)) ?_
    refine uF (.pointer (some ⟨b15, 1, none⟩)) rfl (lwpfa62_1 _ _ _) ?_
    refine uL (.agg #[vI x.kind, vS x.text, xp, xt, xz]) rfl (lM 0 s1wd60 hv rfl rfl rfl rfl) ?_
    refine uF (.pointer (some ⟨b15, 6, none⟩)) rfl (lwpfa62_2 _ _ _) ?_
    refine uL _ rfl (run_load1 s2na3 (hv.load 0 6 rfl rfl)) ?_
    replace hv := hv.front 2 rfl
    simp only [eS, eZ] at hv
    replace hv := hv.front 2 rfl
    simp only [eS, eZ] at hv
    refine xC lwpcallable18 rfl ((viewKeep C _ _ v t m s p wb va vc sv now es M key x xp xt xz ex (hM.more (Base.Le.refl _)) (hva.more hBC) hv).mono ?_) rfl
    rintro e w29 ⟨D, es2, M2, ec, hD, rfl, hM2, hkp, hv⟩
    refine ⟨_, rfl, ?_⟩
    have hO2 := hO.keep hkp
    obtain ⟨hec, hmm⟩ := keep_ok (by omega) (fun _ => ⟨by omega, hbl23.1 rfl, by omega, by omega⟩) hkp
    subst hec
    refine uG (.bool false) rfl (ex_neq rfl rfl rfl (by decide)) (uW k28 ?_)
    refine cF rfl (kS ?_)
    refine tK k27 (rL ?_)
    refine uL (.agg #[.slice ka K.length kc, vI now, .slice wa wl.length wc]) rfl (lM 3 v2wd32 hv rfl rfl rfl rfl) ?_
    refine uF (vP b15) rfl (lwpfa62_0 _ _ _) ?_
    refine uL _ rfl (run_load1 s9na9 (hv.load 2 0 rfl rfl)) ?_
    refine uF (.pointer (some ⟨b15, 1, none⟩)) rfl (lwpfa62_1 _ _ _) ?_
    refine uL (.agg #[vI x.kind, vS x.text, xp, xt, xz]) rfl (lM 2 s1wd60 hv rfl rfl rfl rfl) ?_
    refine uF (.pointer (some ⟨b15, 6, none⟩)) rfl (lwpfa62_2 _ _ _) ?_
    refine uL _ rfl (run_load1 s2na3 (hv.load 2 6 rfl rfl)) ?_
    refine xC lwpcallable19 rfl ((refPut20 D _ _ K wl ka wa kc wc xs now (hRV.more hD) (by omega) (by omega) (hRK.short hKO) key x xp xt xz ex (hva.more (hBC.trans hD)) hv).mono ?_) rfl
    rintro e w30 ⟨E, K2, wl2, ka2, kc2, wa2, wc2, xs2, hE, rfl, hRV2, hK2, hwl2, hv⟩
    refine ⟨_, rfl, ?_⟩
    have hRK2 := rel_step hRK hmm hK2
    have hKO2 := hKO.step (by omega) hmm
    have hKl2 := putK_len hK2
    refine xS 3 rfl hv v2sz32 rfl (by exact ⟨rfl, rfl, rfl, trivial⟩) (fun w31 hv => ?_)
    simp only [zS, zO, sp] at hv
    refine uZ (bN ?_)
    refine tK k13 (rL ?_)
    refine uM rfl ?_
    refine uG (vI ((i + 1 : Nat) : Int)) rfl (ex_add rfl rfl rfl (by rw [i64_in (by omega)]; omega)) (uA rfl ?_)
    refine uZ (then_normal ?_)
    go_roundw
    case rel => exact ⟨i + 1, _, _, _, _, _, _, _, _, _, _, rfl, ((hBC.trans hD).trans hE), by omega, ⟨by omega, by omega, by omega, hM2.more hE, hO2, hRK2, hKO2, hRV2.more (Base.Le.refl _)⟩, (hv.kp [4, 4, 3, 3] 4 1)⟩
    case measure => show n - (((i + 1 : Nat) : Int)).toNat < n - ((i : Int)).toNat; omega
   refine uG (.bool false) rfl (ex_lss rfl rfl rfl (qF hb12)) (uK rfl ?_)
   refine uW k10 (cF rfl ?_)
   refine xE (tX ?_)
   refine tX (bH ?_)
   refine tK k6 (sK fun _ k32 => ?_)
   refine rL (uL (.agg #[.slice ka K.length kc, vI now, .slice wa wl.length wc]) rfl (lM 2 v2wd32 hv rfl rfl rfl rfl) ?_)
   refine xS 3 rfl hv v2sz32 rfl (by exact ⟨rfl, rfl, rfl, trivial⟩) (fun w33 hv => ?_)
   simp only [zS, zO, sp] at hv
   refine uA rfl (uW k32 ?_)
   refine rR (bodyPost_ret (res_cell2 rfl rfl (lM 3 v2wd32 hv rfl rfl rfl rfl)) rfl ?_)
   exact ⟨C, es, M, K, wl, ka, wa, kc, wc, xs, hBC, by omega, by omega, hM, hO, hRK, ⟨hKO.nd, by have := hKO.len; omega, hKO.sh⟩, hRV, rfl, (hv.kp [1, 1] 2 2)⟩
  refine uG (.bool false) rfl (ex_lss rfl rfl rfl (qF hb11)) (uM rfl ?_)
  refine uP rfl ?_
  refine uP rfl (uK rfl ?_)
  refine uW k10 (cF rfl ?_)
  refine xE (tX ?_)
  refine tX (bH ?_)
  refine tK k6 (sK fun _ k34 => ?_)
  refine rL (uL (.agg #[.slice ka K.length kc, vI now, .slice wa wl.length wc]) rfl (lM 2 v2wd32 hv rfl rfl rfl rfl) ?_)
  refine xS 3 rfl hv v2sz32 rfl (by exact ⟨rfl, rfl, rfl, trivial⟩) (fun w35 hv => ?_)
  simp only [zS, zO, sp] at hv
  refine uA rfl (uW k34 ?_)
  refine rR (bodyPost_ret (res_cell2 rfl rfl (lM 3 v2wd32 hv rfl rfl rfl rfl)) rfl ?_)
  exact ⟨C, es, M, K, wl, ka, wa, kc, wc, xs, hBC, by omega, by omega, hM, hO, hRK, ⟨hKO.nd, by have := hKO.len; omega, hKO.sh⟩, hRV, rfl, (hv.kp [1, 1] 2 2)⟩
section
variable {M : List (List UInt8 × Ver)} {now : Int} {name : List UInt8} {y : Ver} {ok : Bool} {k : KeyR}
theorem got_yes (h : (ok = true ∧ lookA M name = some y ∧ aliveB y now = true) ∨ (ok = false ∧ y = zver0 ∧ ∀ y9, lookA M name = some y9 → aliveB y9 now = false)) (hl : lookA M name = some ⟨0, false, k.exp, k.val⟩) (ha : aliveB ⟨0, false, k.exp, k.val⟩ now = true) : ok = true ∧ y = kver k := by
 rcases h with ⟨h1, h2, -⟩ | ⟨-, -, h2⟩
 ·rw [hl] at h2; cases h2; exact ⟨h1, rfl⟩
 rw [h2 _ hl] at ha; cases ha
theorem got_no (h : (ok = true ∧ lookA M name = some y ∧ aliveB y now = true) ∨ (ok = false ∧ y = zver0 ∧ ∀ y9, lookA M name = some y9 → aliveB y9 now = false)) (hd : DeadM M now name) : ok = false ∧ y = zver0 := by
 rcases h with ⟨-, h2, h3⟩ | ⟨h1, h2, -⟩
 ·rw [hd y h2] at h3; cases h3
 exact ⟨h1, h2⟩
end
theorem getKB (B : Base) (H : List Res) (w : World) (K : List KeyR) (wl : List (List UInt8)) (ka wa : Option Addr) (kc wc : Nat) (xs : List Value) (clk : Int) (hR : RefV B K wl ka wa kc wc xs) (hm : K.length ≤ 10000) (hmw : wl.length ≤ 10000) (name : List UInt8) (hv : Inv B H w) : Calls Tryz.prog 27 #[.agg #[.slice ka K.length kc, vI clk, .slice wa wl.length wc], vS name] w fun e w' => ∃ x p' t' z' ok, e = .returned (.tuple #[.agg (krCells x p' t' z').toArray, .bool ok]) ∧ ((ok = true ∧ getK K clk name = some x) ∨ (ok = false ∧ x = zkey ∧ getK K clk name = none)) ∧ ValAt B x.val p' t' z' ∧ Inv B H w' := by
 refine (refGet20 B H w K wl ka wa kc wc xs clk hR hm hmw name hv).mono ?_
 rintro e w' ⟨x, p', t', z', ok, rfl, h1, h2, h3⟩
 exact ⟨x, p', t', z', ok, rfl, h1.imp (fun h => ⟨h.1, h.2.1⟩) (fun h => ⟨h.1, h.2.1, h.2.2.1⟩), h2, h3⟩
theorem l2callable173 : Callable Tryz.prog 173 := cb Tryz.func173 (by kernel_rfl)
theorem l2callable26 : Callable Tryz.prog 26 := cb Tryz.func26 (by kernel_rfl)
theorem l2al81 : AL Tryz.prog 81 [vI 0, .bool false, vI 0, vI 0, vS [], vN, vN, vN] := fun w => by kernel_rfl
theorem l2al84 : AL Tryz.prog 84 [vS [], vI 0, vS [], vN, vN, vN, vI 0] := fun w => by kernel_rfl
theorem l2fa84_1 : FA Tryz.prog 84 1 1 := fun w b o => by kernel_rfl
theorem l2callable28 : Callable Tryz.prog 28 := cb Tryz.func28 (by kernel_rfl)
theorem lawSame (B : Base) (H : List Res) (w : World) (v t m s p wb : Nat) (va : Option Addr) (vc : Nat) (sv : Value) (now : Int) (es : List (List UInt8 × Value)) (M : List (List UInt8 × Ver)) (K : List KeyR) (wl : List (List UInt8)) (ka wa : Option Addr) (kc wc : Nat) (xs : List Value) (hM : VM B es M) (hRK : RelVK M K) (hKO : KeysOk M 10) (hRV : RefV B K wl ka wa kc wc xs) (hKl : K.length ≤ 10) (hwl : wl.length ≤ 10) (hv : Inv B (Res.cell v [.iface 52 (vP t)] 79 :: txR t m s p wb va vc sv now es :: H) w) :
  Calls Tryz.prog 10 #[vP v, .agg #[.slice ka K.length kc, vI now, .slice wa wl.length wc]] w fun e w' => e = .returned (.bool true) ∧ Inv B (Res.cell v [.iface 52 (vP t)] 79 :: txR t m s p wb va vc sv now es :: H) w' := by
 refine cW Tryz.func10 rfl Tryz.ntmps10 ?_
 simp only [al]
 refine sK fun _ k1 => rL (sl_box (L := [.slice ka K.length kc, vI now, .slice wa wl.length wc]) tV (wn rfl) rfl rfl hv (fun w => by kernel_rfl) (fun b2 w3 hv => ?_))
 refine uA rfl (uW k1 ?_)
 refine sK fun _ k4 => sK fun _ k5 => rW mixed [4, 6, 7] [0,1,2,3,5,4,6,7,8] 71 rfl (by kernel_rfl) hv ?_
 simp only [qm, opAt]
 refine dM (vP v) rfl (dG (vP v) rfl (ex_nil rfl rfl) ?_)
 refine dG (vP v) rfl (ex_field rfl rfl (v1fa79_0 _ _ _)) ?_
 simp only [zP, po]
 refine dL _ rfl (fun hv => ex_load rfl rfl (run_load1 v1na77 (hv.load 1 0 rfl rfl))) (dF (.agg #[.slice ka K.length kc, vI now, .slice wa wl.length wc]) rfl (fun hv => ex_load rfl rfl (lM 0 v2wd32 hv rfl rfl rfl rfl)) fun f6 hf6 => ?_)
 refine dS rfl fun w7 hv => ?_
 replace hv := hv.front 2 rfl
 simp only [eS, eZ] at hv
 refine stepMem_callI l2callable173 rfl rfl rfl (r := vP t) (fun w => by kernel_rfl) (args := #[]) (by simp only [List.map_toArray, List.map_nil]) ((txnNamesB B _ _ t m s p wb va vc sv now es M (hM.more (Base.Le.refl _)) hKO.sh (by have := hKO.len; omega) hv).mono ?_)
 rintro e w8 ⟨P, na, nc, hP, rfl, hnr, hv⟩
 refine ⟨_, rfl, dV hv (fC (fun ww hv => hf6 ww ?_) fN) ?_⟩
 ·exact ex_load rfl rfl (lM 1 v2wd32 hv rfl rfl rfl rfl)
 simp only [zP, po]
 refine dS rfl fun w9 hv => mC l2callable26 rfl ((refNames20 P _ _ K wl ka wa kc wc xs now (hRV.more hP) (by omega) (by omega) hRK.nodup hv).mono ?_) rfl
 rintro e w10 ⟨Q, ma, mc, hQ, rfl, hmr, hv⟩
 refine ⟨_, rfl, dV hv (fK rfl fN) ?_⟩
 refine dS rfl fun w11 hv => mC s18callable25 rfl ((wordsEq Q _ _ na ma nc mc (hRK.names hKO.nd) (hnr.more hQ (fun _ h => h)) hmr (by have := namesR_le K now; omega) hv).mono ?_) rfl
 rintro e w12 ⟨rfl, hv⟩
 refine ⟨_, rfl, dV hv (fK rfl fN) ?_⟩
 refine dG (.bool false) rfl (ex_not rfl rfl rfl) (dE fun w13 hv => ?_)
 simp only [zP, po]
 refine tK k5 (cF rfl ?_)
 refine kS (tK k4 ?_)
 refine sK fun _ k14 => sK fun _ k15 => rL (uA rfl ?_)
 refine uW k15 (bB ?_)
 gi_loopw [5] (fun x5 wr => ∃ (i : Nat), x5 = vI i ∧ i ≤ K.length ∧ Inv B (Res.cell v [.iface 52 (vP t)] 79 :: txR t m s p wb va vc sv now es :: Res.cell b2 [.slice ka K.length kc, vI now, .slice wa wl.length wc] 32 :: H) wr) (fun x5 _ => K.length - (intOf x5).toNat)
 case atStart => exact ⟨0, rfl, Nat.zero_le _, ((((hv.front 1 rfl).front 1 rfl).front 2 rfl)).weak (hP.trans hQ)⟩
 case round =>
  obtain ⟨i, rfl, hi, hv⟩ := hrel
  refine sK fun _ k17 => sK fun _ k18 => rL (uM rfl ?_)
  refine uF (vP b2) rfl (v2fa32_0 _ _ _) ?_
  refine uL _ rfl (run_load1 v2na30 (hv.load 2 0 rfl rfl)) ?_
  refine uG (vI (K.length : Int)) rfl (ex_len0 Tryz.underlying30 rfl rfl) ?_
  by_cases hb19 : (i : Int) < (K.length : Int)
  ·refine uG (.bool true) rfl (ex_lss rfl rfl rfl (qT hb19)) (uW k18 ?_)
   refine cT rfl (kS ?_)
   refine tK k17 (sK fun _ k20 => ?_)
   refine bB (sK fun _ k21 => ?_)
   obtain ⟨x, hx⟩ : ∃ x, K[i]? = some x := ⟨_, List.getElem?_eq_getElem (show i < K.length by omega)⟩
   obtain ⟨kb, ko, xp, xt, xz, had, hvalx, hrdx⟩ := KeysAt.reads hRV.at_ hRV.keys hx
   subst had
   refine rT mixed (fun az wz => ∃ (G : Base) (y : Ver) (yp yt yz : Value) (ok : Bool) (b28 : Nat), (B.Le G) ∧ (ValAt G y.val yp yt yz) ∧ (((ok = true ∧ lookA M x.name = some y ∧ aliveB y now = true) ∨ (ok = false ∧ y = zver0 ∧ ∀ y9, lookA M x.name = some y9 → aliveB y9 now = false))) ∧ az = { tmps := List.toArray (vP v :: .agg #[.slice (some ⟨kb, ko, none⟩) K.length kc, vI now, .slice wa wl.length wc] :: undef :: vP b2 :: u4 :: vI i :: vP b28 :: .bool ok :: u8 :: u9 :: vP v :: vP v :: vP v :: .iface 52 (vP t) :: .slice na ((namesT M now).length) nc :: .agg #[.slice (some ⟨kb, ko, none⟩) K.length kc, vI now, .slice wa wl.length wc] :: .slice ma ((namesR K now).length) mc :: .bool true :: .bool false :: vI i :: vP b2 :: .slice (some ⟨kb, ko, none⟩) K.length kc :: vI (K.length : Int) :: .bool true :: u24 :: u25 :: .tuple #[.agg #[vI y.stamp, .bool y.gone, vI y.expire, vI y.val.kind, vS y.val.text, yp, yt, yz], .bool ok] :: vP v :: vP v :: vP v :: .iface 52 (vP t) :: vP b2 :: .slice (some ⟨kb, ko, none⟩) K.length kc :: vI i :: .pointer (some ⟨kb, ko + i * 7, none⟩) :: .pointer (some ⟨kb, ko + i * 7, none⟩) :: vS x.name :: .iface 52 (vP t) :: .iface 52 (vP t) :: .tuple #[.agg #[vI y.stamp, .bool y.gone, vI y.expire, vI y.val.kind, vS y.val.text, yp, yt, yz], .bool ok] :: .agg #[vI y.stamp, .bool y.gone, vI y.expire, vI y.val.kind, vS y.val.text, yp, yt, yz] :: .bool ok :: u42 :: u43 :: u44 :: u45 :: u46 :: u47 :: u48 :: u49 :: u50 :: u51 :: u52 :: u53 :: u54 :: u55 :: u56 :: u57 :: u58 :: u59 :: u60 :: u61 :: u62 :: u63 :: u64 :: u65 :: u66 :: u67 :: u68 :: u69 :: u70 :: []), defers := [] } ∧ Inv G (Res.cell b28 [vI y.stamp, .bool y.gone, vI y.expire, vI y.val.kind, vS y.val.text, yp, yt, yz] 81 :: txR t m s p wb va vc sv now es :: Res.cell v [.iface 52 (vP t)] 79 :: Res.cell b2 [.slice (some ⟨kb, ko, none⟩) K.length kc, vI now, .slice wa wl.length wc] 32 :: H) wz) [12, 16, 17] [0,1,2,3,4,5,6,7,8,9,10,11] [13,14,15,16,17,18] [12,13,14,15,17,18] 12 16 71 rfl (by kernel_rfl) hv ?_ ?_
   ·intro R2 l1 l2 hR2 hl1 hl2
    simp only [qm, opAt]
    refine tG (vP v) rfl (ex_move rfl rfl) (tG (vP v) rfl (ex_nil rfl rfl) ?_)
    simp only [zP, po]
    refine tG (vP v) rfl (ex_field rfl rfl (v1fa79_0 _ _ _)) (tF (.iface 52 (vP t)) rfl (fun hv => ex_load rfl rfl (run_load1 v1na77 (hv.load 0 0 rfl rfl))) fun f22 hf22 => ?_)
    simp only [zP, po]
    refine tG (vP b2) rfl (ex_field rfl rfl (v2fa32_0 _ _ _)) (tF (.slice (some ⟨kb, ko, none⟩) K.length kc) rfl (fun hv => ex_load rfl rfl (run_load1 v2na30 (hv.load 2 0 rfl rfl))) fun f23 hf23 => ?_)
    simp only [zP, po]
    refine tG (vI i) rfl (ex_move rfl rfl) (tG (.pointer (some ⟨kb, ko + i * 7, none⟩)) rfl (ex_index rfl rfl rfl (run_idx (k := i) Tryz.underlying30 v2es30 (by omega))) ?_)
    simp only [zP, po]
    refine tG (.pointer (some ⟨kb, ko + i * 7, none⟩)) rfl (ex_field rfl rfl (v2fa84_0 _ _ _)) (tF (vS x.name) rfl (fun hv => ex_load rfl rfl (run_load1 s9na9 (hrdx _ _ _ (Base.Le.refl _) no_res hv 0 _ rfl))) fun f24 hf24 => ?_)
    simp only [zP, po]
    refine tG (.iface 52 (vP t)) rfl (ex_nilI rfl rfl) (tG (.iface 52 (vP t)) rfl (ex_move rfl rfl) ?_)
    simp only [zP, po]
    refine tB ?_ ?_
    ·rw [hl1]; clear hl1 hl2
     simp only [qm, opAt]
     refine dS rfl fun w25 hv => ?_
     replace hv := hv.front 1 rfl
     simp only [eS, eZ] at hv
     refine stepMem_callI v1callable172 rfl rfl rfl (r := vP t) (fun w => by kernel_rfl) (args := #[vS x.name]) (by simp only [List.map_toArray, List.map_cons, List.map_nil]; rfl) ((txnGet B _ _ t m s p wb va vc sv now es M x.name (hM.more (Base.Le.refl _)) hv).mono ?_)
     rintro e w26 ⟨G, y, yp, yt, yz, ok, hG, rfl, hgot, hyv, hv⟩
     refine ⟨_, rfl, dV hv (fK rfl (fK rfl (fK rfl fN))) ?_⟩
     refine dM (.tuple #[.agg #[vI y.stamp, .bool y.gone, vI y.expire, vI y.val.kind, vS y.val.text, yp, yt, yz], .bool ok]) rfl (dG (.agg #[vI y.stamp, .bool y.gone, vI y.expire, vI y.val.kind, vS y.val.text, yp, yt, yz]) rfl (ex_extract rfl rfl rfl) ?_)
     simp only [zP, po]
     refine dG (.bool ok) rfl (ex_extract rfl rfl rfl) (dS rfl fun w27 hv => ?_)
     refine mem_alloc rfl rfl hv l2al81 (fun b28 w29 hv => ?_)
     refine dV hv (fC (fun ww hv => hf24 ww (ex_load rfl rfl (run_load1 s9na9 (hrdx _ _ _ hG no_res hv 0 _ rfl)))) (fC (fun ww hv => hf23 ww (ex_load rfl rfl (run_load1 v2na30 (hv.load 3 0 rfl rfl)))) (fC (fun ww hv => hf22 ww (ex_load rfl rfl (run_load1 v1na77 (hv.load 2 0 rfl rfl)))) fN))) (dS rfl fun w30 hv => ?_)
     refine mS 0 rfl hv x0sz81 rfl (by exact ⟨rfl, rfl, rfl, rfl, rfl, hyv.p.one, hyv.t.one, hyv.z.one, trivial⟩) (fun w31 hv => ?_)
     simp only [zO, sp] at hv
     refine dV hv (fK rfl (fK rfl (fK rfl fN))) ?_
     simp only [zP, po]
     refine dA (.bool ok) rfl (dE fun wz hv => ?_)
     simp only [zP, po]
     exact hR2 _ _ ⟨G, y, yp, yt, yz, ok, b28, hG, hyv, hgot, rfl, ((((hv.front 3 rfl).front 3 rfl).front 3 rfl).front 3 rfl)⟩
    rw [hl2]; clear hl1 hl2
    simp only [qm, opAt]
    refine dS rfl fun w32 hv => mem_alloc rfl rfl hv l2al81 (fun b33 w34 hv => ?_)
    refine dV hv (fC (fun ww hv => hf24 ww (ex_load rfl rfl (run_load1 s9na9 (hrdx _ _ _ (Base.Le.refl _) no_res hv 0 _ rfl)))) (fC (fun ww hv => hf23 ww (ex_load rfl rfl (run_load1 v2na30 (hv.load 3 0 rfl rfl)))) (fC (fun ww hv => hf22 ww (ex_load rfl rfl (run_load1 v1na77 (hv.load 1 0 rfl rfl)))) fN))) (dS rfl fun w35 hv => ?_)
    replace hv := hv.front 2 rfl
    simp only [eS, eZ] at hv
    refine stepMem_callI v1callable172 rfl rfl rfl (r := vP t) (fun w => by kernel_rfl) (args := #[vS x.name]) (by simp only [List.map_toArray, List.map_cons, List.map_nil]; rfl) ((txnGet B _ _ t m s p wb va vc sv now es M x.name (hM.more (Base.Le.refl _)) hv).mono ?_)
    rintro e w36 ⟨G, y, yp, yt, yz, ok, hG, rfl, hgot, hyv, hv⟩
    refine ⟨_, rfl, dV hv (fK rfl (fK rfl (fK rfl fN))) ?_⟩
    refine dM (.tuple #[.agg #[vI y.stamp, .bool y.gone, vI y.expire, vI y.val.kind, vS y.val.text, yp, yt, yz], .bool ok]) rfl ?_
    simp only [zP, po]
    refine dG (.agg #[vI y.stamp, .bool y.gone, vI y.expire, vI y.val.kind, vS y.val.text, yp, yt, yz]) rfl (ex_extract rfl rfl rfl) (dG (.bool ok) rfl (ex_extract rfl rfl rfl) ?_)
    refine dS rfl fun w37 hv => mS 1 rfl hv x0sz81 rfl (by exact ⟨rfl, rfl, rfl, rfl, rfl, hyv.p.one, hyv.t.one, hyv.z.one, trivial⟩) (fun w38 hv => ?_)
    simp only [zS, zO, sp] at hv
    refine dV hv (fK rfl (fK rfl (fK rfl fN))) ?_
    simp only [zP, po]
    refine dA (.bool ok) rfl (dE fun wz hv => ?_)
    simp only [zP, po]
    exact hR2 _ _ ⟨G, y, yp, yt, yz, ok, b33, hG, hyv, hgot, rfl, ((((hv.front 3 rfl).front 3 rfl).front 2 rfl).front 3 rfl)⟩
   rintro _ w39 ⟨G, y, yp, yt, yz, ok, b28, hG, hyv, hgot, rfl, hv⟩
   refine tK k21 (sK fun _ k40 => ?_)
   refine rT mixed (fun az wz => ∃ (k : KeyR) (kp kt kz : Value) (ok2 : Bool) (b47 : Nat), (ValAt G k.val kp kt kz) ∧ (((ok2 = true ∧ getK K now x.name = some k) ∨ (ok2 = false ∧ k = zkey ∧ getK K now x.name = none))) ∧ az = { tmps := List.toArray (vP v :: .agg #[.slice (some ⟨kb, ko, none⟩) K.length kc, vI now, .slice wa wl.length wc] :: undef :: vP b2 :: u4 :: vI i :: vP b28 :: .bool ok :: vP b47 :: .bool ok2 :: vP v :: vP v :: vP v :: .iface 52 (vP t) :: .slice na ((namesT M now).length) nc :: .agg #[.slice (some ⟨kb, ko, none⟩) K.length kc, vI now, .slice wa wl.length wc] :: .slice ma ((namesR K now).length) mc :: .bool true :: .bool false :: vI i :: vP b2 :: .slice (some ⟨kb, ko, none⟩) K.length kc :: vI (K.length : Int) :: .bool true :: u24 :: u25 :: .tuple #[.agg #[vI y.stamp, .bool y.gone, vI y.expire, vI y.val.kind, vS y.val.text, yp, yt, yz], .bool ok] :: vP v :: vP v :: vP v :: .iface 52 (vP t) :: vP b2 :: .slice (some ⟨kb, ko, none⟩) K.length kc :: vI i :: .pointer (some ⟨kb, ko + i * 7, none⟩) :: .pointer (some ⟨kb, ko + i * 7, none⟩) :: vS x.name :: .iface 52 (vP t) :: .iface 52 (vP t) :: .tuple #[.agg #[vI y.stamp, .bool y.gone, vI y.expire, vI y.val.kind, vS y.val.text, yp, yt, yz], .bool ok] :: .agg #[vI y.stamp, .bool y.gone, vI y.expire, vI y.val.kind, vS y.val.text, yp, yt, yz] :: .bool ok :: .tuple #[.agg #[vS k.name, vI k.val.kind, vS k.val.text, kp, kt, kz, vI k.exp], .bool ok2] :: .agg #[.slice (some ⟨kb, ko, none⟩) K.length kc, vI now, .slice wa wl.length wc] :: vP b2 :: .slice (some ⟨kb, ko, none⟩) K.length kc :: vI i :: .pointer (some ⟨kb, ko + i * 7, none⟩) :: .pointer (some ⟨kb, ko + i * 7, none⟩) :: vS x.name :: .tuple #[.agg #[vS k.name, vI k.val.kind, vS k.val.text, kp, kt, kz, vI k.exp], .bool ok2] :: .agg #[vS k.name, vI k.val.kind, vS k.val.text, kp, kt, kz, vI k.exp] :: .bool ok2 :: u53 :: u54 :: u55 :: u56 :: u57 :: u58 :: u59 :: u60 :: u61 :: u62 :: u63 :: u64 :: u65 :: u66 :: u67 :: u68 :: u69 :: u70 :: []), defers := [] } ∧ Inv G (Res.cell b47 [vS k.name, vI k.val.kind, vS k.val.text, kp, kt, kz, vI k.exp] 84 :: Res.cell b28 [vI y.stamp, .bool y.gone, vI y.expire, vI y.val.kind, vS y.val.text, yp, yt, yz] 81 :: txR t m s p wb va vc sv now es :: Res.cell v [.iface 52 (vP t)] 79 :: Res.cell b2 [.slice (some ⟨kb, ko, none⟩) K.length kc, vI now, .slice wa wl.length wc] 32 :: H) wz) [7, 11, 12] [0,1,2,3,4,5,6] [8,9,10,11,12,13] [7,8,9,10,12,13] 7 11 71 rfl (by kernel_rfl) hv ?_ ?_
   ·intro R2 l1 l2 hR2 hl1 hl2
    simp only [qm, opAt]
    refine tF (.agg #[.slice (some ⟨kb, ko, none⟩) K.length kc, vI now, .slice wa wl.length wc]) rfl (fun hv => ex_load rfl rfl (lM 3 v2wd32 hv rfl rfl rfl rfl)) fun f41 hf41 => tG (vP b2) rfl (ex_field rfl rfl (v2fa32_0 _ _ _)) ?_
    simp only [zP, po]
    refine tF (.slice (some ⟨kb, ko, none⟩) K.length kc) rfl (fun hv => ex_load rfl rfl (run_load1 v2na30 (hv.load 3 0 rfl rfl))) fun f42 hf42 => tG (vI i) rfl (ex_move rfl rfl) ?_
    simp only [zP, po]
    refine tG (.pointer (some ⟨kb, ko + i * 7, none⟩)) rfl (ex_index rfl rfl rfl (run_idx (k := i) Tryz.underlying30 v2es30 (by omega))) (tG (.pointer (some ⟨kb, ko + i * 7, none⟩)) rfl (ex_field rfl rfl (v2fa84_0 _ _ _)) ?_)
    simp only [zP, po]
    refine tF (vS x.name) rfl (fun hv => ex_load rfl rfl (run_load1 s9na9 (hrdx _ _ _ hG no_res hv 0 _ rfl))) fun f43 hf43 => ?_
    simp only [zP, po]
    refine tB ?_ ?_
    ·rw [hl1]; clear hl1 hl2
     simp only [qm, opAt]
     refine dS rfl fun w44 hv => mC v2callable27 rfl ((getKB G _ _ K wl (some ⟨kb, ko, none⟩) wa kc wc xs now (hRV.more hG) (by omega) (by omega) x.name hv).mono ?_) rfl
     rintro e w45 ⟨k, kp, kt, kz, ok2, rfl, hget, hkv, hv⟩
     refine ⟨_, rfl, dV hv (fK rfl (fK rfl (fK rfl fN))) ?_⟩
     refine dM (.tuple #[.agg #[vS k.name, vI k.val.kind, vS k.val.text, kp, kt, kz, vI k.exp], .bool ok2]) rfl (dG (.agg #[vS k.name, vI k.val.kind, vS k.val.text, kp, kt, kz, vI k.exp]) rfl (ex_extract rfl rfl rfl) ?_)
     simp only [zP, po]
     refine dG (.bool ok2) rfl (ex_extract rfl rfl rfl) (dS rfl fun w46 hv => ?_)
     refine mem_alloc rfl rfl hv l2al84 (fun b47 w48 hv => ?_)
     refine dV hv (fC (fun ww hv => hf43 ww (ex_load rfl rfl (run_load1 s9na9 (hrdx _ _ _ hG no_res hv 0 _ rfl)))) (fC (fun ww hv => hf42 ww (ex_load rfl rfl (run_load1 v2na30 (hv.load 4 0 rfl rfl)))) (fC (fun ww hv => hf41 ww ?_) fN))) ?_
     ·exact ex_load rfl rfl (lM 4 v2wd32 hv rfl rfl rfl rfl)
     refine dS rfl fun w49 hv => mS 0 rfl hv v2sz84 rfl (by exact ⟨rfl, rfl, rfl, hkv.p.one, hkv.t.one, hkv.z.one, rfl, trivial⟩) (fun w50 hv => ?_)
     simp only [zO, sp] at hv
     refine dV hv (fK rfl (fK rfl (fK rfl fN))) ?_
     simp only [zP, po]
     refine dA (.bool ok2) rfl (dE fun wz hv => ?_)
     simp only [zP, po]
     exact hR2 _ _ ⟨k, kp, kt, kz, ok2, b47, hkv, hget, rfl, (((((hv.front 4 rfl).front 4 rfl).front 4 rfl).front 4 rfl).front 4 rfl)⟩
    rw [hl2]; clear hl1 hl2
    simp only [qm, opAt]
    refine dS rfl fun w51 hv => mem_alloc rfl rfl hv l2al84 (fun b52 w53 hv => ?_)
    refine dV hv (fC (fun ww hv => hf43 ww (ex_load rfl rfl (run_load1 s9na9 (hrdx _ _ _ hG no_res hv 0 _ rfl)))) (fC (fun ww hv => hf42 ww (ex_load rfl rfl (run_load1 v2na30 (hv.load 4 0 rfl rfl)))) (fC (fun ww hv => hf41 ww ?_) fN))) ?_
    ·exact ex_load rfl rfl (lM 4 v2wd32 hv rfl rfl rfl rfl)
    refine dS rfl fun w54 hv => mC v2callable27 rfl ((getKB G _ _ K wl (some ⟨kb, ko, none⟩) wa kc wc xs now (hRV.more hG) (by omega) (by omega) x.name hv).mono ?_) rfl
    rintro e w55 ⟨k, kp, kt, kz, ok2, rfl, hget, hkv, hv⟩
    refine ⟨_, rfl, dV hv (fK rfl (fK rfl (fK rfl fN))) ?_⟩
    refine dM (.tuple #[.agg #[vS k.name, vI k.val.kind, vS k.val.text, kp, kt, kz, vI k.exp], .bool ok2]) rfl ?_
    simp only [zP, po]
    refine dG (.agg #[vS k.name, vI k.val.kind, vS k.val.text, kp, kt, kz, vI k.exp]) rfl (ex_extract rfl rfl rfl) (dG (.bool ok2) rfl (ex_extract rfl rfl rfl) ?_)
    refine dS rfl fun w56 hv => mS 0 rfl hv v2sz84 rfl (by exact ⟨rfl, rfl, rfl, hkv.p.one, hkv.t.one, hkv.z.one, rfl, trivial⟩) (fun w57 hv => ?_)
    simp only [zO, sp] at hv
    refine dV hv (fK rfl (fK rfl (fK rfl fN))) ?_
    simp only [zP, po]
    refine dA (.bool ok2) rfl (dE fun wz hv => ?_)
    simp only [zP, po]
    exact hR2 _ _ ⟨k, kp, kt, kz, ok2, b52, hkv, hget, rfl, (((((hv.front 4 rfl).front 4 rfl).front 4 rfl).front 4 rfl).front 4 rfl)⟩
   rintro _ w58 ⟨k, kp, kt, kz, ok2, b47, hkv, hget, rfl, hv⟩
   refine tK k40 (sK fun _ k59 => ?_)
   rcases hget with ⟨rfl, hgk⟩ | ⟨rfl, rfl, hgk⟩
   ·obtain ⟨hl9, ha9⟩ := hRK.got hgk
    obtain ⟨rfl, rfl⟩ := got_yes hgot hl9 ha9
    refine rL (uM rfl ?_)
    refine uM rfl ?_
    refine uG (.bool false) rfl (ex_bneq Tryz.underlying4 rfl rfl rfl rfl) (uM rfl ?_)
    refine uF (.pointer (some ⟨b28, 3, none⟩)) rfl (x2fa81_3 _ _ _) ?_
    refine uL (.agg #[vI ((kver k).val.kind), vS ((kver k).val.text), yp, yt, yz]) rfl (lM 1 s1wd60 hv rfl rfl rfl rfl) ?_
    refine uF (.pointer (some ⟨b47, 1, none⟩)) rfl (l2fa84_1 _ _ _) ?_
    refine uL (.agg #[vI k.val.kind, vS k.val.text, kp, kt, kz]) rfl (lM 0 s1wd60 hv rfl rfl rfl rfl) ?_
    refine xC l2callable28 rfl ((refSameV G _ _ k.val yp yt yz kp kt kz (hyv.more (Base.Le.refl _)).rd (hkv.more (Base.Le.refl _)).rd hkv.pm hkv.tm hkv.zm hv).mono ?_) rfl
    rintro e w60 ⟨rfl, hv⟩
    refine ⟨_, rfl, uG (.bool false) rfl (ex_not rfl rfl rfl) ?_⟩
    refine uK rfl (uM rfl ?_)
    refine uF (.pointer (some ⟨b28, 2, none⟩)) rfl (s2fa81_2 _ _ _) ?_
    refine uL _ rfl (run_load1 s2na3 (hv.load 1 2 rfl rfl)) ?_
    refine uF (.pointer (some ⟨b47, 6, none⟩)) rfl (v2fa84_2 _ _ _) ?_
    refine uL _ rfl (run_load1 s2na3 (hv.load 0 6 rfl rfl)) ?_
    refine uG (.bool false) rfl (ex_neq rfl rfl rfl (qF (fun h => h rfl))) (uK rfl ?_)
    refine uW k59 (cF rfl ?_)
    refine kS (bN ?_)
    refine tK k20 (rL ?_)
    refine uM rfl ?_
    refine uG (vI ((i + 1 : Nat) : Int)) rfl (ex_add rfl rfl rfl (by rw [i64_in (by omega)]; omega)) (uA rfl ?_)
    refine uZ (then_normal ?_)
    simp only [vP, vI, vS]
    go_roundw
    case rel => exact ⟨i + 1, rfl, by omega, ((hv.kp [4, 3, 4] 3 2)).weak hG⟩
    case measure => show K.length - (((i + 1 : Nat) : Int)).toNat < K.length - ((i : Int)).toNat; omega
   obtain ⟨rfl, rfl⟩ := got_no hgot (hRK.dead hgk)
   refine rL (uM rfl ?_)
   refine uM rfl ?_
   refine uG (.bool false) rfl (ex_bneq Tryz.underlying4 rfl rfl rfl rfl) (uM rfl ?_)
   refine uF (.pointer (some ⟨b28, 3, none⟩)) rfl (x2fa81_3 _ _ _) ?_
   refine uL (.agg #[vI zver0.val.kind, vS zver0.val.text, yp, yt, yz]) rfl (lM 1 s1wd60 hv rfl rfl rfl rfl) ?_
   refine uF (.pointer (some ⟨b47, 1, none⟩)) rfl (l2fa84_1 _ _ _) ?_
   refine uL (.agg #[vI zkey.val.kind, vS zkey.val.text, kp, kt, kz]) rfl (lM 0 s1wd60 hv rfl rfl rfl rfl) ?_
   refine xC l2callable28 rfl ((refSameV G _ _ zver0.val yp yt yz kp kt kz (hyv.more (Base.Le.refl _)).rd (hkv.more (Base.Le.refl _)).rd hkv.pm hkv.tm hkv.zm hv).mono ?_) rfl
   rintro e w61 ⟨rfl, hv⟩
   refine ⟨_, rfl, uG (.bool false) rfl (ex_not rfl rfl rfl) ?_⟩
   refine uK rfl (uM rfl ?_)
   refine uF (.pointer (some ⟨b28, 2, none⟩)) rfl (s2fa81_2 _ _ _) ?_
   refine uL _ rfl (run_load1 s2na3 (hv.load 1 2 rfl rfl)) ?_
   refine uF (.pointer (some ⟨b47, 6, none⟩)) rfl (v2fa84_2 _ _ _) ?_
   refine uL _ rfl (run_load1 s2na3 (hv.load 0 6 rfl rfl)) ?_
   refine uG (.bool false) rfl (ex_neq rfl rfl rfl (qF (fun h => h rfl))) (uK rfl ?_)
   refine uW k59 (cF rfl ?_)
   refine kS (bN ?_)
   refine tK k20 (rL ?_)
   refine uM rfl ?_
   refine uG (vI ((i + 1 : Nat) : Int)) rfl (ex_add rfl rfl rfl (by rw [i64_in (by omega)]; omega)) (uA rfl ?_)
   refine uZ (then_normal ?_)
   simp only [vP, vI, vS]
   go_roundw
   case rel => exact ⟨i + 1, rfl, by omega, ((hv.kp [4, 3, 4] 3 2)).weak hG⟩
   case measure => show K.length - (((i + 1 : Nat) : Int)).toNat < K.length - ((i : Int)).toNat; omega
  refine uG (.bool false) rfl (ex_lss rfl rfl rfl (qF hb19)) (uW k18 ?_)
  refine cF rfl (xE ?_)
  refine tX (tX ?_)
  refine bH (tK k14 ?_)
  refine sK fun _ k62 => rL (uA rfl ?_)
  refine uW k62 (rR ?_)
  refine bR rfl rfl (⟨rfl, ((hv.kp [1, 1] 2 1)).weak (Base.Le.refl _)⟩)
theorem l3fa25_1 : FA Tryz.prog 25 1 1 := fun w b o => by kernel_rfl
theorem lawSmall (B : Base) (H : List Res) (w : World) (cn : Int) (xa : Option Addr) (xc : Nat) (xs : List (List UInt8)) (hrx : RdV B [] xa (textCells xs)) (hv : Inv B H w) :
  Calls Tryz.prog 5 #[.agg #[vI cn, .slice xa xs.length xc]] w fun e w' => ∃ b, e = .returned (.bool b) ∧ (b = true → xs.length ≤ 14 ∧ ∀ x ∈ xs, x.length ≤ 4200) ∧ Inv B H w' := by
 refine cW Tryz.func5 rfl Tryz.ntmps5 ?_
 simp only [al]
 refine sK fun _ k1 => rL (sl_box (L := [vI cn, .slice xa xs.length xc]) tV (wn rfl) rfl rfl hv (fun w => by kernel_rfl) (fun b2 w3 hv => ?_))
 refine uA rfl (uW k1 ?_)
 refine sK fun _ k4 => sK fun _ k5 => rL (uF (.pointer (some ⟨b2, 1, none⟩)) rfl (l3fa25_1 _ _ _) ?_)
 refine uL _ rfl (run_load1 s1na23 (hv.load 0 1 rfl rfl)) ?_
 refine uG (vI (xs.length : Int)) rfl (ex_len0 Tryz.underlying23 rfl rfl) ?_
 by_cases hb6 : (xs.length : Int) > 14
 ·refine uG (.bool true) rfl (ex_gtr rfl rfl rfl (qT hb6)) (uW k5 ?_)
  refine cT rfl (sK fun _ k7 => ?_)
  refine rL (uA rfl ?_)
  refine uW k7 (rR ?_)
  refine tR (bR rfl rfl ?_)
  exact ⟨false, rfl, fun h9 => (by cases h9), (hv.kp [] 0 1)⟩
 refine uG (.bool false) rfl (ex_gtr rfl rfl rfl (qF hb6)) (uW k5 ?_)
 refine cF rfl (kS ?_)
 refine tK k4 (sK fun _ k8 => ?_)
 refine sK fun _ k9 => rL (uA rfl ?_)
 refine uW k9 (bB ?_)
 gi_loopw [3] (fun x3 wr => ∃ (i : Nat), x3 = vI i ∧ i ≤ xs.length ∧ (∀ x ∈ xs.take i, x.length ≤ 4200) ∧ Inv B (Res.cell b2 [vI cn, .slice xa xs.length xc] 25 :: H) wr) (fun x3 _ => xs.length - (intOf x3).toNat)
 case atStart => exact ⟨0, rfl, Nat.zero_le _, fun x h => (by cases h), hv⟩
 case round =>
  obtain ⟨i, rfl, hi, hall, hv⟩ := hrel
  refine sK fun _ k11 => sK fun _ k12 => rL (uM rfl ?_)
  refine uF (.pointer (some ⟨b2, 1, none⟩)) rfl (l3fa25_1 _ _ _) ?_
  refine uL _ rfl (run_load1 s1na23 (hv.load 0 1 rfl rfl)) ?_
  refine uG (vI (xs.length : Int)) rfl (ex_len0 Tryz.underlying23 rfl rfl) ?_
  by_cases hb13 : (i : Int) < (xs.length : Int)
  ·refine uG (.bool true) rfl (ex_lss rfl rfl rfl (qT hb13)) (uW k12 ?_)
   refine cT rfl (kS ?_)
   refine tK k11 (sK fun _ k14 => ?_)
   refine bB (sK fun _ k15 => ?_)
   obtain ⟨x, hx⟩ : ∃ x, xs[i]? = some x := ⟨_, List.getElem?_eq_getElem (show i < xs.length by omega)⟩
   obtain ⟨xb, xo, had, hrdx⟩ := text_reads hrx hx
   subst had
   refine rL (uF (.pointer (some ⟨b2, 1, none⟩)) rfl (l3fa25_1 _ _ _) ?_)
   refine uL _ rfl (run_load1 s1na23 (hv.load 0 1 rfl rfl)) (uM rfl ?_)
   refine uG (.pointer (some ⟨xb, xo + i, none⟩)) rfl (ex_index rfl rfl rfl (run_idx1 (k := i) Tryz.underlying23 s9es23 (by omega))) ?_
   refine uL _ rfl (run_load1 s9na9 (hrdx _ _ _ (Base.Le.refl _) no_res hv 0 _ rfl)) ?_
   refine uG (vI (x.length : Int)) rfl (ex_lenStr Tryz.underlying9 rfl rfl) ?_
   by_cases hb16 : (x.length : Int) > 4200
   ·refine uG (.bool true) rfl (ex_gtr rfl rfl rfl (qT hb16)) (uW k15 ?_)
    refine cT rfl (sK fun _ k17 => ?_)
    refine rL (uA rfl ?_)
    refine uW k17 (rR ?_)
    refine bZ (tR ?_)
    refine tR (bZ ?_)
    refine tR (bR rfl rfl ?_)
    exact ⟨false, rfl, fun h9 => (by cases h9), (hv.kp [] 0 1)⟩
   refine uG (.bool false) rfl (ex_gtr rfl rfl rfl (qF hb16)) (uW k15 ?_)
   refine cF rfl (kS ?_)
   refine bN (tK k14 ?_)
   refine rL (uM rfl ?_)
   refine uG (vI ((i + 1 : Nat) : Int)) rfl (ex_add rfl rfl rfl (by rw [i64_in (by omega)]; omega)) (uA rfl ?_)
   refine uZ (then_normal ?_)
   go_roundw
   case rel => exact ⟨i + 1, rfl, by omega, fun y hy => (by rw [take_next hx] at hy; rcases List.mem_append.1 hy with h9 | h9; exact hall y h9; rw [List.mem_singleton.1 h9]; omega), hv⟩
   case measure => show xs.length - (((i + 1 : Nat) : Int)).toNat < xs.length - ((i : Int)).toNat; omega
  refine uG (.bool false) rfl (ex_lss rfl rfl rfl (qF hb13)) (uW k12 ?_)
  refine cF rfl (xE ?_)
  refine tX (tX ?_)
  refine bH (tK k8 ?_)
  refine sK fun _ k18 => rL (uA rfl ?_)
  refine uW k18 (rR ?_)
  refine bR rfl rfl ?_
  obtain rfl : i = xs.length := by omega
  rw [List.take_length] at hall
  exact ⟨true, rfl, fun _ => ⟨by omega, hall⟩, (hv.kp [] 0 1)⟩
abbrev Tx := List (List UInt8)
section
variable {M M' : List (List UInt8 × Ver)} {clk exp ec : Int} {key : List UInt8} {x : Val} {y : Ver}
end
section
variable {M M' : List (List UInt8 × Ver)} {clk : Int} {key k l : List UInt8} {xs : Tx} {r : Rp} {front there fr to : Bool}
end
theorem NumP.uniq {s : List UInt8} {n m : Int} {b c : Bool} (h : NumP s n b) (h2 : NumP s m c) : n = m ∧ b = c := by
 rcases h with ⟨rfl, h0, h1, rfl⟩ | ⟨rfl, rfl, h⟩
 ·rcases h2 with ⟨rfl, k0, k1, e⟩ | ⟨rfl, rfl, h2⟩
  ·have := parse_itoa n h0 h1
   rw [e, parse_itoa m k0 k1] at this
   cases this; exact ⟨rfl, rfl⟩
  exact absurd rfl (h2 n h0 h1)
 rcases h2 with ⟨rfl, k0, k1, e⟩ | ⟨rfl, rfl, h2⟩
 ·exact absurd e (h m k0 k1)
 exact ⟨rfl, rfl⟩
open Go.Sort
def spanF (a b : Int) (n : Nat) : Nat × Nat :=
 let s := if a < 0 then max (a + n) 0 else a
 let t := min (if b < 0 then b + n else b) ((n : Int) - 1)
 if s > t then (0, 0) else (s.toNat, (t + 1).toNat)
section
variable {M M' : List (List UInt8 × Ver)} {t out xs : Tx} {y : Ver} {ec : Int} {r : Rp} {x : List UInt8} {fr : Bool}
end
def turned (l : Tx) (i : Nat) : Tx := l.drop i ++ l.take i
end Go.Proofs.YtmpackidbgfoiaaGreatDoor
