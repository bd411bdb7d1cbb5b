/- The reference's Right of values; One; Alive, At, Latest, Prune of chains. -/
import Derived.Test.YtkoghbmjbobfjaaGreatVwKeepB
import Derived.Test.YtkoghbmjbobfjaaGreatVwKeepH
import Derived.Test.YtkoghbmjbobfjaaGreatVwKeepF
import Derived.Test.YtkoghbmjbobfjaaGreatRows
import Derived.Test.YtkoghbmjbobfjaaGreatVwKeepE
set_option maxRecDepth 100000
namespace Go.Proofs.YtkoghbmjbobfjaaGreat
open Go.RowKit Go.Pm
theorem llen {l : List (List UInt8)} (h : listRight l = true) : l.length ≤ 512 := by
 unfold listRight at h
 rw [Bool.and_eq_true, decide_eq_true_iff] at h
 exact h.1
theorem lleft {l : List (List UInt8)} (h : listRight l = true) (i : Nat) (x : List UInt8) (hx : l[i]? = some x) : x.length ≤ 4096 := by
 unfold listRight at h
 rw [Bool.and_eq_true, Bool.not_eq_true', List.any_eq_false] at h
 have := h.2 x (List.mem_of_getElem? hx)
 simp at this
 omega
theorem lright {l : List (List UInt8)} (h : l.length ≤ 512) (hno : ∀ j x, j < l.length → l[j]? = some x → x.length ≤ 4096) : listRight l = true := by
 unfold listRight
 rw [decide_eq_true h, Bool.true_and, Bool.not_eq_true', List.any_eq_false]
 intro x hx
 obtain ⟨j, hj⟩ := List.mem_iff_getElem?.1 hx
 have := hno j x (List.getElem?_eq_some_iff.1 hj).1 hj
 simp; omega
set_option maxHeartbeats 8000000 in
theorem refRight_0 (B : Base) (H : List Res) (w : World) (v : Val) (ap at2 az : Option Addr) (cp ct cz : Nat) (_ : RdV B [] ap (pairCells v.pairs)) (_ : RdV B [] at2 (textCells v.texts)) (_ : RdV B [] az (memCells v.zset)) (_ : v.pairs.length ≤ 1000000) (_ : v.texts.length ≤ 1000000) (_ : v.zset.length ≤ 1000000) (hk : v.kind < 1 ∨ 5 < v.kind) (hv : Inv B H w) :
  Calls Tryz.prog 10 #[.agg #[.int .i64 v.kind, .string ⟨v.text.toArray⟩, .slice ap v.pairs.length cp, .slice at2 v.texts.length ct, .slice az v.zset.length cz]] w fun e w' => ∃ b, e = .returned (.bool b) ∧ (b = true ↔ ValOk v) ∧ Inv B H w' := by
 refine cW Tryz.func10 rfl Tryz.ntmps10 ?_
 simp only [al]
 refine sK fun _ k1 => rL (sl_box (L := [.int .i64 v.kind, .string ⟨v.text.toArray⟩, .slice ap v.pairs.length cp, .slice at2 v.texts.length ct, .slice az v.zset.length cz]) tV (wn rfl) rfl rfl hv (fun w => by kernel_rfl) (fun b2 w3 hv => ?_))
 refine xA (.bool false) rfl ?_
 simp only [zP, po]
 refine wK k1 (sK fun _ k4 => ?_)
 refine sK fun _ k5 => rL (xF (.pointer (some ⟨b2, 0, none⟩)) rfl (s12fa35_0 _ _ _) ?_)
 refine xL _ rfl (run_load1 s2na3 (hv.load 0 0 rfl rfl)) ?_
 by_cases hb6 : v.kind < 1
 ·refine xG (.bool true) rfl (ex_lss rfl rfl rfl (decide_eq_true hb6)) ?_
  simp only [zP, po]
  refine xM (.bool true) rfl ?_
  iterate 3 refine yN rfl ?_
  refine xK true (.bool true) rfl (xM (.bool true) rfl ?_)
  simp only [zP, po]
  iterate 8 refine yN rfl ?_
  refine xK true (.bool true) rfl (xM (.bool true) rfl ?_)
  iterate 9 refine yN rfl ?_
  refine xK true (.bool true) rfl ?_
  simp only [zP, po]
  refine xM (.bool true) rfl ?_
  iterate 14 refine yN rfl ?_
  refine xK true (.bool true) rfl (xM (.bool true) rfl ?_)
  simp only [zP, po]
  iterate 9 refine yN rfl ?_
  refine xK true (.bool true) rfl ?_
  simp only [zP, po]
  refine wK k5 (cT rfl ?_)
  refine sK fun _ k7 => rL (xA (.bool false) rfl ?_)
  simp only [zP, po]
  refine wK k7 (rR ?_)
  refine tR (bR rfl rfl ?_)
  exact ⟨false, rfl, ⟨fun h => (by cases h), fun h => by rcases h with ⟨h1, h2, h3, h4, h5⟩ | ⟨h1, h2, h3, h4, h5, h6⟩ | ⟨h1, h2, h3, h4, h5, h6⟩ | ⟨h1, h2, h3, h4, h5, h6⟩ | ⟨h1, h2, h3, h4, h5, h6⟩ <;> first | omega | contradiction | (have h9 := hv.2 h3; cases h9)⟩, (hv.sub (List.Sublist.cons _ (List.Sublist.refl _)))⟩
 refine xG (.bool false) rfl (ex_lss rfl rfl rfl (decide_eq_false hb6)) ?_
 simp only [zP, po]
 refine xM (.bool false) rfl (xF (.pointer (some ⟨b2, 0, none⟩)) rfl (s12fa35_0 _ _ _) ?_)
 refine xL _ rfl (run_load1 s2na3 (hv.load 0 0 rfl rfl)) ?_
 simp only [zP, po]
 refine xG (.bool true) rfl (ex_gtr rfl rfl rfl (decide_eq_true (by omega))) (xK false (.bool true) rfl ?_)
 refine xM (.bool true) rfl ?_
 simp only [zP, po]
 iterate 8 refine yN rfl ?_
 refine xK true (.bool true) rfl (xM (.bool true) rfl ?_)
 iterate 9 refine yN rfl ?_
 refine xK true (.bool true) rfl ?_
 simp only [zP, po]
 refine xM (.bool true) rfl ?_
 iterate 14 refine yN rfl ?_
 refine xK true (.bool true) rfl (xM (.bool true) rfl ?_)
 simp only [zP, po]
 iterate 9 refine yN rfl ?_
 refine xK true (.bool true) rfl ?_
 simp only [zP, po]
 refine wK k5 (cT rfl ?_)
 refine sK fun _ k8 => rL (xA (.bool false) rfl ?_)
 simp only [zP, po]
 refine wK k8 (rR ?_)
 refine tR (bR rfl rfl ?_)
 exact ⟨false, rfl, ⟨fun h => (by cases h), fun h => by rcases h with ⟨h1, h2, h3, h4, h5⟩ | ⟨h1, h2, h3, h4, h5, h6⟩ | ⟨h1, h2, h3, h4, h5, h6⟩ | ⟨h1, h2, h3, h4, h5, h6⟩ | ⟨h1, h2, h3, h4, h5, h6⟩ <;> first | omega | contradiction | (have h9 := hv.2 h3; cases h9)⟩, (hv.sub (List.Sublist.cons _ (List.Sublist.refl _)))⟩
set_option maxHeartbeats 8000000 in
theorem refRight_1 (B : Base) (H : List Res) (w : World) (v : Val) (ap at2 az : Option Addr) (cp ct cz : Nat) (_ : RdV B [] ap (pairCells v.pairs)) (_ : RdV B [] at2 (textCells v.texts)) (_ : RdV B [] az (memCells v.zset)) (hpm : v.pairs.length ≤ 1000000) (htm : v.texts.length ≤ 1000000) (hzm : v.zset.length ≤ 1000000) (hk : v.kind = 1) (hv : Inv B H w) :
  Calls Tryz.prog 10 #[.agg #[.int .i64 v.kind, .string ⟨v.text.toArray⟩, .slice ap v.pairs.length cp, .slice at2 v.texts.length ct, .slice az v.zset.length cz]] w fun e w' => ∃ b, e = .returned (.bool b) ∧ (b = true ↔ ValOk v) ∧ Inv B H w' := by
 refine cW Tryz.func10 rfl Tryz.ntmps10 ?_
 simp only [al]
 refine sK fun _ k1 => rL (sl_box (L := [.int .i64 v.kind, .string ⟨v.text.toArray⟩, .slice ap v.pairs.length cp, .slice at2 v.texts.length ct, .slice az v.zset.length cz]) tV (wn rfl) rfl rfl hv (fun w => by kernel_rfl) (fun b2 w3 hv => ?_))
 refine xA (.bool false) rfl ?_
 simp only [zP, po]
 refine wK k1 (sK fun _ k4 => ?_)
 refine sK fun _ k5 => rL (xF (.pointer (some ⟨b2, 0, none⟩)) rfl (s12fa35_0 _ _ _) ?_)
 refine xL _ rfl (run_load1 s2na3 (hv.load 0 0 rfl rfl)) (xG (.bool false) rfl (ex_lss rfl rfl rfl (decide_eq_false (by omega))) ?_)
 simp only [zP, po]
 refine xM (.bool false) rfl (xF (.pointer (some ⟨b2, 0, none⟩)) rfl (s12fa35_0 _ _ _) ?_)
 refine xL _ rfl (run_load1 s2na3 (hv.load 0 0 rfl rfl)) ?_
 simp only [zP, po]
 refine xG (.bool false) rfl (ex_gtr rfl rfl rfl (decide_eq_false (by omega))) (xK false (.bool false) rfl ?_)
 refine xM (.bool false) rfl ?_
 simp only [zP, po]
 refine xF (.pointer (some ⟨b2, 0, none⟩)) rfl (s12fa35_0 _ _ _) (xL _ rfl (run_load1 s2na3 (hv.load 0 0 rfl rfl)) ?_)
 refine xG (.bool false) rfl (ex_neq rfl rfl rfl (decide_eq_false (by omega))) ?_
 simp only [zP, po]
 refine xM (.bool false) rfl ?_
 iterate 3 refine yN rfl ?_
 refine xK false (.bool false) rfl (xK false (.bool false) rfl ?_)
 simp only [zP, po]
 refine xM (.bool false) rfl (xF (.pointer (some ⟨b2, 0, none⟩)) rfl (s12fa35_0 _ _ _) ?_)
 refine xL _ rfl (run_load1 s2na3 (hv.load 0 0 rfl rfl)) ?_
 simp only [zP, po]
 refine xG (.bool true) rfl (ex_neq rfl rfl rfl (decide_eq_true (by omega))) (xM (.bool true) rfl ?_)
 refine xF (.pointer (some ⟨b2, 2, none⟩)) rfl (s1fa35_2 _ _ _) ?_
 simp only [zP, po]
 refine xL _ rfl (run_load1 s1na32 (hv.load 0 2 rfl rfl)) (xG (.int .i64 (v.pairs.length : Int)) rfl (ex_len0 Tryz.underlying32 rfl rfl) ?_)
 by_cases hb6 : (v.pairs.length : Int) > 0
 ·refine xG (.bool true) rfl (ex_gtr rfl rfl rfl (decide_eq_true hb6)) ?_
  simp only [zP, po]
  refine xK true (.bool true) rfl (xK false (.bool true) rfl ?_)
  refine xM (.bool true) rfl ?_
  simp only [zP, po]
  iterate 14 refine yN rfl ?_
  refine xK true (.bool true) rfl (xM (.bool true) rfl ?_)
  iterate 9 refine yN rfl ?_
  refine xK true (.bool true) rfl ?_
  simp only [zP, po]
  refine wK k5 (cT rfl ?_)
  refine sK fun _ k7 => rL (xA (.bool false) rfl ?_)
  simp only [zP, po]
  refine wK k7 (rR ?_)
  refine tR (bR rfl rfl ?_)
  exact ⟨false, rfl, ⟨fun h => (by cases h), fun h => by rcases h with ⟨h1, h2, h3, h4, h5⟩ | ⟨h1, h2, h3, h4, h5, h6⟩ | ⟨h1, h2, h3, h4, h5, h6⟩ | ⟨h1, h2, h3, h4, h5, h6⟩ | ⟨h1, h2, h3, h4, h5, h6⟩ <;> first | omega | contradiction | (have h9 := hv.2 h3; cases h9)⟩, (hv.sub (List.Sublist.cons _ (List.Sublist.refl _)))⟩
 refine xG (.bool false) rfl (ex_gtr rfl rfl rfl (decide_eq_false hb6)) ?_
 simp only [zP, po]
 refine xK true (.bool false) rfl (xK false (.bool false) rfl ?_)
 refine xM (.bool false) rfl ?_
 simp only [zP, po]
 refine xF (.pointer (some ⟨b2, 0, none⟩)) rfl (s12fa35_0 _ _ _) (xL _ rfl (run_load1 s2na3 (hv.load 0 0 rfl rfl)) ?_)
 refine xG (.bool true) rfl (ex_neq rfl rfl rfl (decide_eq_true (by omega))) ?_
 simp only [zP, po]
 refine xM (.bool true) rfl (xF (.pointer (some ⟨b2, 0, none⟩)) rfl (s12fa35_0 _ _ _) ?_)
 refine xL _ rfl (run_load1 s2na3 (hv.load 0 0 rfl rfl)) ?_
 simp only [zP, po]
 refine xG (.bool true) rfl (ex_neq rfl rfl rfl (decide_eq_true (by omega))) (xK true (.bool true) rfl ?_)
 refine xM (.bool true) rfl ?_
 simp only [zP, po]
 refine xF (.pointer (some ⟨b2, 3, none⟩)) rfl (s1fa35_3 _ _ _) (xL _ rfl (run_load1 s1na29 (hv.load 0 3 rfl rfl)) ?_)
 refine xG (.int .i64 (v.texts.length : Int)) rfl (ex_len0 Tryz.underlying29 rfl rfl) ?_
 simp only [zP, po]
 by_cases hb8 : (v.texts.length : Int) > 0
 ·refine xG (.bool true) rfl (ex_gtr rfl rfl rfl (decide_eq_true hb8)) (xK true (.bool true) rfl ?_)
  refine xK false (.bool true) rfl ?_
  simp only [zP, po]
  refine xM (.bool true) rfl ?_
  iterate 9 refine yN rfl ?_
  refine xK true (.bool true) rfl ?_
  simp only [zP, po]
  refine wK k5 (cT rfl ?_)
  refine sK fun _ k9 => rL (xA (.bool false) rfl ?_)
  simp only [zP, po]
  refine wK k9 (rR ?_)
  refine tR (bR rfl rfl ?_)
  exact ⟨false, rfl, ⟨fun h => (by cases h), fun h => by rcases h with ⟨h1, h2, h3, h4, h5⟩ | ⟨h1, h2, h3, h4, h5, h6⟩ | ⟨h1, h2, h3, h4, h5, h6⟩ | ⟨h1, h2, h3, h4, h5, h6⟩ | ⟨h1, h2, h3, h4, h5, h6⟩ <;> first | omega | contradiction | (have h9 := hv.2 h3; cases h9)⟩, (hv.sub (List.Sublist.cons _ (List.Sublist.refl _)))⟩
 refine xG (.bool false) rfl (ex_gtr rfl rfl rfl (decide_eq_false hb8)) (xK true (.bool false) rfl ?_)
 refine xK false (.bool false) rfl ?_
 simp only [zP, po]
 refine xM (.bool false) rfl (xF (.pointer (some ⟨b2, 0, none⟩)) rfl (s12fa35_0 _ _ _) ?_)
 refine xL _ rfl (run_load1 s2na3 (hv.load 0 0 rfl rfl)) ?_
 simp only [zP, po]
 refine xG (.bool true) rfl (ex_neq rfl rfl rfl (decide_eq_true (by omega))) (xM (.bool true) rfl ?_)
 refine xF (.pointer (some ⟨b2, 4, none⟩)) rfl (s1fa35_4 _ _ _) ?_
 simp only [zP, po]
 refine xL _ rfl (run_load1 s1na33 (hv.load 0 4 rfl rfl)) (xG (.int .i64 (v.zset.length : Int)) rfl (ex_len0 Tryz.underlying33 rfl rfl) ?_)
 by_cases hb10 : (v.zset.length : Int) > 0
 ·refine xG (.bool true) rfl (ex_gtr rfl rfl rfl (decide_eq_true hb10)) ?_
  simp only [zP, po]
  refine xK true (.bool true) rfl (xK false (.bool true) rfl ?_)
  simp only [zP, po]
  refine wK k5 (cT rfl ?_)
  refine sK fun _ k11 => rL (xA (.bool false) rfl ?_)
  simp only [zP, po]
  refine wK k11 (rR ?_)
  refine tR (bR rfl rfl ?_)
  exact ⟨false, rfl, ⟨fun h => (by cases h), fun h => by rcases h with ⟨h1, h2, h3, h4, h5⟩ | ⟨h1, h2, h3, h4, h5, h6⟩ | ⟨h1, h2, h3, h4, h5, h6⟩ | ⟨h1, h2, h3, h4, h5, h6⟩ | ⟨h1, h2, h3, h4, h5, h6⟩ <;> first | omega | contradiction | (have h9 := hv.2 h3; cases h9)⟩, (hv.sub (List.Sublist.cons _ (List.Sublist.refl _)))⟩
 refine xG (.bool false) rfl (ex_gtr rfl rfl rfl (decide_eq_false hb10)) ?_
 simp only [zP, po]
 refine xK true (.bool false) rfl (xK false (.bool false) rfl ?_)
 simp only [zP, po]
 refine wK k5 (cF rfl ?_)
 refine kS (tK k4 ?_)
 refine sK fun _ k12 => sK fun _ k13 => rL (xF (.pointer (some ⟨b2, 0, none⟩)) rfl (s12fa35_0 _ _ _) ?_)
 refine xL _ rfl (run_load1 s2na3 (hv.load 0 0 rfl rfl)) ?_
 simp only [zP, po]
 refine wK k13 (bB ?_)
 refine sK fun _ k14 => rL (xG (.bool true) rfl (ex_eql rfl rfl rfl (decide_eq_true (by omega))) ?_)
 refine xA (.bool true) rfl ?_
 simp only [zP, po]
 refine wK k14 (cT rfl ?_)
 refine sK fun _ k15 => rL (xF (.pointer (some ⟨b2, 1, none⟩)) rfl (s12fa35_1 _ _ _) ?_)
 refine xL _ rfl (run_load1 s9na9 (hv.load 0 1 rfl rfl)) (xG (.int .i64 (v.text.length : Int)) rfl (ex_lenStr Tryz.underlying9 rfl rfl) ?_)
 simp only [zP, po]
 refine xG (.bool (decide ((v.text.length : Int) ≤ 4096))) rfl (ex_leq rfl rfl rfl rfl) (xA (.bool (decide ((v.text.length : Int) ≤ 4096))) rfl ?_)
 simp only [zP, po]
 refine wK k15 (rR ?_)
 refine bE (tR ?_)
 refine bR rfl rfl (⟨_, rfl, by rw [decide_eq_true_iff]; exact ⟨fun h9 => .inl ⟨by omega, by omega, by omega, by omega, by omega⟩, fun h => by rcases h with ⟨h1, h2, h3, h4, h5⟩ | ⟨h1, h2, h3, h4, h5, h6⟩ | ⟨h1, h2, h3, h4, h5, h6⟩ | ⟨h1, h2, h3, h4, h5, h6⟩ | ⟨h1, h2, h3, h4, h5, h6⟩ <;> first | omega | (have h9 := llen h3; omega)⟩, (hv.sub (List.Sublist.cons _ (List.Sublist.refl _)))⟩)
theorem s31callable35 : Callable Tryz.prog 35 := ⟨_, Tryz.func35, by kernel_rfl, by kernel_rfl⟩
set_option maxHeartbeats 8000000 in
theorem refRight_2 (B : Base) (H : List Res) (w : World) (v : Val) (ap at2 az : Option Addr) (cp ct cz : Nat) (hrp : RdV B [] ap (pairCells v.pairs)) (_ : RdV B [] at2 (textCells v.texts)) (_ : RdV B [] az (memCells v.zset)) (hpm : v.pairs.length ≤ 1000000) (htm : v.texts.length ≤ 1000000) (hzm : v.zset.length ≤ 1000000) (hk : v.kind = 2) (hv : Inv B H w) :
  Calls Tryz.prog 10 #[.agg #[.int .i64 v.kind, .string ⟨v.text.toArray⟩, .slice ap v.pairs.length cp, .slice at2 v.texts.length ct, .slice az v.zset.length cz]] w fun e w' => ∃ b, e = .returned (.bool b) ∧ (b = true ↔ ValOk v) ∧ Inv B H w' := by
 refine cW Tryz.func10 rfl Tryz.ntmps10 ?_
 simp only [al]
 refine sK fun _ k1 => rL (sl_box (L := [.int .i64 v.kind, .string ⟨v.text.toArray⟩, .slice ap v.pairs.length cp, .slice at2 v.texts.length ct, .slice az v.zset.length cz]) tV (wn rfl) rfl rfl hv (fun w => by kernel_rfl) (fun b2 w3 hv => ?_))
 refine xA (.bool false) rfl ?_
 simp only [zP, po]
 refine wK k1 (sK fun _ k4 => ?_)
 refine sK fun _ k5 => rL (xF (.pointer (some ⟨b2, 0, none⟩)) rfl (s12fa35_0 _ _ _) ?_)
 refine xL _ rfl (run_load1 s2na3 (hv.load 0 0 rfl rfl)) (xG (.bool false) rfl (ex_lss rfl rfl rfl (decide_eq_false (by omega))) ?_)
 simp only [zP, po]
 refine xM (.bool false) rfl (xF (.pointer (some ⟨b2, 0, none⟩)) rfl (s12fa35_0 _ _ _) ?_)
 refine xL _ rfl (run_load1 s2na3 (hv.load 0 0 rfl rfl)) ?_
 simp only [zP, po]
 refine xG (.bool false) rfl (ex_gtr rfl rfl rfl (decide_eq_false (by omega))) (xK false (.bool false) rfl ?_)
 refine xM (.bool false) rfl ?_
 simp only [zP, po]
 refine xF (.pointer (some ⟨b2, 0, none⟩)) rfl (s12fa35_0 _ _ _) (xL _ rfl (run_load1 s2na3 (hv.load 0 0 rfl rfl)) ?_)
 refine xG (.bool true) rfl (ex_neq rfl rfl rfl (decide_eq_true (by omega))) ?_
 simp only [zP, po]
 refine xM (.bool true) rfl (xF (.pointer (some ⟨b2, 1, none⟩)) rfl (s12fa35_1 _ _ _) ?_)
 refine xL _ rfl (run_load1 s9na9 (hv.load 0 1 rfl rfl)) ?_
 simp only [zP, po]
 by_cases hb6 : v.text ≠ ([] : List UInt8)
 ·refine xG (.bool true) rfl (ex_sneq rfl rfl rfl (decide_eq_true hb6)) (xK true (.bool true) rfl ?_)
  refine xK false (.bool true) rfl ?_
  simp only [zP, po]
  refine xM (.bool true) rfl ?_
  iterate 9 refine yN rfl ?_
  refine xK true (.bool true) rfl (xM (.bool true) rfl ?_)
  simp only [zP, po]
  iterate 14 refine yN rfl ?_
  refine xK true (.bool true) rfl (xM (.bool true) rfl ?_)
  iterate 9 refine yN rfl ?_
  refine xK true (.bool true) rfl ?_
  simp only [zP, po]
  refine wK k5 (cT rfl ?_)
  refine sK fun _ k7 => rL (xA (.bool false) rfl ?_)
  simp only [zP, po]
  refine wK k7 (rR ?_)
  refine tR (bR rfl rfl ?_)
  exact ⟨false, rfl, ⟨fun h => (by cases h), fun h => by rcases h with ⟨h1, h2, h3, h4, h5⟩ | ⟨h1, h2, h3, h4, h5, h6⟩ | ⟨h1, h2, h3, h4, h5, h6⟩ | ⟨h1, h2, h3, h4, h5, h6⟩ | ⟨h1, h2, h3, h4, h5, h6⟩ <;> first | omega | contradiction | (have h9 := hv.2 h3; cases h9)⟩, (hv.sub (List.Sublist.cons _ (List.Sublist.refl _)))⟩
 refine xG (.bool false) rfl (ex_sneq rfl rfl rfl (decide_eq_false hb6)) (xK true (.bool false) rfl ?_)
 refine xK false (.bool false) rfl ?_
 simp only [zP, po]
 refine xM (.bool false) rfl (xF (.pointer (some ⟨b2, 0, none⟩)) rfl (s12fa35_0 _ _ _) ?_)
 refine xL _ rfl (run_load1 s2na3 (hv.load 0 0 rfl rfl)) ?_
 simp only [zP, po]
 refine xG (.bool false) rfl (ex_neq rfl rfl rfl (decide_eq_false (by omega))) (xM (.bool false) rfl ?_)
 iterate 4 refine yN rfl ?_
 refine xK false (.bool false) rfl ?_
 simp only [zP, po]
 refine xK false (.bool false) rfl (xM (.bool false) rfl ?_)
 refine xF (.pointer (some ⟨b2, 0, none⟩)) rfl (s12fa35_0 _ _ _) ?_
 simp only [zP, po]
 refine xL _ rfl (run_load1 s2na3 (hv.load 0 0 rfl rfl)) (xG (.bool true) rfl (ex_neq rfl rfl rfl (decide_eq_true (by omega))) ?_)
 refine xM (.bool true) rfl ?_
 simp only [zP, po]
 refine xF (.pointer (some ⟨b2, 0, none⟩)) rfl (s12fa35_0 _ _ _) (xL _ rfl (run_load1 s2na3 (hv.load 0 0 rfl rfl)) ?_)
 refine xG (.bool true) rfl (ex_neq rfl rfl rfl (decide_eq_true (by omega))) ?_
 simp only [zP, po]
 refine xK true (.bool true) rfl (xM (.bool true) rfl ?_)
 refine xF (.pointer (some ⟨b2, 3, none⟩)) rfl (s1fa35_3 _ _ _) ?_
 simp only [zP, po]
 refine xL _ rfl (run_load1 s1na29 (hv.load 0 3 rfl rfl)) (xG (.int .i64 (v.texts.length : Int)) rfl (ex_len0 Tryz.underlying29 rfl rfl) ?_)
 by_cases hb8 : (v.texts.length : Int) > 0
 ·refine xG (.bool true) rfl (ex_gtr rfl rfl rfl (decide_eq_true hb8)) ?_
  simp only [zP, po]
  refine xK true (.bool true) rfl (xK false (.bool true) rfl ?_)
  refine xM (.bool true) rfl ?_
  simp only [zP, po]
  iterate 9 refine yN rfl ?_
  refine xK true (.bool true) rfl ?_
  simp only [zP, po]
  refine wK k5 (cT rfl ?_)
  refine sK fun _ k9 => rL (xA (.bool false) rfl ?_)
  simp only [zP, po]
  refine wK k9 (rR ?_)
  refine tR (bR rfl rfl ?_)
  exact ⟨false, rfl, ⟨fun h => (by cases h), fun h => by rcases h with ⟨h1, h2, h3, h4, h5⟩ | ⟨h1, h2, h3, h4, h5, h6⟩ | ⟨h1, h2, h3, h4, h5, h6⟩ | ⟨h1, h2, h3, h4, h5, h6⟩ | ⟨h1, h2, h3, h4, h5, h6⟩ <;> first | omega | contradiction | (have h9 := hv.2 h3; cases h9)⟩, (hv.sub (List.Sublist.cons _ (List.Sublist.refl _)))⟩
 refine xG (.bool false) rfl (ex_gtr rfl rfl rfl (decide_eq_false hb8)) ?_
 simp only [zP, po]
 refine xK true (.bool false) rfl (xK false (.bool false) rfl ?_)
 refine xM (.bool false) rfl ?_
 simp only [zP, po]
 refine xF (.pointer (some ⟨b2, 0, none⟩)) rfl (s12fa35_0 _ _ _) (xL _ rfl (run_load1 s2na3 (hv.load 0 0 rfl rfl)) ?_)
 refine xG (.bool true) rfl (ex_neq rfl rfl rfl (decide_eq_true (by omega))) ?_
 simp only [zP, po]
 refine xM (.bool true) rfl (xF (.pointer (some ⟨b2, 4, none⟩)) rfl (s1fa35_4 _ _ _) ?_)
 refine xL _ rfl (run_load1 s1na33 (hv.load 0 4 rfl rfl)) ?_
 simp only [zP, po]
 refine xG (.int .i64 (v.zset.length : Int)) rfl (ex_len0 Tryz.underlying33 rfl rfl) ?_
 by_cases hb10 : (v.zset.length : Int) > 0
 ·refine xG (.bool true) rfl (ex_gtr rfl rfl rfl (decide_eq_true hb10)) (xK true (.bool true) rfl ?_)
  simp only [zP, po]
  refine xK false (.bool true) rfl ?_
  simp only [zP, po]
  refine wK k5 (cT rfl ?_)
  refine sK fun _ k11 => rL (xA (.bool false) rfl ?_)
  simp only [zP, po]
  refine wK k11 (rR ?_)
  refine tR (bR rfl rfl ?_)
  exact ⟨false, rfl, ⟨fun h => (by cases h), fun h => by rcases h with ⟨h1, h2, h3, h4, h5⟩ | ⟨h1, h2, h3, h4, h5, h6⟩ | ⟨h1, h2, h3, h4, h5, h6⟩ | ⟨h1, h2, h3, h4, h5, h6⟩ | ⟨h1, h2, h3, h4, h5, h6⟩ <;> first | omega | contradiction | (have h9 := hv.2 h3; cases h9)⟩, (hv.sub (List.Sublist.cons _ (List.Sublist.refl _)))⟩
 refine xG (.bool false) rfl (ex_gtr rfl rfl rfl (decide_eq_false hb10)) (xK true (.bool false) rfl ?_)
 simp only [zP, po]
 refine xK false (.bool false) rfl ?_
 simp only [zP, po]
 refine wK k5 (cF rfl ?_)
 refine kS (tK k4 ?_)
 refine sK fun _ k12 => sK fun _ k13 => rL (xF (.pointer (some ⟨b2, 0, none⟩)) rfl (s12fa35_0 _ _ _) ?_)
 refine xL _ rfl (run_load1 s2na3 (hv.load 0 0 rfl rfl)) ?_
 simp only [zP, po]
 refine wK k13 (bB ?_)
 refine sK fun _ k14 => rL (xG (.bool false) rfl (ex_eql rfl rfl rfl (decide_eq_false (by omega))) ?_)
 refine xA (.bool false) rfl ?_
 simp only [zP, po]
 refine wK k14 (cF rfl ?_)
 refine sK fun _ k15 => rL (xG (.bool true) rfl (ex_eql rfl rfl rfl (decide_eq_true (by omega))) ?_)
 refine xA (.bool true) rfl ?_
 simp only [zP, po]
 refine wK k15 (cT rfl ?_)
 refine sK fun _ k16 => rL (xF (.pointer (some ⟨b2, 2, none⟩)) rfl (s1fa35_2 _ _ _) ?_)
 refine xL _ rfl (run_load1 s1na32 (hv.load 0 2 rfl rfl)) (xG (.int .i64 (v.pairs.length : Int)) rfl (ex_len0 Tryz.underlying32 rfl rfl) ?_)
 simp only [zP, po]
 by_cases hb17 : (v.pairs.length : Int) > 0
 ·refine xG (.bool true) rfl (ex_gtr rfl rfl rfl (decide_eq_true hb17)) (xM (.bool true) rfl ?_)
  refine xF (.pointer (some ⟨b2, 2, none⟩)) rfl (s1fa35_2 _ _ _) ?_
  simp only [zP, po]
  refine xL _ rfl (run_load1 s1na32 (hv.load 0 2 rfl rfl)) (xC s31callable35 rfl ((refHashRight B _ _ _ _ _ hrp hpm hv).mono ?_) rfl)
  rintro e w19 ⟨bl18, rfl, hbl18, hv⟩
  refine ⟨_, rfl, ?_⟩
  cases bl18
  ·refine xK true (.bool false) rfl ?_
   simp only [zP, po]
   refine xA (.bool false) rfl ?_
   simp only [zP, po]
   refine wK k16 (rR ?_)
   refine bE (tR ?_)
   refine bR rfl rfl (⟨false, rfl, ⟨fun h => (by cases h), fun h => by rcases h with ⟨h1, h2, h3, h4, h5⟩ | ⟨h1, h2, h3, h4, h5, h6⟩ | ⟨h1, h2, h3, h4, h5, h6⟩ | ⟨h1, h2, h3, h4, h5, h6⟩ | ⟨h1, h2, h3, h4, h5, h6⟩ <;> first | omega | contradiction | (have h9 := hbl18.2 h3; cases h9)⟩, (hv.sub (List.Sublist.cons _ (List.Sublist.refl _)))⟩)
  refine xK true (.bool true) rfl ?_
  simp only [zP, po]
  refine xA (.bool true) rfl ?_
  simp only [zP, po]
  refine wK k16 (rR ?_)
  refine bE (tR ?_)
  refine bR rfl rfl (⟨true, rfl, ⟨fun _ => .inr (.inl ⟨by omega, by omega, hbl18.1 rfl, Classical.not_not.1 hb6, by omega, by omega⟩), fun _ => rfl⟩, (hv.sub (List.Sublist.cons _ (List.Sublist.refl _)))⟩)
 refine xG (.bool false) rfl (ex_gtr rfl rfl rfl (decide_eq_false hb17)) (xM (.bool false) rfl ?_)
 iterate 3 refine yN rfl ?_
 refine xK false (.bool false) rfl ?_
 simp only [zP, po]
 refine xA (.bool false) rfl ?_
 simp only [zP, po]
 refine wK k16 (rR ?_)
 refine bE (tR ?_)
 refine bR rfl rfl (⟨false, rfl, ⟨fun h => (by cases h), fun h => by rcases h with ⟨h1, h2, h3, h4, h5⟩ | ⟨h1, h2, h3, h4, h5, h6⟩ | ⟨h1, h2, h3, h4, h5, h6⟩ | ⟨h1, h2, h3, h4, h5, h6⟩ | ⟨h1, h2, h3, h4, h5, h6⟩ <;> first | omega | contradiction | (have h9 := hv.2 h3; cases h9)⟩, (hv.sub (List.Sublist.cons _ (List.Sublist.refl _)))⟩)
set_option maxHeartbeats 8000000 in
theorem refRight_3 (B : Base) (H : List Res) (w : World) (v : Val) (ap at2 az : Option Addr) (cp ct cz : Nat) (_ : RdV B [] ap (pairCells v.pairs)) (hrt : RdV B [] at2 (textCells v.texts)) (_ : RdV B [] az (memCells v.zset)) (hpm : v.pairs.length ≤ 1000000) (htm : v.texts.length ≤ 1000000) (hzm : v.zset.length ≤ 1000000) (hk : v.kind = 3) (hv : Inv B H w) :
  Calls Tryz.prog 10 #[.agg #[.int .i64 v.kind, .string ⟨v.text.toArray⟩, .slice ap v.pairs.length cp, .slice at2 v.texts.length ct, .slice az v.zset.length cz]] w fun e w' => ∃ b, e = .returned (.bool b) ∧ (b = true ↔ ValOk v) ∧ Inv B H w' := by
 refine cW Tryz.func10 rfl Tryz.ntmps10 ?_
 simp only [al]
 refine sK fun _ k1 => rL (sl_box (L := [.int .i64 v.kind, .string ⟨v.text.toArray⟩, .slice ap v.pairs.length cp, .slice at2 v.texts.length ct, .slice az v.zset.length cz]) tV (wn rfl) rfl rfl hv (fun w => by kernel_rfl) (fun b2 w3 hv => ?_))
 refine xA (.bool false) rfl ?_
 simp only [zP, po]
 refine wK k1 (sK fun _ k4 => ?_)
 refine sK fun _ k5 => rL (xF (.pointer (some ⟨b2, 0, none⟩)) rfl (s12fa35_0 _ _ _) ?_)
 refine xL _ rfl (run_load1 s2na3 (hv.load 0 0 rfl rfl)) (xG (.bool false) rfl (ex_lss rfl rfl rfl (decide_eq_false (by omega))) ?_)
 simp only [zP, po]
 refine xM (.bool false) rfl (xF (.pointer (some ⟨b2, 0, none⟩)) rfl (s12fa35_0 _ _ _) ?_)
 refine xL _ rfl (run_load1 s2na3 (hv.load 0 0 rfl rfl)) ?_
 simp only [zP, po]
 refine xG (.bool false) rfl (ex_gtr rfl rfl rfl (decide_eq_false (by omega))) (xK false (.bool false) rfl ?_)
 refine xM (.bool false) rfl ?_
 simp only [zP, po]
 refine xF (.pointer (some ⟨b2, 0, none⟩)) rfl (s12fa35_0 _ _ _) (xL _ rfl (run_load1 s2na3 (hv.load 0 0 rfl rfl)) ?_)
 refine xG (.bool true) rfl (ex_neq rfl rfl rfl (decide_eq_true (by omega))) ?_
 simp only [zP, po]
 refine xM (.bool true) rfl (xF (.pointer (some ⟨b2, 1, none⟩)) rfl (s12fa35_1 _ _ _) ?_)
 refine xL _ rfl (run_load1 s9na9 (hv.load 0 1 rfl rfl)) ?_
 simp only [zP, po]
 by_cases hb6 : v.text ≠ ([] : List UInt8)
 ·refine xG (.bool true) rfl (ex_sneq rfl rfl rfl (decide_eq_true hb6)) (xK true (.bool true) rfl ?_)
  refine xK false (.bool true) rfl ?_
  simp only [zP, po]
  refine xM (.bool true) rfl ?_
  iterate 9 refine yN rfl ?_
  refine xK true (.bool true) rfl (xM (.bool true) rfl ?_)
  simp only [zP, po]
  iterate 14 refine yN rfl ?_
  refine xK true (.bool true) rfl (xM (.bool true) rfl ?_)
  iterate 9 refine yN rfl ?_
  refine xK true (.bool true) rfl ?_
  simp only [zP, po]
  refine wK k5 (cT rfl ?_)
  refine sK fun _ k7 => rL (xA (.bool false) rfl ?_)
  simp only [zP, po]
  refine wK k7 (rR ?_)
  refine tR (bR rfl rfl ?_)
  exact ⟨false, rfl, ⟨fun h => (by cases h), fun h => by rcases h with ⟨h1, h2, h3, h4, h5⟩ | ⟨h1, h2, h3, h4, h5, h6⟩ | ⟨h1, h2, h3, h4, h5, h6⟩ | ⟨h1, h2, h3, h4, h5, h6⟩ | ⟨h1, h2, h3, h4, h5, h6⟩ <;> first | omega | contradiction | (have h9 := hv.2 h3; cases h9)⟩, (hv.sub (List.Sublist.cons _ (List.Sublist.refl _)))⟩
 refine xG (.bool false) rfl (ex_sneq rfl rfl rfl (decide_eq_false hb6)) (xK true (.bool false) rfl ?_)
 refine xK false (.bool false) rfl ?_
 simp only [zP, po]
 refine xM (.bool false) rfl (xF (.pointer (some ⟨b2, 0, none⟩)) rfl (s12fa35_0 _ _ _) ?_)
 refine xL _ rfl (run_load1 s2na3 (hv.load 0 0 rfl rfl)) ?_
 simp only [zP, po]
 refine xG (.bool true) rfl (ex_neq rfl rfl rfl (decide_eq_true (by omega))) (xM (.bool true) rfl ?_)
 refine xF (.pointer (some ⟨b2, 2, none⟩)) rfl (s1fa35_2 _ _ _) ?_
 simp only [zP, po]
 refine xL _ rfl (run_load1 s1na32 (hv.load 0 2 rfl rfl)) (xG (.int .i64 (v.pairs.length : Int)) rfl (ex_len0 Tryz.underlying32 rfl rfl) ?_)
 by_cases hb8 : (v.pairs.length : Int) > 0
 ·refine xG (.bool true) rfl (ex_gtr rfl rfl rfl (decide_eq_true hb8)) ?_
  simp only [zP, po]
  refine xK true (.bool true) rfl (xK false (.bool true) rfl ?_)
  refine xM (.bool true) rfl ?_
  simp only [zP, po]
  iterate 14 refine yN rfl ?_
  refine xK true (.bool true) rfl (xM (.bool true) rfl ?_)
  iterate 9 refine yN rfl ?_
  refine xK true (.bool true) rfl ?_
  simp only [zP, po]
  refine wK k5 (cT rfl ?_)
  refine sK fun _ k9 => rL (xA (.bool false) rfl ?_)
  simp only [zP, po]
  refine wK k9 (rR ?_)
  refine tR (bR rfl rfl ?_)
  exact ⟨false, rfl, ⟨fun h => (by cases h), fun h => by rcases h with ⟨h1, h2, h3, h4, h5⟩ | ⟨h1, h2, h3, h4, h5, h6⟩ | ⟨h1, h2, h3, h4, h5, h6⟩ | ⟨h1, h2, h3, h4, h5, h6⟩ | ⟨h1, h2, h3, h4, h5, h6⟩ <;> first | omega | contradiction | (have h9 := hv.2 h3; cases h9)⟩, (hv.sub (List.Sublist.cons _ (List.Sublist.refl _)))⟩
 refine xG (.bool false) rfl (ex_gtr rfl rfl rfl (decide_eq_false hb8)) ?_
 simp only [zP, po]
 refine xK true (.bool false) rfl (xK false (.bool false) rfl ?_)
 refine xM (.bool false) rfl ?_
 simp only [zP, po]
 refine xF (.pointer (some ⟨b2, 0, none⟩)) rfl (s12fa35_0 _ _ _) (xL _ rfl (run_load1 s2na3 (hv.load 0 0 rfl rfl)) ?_)
 refine xG (.bool false) rfl (ex_neq rfl rfl rfl (decide_eq_false (by omega))) ?_
 simp only [zP, po]
 refine xM (.bool false) rfl ?_
 iterate 3 refine yN rfl ?_
 refine xK false (.bool false) rfl (xM (.bool false) rfl ?_)
 simp only [zP, po]
 iterate 4 refine yN rfl ?_
 refine xK false (.bool false) rfl (xK false (.bool false) rfl ?_)
 refine xM (.bool false) rfl ?_
 simp only [zP, po]
 refine xF (.pointer (some ⟨b2, 0, none⟩)) rfl (s12fa35_0 _ _ _) (xL _ rfl (run_load1 s2na3 (hv.load 0 0 rfl rfl)) ?_)
 refine xG (.bool true) rfl (ex_neq rfl rfl rfl (decide_eq_true (by omega))) ?_
 simp only [zP, po]
 refine xM (.bool true) rfl (xF (.pointer (some ⟨b2, 4, none⟩)) rfl (s1fa35_4 _ _ _) ?_)
 refine xL _ rfl (run_load1 s1na33 (hv.load 0 4 rfl rfl)) ?_
 simp only [zP, po]
 refine xG (.int .i64 (v.zset.length : Int)) rfl (ex_len0 Tryz.underlying33 rfl rfl) ?_
 by_cases hb10 : (v.zset.length : Int) > 0
 ·refine xG (.bool true) rfl (ex_gtr rfl rfl rfl (decide_eq_true hb10)) (xK true (.bool true) rfl ?_)
  simp only [zP, po]
  refine xK false (.bool true) rfl ?_
  simp only [zP, po]
  refine wK k5 (cT rfl ?_)
  refine sK fun _ k11 => rL (xA (.bool false) rfl ?_)
  simp only [zP, po]
  refine wK k11 (rR ?_)
  refine tR (bR rfl rfl ?_)
  exact ⟨false, rfl, ⟨fun h => (by cases h), fun h => by rcases h with ⟨h1, h2, h3, h4, h5⟩ | ⟨h1, h2, h3, h4, h5, h6⟩ | ⟨h1, h2, h3, h4, h5, h6⟩ | ⟨h1, h2, h3, h4, h5, h6⟩ | ⟨h1, h2, h3, h4, h5, h6⟩ <;> first | omega | contradiction | (have h9 := hv.2 h3; cases h9)⟩, (hv.sub (List.Sublist.cons _ (List.Sublist.refl _)))⟩
 refine xG (.bool false) rfl (ex_gtr rfl rfl rfl (decide_eq_false hb10)) (xK true (.bool false) rfl ?_)
 simp only [zP, po]
 refine xK false (.bool false) rfl ?_
 simp only [zP, po]
 refine wK k5 (cF rfl ?_)
 refine kS (tK k4 ?_)
 refine sK fun _ k12 => sK fun _ k13 => rL (xF (.pointer (some ⟨b2, 0, none⟩)) rfl (s12fa35_0 _ _ _) ?_)
 refine xL _ rfl (run_load1 s2na3 (hv.load 0 0 rfl rfl)) ?_
 simp only [zP, po]
 refine wK k13 (bB ?_)
 refine sK fun _ k14 => rL (xG (.bool false) rfl (ex_eql rfl rfl rfl (decide_eq_false (by omega))) ?_)
 refine xA (.bool false) rfl ?_
 simp only [zP, po]
 refine wK k14 (cF rfl ?_)
 refine sK fun _ k15 => rL (xG (.bool false) rfl (ex_eql rfl rfl rfl (decide_eq_false (by omega))) ?_)
 refine xA (.bool false) rfl ?_
 simp only [zP, po]
 refine wK k15 (cF rfl ?_)
 refine sK fun _ k16 => rL (xG (.bool false) rfl (ex_eql rfl rfl rfl (decide_eq_false (by omega))) ?_)
 refine xA (.bool false) rfl ?_
 simp only [zP, po]
 refine wK k16 (cF rfl ?_)
 refine sK fun _ k17 => rL (xG (.bool false) rfl (ex_eql rfl rfl rfl (decide_eq_false (by omega))) ?_)
 refine xA (.bool false) rfl ?_
 simp only [zP, po]
 refine wK k17 (cF rfl ?_)
 refine kS (bN ?_)
 refine tK k12 (sK fun _ k18 => ?_)
 refine sK fun _ k19 => rL (xA (.int .i64 0) rfl ?_)
 simp only [zP, po]
 refine wK k19 (bB ?_)
 gi_loopw [3] (fun x3 wr => ∃ (i : Nat), x3 = .int .i64 (i : Int) ∧ i ≤ v.texts.length ∧ (∀ j x, j < i → v.texts[j]? = some x → x.length ≤ 4096) ∧ Inv B (Res.cell b2 [.int .i64 v.kind, .string ⟨v.text.toArray⟩, .slice ap v.pairs.length cp, .slice at2 v.texts.length ct, .slice az v.zset.length cz] 35 :: H) wr) (fun x3 _ => v.texts.length - (intOf x3).toNat)
 case atStart => exact ⟨0, rfl, Nat.zero_le _, fun j x h => by omega, hv⟩
 case round =>
  obtain ⟨i, rfl, hi, hno, hv⟩ := hrel
  refine sK fun _ k21 => sK fun _ k22 => rL (xM (.int .i64 (i : Int)) rfl ?_)
  refine xF (.pointer (some ⟨b2, 3, none⟩)) rfl (s1fa35_3 _ _ _) (xL _ rfl (run_load1 s1na29 (hv.load 0 3 rfl rfl)) ?_)
  simp only [zP, po]
  refine xG (.int .i64 (v.texts.length : Int)) rfl (ex_len0 Tryz.underlying29 rfl rfl) ?_
  by_cases hb23 : (i : Int) < (v.texts.length : Int)
  ·refine xG (.bool true) rfl (ex_lss rfl rfl rfl (decide_eq_true hb23)) ?_
   simp only [zP, po]
   refine wK k22 (cT rfl ?_)
   refine kS (tK k21 ?_)
   refine sK fun _ k24 => bB (sK fun _ k25 => ?_)
   obtain ⟨x, hx⟩ : ∃ x, v.texts[i]? = some x := ⟨_, List.getElem?_eq_getElem (show i < v.texts.length by omega)⟩
   obtain ⟨bb, bo, had, hrdx⟩ := text_reads hrt hx
   subst had
   refine rL (xF (.pointer (some ⟨b2, 3, none⟩)) rfl (s1fa35_3 _ _ _) ?_)
   refine xL _ rfl (run_load1 s1na29 (hv.load 0 3 rfl rfl)) (xM (.int .i64 (i : Int)) rfl ?_)
   simp only [zP, po]
   refine xG (.pointer (some ⟨bb, bo + i, none⟩)) rfl (ex_index rfl rfl rfl (run_idx1 (k := i) Tryz.underlying29 s9es29 (by omega))) (xL _ rfl (run_load1 s9na9 (hrdx _ _ _ (Base.Le.refl _) no_res hv 0 _ rfl)) ?_)
   refine xG (.int .i64 (x.length : Int)) rfl (ex_lenStr Tryz.underlying9 rfl rfl) ?_
   simp only [zP, po]
   by_cases hb26 : (x.length : Int) > 4096
   ·refine xG (.bool true) rfl (ex_gtr rfl rfl rfl (decide_eq_true hb26)) ?_
    simp only [zP, po]
    refine wK k25 (cT rfl ?_)
    refine sK fun _ k27 => rL (xA (.bool false) rfl ?_)
    simp only [zP, po]
    refine wK k27 (rR ?_)
    refine bE (tR ?_)
    refine tR (bE ?_)
    refine tR (bR rfl rfl ?_)
    exact ⟨false, rfl, ⟨fun h => (by cases h), fun h => by rcases h with ⟨h1, h2, h3, h4, h5⟩ | ⟨h1, h2, h3, h4, h5, h6⟩ | ⟨h1, h2, h3, h4, h5, h6⟩ | ⟨h1, h2, h3, h4, h5, h6⟩ | ⟨h1, h2, h3, h4, h5, h6⟩ <;> first | omega | contradiction | (have h9 := hv.2 h3; cases h9) | (have h9 := lleft h3 _ _ hx; omega)⟩, (hv.sub (List.Sublist.cons _ (List.Sublist.refl _)))⟩
   refine xG (.bool false) rfl (ex_gtr rfl rfl rfl (decide_eq_false hb26)) ?_
   simp only [zP, po]
   refine wK k25 (cF rfl ?_)
   refine kS (bN ?_)
   refine tK k24 (rL ?_)
   refine xM (.int .i64 (i : Int)) rfl (xG (.int .i64 ((i + 1 : Nat) : Int)) rfl (ex_add rfl rfl rfl (by rw [i64_in (by omega)]; omega)) ?_)
   refine xA (.int .i64 ((i + 1 : Nat) : Int)) rfl (wL ?_)
   simp only [zP, po]
   refine then_normal ?_
   go_roundw
   case rel => exact ⟨i + 1, rfl, by omega, fun j x' hj hx' => (by
      rcases Nat.lt_or_ge j i with h | h
      ·exact hno j x' h hx'
      rw [show j = i by omega, hx] at hx'; cases hx'; omega), hv⟩
   case measure => show v.texts.length - (((i + 1 : Nat) : Int)).toNat < v.texts.length - ((i : Int)).toNat; omega
  refine xG (.bool false) rfl (ex_lss rfl rfl rfl (decide_eq_false hb23)) ?_
  simp only [zP, po]
  refine wK k22 (cF rfl ?_)
  refine xE (tX ?_)
  refine tX (bH ?_)
  refine tK k18 (sK fun _ k28 => ?_)
  obtain rfl : i = v.texts.length := by omega
  refine rL (xF (.pointer (some ⟨b2, 3, none⟩)) rfl (s1fa35_3 _ _ _) ?_)
  refine xL _ rfl (run_load1 s1na29 (hv.load 0 3 rfl rfl)) (xG (.int .i64 (v.texts.length : Int)) rfl (ex_len0 Tryz.underlying29 rfl rfl) ?_)
  simp only [zP, po]
  by_cases hb29 : (v.texts.length : Int) > 0
  ·refine xG (.bool true) rfl (ex_gtr rfl rfl rfl (decide_eq_true hb29)) (xM (.bool true) rfl ?_)
   refine xF (.pointer (some ⟨b2, 3, none⟩)) rfl (s1fa35_3 _ _ _) ?_
   simp only [zP, po]
   refine xL _ rfl (run_load1 s1na29 (hv.load 0 3 rfl rfl)) (xG (.int .i64 (v.texts.length : Int)) rfl (ex_len0 Tryz.underlying29 rfl rfl) ?_)
   refine xG (.bool (decide ((v.texts.length : Int) ≤ 512))) rfl (ex_leq rfl rfl rfl rfl) ?_
   simp only [zP, po]
   refine xK true (.bool (decide ((v.texts.length : Int) ≤ 512))) rfl (xA (.bool (decide ((v.texts.length : Int) ≤ 512))) rfl ?_)
   simp only [zP, po]
   refine wK k28 (rR ?_)
   refine bR rfl rfl (⟨_, rfl, by rw [decide_eq_true_iff]; exact ⟨fun h9 => .inr (.inr (.inl ⟨by omega, by omega, lright (by omega) hno, Classical.not_not.1 hb6, by omega, by omega⟩)), fun h => by rcases h with ⟨h1, h2, h3, h4, h5⟩ | ⟨h1, h2, h3, h4, h5, h6⟩ | ⟨h1, h2, h3, h4, h5, h6⟩ | ⟨h1, h2, h3, h4, h5, h6⟩ | ⟨h1, h2, h3, h4, h5, h6⟩ <;> first | omega | (have h9 := llen h3; omega)⟩, (hv.sub (List.Sublist.cons _ (List.Sublist.refl _)))⟩)
  refine xG (.bool false) rfl (ex_gtr rfl rfl rfl (decide_eq_false hb29)) (xM (.bool false) rfl ?_)
  iterate 4 refine yN rfl ?_
  refine xK false (.bool false) rfl ?_
  simp only [zP, po]
  refine xA (.bool false) rfl ?_
  simp only [zP, po]
  refine wK k28 (rR ?_)
  refine bR rfl rfl (⟨false, rfl, ⟨fun h => (by cases h), fun h => by rcases h with ⟨h1, h2, h3, h4, h5⟩ | ⟨h1, h2, h3, h4, h5, h6⟩ | ⟨h1, h2, h3, h4, h5, h6⟩ | ⟨h1, h2, h3, h4, h5, h6⟩ | ⟨h1, h2, h3, h4, h5, h6⟩ <;> first | omega | contradiction | (have h9 := hv.2 h3; cases h9)⟩, (hv.sub (List.Sublist.cons _ (List.Sublist.refl _)))⟩)
theorem s31callable36 : Callable Tryz.prog 36 := ⟨_, Tryz.func36, by kernel_rfl, by kernel_rfl⟩
set_option maxHeartbeats 8000000 in
theorem refRight_4 (B : Base) (H : List Res) (w : World) (v : Val) (ap at2 az : Option Addr) (cp ct cz : Nat) (_ : RdV B [] ap (pairCells v.pairs)) (hrt : RdV B [] at2 (textCells v.texts)) (_ : RdV B [] az (memCells v.zset)) (hpm : v.pairs.length ≤ 1000000) (htm : v.texts.length ≤ 1000000) (hzm : v.zset.length ≤ 1000000) (hk : v.kind = 4) (hv : Inv B H w) :
  Calls Tryz.prog 10 #[.agg #[.int .i64 v.kind, .string ⟨v.text.toArray⟩, .slice ap v.pairs.length cp, .slice at2 v.texts.length ct, .slice az v.zset.length cz]] w fun e w' => ∃ b, e = .returned (.bool b) ∧ (b = true ↔ ValOk v) ∧ Inv B H w' := by
 refine cW Tryz.func10 rfl Tryz.ntmps10 ?_
 simp only [al]
 refine sK fun _ k1 => rL (sl_box (L := [.int .i64 v.kind, .string ⟨v.text.toArray⟩, .slice ap v.pairs.length cp, .slice at2 v.texts.length ct, .slice az v.zset.length cz]) tV (wn rfl) rfl rfl hv (fun w => by kernel_rfl) (fun b2 w3 hv => ?_))
 refine xA (.bool false) rfl ?_
 simp only [zP, po]
 refine wK k1 (sK fun _ k4 => ?_)
 refine sK fun _ k5 => rL (xF (.pointer (some ⟨b2, 0, none⟩)) rfl (s12fa35_0 _ _ _) ?_)
 refine xL _ rfl (run_load1 s2na3 (hv.load 0 0 rfl rfl)) (xG (.bool false) rfl (ex_lss rfl rfl rfl (decide_eq_false (by omega))) ?_)
 simp only [zP, po]
 refine xM (.bool false) rfl (xF (.pointer (some ⟨b2, 0, none⟩)) rfl (s12fa35_0 _ _ _) ?_)
 refine xL _ rfl (run_load1 s2na3 (hv.load 0 0 rfl rfl)) ?_
 simp only [zP, po]
 refine xG (.bool false) rfl (ex_gtr rfl rfl rfl (decide_eq_false (by omega))) (xK false (.bool false) rfl ?_)
 refine xM (.bool false) rfl ?_
 simp only [zP, po]
 refine xF (.pointer (some ⟨b2, 0, none⟩)) rfl (s12fa35_0 _ _ _) (xL _ rfl (run_load1 s2na3 (hv.load 0 0 rfl rfl)) ?_)
 refine xG (.bool true) rfl (ex_neq rfl rfl rfl (decide_eq_true (by omega))) ?_
 simp only [zP, po]
 refine xM (.bool true) rfl (xF (.pointer (some ⟨b2, 1, none⟩)) rfl (s12fa35_1 _ _ _) ?_)
 refine xL _ rfl (run_load1 s9na9 (hv.load 0 1 rfl rfl)) ?_
 simp only [zP, po]
 by_cases hb6 : v.text ≠ ([] : List UInt8)
 ·refine xG (.bool true) rfl (ex_sneq rfl rfl rfl (decide_eq_true hb6)) (xK true (.bool true) rfl ?_)
  refine xK false (.bool true) rfl ?_
  simp only [zP, po]
  refine xM (.bool true) rfl ?_
  iterate 9 refine yN rfl ?_
  refine xK true (.bool true) rfl (xM (.bool true) rfl ?_)
  simp only [zP, po]
  iterate 14 refine yN rfl ?_
  refine xK true (.bool true) rfl (xM (.bool true) rfl ?_)
  iterate 9 refine yN rfl ?_
  refine xK true (.bool true) rfl ?_
  simp only [zP, po]
  refine wK k5 (cT rfl ?_)
  refine sK fun _ k7 => rL (xA (.bool false) rfl ?_)
  simp only [zP, po]
  refine wK k7 (rR ?_)
  refine tR (bR rfl rfl ?_)
  exact ⟨false, rfl, ⟨fun h => (by cases h), fun h => by rcases h with ⟨h1, h2, h3, h4, h5⟩ | ⟨h1, h2, h3, h4, h5, h6⟩ | ⟨h1, h2, h3, h4, h5, h6⟩ | ⟨h1, h2, h3, h4, h5, h6⟩ | ⟨h1, h2, h3, h4, h5, h6⟩ <;> first | omega | contradiction | (have h9 := hv.2 h3; cases h9)⟩, (hv.sub (List.Sublist.cons _ (List.Sublist.refl _)))⟩
 refine xG (.bool false) rfl (ex_sneq rfl rfl rfl (decide_eq_false hb6)) (xK true (.bool false) rfl ?_)
 refine xK false (.bool false) rfl ?_
 simp only [zP, po]
 refine xM (.bool false) rfl (xF (.pointer (some ⟨b2, 0, none⟩)) rfl (s12fa35_0 _ _ _) ?_)
 refine xL _ rfl (run_load1 s2na3 (hv.load 0 0 rfl rfl)) ?_
 simp only [zP, po]
 refine xG (.bool true) rfl (ex_neq rfl rfl rfl (decide_eq_true (by omega))) (xM (.bool true) rfl ?_)
 refine xF (.pointer (some ⟨b2, 2, none⟩)) rfl (s1fa35_2 _ _ _) ?_
 simp only [zP, po]
 refine xL _ rfl (run_load1 s1na32 (hv.load 0 2 rfl rfl)) (xG (.int .i64 (v.pairs.length : Int)) rfl (ex_len0 Tryz.underlying32 rfl rfl) ?_)
 by_cases hb8 : (v.pairs.length : Int) > 0
 ·refine xG (.bool true) rfl (ex_gtr rfl rfl rfl (decide_eq_true hb8)) ?_
  simp only [zP, po]
  refine xK true (.bool true) rfl (xK false (.bool true) rfl ?_)
  refine xM (.bool true) rfl ?_
  simp only [zP, po]
  iterate 14 refine yN rfl ?_
  refine xK true (.bool true) rfl (xM (.bool true) rfl ?_)
  iterate 9 refine yN rfl ?_
  refine xK true (.bool true) rfl ?_
  simp only [zP, po]
  refine wK k5 (cT rfl ?_)
  refine sK fun _ k9 => rL (xA (.bool false) rfl ?_)
  simp only [zP, po]
  refine wK k9 (rR ?_)
  refine tR (bR rfl rfl ?_)
  exact ⟨false, rfl, ⟨fun h => (by cases h), fun h => by rcases h with ⟨h1, h2, h3, h4, h5⟩ | ⟨h1, h2, h3, h4, h5, h6⟩ | ⟨h1, h2, h3, h4, h5, h6⟩ | ⟨h1, h2, h3, h4, h5, h6⟩ | ⟨h1, h2, h3, h4, h5, h6⟩ <;> first | omega | contradiction | (have h9 := hv.2 h3; cases h9)⟩, (hv.sub (List.Sublist.cons _ (List.Sublist.refl _)))⟩
 refine xG (.bool false) rfl (ex_gtr rfl rfl rfl (decide_eq_false hb8)) ?_
 simp only [zP, po]
 refine xK true (.bool false) rfl (xK false (.bool false) rfl ?_)
 refine xM (.bool false) rfl ?_
 simp only [zP, po]
 refine xF (.pointer (some ⟨b2, 0, none⟩)) rfl (s12fa35_0 _ _ _) (xL _ rfl (run_load1 s2na3 (hv.load 0 0 rfl rfl)) ?_)
 refine xG (.bool true) rfl (ex_neq rfl rfl rfl (decide_eq_true (by omega))) ?_
 simp only [zP, po]
 refine xM (.bool true) rfl (xF (.pointer (some ⟨b2, 0, none⟩)) rfl (s12fa35_0 _ _ _) ?_)
 refine xL _ rfl (run_load1 s2na3 (hv.load 0 0 rfl rfl)) ?_
 simp only [zP, po]
 refine xG (.bool false) rfl (ex_neq rfl rfl rfl (decide_eq_false (by omega))) (xK true (.bool false) rfl ?_)
 refine xM (.bool false) rfl ?_
 simp only [zP, po]
 iterate 4 refine yN rfl ?_
 refine xK false (.bool false) rfl (xK false (.bool false) rfl ?_)
 refine xM (.bool false) rfl ?_
 simp only [zP, po]
 refine xF (.pointer (some ⟨b2, 0, none⟩)) rfl (s12fa35_0 _ _ _) (xL _ rfl (run_load1 s2na3 (hv.load 0 0 rfl rfl)) ?_)
 refine xG (.bool true) rfl (ex_neq rfl rfl rfl (decide_eq_true (by omega))) ?_
 simp only [zP, po]
 refine xM (.bool true) rfl (xF (.pointer (some ⟨b2, 4, none⟩)) rfl (s1fa35_4 _ _ _) ?_)
 refine xL _ rfl (run_load1 s1na33 (hv.load 0 4 rfl rfl)) ?_
 simp only [zP, po]
 refine xG (.int .i64 (v.zset.length : Int)) rfl (ex_len0 Tryz.underlying33 rfl rfl) ?_
 by_cases hb10 : (v.zset.length : Int) > 0
 ·refine xG (.bool true) rfl (ex_gtr rfl rfl rfl (decide_eq_true hb10)) (xK true (.bool true) rfl ?_)
  simp only [zP, po]
  refine xK false (.bool true) rfl ?_
  simp only [zP, po]
  refine wK k5 (cT rfl ?_)
  refine sK fun _ k11 => rL (xA (.bool false) rfl ?_)
  simp only [zP, po]
  refine wK k11 (rR ?_)
  refine tR (bR rfl rfl ?_)
  exact ⟨false, rfl, ⟨fun h => (by cases h), fun h => by rcases h with ⟨h1, h2, h3, h4, h5⟩ | ⟨h1, h2, h3, h4, h5, h6⟩ | ⟨h1, h2, h3, h4, h5, h6⟩ | ⟨h1, h2, h3, h4, h5, h6⟩ | ⟨h1, h2, h3, h4, h5, h6⟩ <;> first | omega | contradiction | (have h9 := hv.2 h3; cases h9)⟩, (hv.sub (List.Sublist.cons _ (List.Sublist.refl _)))⟩
 refine xG (.bool false) rfl (ex_gtr rfl rfl rfl (decide_eq_false hb10)) (xK true (.bool false) rfl ?_)
 simp only [zP, po]
 refine xK false (.bool false) rfl ?_
 simp only [zP, po]
 refine wK k5 (cF rfl ?_)
 refine kS (tK k4 ?_)
 refine sK fun _ k12 => sK fun _ k13 => rL (xF (.pointer (some ⟨b2, 0, none⟩)) rfl (s12fa35_0 _ _ _) ?_)
 refine xL _ rfl (run_load1 s2na3 (hv.load 0 0 rfl rfl)) ?_
 simp only [zP, po]
 refine wK k13 (bB ?_)
 refine sK fun _ k14 => rL (xG (.bool false) rfl (ex_eql rfl rfl rfl (decide_eq_false (by omega))) ?_)
 refine xA (.bool false) rfl ?_
 simp only [zP, po]
 refine wK k14 (cF rfl ?_)
 refine sK fun _ k15 => rL (xG (.bool false) rfl (ex_eql rfl rfl rfl (decide_eq_false (by omega))) ?_)
 refine xA (.bool false) rfl ?_
 simp only [zP, po]
 refine wK k15 (cF rfl ?_)
 refine sK fun _ k16 => rL (xG (.bool true) rfl (ex_eql rfl rfl rfl (decide_eq_true (by omega))) ?_)
 refine xA (.bool true) rfl ?_
 simp only [zP, po]
 refine wK k16 (cT rfl ?_)
 refine sK fun _ k17 => rL (xF (.pointer (some ⟨b2, 3, none⟩)) rfl (s1fa35_3 _ _ _) ?_)
 refine xL _ rfl (run_load1 s1na29 (hv.load 0 3 rfl rfl)) (xG (.int .i64 (v.texts.length : Int)) rfl (ex_len0 Tryz.underlying29 rfl rfl) ?_)
 simp only [zP, po]
 by_cases hb18 : (v.texts.length : Int) > 0
 ·refine xG (.bool true) rfl (ex_gtr rfl rfl rfl (decide_eq_true hb18)) (xM (.bool true) rfl ?_)
  refine xF (.pointer (some ⟨b2, 3, none⟩)) rfl (s1fa35_3 _ _ _) ?_
  simp only [zP, po]
  refine xL _ rfl (run_load1 s1na29 (hv.load 0 3 rfl rfl)) (xC s31callable36 rfl ((refSetRight B _ _ _ _ _ hrt htm hv).mono ?_) rfl)
  rintro e w20 ⟨bl19, rfl, hbl19, hv⟩
  refine ⟨_, rfl, ?_⟩
  cases bl19
  ·refine xK true (.bool false) rfl ?_
   simp only [zP, po]
   refine xA (.bool false) rfl ?_
   simp only [zP, po]
   refine wK k17 (rR ?_)
   refine bE (tR ?_)
   refine bR rfl rfl (⟨false, rfl, ⟨fun h => (by cases h), fun h => by rcases h with ⟨h1, h2, h3, h4, h5⟩ | ⟨h1, h2, h3, h4, h5, h6⟩ | ⟨h1, h2, h3, h4, h5, h6⟩ | ⟨h1, h2, h3, h4, h5, h6⟩ | ⟨h1, h2, h3, h4, h5, h6⟩ <;> first | omega | contradiction | (have h9 := hbl19.2 h3; cases h9)⟩, (hv.sub (List.Sublist.cons _ (List.Sublist.refl _)))⟩)
  refine xK true (.bool true) rfl ?_
  simp only [zP, po]
  refine xA (.bool true) rfl ?_
  simp only [zP, po]
  refine wK k17 (rR ?_)
  refine bE (tR ?_)
  refine bR rfl rfl (⟨true, rfl, ⟨fun _ => .inr (.inr (.inr (.inl ⟨by omega, by omega, hbl19.1 rfl, Classical.not_not.1 hb6, by omega, by omega⟩))), fun _ => rfl⟩, (hv.sub (List.Sublist.cons _ (List.Sublist.refl _)))⟩)
 refine xG (.bool false) rfl (ex_gtr rfl rfl rfl (decide_eq_false hb18)) (xM (.bool false) rfl ?_)
 iterate 3 refine yN rfl ?_
 refine xK false (.bool false) rfl ?_
 simp only [zP, po]
 refine xA (.bool false) rfl ?_
 simp only [zP, po]
 refine wK k17 (rR ?_)
 refine bE (tR ?_)
 refine bR rfl rfl (⟨false, rfl, ⟨fun h => (by cases h), fun h => by rcases h with ⟨h1, h2, h3, h4, h5⟩ | ⟨h1, h2, h3, h4, h5, h6⟩ | ⟨h1, h2, h3, h4, h5, h6⟩ | ⟨h1, h2, h3, h4, h5, h6⟩ | ⟨h1, h2, h3, h4, h5, h6⟩ <;> first | omega | contradiction | (have h9 := hv.2 h3; cases h9)⟩, (hv.sub (List.Sublist.cons _ (List.Sublist.refl _)))⟩)
theorem s31callable37 : Callable Tryz.prog 37 := ⟨_, Tryz.func37, by kernel_rfl, by kernel_rfl⟩
set_option maxHeartbeats 8000000 in
theorem refRight_5 (B : Base) (H : List Res) (w : World) (v : Val) (ap at2 az : Option Addr) (cp ct cz : Nat) (_ : RdV B [] ap (pairCells v.pairs)) (_ : RdV B [] at2 (textCells v.texts)) (hrz : RdV B [] az (memCells v.zset)) (hpm : v.pairs.length ≤ 1000000) (htm : v.texts.length ≤ 1000000) (hzm : v.zset.length ≤ 1000000) (hk : v.kind = 5) (hv : Inv B H w) :
  Calls Tryz.prog 10 #[.agg #[.int .i64 v.kind, .string ⟨v.text.toArray⟩, .slice ap v.pairs.length cp, .slice at2 v.texts.length ct, .slice az v.zset.length cz]] w fun e w' => ∃ b, e = .returned (.bool b) ∧ (b = true ↔ ValOk v) ∧ Inv B H w' := by
 refine cW Tryz.func10 rfl Tryz.ntmps10 ?_
 simp only [al]
 refine sK fun _ k1 => rL (sl_box (L := [.int .i64 v.kind, .string ⟨v.text.toArray⟩, .slice ap v.pairs.length cp, .slice at2 v.texts.length ct, .slice az v.zset.length cz]) tV (wn rfl) rfl rfl hv (fun w => by kernel_rfl) (fun b2 w3 hv => ?_))
 refine xA (.bool false) rfl ?_
 simp only [zP, po]
 refine wK k1 (sK fun _ k4 => ?_)
 refine sK fun _ k5 => rL (xF (.pointer (some ⟨b2, 0, none⟩)) rfl (s12fa35_0 _ _ _) ?_)
 refine xL _ rfl (run_load1 s2na3 (hv.load 0 0 rfl rfl)) (xG (.bool false) rfl (ex_lss rfl rfl rfl (decide_eq_false (by omega))) ?_)
 simp only [zP, po]
 refine xM (.bool false) rfl (xF (.pointer (some ⟨b2, 0, none⟩)) rfl (s12fa35_0 _ _ _) ?_)
 refine xL _ rfl (run_load1 s2na3 (hv.load 0 0 rfl rfl)) ?_
 simp only [zP, po]
 refine xG (.bool false) rfl (ex_gtr rfl rfl rfl (decide_eq_false (by omega))) (xK false (.bool false) rfl ?_)
 refine xM (.bool false) rfl ?_
 simp only [zP, po]
 refine xF (.pointer (some ⟨b2, 0, none⟩)) rfl (s12fa35_0 _ _ _) (xL _ rfl (run_load1 s2na3 (hv.load 0 0 rfl rfl)) ?_)
 refine xG (.bool true) rfl (ex_neq rfl rfl rfl (decide_eq_true (by omega))) ?_
 simp only [zP, po]
 refine xM (.bool true) rfl (xF (.pointer (some ⟨b2, 1, none⟩)) rfl (s12fa35_1 _ _ _) ?_)
 refine xL _ rfl (run_load1 s9na9 (hv.load 0 1 rfl rfl)) ?_
 simp only [zP, po]
 by_cases hb6 : v.text ≠ ([] : List UInt8)
 ·refine xG (.bool true) rfl (ex_sneq rfl rfl rfl (decide_eq_true hb6)) (xK true (.bool true) rfl ?_)
  refine xK false (.bool true) rfl ?_
  simp only [zP, po]
  refine xM (.bool true) rfl ?_
  iterate 9 refine yN rfl ?_
  refine xK true (.bool true) rfl (xM (.bool true) rfl ?_)
  simp only [zP, po]
  iterate 14 refine yN rfl ?_
  refine xK true (.bool true) rfl (xM (.bool true) rfl ?_)
  iterate 9 refine yN rfl ?_
  refine xK true (.bool true) rfl ?_
  simp only [zP, po]
  refine wK k5 (cT rfl ?_)
  refine sK fun _ k7 => rL (xA (.bool false) rfl ?_)
  simp only [zP, po]
  refine wK k7 (rR ?_)
  refine tR (bR rfl rfl ?_)
  exact ⟨false, rfl, ⟨fun h => (by cases h), fun h => by rcases h with ⟨h1, h2, h3, h4, h5⟩ | ⟨h1, h2, h3, h4, h5, h6⟩ | ⟨h1, h2, h3, h4, h5, h6⟩ | ⟨h1, h2, h3, h4, h5, h6⟩ | ⟨h1, h2, h3, h4, h5, h6⟩ <;> first | omega | contradiction | (have h9 := hv.2 h3; cases h9)⟩, (hv.sub (List.Sublist.cons _ (List.Sublist.refl _)))⟩
 refine xG (.bool false) rfl (ex_sneq rfl rfl rfl (decide_eq_false hb6)) (xK true (.bool false) rfl ?_)
 refine xK false (.bool false) rfl ?_
 simp only [zP, po]
 refine xM (.bool false) rfl (xF (.pointer (some ⟨b2, 0, none⟩)) rfl (s12fa35_0 _ _ _) ?_)
 refine xL _ rfl (run_load1 s2na3 (hv.load 0 0 rfl rfl)) ?_
 simp only [zP, po]
 refine xG (.bool true) rfl (ex_neq rfl rfl rfl (decide_eq_true (by omega))) (xM (.bool true) rfl ?_)
 refine xF (.pointer (some ⟨b2, 2, none⟩)) rfl (s1fa35_2 _ _ _) ?_
 simp only [zP, po]
 refine xL _ rfl (run_load1 s1na32 (hv.load 0 2 rfl rfl)) (xG (.int .i64 (v.pairs.length : Int)) rfl (ex_len0 Tryz.underlying32 rfl rfl) ?_)
 by_cases hb8 : (v.pairs.length : Int) > 0
 ·refine xG (.bool true) rfl (ex_gtr rfl rfl rfl (decide_eq_true hb8)) ?_
  simp only [zP, po]
  refine xK true (.bool true) rfl (xK false (.bool true) rfl ?_)
  refine xM (.bool true) rfl ?_
  simp only [zP, po]
  iterate 14 refine yN rfl ?_
  refine xK true (.bool true) rfl (xM (.bool true) rfl ?_)
  iterate 9 refine yN rfl ?_
  refine xK true (.bool true) rfl ?_
  simp only [zP, po]
  refine wK k5 (cT rfl ?_)
  refine sK fun _ k9 => rL (xA (.bool false) rfl ?_)
  simp only [zP, po]
  refine wK k9 (rR ?_)
  refine tR (bR rfl rfl ?_)
  exact ⟨false, rfl, ⟨fun h => (by cases h), fun h => by rcases h with ⟨h1, h2, h3, h4, h5⟩ | ⟨h1, h2, h3, h4, h5, h6⟩ | ⟨h1, h2, h3, h4, h5, h6⟩ | ⟨h1, h2, h3, h4, h5, h6⟩ | ⟨h1, h2, h3, h4, h5, h6⟩ <;> first | omega | contradiction | (have h9 := hv.2 h3; cases h9)⟩, (hv.sub (List.Sublist.cons _ (List.Sublist.refl _)))⟩
 refine xG (.bool false) rfl (ex_gtr rfl rfl rfl (decide_eq_false hb8)) ?_
 simp only [zP, po]
 refine xK true (.bool false) rfl (xK false (.bool false) rfl ?_)
 refine xM (.bool false) rfl ?_
 simp only [zP, po]
 refine xF (.pointer (some ⟨b2, 0, none⟩)) rfl (s12fa35_0 _ _ _) (xL _ rfl (run_load1 s2na3 (hv.load 0 0 rfl rfl)) ?_)
 refine xG (.bool true) rfl (ex_neq rfl rfl rfl (decide_eq_true (by omega))) ?_
 simp only [zP, po]
 refine xM (.bool true) rfl (xF (.pointer (some ⟨b2, 0, none⟩)) rfl (s12fa35_0 _ _ _) ?_)
 refine xL _ rfl (run_load1 s2na3 (hv.load 0 0 rfl rfl)) ?_
 simp only [zP, po]
 refine xG (.bool true) rfl (ex_neq rfl rfl rfl (decide_eq_true (by omega))) (xK true (.bool true) rfl ?_)
 refine xM (.bool true) rfl ?_
 simp only [zP, po]
 refine xF (.pointer (some ⟨b2, 3, none⟩)) rfl (s1fa35_3 _ _ _) (xL _ rfl (run_load1 s1na29 (hv.load 0 3 rfl rfl)) ?_)
 refine xG (.int .i64 (v.texts.length : Int)) rfl (ex_len0 Tryz.underlying29 rfl rfl) ?_
 simp only [zP, po]
 by_cases hb10 : (v.texts.length : Int) > 0
 ·refine xG (.bool true) rfl (ex_gtr rfl rfl rfl (decide_eq_true hb10)) (xK true (.bool true) rfl ?_)
  refine xK false (.bool true) rfl ?_
  simp only [zP, po]
  refine xM (.bool true) rfl ?_
  iterate 9 refine yN rfl ?_
  refine xK true (.bool true) rfl ?_
  simp only [zP, po]
  refine wK k5 (cT rfl ?_)
  refine sK fun _ k11 => rL (xA (.bool false) rfl ?_)
  simp only [zP, po]
  refine wK k11 (rR ?_)
  refine tR (bR rfl rfl ?_)
  exact ⟨false, rfl, ⟨fun h => (by cases h), fun h => by rcases h with ⟨h1, h2, h3, h4, h5⟩ | ⟨h1, h2, h3, h4, h5, h6⟩ | ⟨h1, h2, h3, h4, h5, h6⟩ | ⟨h1, h2, h3, h4, h5, h6⟩ | ⟨h1, h2, h3, h4, h5, h6⟩ <;> first | omega | contradiction | (have h9 := hv.2 h3; cases h9)⟩, (hv.sub (List.Sublist.cons _ (List.Sublist.refl _)))⟩
 refine xG (.bool false) rfl (ex_gtr rfl rfl rfl (decide_eq_false hb10)) (xK true (.bool false) rfl ?_)
 refine xK false (.bool false) rfl ?_
 simp only [zP, po]
 refine xM (.bool false) rfl (xF (.pointer (some ⟨b2, 0, none⟩)) rfl (s12fa35_0 _ _ _) ?_)
 refine xL _ rfl (run_load1 s2na3 (hv.load 0 0 rfl rfl)) ?_
 simp only [zP, po]
 refine xG (.bool false) rfl (ex_neq rfl rfl rfl (decide_eq_false (by omega))) (xM (.bool false) rfl ?_)
 iterate 4 refine yN rfl ?_
 refine xK false (.bool false) rfl ?_
 simp only [zP, po]
 refine xK false (.bool false) rfl ?_
 simp only [zP, po]
 refine wK k5 (cF rfl ?_)
 refine kS (tK k4 ?_)
 refine sK fun _ k12 => sK fun _ k13 => rL (xF (.pointer (some ⟨b2, 0, none⟩)) rfl (s12fa35_0 _ _ _) ?_)
 refine xL _ rfl (run_load1 s2na3 (hv.load 0 0 rfl rfl)) ?_
 simp only [zP, po]
 refine wK k13 (bB ?_)
 refine sK fun _ k14 => rL (xG (.bool false) rfl (ex_eql rfl rfl rfl (decide_eq_false (by omega))) ?_)
 refine xA (.bool false) rfl ?_
 simp only [zP, po]
 refine wK k14 (cF rfl ?_)
 refine sK fun _ k15 => rL (xG (.bool false) rfl (ex_eql rfl rfl rfl (decide_eq_false (by omega))) ?_)
 refine xA (.bool false) rfl ?_
 simp only [zP, po]
 refine wK k15 (cF rfl ?_)
 refine sK fun _ k16 => rL (xG (.bool false) rfl (ex_eql rfl rfl rfl (decide_eq_false (by omega))) ?_)
 refine xA (.bool false) rfl ?_
 simp only [zP, po]
 refine wK k16 (cF rfl ?_)
 refine sK fun _ k17 => rL (xG (.bool true) rfl (ex_eql rfl rfl rfl (decide_eq_true (by omega))) ?_)
 refine xA (.bool true) rfl ?_
 simp only [zP, po]
 refine wK k17 (cT rfl ?_)
 refine sK fun _ k18 => rL (xF (.pointer (some ⟨b2, 4, none⟩)) rfl (s1fa35_4 _ _ _) ?_)
 refine xL _ rfl (run_load1 s1na33 (hv.load 0 4 rfl rfl)) (xG (.int .i64 (v.zset.length : Int)) rfl (ex_len0 Tryz.underlying33 rfl rfl) ?_)
 simp only [zP, po]
 by_cases hb19 : (v.zset.length : Int) > 0
 ·refine xG (.bool true) rfl (ex_gtr rfl rfl rfl (decide_eq_true hb19)) (xM (.bool true) rfl ?_)
  refine xF (.pointer (some ⟨b2, 4, none⟩)) rfl (s1fa35_4 _ _ _) ?_
  simp only [zP, po]
  refine xL _ rfl (run_load1 s1na33 (hv.load 0 4 rfl rfl)) (xC s31callable37 rfl ((refZsetRight B _ _ _ _ _ hrz hzm hv).mono ?_) rfl)
  rintro e w21 ⟨bl20, rfl, hbl20, hv⟩
  refine ⟨_, rfl, ?_⟩
  cases bl20
  ·refine xK true (.bool false) rfl ?_
   simp only [zP, po]
   refine xA (.bool false) rfl ?_
   simp only [zP, po]
   refine wK k18 (rR ?_)
   refine bE (tR ?_)
   refine bR rfl rfl (⟨false, rfl, ⟨fun h => (by cases h), fun h => by rcases h with ⟨h1, h2, h3, h4, h5⟩ | ⟨h1, h2, h3, h4, h5, h6⟩ | ⟨h1, h2, h3, h4, h5, h6⟩ | ⟨h1, h2, h3, h4, h5, h6⟩ | ⟨h1, h2, h3, h4, h5, h6⟩ <;> first | omega | contradiction | (have h9 := hbl20.2 h3; cases h9)⟩, (hv.sub (List.Sublist.cons _ (List.Sublist.refl _)))⟩)
  refine xK true (.bool true) rfl ?_
  simp only [zP, po]
  refine xA (.bool true) rfl ?_
  simp only [zP, po]
  refine wK k18 (rR ?_)
  refine bE (tR ?_)
  refine bR rfl rfl (⟨true, rfl, ⟨fun _ => .inr (.inr (.inr (.inr (⟨by omega, by omega, hbl20.1 rfl, Classical.not_not.1 hb6, by omega, by omega⟩)))), fun _ => rfl⟩, (hv.sub (List.Sublist.cons _ (List.Sublist.refl _)))⟩)
 refine xG (.bool false) rfl (ex_gtr rfl rfl rfl (decide_eq_false hb19)) (xM (.bool false) rfl ?_)
 iterate 3 refine yN rfl ?_
 refine xK false (.bool false) rfl ?_
 simp only [zP, po]
 refine xA (.bool false) rfl ?_
 simp only [zP, po]
 refine wK k18 (rR ?_)
 refine bE (tR ?_)
 refine bR rfl rfl (⟨false, rfl, ⟨fun h => (by cases h), fun h => by rcases h with ⟨h1, h2, h3, h4, h5⟩ | ⟨h1, h2, h3, h4, h5, h6⟩ | ⟨h1, h2, h3, h4, h5, h6⟩ | ⟨h1, h2, h3, h4, h5, h6⟩ | ⟨h1, h2, h3, h4, h5, h6⟩ <;> first | omega | contradiction | (have h9 := hv.2 h3; cases h9)⟩, (hv.sub (List.Sublist.cons _ (List.Sublist.refl _)))⟩)
theorem refRight0 (B : Base) (H : List Res) (w : World) (v : Val) (ap at2 az : Option Addr) (cp ct cz : Nat) (hrp : RdV B [] ap (pairCells v.pairs)) (hrt : RdV B [] at2 (textCells v.texts)) (hrz : RdV B [] az (memCells v.zset)) (hpm : v.pairs.length ≤ 1000000) (htm : v.texts.length ≤ 1000000) (hzm : v.zset.length ≤ 1000000) (hv : Inv B H w) :
  Calls Tryz.prog 10 #[.agg #[.int .i64 v.kind, .string ⟨v.text.toArray⟩, .slice ap v.pairs.length cp, .slice at2 v.texts.length ct, .slice az v.zset.length cz]] w fun e w' => ∃ b, e = .returned (.bool b) ∧ (b = true ↔ ValOk v) ∧ Inv B H w' := by
 by_cases h : v.kind < 1 ∨ 5 < v.kind
 ·exact refRight_0 B H w v ap at2 az cp ct cz hrp hrt hrz hpm htm hzm h hv
 rcases (show v.kind = 1 ∨ v.kind = 2 ∨ v.kind = 3 ∨ v.kind = 4 ∨ v.kind = 5 by omega) with h | h | h | h | h
 ·exact refRight_1 B H w v ap at2 az cp ct cz hrp hrt hrz hpm htm hzm h hv
 ·exact refRight_2 B H w v ap at2 az cp ct cz hrp hrt hrz hpm htm hzm h hv
 ·exact refRight_3 B H w v ap at2 az cp ct cz hrp hrt hrz hpm htm hzm h hv
 ·exact refRight_4 B H w v ap at2 az cp ct cz hrp hrt hrz hpm htm hzm h hv
 exact refRight_5 B H w v ap at2 az cp ct cz hrp hrt hrz hpm htm hzm h hv
theorem refRightV (B : Base) (H : List Res) (w : World) (v : Val) (p t z : Value) (h : ValAt B v p t z) (hv : Inv B H w) : Calls Tryz.prog 10 #[.agg (valCells v p t z).toArray] w fun e w' => ∃ b, e = .returned (.bool b) ∧ (b = true ↔ ValOk v) ∧ Inv B H w' := by
 obtain ⟨⟨ap, cp, rfl, -, hrp⟩, ⟨at2, ct, rfl, -, hrt⟩, ⟨az, cz, rfl, -, hrz⟩, hpm, htm, hzm⟩ := h
 exact refRight0 B H w v ap at2 az cp ct cz hrp hrt hrz hpm htm hzm hv
end Go.Proofs.YtkoghbmjbobfjaaGreat
/- ViewKeeps: the law's walk. -/
namespace Go.Proofs.YtkoghbmjbobfjaaGreat
open Go.RowKit Go.Pm
theorem valRd_at2 {B : Base} {v : Val} {p t z : Value} (h : ValRd B v p t z) (hs : ValSm v) : ValAt B v p t z := by
 obtain ⟨h1, h2, h3⟩ := hs
 exact ⟨h.p, h.t, h.z, by omega, by omega, by omega⟩
theorem mayLongC (B : Base) (H : List Res) (w : World) (ka : Option Addr) (kc : Nat) (key : List UInt8) (hr : RdV B [] ka (textCells [[], key])) (hk : (key.length : Int) > 256) (hv : Inv B H w) : Calls Tryz.prog 7 #[.slice ka 2 kc] w fun e w' => e = .returned (.int .i64 2) ∧ Inv B H w' := by
 refine (viewMay B H w ka kc [[], key] hr (by simp) hv).mono ?_
 rintro e w' ⟨rfl, hv⟩
 exact ⟨congrArg (fun n : Int => Ending.returned (Value.int .i64 n)) (if_pos (by simp; omega)), hv⟩
theorem mayShort (B : Base) (H : List Res) (w : World) (ka : Option Addr) (kc : Nat) (key : List UInt8) (hr : RdV B [] ka (textCells [[], key])) (hk : ¬ (key.length : Int) > 256) (hv : Inv B H w) : Calls Tryz.prog 7 #[.slice ka 2 kc] w fun e w' => e = .returned (.int .i64 0) ∧ Inv B H w' := by
 refine (viewMay B H w ka kc [[], key] hr (by simp) hv).mono ?_
 rintro e w' ⟨rfl, hv⟩
 exact ⟨congrArg (fun n : Int => Ending.returned (Value.int .i64 n)) (if_neg (by simp; omega)), hv⟩
theorem full_of {x : Val} (h : ¬ x.kind ≠ 1 ∨ ¬ (sizeV x : Int) = 0) : FullV x := by
 unfold FullV sizeV at *
 by_cases h1 : x.kind = 1
 ·exact .inl h1
 rw [if_neg h1] at h; exact .inr (by omega)
theorem not_full {x : Val} (h1 : x.kind ≠ 1) (h2 : (sizeV x : Int) = 0) : ¬ FullV x := by
 unfold FullV sizeV at *
 rw [if_neg h1] at h2
 rintro (h | h)
 ·exact h1 h
 omega
theorem keep_bad {M M' : List (List UInt8 × Ver)} {clk exp ec : Int} {key : List UInt8} {x : Val} (hf : FullV x) (hp : ¬ PutOk key x exp) (h : KeepI M clk key x exp ec M') : ec = 2 ∧ M' = M := by
 rcases h with ⟨-, h, -⟩ | ⟨-, -, h1, h2⟩ | ⟨h, -⟩ | ⟨h, -⟩
 ·exact absurd h hp
 ·exact ⟨h1, h2⟩
 ·exact absurd hf h
 exact absurd hf h
theorem keep_ok {M M' : List (List UInt8 × Ver)} {clk exp ec : Int} {key : List UInt8} {x : Val} (hk : key.length ≤ 256) (hp : FullV x → PutOk key x exp) (h : KeepI M clk key x exp ec M') : ec = 0 ∧ ((FullV x ∧ M' = updA M key ⟨0, false, exp, x⟩) ∨ (¬ FullV x ∧ DeadM M clk key ∧ M' = M) ∨ (¬ FullV x ∧ ¬ DeadM M clk key ∧ M' = updA M key gver)) := by
 rcases h with ⟨h1, -, h2, h3⟩ | ⟨h1, h2, -⟩ | ⟨h1, h2, h3, h4⟩ | ⟨h1, ⟨y, h2, h3⟩, ⟨-, h4, h5⟩ | ⟨h4, -⟩⟩
 ·exact ⟨h2, .inl ⟨h1, h3⟩⟩
 ·exact absurd (hp h1) h2
 ·exact ⟨h3, .inr (.inl ⟨h1, h2, h4⟩)⟩
 ·exact ⟨h4, .inr (.inr ⟨h1, (fun hd => by rw [hd y h2] at h3; cases h3), h5⟩)⟩
 omega
theorem rel_step {M M' : List (List UInt8 × Ver)} {K K' : List KeyR} {clk exp : Int} {key : List UInt8} {x : Val} (hR : RelVK M K) (hm : (FullV x ∧ M' = updA M key ⟨0, false, exp, x⟩) ∨ (¬ FullV x ∧ DeadM M clk key ∧ M' = M) ∨ (¬ FullV x ∧ ¬ DeadM M clk key ∧ M' = updA M key gver)) (hk : PutK K clk key x exp K') : RelVK M' K' := by
 rcases hk with ⟨hf, rfl⟩ | ⟨hf, hi⟩
 ·rcases hm with ⟨h, -⟩ | ⟨-, hd, rfl⟩ | ⟨-, hd, rfl⟩
  ·exact absurd h hf
  ·unfold delK; rw [hR.free hd]; exact hR
  have : (getK K clk key).isSome = true := by
   cases hg : getK K clk key with
   | some x => rfl
   | none => exact absurd (hR.dead hg) hd
  unfold delK; rw [this]; exact hR.del
 rcases hm with ⟨-, rfl⟩ | ⟨h, -⟩ | ⟨h, -⟩
 ·exact hR.put hi
 ·exact absurd hf h
 exact absurd hf h
structure KeysOk (M : List (List UInt8 × Ver)) (i : Nat) : Prop where
 nd : (M.map (·.1)).Nodup
 len : M.length ≤ i
 sh : ∀ k ∈ M.map (·.1), k.length ≤ 256
theorem KeysOk.upd {M : List (List UInt8 × Ver)} {i : Nat} (h : KeysOk M i) {k : List UInt8} (hk : k.length ≤ 256) (y : Ver) : KeysOk (updA M k y) (i + 1) := by
 refine ⟨by rw [updA_keys]; exact addKey_nodup h.nd, by have := updA_len M k y; have := h.len; omega, fun k9 hk9 => ?_⟩
 rw [updA_keys] at hk9
 unfold addKey at hk9
 split at hk9
 ·exact h.sh k9 hk9
 rcases List.mem_append.1 hk9 with h9 | h9
 ·exact h.sh k9 h9
 rw [List.mem_singleton.1 h9]; exact hk
theorem KeysOk.step {M M' : List (List UInt8 × Ver)} {i : Nat} {clk exp : Int} {key : List UInt8} {x : Val} (h : KeysOk M i) (hk : key.length ≤ 256) (hm : (FullV x ∧ M' = updA M key ⟨0, false, exp, x⟩) ∨ (¬ FullV x ∧ DeadM M clk key ∧ M' = M) ∨ (¬ FullV x ∧ ¬ DeadM M clk key ∧ M' = updA M key gver)) : KeysOk M' (i + 1) := by
 rcases hm with ⟨-, rfl⟩ | ⟨-, -, rfl⟩ | ⟨-, -, rfl⟩
 ·exact h.upd hk _
 ·exact ⟨h.nd, by have := h.len; omega, h.sh⟩
 exact h.upd hk _
theorem RelVK.short {M : List (List UInt8 × Ver)} {K : List KeyR} {i : Nat} (h : RelVK M K) (hk : KeysOk M i) : ∀ x ∈ K, x.name.length ≤ 1000 := fun x hx => by
 have h1 := h.of_ x hx
 have h2 : x.name ∈ M.map (·.1) := Classical.byContradiction fun h9 => by rw [(look_none M x.name).2 h9] at h1; cases h1
 have := hk.sh _ h2
 omega
theorem others_len {K : List KeyR} {key : List UInt8} : (others K key).length ≤ K.length := List.length_filter_le _ _
theorem putK_len {K K' : List KeyR} {clk exp : Int} {key : List UInt8} {x : Val} (h : PutK K clk key x exp K') : K'.length ≤ K.length + 1 := by
 rcases h with ⟨-, rfl⟩ | ⟨-, j, hj, rfl, -⟩
 ·unfold delK; split
  ·have := others_len (K := K) (key := key); omega
  omega
 have := others_len (K := K) (key := key)
 rw [List.length_append, List.length_cons, List.length_take, List.length_drop]; omega
theorem l20bfa45_0 (w : World) (b o : Nat) : (Instr.fieldAt 45 (.pointer (some ⟨b, o, none⟩)) 0).run Tryz.prog w = .ok (.pointer (some ⟨b, o + 0, none⟩)) w := by kernel_rfl
theorem l20bcallable16 : Callable Tryz.prog 16 := ⟨_, Tryz.func16, by kernel_rfl, by kernel_rfl⟩
set_option maxHeartbeats 2000000 in
theorem refSame1 (B : Base) (H : List Res) (w : World) (u : Ver) (p t z p' t' z' : Value) (h : ValAt B u.val p t z) (h' : ValAt B u.val p' t' z') (hv : Inv B H w) :
  Calls Tryz.prog 15 #[.agg #[.int .i64 u.stamp, .bool u.gone, .int .i64 u.expire, .int .i64 u.val.kind, .string ⟨u.val.text.toArray⟩, p, t, z], .agg #[.int .i64 u.stamp, .bool u.gone, .int .i64 u.expire, .int .i64 u.val.kind, .string ⟨u.val.text.toArray⟩, p', t', z']] w fun e w' => e = .returned (.bool true) ∧ Inv B H w' := by
 refine cW Tryz.func15 rfl Tryz.ntmps15 ?_
 simp only [al]
 refine sK fun _ k1 => rL (sl_box (L := [.int .i64 u.stamp, .bool u.gone, .int .i64 u.expire, .int .i64 u.val.kind, .string ⟨u.val.text.toArray⟩, p, t, z]) tV (wn rfl) rfl rfl hv (fun w => by kernel_rfl) (fun b2 w3 hv => ?_))
 refine sl_box (L := [.int .i64 u.stamp, .bool u.gone, .int .i64 u.expire, .int .i64 u.val.kind, .string ⟨u.val.text.toArray⟩, p', t', z']) tV (wn rfl) rfl rfl hv (fun w => by kernel_rfl) (fun b4 w5 hv => ?_)
 refine xA (.bool false) rfl ?_
 simp only [zP, po]
 refine wK k1 (sK fun _ k6 => ?_)
 refine rL (xF (.pointer (some ⟨b2, 0, none⟩)) rfl (l20bfa45_0 _ _ _) ?_)
 refine xL _ rfl (run_load1 s2na3 (hv.load 1 0 rfl rfl)) (xF (.pointer (some ⟨b4, 0, none⟩)) rfl (l20bfa45_0 _ _ _) ?_)
 simp only [zP, po]
 refine xL _ rfl (run_load1 s2na3 (hv.load 0 0 rfl rfl)) (xG (.bool true) rfl (ex_eql rfl rfl rfl (decide_eq_true (rfl))) ?_)
 refine xM (.bool true) rfl ?_
 simp only [zP, po]
 refine xF (.pointer (some ⟨b2, 1, none⟩)) rfl (s2fa45_1 _ _ _) (xL _ rfl (run_load1 s2na4 (hv.load 1 1 rfl rfl)) ?_)
 refine xF (.pointer (some ⟨b4, 1, none⟩)) rfl (s2fa45_1 _ _ _) ?_
 simp only [zP, po]
 refine xL _ rfl (run_load1 s2na4 (hv.load 0 1 rfl rfl)) (xG (.bool true) rfl (ex_beqS (p := u.gone) (q := u.gone) Tryz.underlying4 rfl rfl rfl (by simp)) ?_)
 refine xK true (.bool true) rfl ?_
 simp only [zP, po]
 refine xM (.bool true) rfl (xF (.pointer (some ⟨b2, 2, none⟩)) rfl (s2fa45_2 _ _ _) ?_)
 refine xL _ rfl (run_load1 s2na3 (hv.load 1 2 rfl rfl)) ?_
 simp only [zP, po]
 refine xF (.pointer (some ⟨b4, 2, none⟩)) rfl (s2fa45_2 _ _ _) (xL _ rfl (run_load1 s2na3 (hv.load 0 2 rfl rfl)) ?_)
 refine xG (.bool true) rfl (ex_eql rfl rfl rfl (decide_eq_true (rfl))) ?_
 simp only [zP, po]
 refine xK true (.bool true) rfl (xM (.bool true) rfl ?_)
 refine xF (.pointer (some ⟨b2, 3, none⟩)) rfl (x2fa45_3 _ _ _) ?_
 simp only [zP, po]
 refine xL (.agg #[.int .i64 u.val.kind, .string ⟨u.val.text.toArray⟩, p, t, z]) rfl (run_load_mid (pre := [.int .i64 u.stamp, .bool u.gone, .int .i64 u.expire]) (mid := [.int .i64 u.val.kind, .string ⟨u.val.text.toArray⟩, p, t, z]) (post := []) s1wd35 (show Blk _ b2 ([.int .i64 u.stamp, .bool u.gone, .int .i64 u.expire] ++ [.int .i64 u.val.kind, .string ⟨u.val.text.toArray⟩, p, t, z] ++ []) _ from hv.get 1 rfl) rfl) (xF (.pointer (some ⟨b4, 3, none⟩)) rfl (x2fa45_3 _ _ _) ?_)
 refine xL (.agg #[.int .i64 u.val.kind, .string ⟨u.val.text.toArray⟩, p', t', z']) rfl (run_load_mid (pre := [.int .i64 u.stamp, .bool u.gone, .int .i64 u.expire]) (mid := [.int .i64 u.val.kind, .string ⟨u.val.text.toArray⟩, p', t', z']) (post := []) s1wd35 (show Blk _ b4 ([.int .i64 u.stamp, .bool u.gone, .int .i64 u.expire] ++ [.int .i64 u.val.kind, .string ⟨u.val.text.toArray⟩, p', t', z'] ++ []) _ from hv.get 0 rfl) rfl) ?_
 simp only [zP, po]
 refine xC l20bcallable16 rfl ((refSameV B _ _ u.val _ _ _ _ _ _ h.rd h'.rd (by have := h.pm; omega) (by have := h.tm; omega) (by have := h.zm; omega) hv).mono ?_) rfl
 rintro e w7 ⟨rfl, hv⟩
 refine ⟨_, rfl, ?_⟩
 refine xK true (.bool true) rfl (xA (.bool true) rfl ?_)
 simp only [zP, po]
 refine wK k6 (rR ?_)
 refine bR rfl rfl (⟨rfl, (hv.sub (List.Sublist.cons _ (List.Sublist.cons _ (List.Sublist.refl _))))⟩)
end Go.Proofs.YtkoghbmjbobfjaaGreat
