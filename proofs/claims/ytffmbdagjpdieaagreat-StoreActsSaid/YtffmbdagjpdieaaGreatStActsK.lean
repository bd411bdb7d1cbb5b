/- The reference's Right of values; One; Alive, At, Latest, Prune of chains. -/
import Derived.Test.YtffmbdagjpdieaaGreatStActsB
import Derived.Test.YtffmbdagjpdieaaGreatStActsI
import Derived.Test.YtffmbdagjpdieaaGreatStActsF
import Derived.Test.YtffmbdagjpdieaaGreatStActsG
import Derived.Test.YtffmbdagjpdieaaGreatStActsJ
import Derived.Test.YtffmbdagjpdieaaGreatRows
set_option maxRecDepth 100000
namespace Go.Proofs.YtffmbdagjpdieaaGreat
open Go.RowKit Go.Pm
theorem llen {l : List (List UInt8)} (h : listRight l = true) : l.length ≤ 512 := by
 unfold listRight at h
 rw [Bool.and_eq_true, decide_eq_true_iff] at h
 exact h.1
theorem lleft {l : List (List UInt8)} (h : listRight l = true) (i : Nat) (x : List UInt8) (hx : l[i]? = some x) : x.length ≤ 4096 := by
 unfold listRight at h
 rw [Bool.and_eq_true, Bool.not_eq_true', List.any_eq_false] at h
 have := h.2 x (List.mem_of_getElem? hx)
 simp at this
 omega
theorem lright {l : List (List UInt8)} (h : l.length ≤ 512) (hno : ∀ j x, j < l.length → l[j]? = some x → x.length ≤ 4096) : listRight l = true := by
 unfold listRight
 rw [decide_eq_true h, Bool.true_and, Bool.not_eq_true', List.any_eq_false]
 intro x hx
 obtain ⟨j, hj⟩ := List.mem_iff_getElem?.1 hx
 have := hno j x (List.getElem?_eq_some_iff.1 hj).1 hj
 simp; omega
set_option maxHeartbeats 8000000 in
theorem refRight_0 (B : Base) (H : List Res) (w : World) (v : Val) (ap at2 az : Option Addr) (cp ct cz : Nat) (hrp : RdV B [] ap (pairCells v.pairs)) (hrt : RdV B [] at2 (textCells v.texts)) (hrz : RdV B [] az (memCells v.zset)) (hpm : v.pairs.length ≤ 1000000) (htm : v.texts.length ≤ 1000000) (hzm : v.zset.length ≤ 1000000) (hk : v.kind < 1 ∨ 5 < v.kind) (hv : Inv B H w) :
  Calls Tryz.prog 78 #[.agg #[.int .i64 v.kind, .string ⟨v.text.toArray⟩, .slice ap v.pairs.length cp, .slice at2 v.texts.length ct, .slice az v.zset.length cz]] w fun e w' => ∃ b, e = .returned (.bool b) ∧ (b = true ↔ ValOk v) ∧ Inv B H w' := by
 refine cW Tryz.func78 rfl Tryz.ntmps78 ?_
 simp only [al]
 refine sK fun _ k1 => rL (sl_box (L := [.int .i64 v.kind, .string ⟨v.text.toArray⟩, .slice ap v.pairs.length cp, .slice at2 v.texts.length ct, .slice az v.zset.length cz]) tV (wn rfl) rfl rfl hv (fun w => by kernel_rfl) (fun b2 w3 hv => ?_))
 refine xA (.bool false) rfl ?_
 simp only [zP, po]
 refine wK k1 (sK fun _ k4 => ?_)
 refine sK fun _ k5 => rL (xF (.pointer (some ⟨b2, 0, none⟩)) rfl (s12fa53_0 _ _ _) ?_)
 refine xL _ rfl (run_load1 s2na3 (hv.load 0 0 rfl rfl)) ?_
 by_cases hb6 : v.kind < 1
 ·refine xG (.bool true) rfl (ex_lss rfl rfl rfl (decide_eq_true hb6)) ?_
  simp only [zP, po]
  refine xM (.bool true) rfl ?_
  iterate 3 refine yN rfl ?_
  refine xK true (.bool true) rfl (xM (.bool true) rfl ?_)
  simp only [zP, po]
  iterate 8 refine yN rfl ?_
  refine xK true (.bool true) rfl (xM (.bool true) rfl ?_)
  iterate 9 refine yN rfl ?_
  refine xK true (.bool true) rfl ?_
  simp only [zP, po]
  refine xM (.bool true) rfl ?_
  iterate 14 refine yN rfl ?_
  refine xK true (.bool true) rfl (xM (.bool true) rfl ?_)
  simp only [zP, po]
  iterate 9 refine yN rfl ?_
  refine xK true (.bool true) rfl ?_
  simp only [zP, po]
  refine wK k5 (cT rfl ?_)
  refine sK fun _ k7 => rL (xA (.bool false) rfl ?_)
  simp only [zP, po]
  refine wK k7 (rR ?_)
  refine tR (bR rfl rfl ?_)
  exact ⟨false, rfl, ⟨fun h => (by cases h), fun h => by rcases h with ⟨h1, h2, h3, h4, h5⟩ | ⟨h1, h2, h3, h4, h5, h6⟩ | ⟨h1, h2, h3, h4, h5, h6⟩ | ⟨h1, h2, h3, h4, h5, h6⟩ | ⟨h1, h2, h3, h4, h5, h6⟩ <;> first | omega | contradiction | (have h9 := hv.2 h3; cases h9)⟩, (hv.sub (List.Sublist.cons _ (List.Sublist.refl _)))⟩
 refine xG (.bool false) rfl (ex_lss rfl rfl rfl (decide_eq_false hb6)) ?_
 simp only [zP, po]
 refine xM (.bool false) rfl (xF (.pointer (some ⟨b2, 0, none⟩)) rfl (s12fa53_0 _ _ _) ?_)
 refine xL _ rfl (run_load1 s2na3 (hv.load 0 0 rfl rfl)) ?_
 simp only [zP, po]
 refine xG (.bool true) rfl (ex_gtr rfl rfl rfl (decide_eq_true (by omega))) (xK false (.bool true) rfl ?_)
 refine xM (.bool true) rfl ?_
 simp only [zP, po]
 iterate 8 refine yN rfl ?_
 refine xK true (.bool true) rfl (xM (.bool true) rfl ?_)
 iterate 9 refine yN rfl ?_
 refine xK true (.bool true) rfl ?_
 simp only [zP, po]
 refine xM (.bool true) rfl ?_
 iterate 14 refine yN rfl ?_
 refine xK true (.bool true) rfl (xM (.bool true) rfl ?_)
 simp only [zP, po]
 iterate 9 refine yN rfl ?_
 refine xK true (.bool true) rfl ?_
 simp only [zP, po]
 refine wK k5 (cT rfl ?_)
 refine sK fun _ k8 => rL (xA (.bool false) rfl ?_)
 simp only [zP, po]
 refine wK k8 (rR ?_)
 refine tR (bR rfl rfl ?_)
 exact ⟨false, rfl, ⟨fun h => (by cases h), fun h => by rcases h with ⟨h1, h2, h3, h4, h5⟩ | ⟨h1, h2, h3, h4, h5, h6⟩ | ⟨h1, h2, h3, h4, h5, h6⟩ | ⟨h1, h2, h3, h4, h5, h6⟩ | ⟨h1, h2, h3, h4, h5, h6⟩ <;> first | omega | contradiction | (have h9 := hv.2 h3; cases h9)⟩, (hv.sub (List.Sublist.cons _ (List.Sublist.refl _)))⟩
set_option maxHeartbeats 8000000 in
theorem refRight_1 (B : Base) (H : List Res) (w : World) (v : Val) (ap at2 az : Option Addr) (cp ct cz : Nat) (hrp : RdV B [] ap (pairCells v.pairs)) (hrt : RdV B [] at2 (textCells v.texts)) (hrz : RdV B [] az (memCells v.zset)) (hpm : v.pairs.length ≤ 1000000) (htm : v.texts.length ≤ 1000000) (hzm : v.zset.length ≤ 1000000) (hk : v.kind = 1) (hv : Inv B H w) :
  Calls Tryz.prog 78 #[.agg #[.int .i64 v.kind, .string ⟨v.text.toArray⟩, .slice ap v.pairs.length cp, .slice at2 v.texts.length ct, .slice az v.zset.length cz]] w fun e w' => ∃ b, e = .returned (.bool b) ∧ (b = true ↔ ValOk v) ∧ Inv B H w' := by
 refine cW Tryz.func78 rfl Tryz.ntmps78 ?_
 simp only [al]
 refine sK fun _ k1 => rL (sl_box (L := [.int .i64 v.kind, .string ⟨v.text.toArray⟩, .slice ap v.pairs.length cp, .slice at2 v.texts.length ct, .slice az v.zset.length cz]) tV (wn rfl) rfl rfl hv (fun w => by kernel_rfl) (fun b2 w3 hv => ?_))
 refine xA (.bool false) rfl ?_
 simp only [zP, po]
 refine wK k1 (sK fun _ k4 => ?_)
 refine sK fun _ k5 => rL (xF (.pointer (some ⟨b2, 0, none⟩)) rfl (s12fa53_0 _ _ _) ?_)
 refine xL _ rfl (run_load1 s2na3 (hv.load 0 0 rfl rfl)) (xG (.bool false) rfl (ex_lss rfl rfl rfl (decide_eq_false (by omega))) ?_)
 simp only [zP, po]
 refine xM (.bool false) rfl (xF (.pointer (some ⟨b2, 0, none⟩)) rfl (s12fa53_0 _ _ _) ?_)
 refine xL _ rfl (run_load1 s2na3 (hv.load 0 0 rfl rfl)) ?_
 simp only [zP, po]
 refine xG (.bool false) rfl (ex_gtr rfl rfl rfl (decide_eq_false (by omega))) (xK false (.bool false) rfl ?_)
 refine xM (.bool false) rfl ?_
 simp only [zP, po]
 refine xF (.pointer (some ⟨b2, 0, none⟩)) rfl (s12fa53_0 _ _ _) (xL _ rfl (run_load1 s2na3 (hv.load 0 0 rfl rfl)) ?_)
 refine xG (.bool false) rfl (ex_neq rfl rfl rfl (decide_eq_false (by omega))) ?_
 simp only [zP, po]
 refine xM (.bool false) rfl ?_
 iterate 3 refine yN rfl ?_
 refine xK false (.bool false) rfl (xK false (.bool false) rfl ?_)
 simp only [zP, po]
 refine xM (.bool false) rfl (xF (.pointer (some ⟨b2, 0, none⟩)) rfl (s12fa53_0 _ _ _) ?_)
 refine xL _ rfl (run_load1 s2na3 (hv.load 0 0 rfl rfl)) ?_
 simp only [zP, po]
 refine xG (.bool true) rfl (ex_neq rfl rfl rfl (decide_eq_true (by omega))) (xM (.bool true) rfl ?_)
 refine xF (.pointer (some ⟨b2, 2, none⟩)) rfl (s1fa53_2 _ _ _) ?_
 simp only [zP, po]
 refine xL _ rfl (run_load1 s1na50 (hv.load 0 2 rfl rfl)) (xG (.int .i64 (v.pairs.length : Int)) rfl (ex_len0 Tryz.underlying50 rfl rfl) ?_)
 by_cases hb6 : (v.pairs.length : Int) > 0
 ·refine xG (.bool true) rfl (ex_gtr rfl rfl rfl (decide_eq_true hb6)) ?_
  simp only [zP, po]
  refine xK true (.bool true) rfl (xK false (.bool true) rfl ?_)
  refine xM (.bool true) rfl ?_
  simp only [zP, po]
  iterate 14 refine yN rfl ?_
  refine xK true (.bool true) rfl (xM (.bool true) rfl ?_)
  iterate 9 refine yN rfl ?_
  refine xK true (.bool true) rfl ?_
  simp only [zP, po]
  refine wK k5 (cT rfl ?_)
  refine sK fun _ k7 => rL (xA (.bool false) rfl ?_)
  simp only [zP, po]
  refine wK k7 (rR ?_)
  refine tR (bR rfl rfl ?_)
  exact ⟨false, rfl, ⟨fun h => (by cases h), fun h => by rcases h with ⟨h1, h2, h3, h4, h5⟩ | ⟨h1, h2, h3, h4, h5, h6⟩ | ⟨h1, h2, h3, h4, h5, h6⟩ | ⟨h1, h2, h3, h4, h5, h6⟩ | ⟨h1, h2, h3, h4, h5, h6⟩ <;> first | omega | contradiction | (have h9 := hv.2 h3; cases h9)⟩, (hv.sub (List.Sublist.cons _ (List.Sublist.refl _)))⟩
 refine xG (.bool false) rfl (ex_gtr rfl rfl rfl (decide_eq_false hb6)) ?_
 simp only [zP, po]
 refine xK true (.bool false) rfl (xK false (.bool false) rfl ?_)
 refine xM (.bool false) rfl ?_
 simp only [zP, po]
 refine xF (.pointer (some ⟨b2, 0, none⟩)) rfl (s12fa53_0 _ _ _) (xL _ rfl (run_load1 s2na3 (hv.load 0 0 rfl rfl)) ?_)
 refine xG (.bool true) rfl (ex_neq rfl rfl rfl (decide_eq_true (by omega))) ?_
 simp only [zP, po]
 refine xM (.bool true) rfl (xF (.pointer (some ⟨b2, 0, none⟩)) rfl (s12fa53_0 _ _ _) ?_)
 refine xL _ rfl (run_load1 s2na3 (hv.load 0 0 rfl rfl)) ?_
 simp only [zP, po]
 refine xG (.bool true) rfl (ex_neq rfl rfl rfl (decide_eq_true (by omega))) (xK true (.bool true) rfl ?_)
 refine xM (.bool true) rfl ?_
 simp only [zP, po]
 refine xF (.pointer (some ⟨b2, 3, none⟩)) rfl (s1fa53_3 _ _ _) (xL _ rfl (run_load1 s1na27 (hv.load 0 3 rfl rfl)) ?_)
 refine xG (.int .i64 (v.texts.length : Int)) rfl (ex_len0 Tryz.underlying27 rfl rfl) ?_
 simp only [zP, po]
 by_cases hb8 : (v.texts.length : Int) > 0
 ·refine xG (.bool true) rfl (ex_gtr rfl rfl rfl (decide_eq_true hb8)) (xK true (.bool true) rfl ?_)
  refine xK false (.bool true) rfl ?_
  simp only [zP, po]
  refine xM (.bool true) rfl ?_
  iterate 9 refine yN rfl ?_
  refine xK true (.bool true) rfl ?_
  simp only [zP, po]
  refine wK k5 (cT rfl ?_)
  refine sK fun _ k9 => rL (xA (.bool false) rfl ?_)
  simp only [zP, po]
  refine wK k9 (rR ?_)
  refine tR (bR rfl rfl ?_)
  exact ⟨false, rfl, ⟨fun h => (by cases h), fun h => by rcases h with ⟨h1, h2, h3, h4, h5⟩ | ⟨h1, h2, h3, h4, h5, h6⟩ | ⟨h1, h2, h3, h4, h5, h6⟩ | ⟨h1, h2, h3, h4, h5, h6⟩ | ⟨h1, h2, h3, h4, h5, h6⟩ <;> first | omega | contradiction | (have h9 := hv.2 h3; cases h9)⟩, (hv.sub (List.Sublist.cons _ (List.Sublist.refl _)))⟩
 refine xG (.bool false) rfl (ex_gtr rfl rfl rfl (decide_eq_false hb8)) (xK true (.bool false) rfl ?_)
 refine xK false (.bool false) rfl ?_
 simp only [zP, po]
 refine xM (.bool false) rfl (xF (.pointer (some ⟨b2, 0, none⟩)) rfl (s12fa53_0 _ _ _) ?_)
 refine xL _ rfl (run_load1 s2na3 (hv.load 0 0 rfl rfl)) ?_
 simp only [zP, po]
 refine xG (.bool true) rfl (ex_neq rfl rfl rfl (decide_eq_true (by omega))) (xM (.bool true) rfl ?_)
 refine xF (.pointer (some ⟨b2, 4, none⟩)) rfl (s1fa53_4 _ _ _) ?_
 simp only [zP, po]
 refine xL _ rfl (run_load1 s1na51 (hv.load 0 4 rfl rfl)) (xG (.int .i64 (v.zset.length : Int)) rfl (ex_len0 Tryz.underlying51 rfl rfl) ?_)
 by_cases hb10 : (v.zset.length : Int) > 0
 ·refine xG (.bool true) rfl (ex_gtr rfl rfl rfl (decide_eq_true hb10)) ?_
  simp only [zP, po]
  refine xK true (.bool true) rfl (xK false (.bool true) rfl ?_)
  simp only [zP, po]
  refine wK k5 (cT rfl ?_)
  refine sK fun _ k11 => rL (xA (.bool false) rfl ?_)
  simp only [zP, po]
  refine wK k11 (rR ?_)
  refine tR (bR rfl rfl ?_)
  exact ⟨false, rfl, ⟨fun h => (by cases h), fun h => by rcases h with ⟨h1, h2, h3, h4, h5⟩ | ⟨h1, h2, h3, h4, h5, h6⟩ | ⟨h1, h2, h3, h4, h5, h6⟩ | ⟨h1, h2, h3, h4, h5, h6⟩ | ⟨h1, h2, h3, h4, h5, h6⟩ <;> first | omega | contradiction | (have h9 := hv.2 h3; cases h9)⟩, (hv.sub (List.Sublist.cons _ (List.Sublist.refl _)))⟩
 refine xG (.bool false) rfl (ex_gtr rfl rfl rfl (decide_eq_false hb10)) ?_
 simp only [zP, po]
 refine xK true (.bool false) rfl (xK false (.bool false) rfl ?_)
 simp only [zP, po]
 refine wK k5 (cF rfl ?_)
 refine kS (tK k4 ?_)
 refine sK fun _ k12 => sK fun _ k13 => rL (xF (.pointer (some ⟨b2, 0, none⟩)) rfl (s12fa53_0 _ _ _) ?_)
 refine xL _ rfl (run_load1 s2na3 (hv.load 0 0 rfl rfl)) ?_
 simp only [zP, po]
 refine wK k13 (bB ?_)
 refine sK fun _ k14 => rL (xG (.bool true) rfl (ex_eql rfl rfl rfl (decide_eq_true (by omega))) ?_)
 refine xA (.bool true) rfl ?_
 simp only [zP, po]
 refine wK k14 (cT rfl ?_)
 refine sK fun _ k15 => rL (xF (.pointer (some ⟨b2, 1, none⟩)) rfl (s12fa53_1 _ _ _) ?_)
 refine xL _ rfl (run_load1 s3na9 (hv.load 0 1 rfl rfl)) (xG (.int .i64 (v.text.length : Int)) rfl (ex_lenStr Tryz.underlying9 rfl rfl) ?_)
 simp only [zP, po]
 refine xG (.bool (decide ((v.text.length : Int) ≤ 4096))) rfl (ex_leq rfl rfl rfl rfl) (xA (.bool (decide ((v.text.length : Int) ≤ 4096))) rfl ?_)
 simp only [zP, po]
 refine wK k15 (rR ?_)
 refine bE (tR ?_)
 refine bR rfl rfl (⟨_, rfl, by rw [decide_eq_true_iff]; exact ⟨fun h9 => .inl ⟨by omega, by omega, by omega, by omega, by omega⟩, fun h => by rcases h with ⟨h1, h2, h3, h4, h5⟩ | ⟨h1, h2, h3, h4, h5, h6⟩ | ⟨h1, h2, h3, h4, h5, h6⟩ | ⟨h1, h2, h3, h4, h5, h6⟩ | ⟨h1, h2, h3, h4, h5, h6⟩ <;> first | omega | (have h9 := llen h3; omega)⟩, (hv.sub (List.Sublist.cons _ (List.Sublist.refl _)))⟩)
theorem s31callable93 : Callable Tryz.prog 93 := ⟨_, Tryz.func93, by kernel_rfl, by kernel_rfl⟩
set_option maxHeartbeats 8000000 in
theorem refRight_2 (B : Base) (H : List Res) (w : World) (v : Val) (ap at2 az : Option Addr) (cp ct cz : Nat) (hrp : RdV B [] ap (pairCells v.pairs)) (hrt : RdV B [] at2 (textCells v.texts)) (hrz : RdV B [] az (memCells v.zset)) (hpm : v.pairs.length ≤ 1000000) (htm : v.texts.length ≤ 1000000) (hzm : v.zset.length ≤ 1000000) (hk : v.kind = 2) (hv : Inv B H w) :
  Calls Tryz.prog 78 #[.agg #[.int .i64 v.kind, .string ⟨v.text.toArray⟩, .slice ap v.pairs.length cp, .slice at2 v.texts.length ct, .slice az v.zset.length cz]] w fun e w' => ∃ b, e = .returned (.bool b) ∧ (b = true ↔ ValOk v) ∧ Inv B H w' := by
 refine cW Tryz.func78 rfl Tryz.ntmps78 ?_
 simp only [al]
 refine sK fun _ k1 => rL (sl_box (L := [.int .i64 v.kind, .string ⟨v.text.toArray⟩, .slice ap v.pairs.length cp, .slice at2 v.texts.length ct, .slice az v.zset.length cz]) tV (wn rfl) rfl rfl hv (fun w => by kernel_rfl) (fun b2 w3 hv => ?_))
 refine xA (.bool false) rfl ?_
 simp only [zP, po]
 refine wK k1 (sK fun _ k4 => ?_)
 refine sK fun _ k5 => rL (xF (.pointer (some ⟨b2, 0, none⟩)) rfl (s12fa53_0 _ _ _) ?_)
 refine xL _ rfl (run_load1 s2na3 (hv.load 0 0 rfl rfl)) (xG (.bool false) rfl (ex_lss rfl rfl rfl (decide_eq_false (by omega))) ?_)
 simp only [zP, po]
 refine xM (.bool false) rfl (xF (.pointer (some ⟨b2, 0, none⟩)) rfl (s12fa53_0 _ _ _) ?_)
 refine xL _ rfl (run_load1 s2na3 (hv.load 0 0 rfl rfl)) ?_
 simp only [zP, po]
 refine xG (.bool false) rfl (ex_gtr rfl rfl rfl (decide_eq_false (by omega))) (xK false (.bool false) rfl ?_)
 refine xM (.bool false) rfl ?_
 simp only [zP, po]
 refine xF (.pointer (some ⟨b2, 0, none⟩)) rfl (s12fa53_0 _ _ _) (xL _ rfl (run_load1 s2na3 (hv.load 0 0 rfl rfl)) ?_)
 refine xG (.bool true) rfl (ex_neq rfl rfl rfl (decide_eq_true (by omega))) ?_
 simp only [zP, po]
 refine xM (.bool true) rfl (xF (.pointer (some ⟨b2, 1, none⟩)) rfl (s12fa53_1 _ _ _) ?_)
 refine xL _ rfl (run_load1 s3na9 (hv.load 0 1 rfl rfl)) ?_
 simp only [zP, po]
 by_cases hb6 : v.text ≠ ([] : List UInt8)
 ·refine xG (.bool true) rfl (ex_sneq rfl rfl rfl (decide_eq_true hb6)) (xK true (.bool true) rfl ?_)
  refine xK false (.bool true) rfl ?_
  simp only [zP, po]
  refine xM (.bool true) rfl ?_
  iterate 9 refine yN rfl ?_
  refine xK true (.bool true) rfl (xM (.bool true) rfl ?_)
  simp only [zP, po]
  iterate 14 refine yN rfl ?_
  refine xK true (.bool true) rfl (xM (.bool true) rfl ?_)
  iterate 9 refine yN rfl ?_
  refine xK true (.bool true) rfl ?_
  simp only [zP, po]
  refine wK k5 (cT rfl ?_)
  refine sK fun _ k7 => rL (xA (.bool false) rfl ?_)
  simp only [zP, po]
  refine wK k7 (rR ?_)
  refine tR (bR rfl rfl ?_)
  exact ⟨false, rfl, ⟨fun h => (by cases h), fun h => by rcases h with ⟨h1, h2, h3, h4, h5⟩ | ⟨h1, h2, h3, h4, h5, h6⟩ | ⟨h1, h2, h3, h4, h5, h6⟩ | ⟨h1, h2, h3, h4, h5, h6⟩ | ⟨h1, h2, h3, h4, h5, h6⟩ <;> first | omega | contradiction | (have h9 := hv.2 h3; cases h9)⟩, (hv.sub (List.Sublist.cons _ (List.Sublist.refl _)))⟩
 refine xG (.bool false) rfl (ex_sneq rfl rfl rfl (decide_eq_false hb6)) (xK true (.bool false) rfl ?_)
 refine xK false (.bool false) rfl ?_
 simp only [zP, po]
 refine xM (.bool false) rfl (xF (.pointer (some ⟨b2, 0, none⟩)) rfl (s12fa53_0 _ _ _) ?_)
 refine xL _ rfl (run_load1 s2na3 (hv.load 0 0 rfl rfl)) ?_
 simp only [zP, po]
 refine xG (.bool false) rfl (ex_neq rfl rfl rfl (decide_eq_false (by omega))) (xM (.bool false) rfl ?_)
 iterate 4 refine yN rfl ?_
 refine xK false (.bool false) rfl ?_
 simp only [zP, po]
 refine xK false (.bool false) rfl (xM (.bool false) rfl ?_)
 refine xF (.pointer (some ⟨b2, 0, none⟩)) rfl (s12fa53_0 _ _ _) ?_
 simp only [zP, po]
 refine xL _ rfl (run_load1 s2na3 (hv.load 0 0 rfl rfl)) (xG (.bool true) rfl (ex_neq rfl rfl rfl (decide_eq_true (by omega))) ?_)
 refine xM (.bool true) rfl ?_
 simp only [zP, po]
 refine xF (.pointer (some ⟨b2, 0, none⟩)) rfl (s12fa53_0 _ _ _) (xL _ rfl (run_load1 s2na3 (hv.load 0 0 rfl rfl)) ?_)
 refine xG (.bool true) rfl (ex_neq rfl rfl rfl (decide_eq_true (by omega))) ?_
 simp only [zP, po]
 refine xK true (.bool true) rfl (xM (.bool true) rfl ?_)
 refine xF (.pointer (some ⟨b2, 3, none⟩)) rfl (s1fa53_3 _ _ _) ?_
 simp only [zP, po]
 refine xL _ rfl (run_load1 s1na27 (hv.load 0 3 rfl rfl)) (xG (.int .i64 (v.texts.length : Int)) rfl (ex_len0 Tryz.underlying27 rfl rfl) ?_)
 by_cases hb8 : (v.texts.length : Int) > 0
 ·refine xG (.bool true) rfl (ex_gtr rfl rfl rfl (decide_eq_true hb8)) ?_
  simp only [zP, po]
  refine xK true (.bool true) rfl (xK false (.bool true) rfl ?_)
  refine xM (.bool true) rfl ?_
  simp only [zP, po]
  iterate 9 refine yN rfl ?_
  refine xK true (.bool true) rfl ?_
  simp only [zP, po]
  refine wK k5 (cT rfl ?_)
  refine sK fun _ k9 => rL (xA (.bool false) rfl ?_)
  simp only [zP, po]
  refine wK k9 (rR ?_)
  refine tR (bR rfl rfl ?_)
  exact ⟨false, rfl, ⟨fun h => (by cases h), fun h => by rcases h with ⟨h1, h2, h3, h4, h5⟩ | ⟨h1, h2, h3, h4, h5, h6⟩ | ⟨h1, h2, h3, h4, h5, h6⟩ | ⟨h1, h2, h3, h4, h5, h6⟩ | ⟨h1, h2, h3, h4, h5, h6⟩ <;> first | omega | contradiction | (have h9 := hv.2 h3; cases h9)⟩, (hv.sub (List.Sublist.cons _ (List.Sublist.refl _)))⟩
 refine xG (.bool false) rfl (ex_gtr rfl rfl rfl (decide_eq_false hb8)) ?_
 simp only [zP, po]
 refine xK true (.bool false) rfl (xK false (.bool false) rfl ?_)
 refine xM (.bool false) rfl ?_
 simp only [zP, po]
 refine xF (.pointer (some ⟨b2, 0, none⟩)) rfl (s12fa53_0 _ _ _) (xL _ rfl (run_load1 s2na3 (hv.load 0 0 rfl rfl)) ?_)
 refine xG (.bool true) rfl (ex_neq rfl rfl rfl (decide_eq_true (by omega))) ?_
 simp only [zP, po]
 refine xM (.bool true) rfl (xF (.pointer (some ⟨b2, 4, none⟩)) rfl (s1fa53_4 _ _ _) ?_)
 refine xL _ rfl (run_load1 s1na51 (hv.load 0 4 rfl rfl)) ?_
 simp only [zP, po]
 refine xG (.int .i64 (v.zset.length : Int)) rfl (ex_len0 Tryz.underlying51 rfl rfl) ?_
 by_cases hb10 : (v.zset.length : Int) > 0
 ·refine xG (.bool true) rfl (ex_gtr rfl rfl rfl (decide_eq_true hb10)) (xK true (.bool true) rfl ?_)
  simp only [zP, po]
  refine xK false (.bool true) rfl ?_
  simp only [zP, po]
  refine wK k5 (cT rfl ?_)
  refine sK fun _ k11 => rL (xA (.bool false) rfl ?_)
  simp only [zP, po]
  refine wK k11 (rR ?_)
  refine tR (bR rfl rfl ?_)
  exact ⟨false, rfl, ⟨fun h => (by cases h), fun h => by rcases h with ⟨h1, h2, h3, h4, h5⟩ | ⟨h1, h2, h3, h4, h5, h6⟩ | ⟨h1, h2, h3, h4, h5, h6⟩ | ⟨h1, h2, h3, h4, h5, h6⟩ | ⟨h1, h2, h3, h4, h5, h6⟩ <;> first | omega | contradiction | (have h9 := hv.2 h3; cases h9)⟩, (hv.sub (List.Sublist.cons _ (List.Sublist.refl _)))⟩
 refine xG (.bool false) rfl (ex_gtr rfl rfl rfl (decide_eq_false hb10)) (xK true (.bool false) rfl ?_)
 simp only [zP, po]
 refine xK false (.bool false) rfl ?_
 simp only [zP, po]
 refine wK k5 (cF rfl ?_)
 refine kS (tK k4 ?_)
 refine sK fun _ k12 => sK fun _ k13 => rL (xF (.pointer (some ⟨b2, 0, none⟩)) rfl (s12fa53_0 _ _ _) ?_)
 refine xL _ rfl (run_load1 s2na3 (hv.load 0 0 rfl rfl)) ?_
 simp only [zP, po]
 refine wK k13 (bB ?_)
 refine sK fun _ k14 => rL (xG (.bool false) rfl (ex_eql rfl rfl rfl (decide_eq_false (by omega))) ?_)
 refine xA (.bool false) rfl ?_
 simp only [zP, po]
 refine wK k14 (cF rfl ?_)
 refine sK fun _ k15 => rL (xG (.bool true) rfl (ex_eql rfl rfl rfl (decide_eq_true (by omega))) ?_)
 refine xA (.bool true) rfl ?_
 simp only [zP, po]
 refine wK k15 (cT rfl ?_)
 refine sK fun _ k16 => rL (xF (.pointer (some ⟨b2, 2, none⟩)) rfl (s1fa53_2 _ _ _) ?_)
 refine xL _ rfl (run_load1 s1na50 (hv.load 0 2 rfl rfl)) (xG (.int .i64 (v.pairs.length : Int)) rfl (ex_len0 Tryz.underlying50 rfl rfl) ?_)
 simp only [zP, po]
 by_cases hb17 : (v.pairs.length : Int) > 0
 ·refine xG (.bool true) rfl (ex_gtr rfl rfl rfl (decide_eq_true hb17)) (xM (.bool true) rfl ?_)
  refine xF (.pointer (some ⟨b2, 2, none⟩)) rfl (s1fa53_2 _ _ _) ?_
  simp only [zP, po]
  refine xL _ rfl (run_load1 s1na50 (hv.load 0 2 rfl rfl)) (xC s31callable93 rfl ((refHashRight B _ _ _ _ _ hrp hpm hv).mono ?_) rfl)
  rintro e w19 ⟨bl18, rfl, hbl18, hv⟩
  refine ⟨_, rfl, ?_⟩
  cases bl18
  ·refine xK true (.bool false) rfl ?_
   simp only [zP, po]
   refine xA (.bool false) rfl ?_
   simp only [zP, po]
   refine wK k16 (rR ?_)
   refine bE (tR ?_)
   refine bR rfl rfl (⟨false, rfl, ⟨fun h => (by cases h), fun h => by rcases h with ⟨h1, h2, h3, h4, h5⟩ | ⟨h1, h2, h3, h4, h5, h6⟩ | ⟨h1, h2, h3, h4, h5, h6⟩ | ⟨h1, h2, h3, h4, h5, h6⟩ | ⟨h1, h2, h3, h4, h5, h6⟩ <;> first | omega | contradiction | (have h9 := hbl18.2 h3; cases h9)⟩, (hv.sub (List.Sublist.cons _ (List.Sublist.refl _)))⟩)
  refine xK true (.bool true) rfl ?_
  simp only [zP, po]
  refine xA (.bool true) rfl ?_
  simp only [zP, po]
  refine wK k16 (rR ?_)
  refine bE (tR ?_)
  refine bR rfl rfl (⟨true, rfl, ⟨fun _ => .inr (.inl ⟨by omega, by omega, hbl18.1 rfl, Classical.not_not.1 hb6, by omega, by omega⟩), fun _ => rfl⟩, (hv.sub (List.Sublist.cons _ (List.Sublist.refl _)))⟩)
 refine xG (.bool false) rfl (ex_gtr rfl rfl rfl (decide_eq_false hb17)) (xM (.bool false) rfl ?_)
 iterate 3 refine yN rfl ?_
 refine xK false (.bool false) rfl ?_
 simp only [zP, po]
 refine xA (.bool false) rfl ?_
 simp only [zP, po]
 refine wK k16 (rR ?_)
 refine bE (tR ?_)
 refine bR rfl rfl (⟨false, rfl, ⟨fun h => (by cases h), fun h => by rcases h with ⟨h1, h2, h3, h4, h5⟩ | ⟨h1, h2, h3, h4, h5, h6⟩ | ⟨h1, h2, h3, h4, h5, h6⟩ | ⟨h1, h2, h3, h4, h5, h6⟩ | ⟨h1, h2, h3, h4, h5, h6⟩ <;> first | omega | contradiction | (have h9 := hv.2 h3; cases h9)⟩, (hv.sub (List.Sublist.cons _ (List.Sublist.refl _)))⟩)
set_option maxHeartbeats 8000000 in
theorem refRight_3 (B : Base) (H : List Res) (w : World) (v : Val) (ap at2 az : Option Addr) (cp ct cz : Nat) (hrp : RdV B [] ap (pairCells v.pairs)) (hrt : RdV B [] at2 (textCells v.texts)) (hrz : RdV B [] az (memCells v.zset)) (hpm : v.pairs.length ≤ 1000000) (htm : v.texts.length ≤ 1000000) (hzm : v.zset.length ≤ 1000000) (hk : v.kind = 3) (hv : Inv B H w) :
  Calls Tryz.prog 78 #[.agg #[.int .i64 v.kind, .string ⟨v.text.toArray⟩, .slice ap v.pairs.length cp, .slice at2 v.texts.length ct, .slice az v.zset.length cz]] w fun e w' => ∃ b, e = .returned (.bool b) ∧ (b = true ↔ ValOk v) ∧ Inv B H w' := by
 refine cW Tryz.func78 rfl Tryz.ntmps78 ?_
 simp only [al]
 refine sK fun _ k1 => rL (sl_box (L := [.int .i64 v.kind, .string ⟨v.text.toArray⟩, .slice ap v.pairs.length cp, .slice at2 v.texts.length ct, .slice az v.zset.length cz]) tV (wn rfl) rfl rfl hv (fun w => by kernel_rfl) (fun b2 w3 hv => ?_))
 refine xA (.bool false) rfl ?_
 simp only [zP, po]
 refine wK k1 (sK fun _ k4 => ?_)
 refine sK fun _ k5 => rL (xF (.pointer (some ⟨b2, 0, none⟩)) rfl (s12fa53_0 _ _ _) ?_)
 refine xL _ rfl (run_load1 s2na3 (hv.load 0 0 rfl rfl)) (xG (.bool false) rfl (ex_lss rfl rfl rfl (decide_eq_false (by omega))) ?_)
 simp only [zP, po]
 refine xM (.bool false) rfl (xF (.pointer (some ⟨b2, 0, none⟩)) rfl (s12fa53_0 _ _ _) ?_)
 refine xL _ rfl (run_load1 s2na3 (hv.load 0 0 rfl rfl)) ?_
 simp only [zP, po]
 refine xG (.bool false) rfl (ex_gtr rfl rfl rfl (decide_eq_false (by omega))) (xK false (.bool false) rfl ?_)
 refine xM (.bool false) rfl ?_
 simp only [zP, po]
 refine xF (.pointer (some ⟨b2, 0, none⟩)) rfl (s12fa53_0 _ _ _) (xL _ rfl (run_load1 s2na3 (hv.load 0 0 rfl rfl)) ?_)
 refine xG (.bool true) rfl (ex_neq rfl rfl rfl (decide_eq_true (by omega))) ?_
 simp only [zP, po]
 refine xM (.bool true) rfl (xF (.pointer (some ⟨b2, 1, none⟩)) rfl (s12fa53_1 _ _ _) ?_)
 refine xL _ rfl (run_load1 s3na9 (hv.load 0 1 rfl rfl)) ?_
 simp only [zP, po]
 by_cases hb6 : v.text ≠ ([] : List UInt8)
 ·refine xG (.bool true) rfl (ex_sneq rfl rfl rfl (decide_eq_true hb6)) (xK true (.bool true) rfl ?_)
  refine xK false (.bool true) rfl ?_
  simp only [zP, po]
  refine xM (.bool true) rfl ?_
  iterate 9 refine yN rfl ?_
  refine xK true (.bool true) rfl (xM (.bool true) rfl ?_)
  simp only [zP, po]
  iterate 14 refine yN rfl ?_
  refine xK true (.bool true) rfl (xM (.bool true) rfl ?_)
  iterate 9 refine yN rfl ?_
  refine xK true (.bool true) rfl ?_
  simp only [zP, po]
  refine wK k5 (cT rfl ?_)
  refine sK fun _ k7 => rL (xA (.bool false) rfl ?_)
  simp only [zP, po]
  refine wK k7 (rR ?_)
  refine tR (bR rfl rfl ?_)
  exact ⟨false, rfl, ⟨fun h => (by cases h), fun h => by rcases h with ⟨h1, h2, h3, h4, h5⟩ | ⟨h1, h2, h3, h4, h5, h6⟩ | ⟨h1, h2, h3, h4, h5, h6⟩ | ⟨h1, h2, h3, h4, h5, h6⟩ | ⟨h1, h2, h3, h4, h5, h6⟩ <;> first | omega | contradiction | (have h9 := hv.2 h3; cases h9)⟩, (hv.sub (List.Sublist.cons _ (List.Sublist.refl _)))⟩
 refine xG (.bool false) rfl (ex_sneq rfl rfl rfl (decide_eq_false hb6)) (xK true (.bool false) rfl ?_)
 refine xK false (.bool false) rfl ?_
 simp only [zP, po]
 refine xM (.bool false) rfl (xF (.pointer (some ⟨b2, 0, none⟩)) rfl (s12fa53_0 _ _ _) ?_)
 refine xL _ rfl (run_load1 s2na3 (hv.load 0 0 rfl rfl)) ?_
 simp only [zP, po]
 refine xG (.bool true) rfl (ex_neq rfl rfl rfl (decide_eq_true (by omega))) (xM (.bool true) rfl ?_)
 refine xF (.pointer (some ⟨b2, 2, none⟩)) rfl (s1fa53_2 _ _ _) ?_
 simp only [zP, po]
 refine xL _ rfl (run_load1 s1na50 (hv.load 0 2 rfl rfl)) (xG (.int .i64 (v.pairs.length : Int)) rfl (ex_len0 Tryz.underlying50 rfl rfl) ?_)
 by_cases hb8 : (v.pairs.length : Int) > 0
 ·refine xG (.bool true) rfl (ex_gtr rfl rfl rfl (decide_eq_true hb8)) ?_
  simp only [zP, po]
  refine xK true (.bool true) rfl (xK false (.bool true) rfl ?_)
  refine xM (.bool true) rfl ?_
  simp only [zP, po]
  iterate 14 refine yN rfl ?_
  refine xK true (.bool true) rfl (xM (.bool true) rfl ?_)
  iterate 9 refine yN rfl ?_
  refine xK true (.bool true) rfl ?_
  simp only [zP, po]
  refine wK k5 (cT rfl ?_)
  refine sK fun _ k9 => rL (xA (.bool false) rfl ?_)
  simp only [zP, po]
  refine wK k9 (rR ?_)
  refine tR (bR rfl rfl ?_)
  exact ⟨false, rfl, ⟨fun h => (by cases h), fun h => by rcases h with ⟨h1, h2, h3, h4, h5⟩ | ⟨h1, h2, h3, h4, h5, h6⟩ | ⟨h1, h2, h3, h4, h5, h6⟩ | ⟨h1, h2, h3, h4, h5, h6⟩ | ⟨h1, h2, h3, h4, h5, h6⟩ <;> first | omega | contradiction | (have h9 := hv.2 h3; cases h9)⟩, (hv.sub (List.Sublist.cons _ (List.Sublist.refl _)))⟩
 refine xG (.bool false) rfl (ex_gtr rfl rfl rfl (decide_eq_false hb8)) ?_
 simp only [zP, po]
 refine xK true (.bool false) rfl (xK false (.bool false) rfl ?_)
 refine xM (.bool false) rfl ?_
 simp only [zP, po]
 refine xF (.pointer (some ⟨b2, 0, none⟩)) rfl (s12fa53_0 _ _ _) (xL _ rfl (run_load1 s2na3 (hv.load 0 0 rfl rfl)) ?_)
 refine xG (.bool false) rfl (ex_neq rfl rfl rfl (decide_eq_false (by omega))) ?_
 simp only [zP, po]
 refine xM (.bool false) rfl ?_
 iterate 3 refine yN rfl ?_
 refine xK false (.bool false) rfl (xM (.bool false) rfl ?_)
 simp only [zP, po]
 iterate 4 refine yN rfl ?_
 refine xK false (.bool false) rfl (xK false (.bool false) rfl ?_)
 refine xM (.bool false) rfl ?_
 simp only [zP, po]
 refine xF (.pointer (some ⟨b2, 0, none⟩)) rfl (s12fa53_0 _ _ _) (xL _ rfl (run_load1 s2na3 (hv.load 0 0 rfl rfl)) ?_)
 refine xG (.bool true) rfl (ex_neq rfl rfl rfl (decide_eq_true (by omega))) ?_
 simp only [zP, po]
 refine xM (.bool true) rfl (xF (.pointer (some ⟨b2, 4, none⟩)) rfl (s1fa53_4 _ _ _) ?_)
 refine xL _ rfl (run_load1 s1na51 (hv.load 0 4 rfl rfl)) ?_
 simp only [zP, po]
 refine xG (.int .i64 (v.zset.length : Int)) rfl (ex_len0 Tryz.underlying51 rfl rfl) ?_
 by_cases hb10 : (v.zset.length : Int) > 0
 ·refine xG (.bool true) rfl (ex_gtr rfl rfl rfl (decide_eq_true hb10)) (xK true (.bool true) rfl ?_)
  simp only [zP, po]
  refine xK false (.bool true) rfl ?_
  simp only [zP, po]
  refine wK k5 (cT rfl ?_)
  refine sK fun _ k11 => rL (xA (.bool false) rfl ?_)
  simp only [zP, po]
  refine wK k11 (rR ?_)
  refine tR (bR rfl rfl ?_)
  exact ⟨false, rfl, ⟨fun h => (by cases h), fun h => by rcases h with ⟨h1, h2, h3, h4, h5⟩ | ⟨h1, h2, h3, h4, h5, h6⟩ | ⟨h1, h2, h3, h4, h5, h6⟩ | ⟨h1, h2, h3, h4, h5, h6⟩ | ⟨h1, h2, h3, h4, h5, h6⟩ <;> first | omega | contradiction | (have h9 := hv.2 h3; cases h9)⟩, (hv.sub (List.Sublist.cons _ (List.Sublist.refl _)))⟩
 refine xG (.bool false) rfl (ex_gtr rfl rfl rfl (decide_eq_false hb10)) (xK true (.bool false) rfl ?_)
 simp only [zP, po]
 refine xK false (.bool false) rfl ?_
 simp only [zP, po]
 refine wK k5 (cF rfl ?_)
 refine kS (tK k4 ?_)
 refine sK fun _ k12 => sK fun _ k13 => rL (xF (.pointer (some ⟨b2, 0, none⟩)) rfl (s12fa53_0 _ _ _) ?_)
 refine xL _ rfl (run_load1 s2na3 (hv.load 0 0 rfl rfl)) ?_
 simp only [zP, po]
 refine wK k13 (bB ?_)
 refine sK fun _ k14 => rL (xG (.bool false) rfl (ex_eql rfl rfl rfl (decide_eq_false (by omega))) ?_)
 refine xA (.bool false) rfl ?_
 simp only [zP, po]
 refine wK k14 (cF rfl ?_)
 refine sK fun _ k15 => rL (xG (.bool false) rfl (ex_eql rfl rfl rfl (decide_eq_false (by omega))) ?_)
 refine xA (.bool false) rfl ?_
 simp only [zP, po]
 refine wK k15 (cF rfl ?_)
 refine sK fun _ k16 => rL (xG (.bool false) rfl (ex_eql rfl rfl rfl (decide_eq_false (by omega))) ?_)
 refine xA (.bool false) rfl ?_
 simp only [zP, po]
 refine wK k16 (cF rfl ?_)
 refine sK fun _ k17 => rL (xG (.bool false) rfl (ex_eql rfl rfl rfl (decide_eq_false (by omega))) ?_)
 refine xA (.bool false) rfl ?_
 simp only [zP, po]
 refine wK k17 (cF rfl ?_)
 refine kS (bN ?_)
 refine tK k12 (sK fun _ k18 => ?_)
 refine sK fun _ k19 => rL (xA (.int .i64 0) rfl ?_)
 simp only [zP, po]
 refine wK k19 (bB ?_)
 gi_loopw [3] (fun x3 wr => ∃ (i : Nat), x3 = .int .i64 (i : Int) ∧ i ≤ v.texts.length ∧ (∀ j x, j < i → v.texts[j]? = some x → x.length ≤ 4096) ∧ Inv B (Res.cell b2 [.int .i64 v.kind, .string ⟨v.text.toArray⟩, .slice ap v.pairs.length cp, .slice at2 v.texts.length ct, .slice az v.zset.length cz] 53 :: H) wr) (fun x3 _ => v.texts.length - (intOf x3).toNat)
 case atStart => exact ⟨0, rfl, Nat.zero_le _, fun j x h => by omega, hv⟩
 case round =>
  obtain ⟨i, rfl, hi, hno, hv⟩ := hrel
  refine sK fun _ k21 => sK fun _ k22 => rL (xM (.int .i64 (i : Int)) rfl ?_)
  refine xF (.pointer (some ⟨b2, 3, none⟩)) rfl (s1fa53_3 _ _ _) (xL _ rfl (run_load1 s1na27 (hv.load 0 3 rfl rfl)) ?_)
  simp only [zP, po]
  refine xG (.int .i64 (v.texts.length : Int)) rfl (ex_len0 Tryz.underlying27 rfl rfl) ?_
  by_cases hb23 : (i : Int) < (v.texts.length : Int)
  ·refine xG (.bool true) rfl (ex_lss rfl rfl rfl (decide_eq_true hb23)) ?_
   simp only [zP, po]
   refine wK k22 (cT rfl ?_)
   refine kS (tK k21 ?_)
   refine sK fun _ k24 => bB (sK fun _ k25 => ?_)
   obtain ⟨x, hx⟩ : ∃ x, v.texts[i]? = some x := ⟨_, List.getElem?_eq_getElem (show i < v.texts.length by omega)⟩
   obtain ⟨bb, bo, had, hrdx⟩ := text_reads hrt hx
   subst had
   refine rL (xF (.pointer (some ⟨b2, 3, none⟩)) rfl (s1fa53_3 _ _ _) ?_)
   refine xL _ rfl (run_load1 s1na27 (hv.load 0 3 rfl rfl)) (xM (.int .i64 (i : Int)) rfl ?_)
   simp only [zP, po]
   refine xG (.pointer (some ⟨bb, bo + i, none⟩)) rfl (ex_index rfl rfl rfl (run_idx1 (k := i) Tryz.underlying27 s9es27 (by omega))) (xL _ rfl (run_load1 s3na9 (hrdx _ _ _ (Base.Le.refl _) no_res hv 0 _ rfl)) ?_)
   refine xG (.int .i64 (x.length : Int)) rfl (ex_lenStr Tryz.underlying9 rfl rfl) ?_
   simp only [zP, po]
   by_cases hb26 : (x.length : Int) > 4096
   ·refine xG (.bool true) rfl (ex_gtr rfl rfl rfl (decide_eq_true hb26)) ?_
    simp only [zP, po]
    refine wK k25 (cT rfl ?_)
    refine sK fun _ k27 => rL (xA (.bool false) rfl ?_)
    simp only [zP, po]
    refine wK k27 (rR ?_)
    refine bE (tR ?_)
    refine tR (bE ?_)
    refine tR (bR rfl rfl ?_)
    exact ⟨false, rfl, ⟨fun h => (by cases h), fun h => by rcases h with ⟨h1, h2, h3, h4, h5⟩ | ⟨h1, h2, h3, h4, h5, h6⟩ | ⟨h1, h2, h3, h4, h5, h6⟩ | ⟨h1, h2, h3, h4, h5, h6⟩ | ⟨h1, h2, h3, h4, h5, h6⟩ <;> first | omega | contradiction | (have h9 := hv.2 h3; cases h9) | (have h9 := lleft h3 _ _ hx; omega)⟩, (hv.sub (List.Sublist.cons _ (List.Sublist.refl _)))⟩
   refine xG (.bool false) rfl (ex_gtr rfl rfl rfl (decide_eq_false hb26)) ?_
   simp only [zP, po]
   refine wK k25 (cF rfl ?_)
   refine kS (bN ?_)
   refine tK k24 (rL ?_)
   refine xM (.int .i64 (i : Int)) rfl (xG (.int .i64 ((i + 1 : Nat) : Int)) rfl (ex_add rfl rfl rfl (by rw [i64_in (by omega)]; omega)) ?_)
   refine xA (.int .i64 ((i + 1 : Nat) : Int)) rfl (wL ?_)
   simp only [zP, po]
   refine then_normal ?_
   go_roundw
   case rel => exact ⟨i + 1, rfl, by omega, fun j x' hj hx' => (by
      rcases Nat.lt_or_ge j i with h | h
      ·exact hno j x' h hx'
      rw [show j = i by omega, hx] at hx'; cases hx'; omega), hv⟩
   case measure => show v.texts.length - (((i + 1 : Nat) : Int)).toNat < v.texts.length - ((i : Int)).toNat; omega
  refine xG (.bool false) rfl (ex_lss rfl rfl rfl (decide_eq_false hb23)) ?_
  simp only [zP, po]
  refine wK k22 (cF rfl ?_)
  refine xE (tX ?_)
  refine tX (bH ?_)
  refine tK k18 (sK fun _ k28 => ?_)
  obtain rfl : i = v.texts.length := by omega
  refine rL (xF (.pointer (some ⟨b2, 3, none⟩)) rfl (s1fa53_3 _ _ _) ?_)
  refine xL _ rfl (run_load1 s1na27 (hv.load 0 3 rfl rfl)) (xG (.int .i64 (v.texts.length : Int)) rfl (ex_len0 Tryz.underlying27 rfl rfl) ?_)
  simp only [zP, po]
  by_cases hb29 : (v.texts.length : Int) > 0
  ·refine xG (.bool true) rfl (ex_gtr rfl rfl rfl (decide_eq_true hb29)) (xM (.bool true) rfl ?_)
   refine xF (.pointer (some ⟨b2, 3, none⟩)) rfl (s1fa53_3 _ _ _) ?_
   simp only [zP, po]
   refine xL _ rfl (run_load1 s1na27 (hv.load 0 3 rfl rfl)) (xG (.int .i64 (v.texts.length : Int)) rfl (ex_len0 Tryz.underlying27 rfl rfl) ?_)
   refine xG (.bool (decide ((v.texts.length : Int) ≤ 512))) rfl (ex_leq rfl rfl rfl rfl) ?_
   simp only [zP, po]
   refine xK true (.bool (decide ((v.texts.length : Int) ≤ 512))) rfl (xA (.bool (decide ((v.texts.length : Int) ≤ 512))) rfl ?_)
   simp only [zP, po]
   refine wK k28 (rR ?_)
   refine bR rfl rfl (⟨_, rfl, by rw [decide_eq_true_iff]; exact ⟨fun h9 => .inr (.inr (.inl ⟨by omega, by omega, lright (by omega) hno, Classical.not_not.1 hb6, by omega, by omega⟩)), fun h => by rcases h with ⟨h1, h2, h3, h4, h5⟩ | ⟨h1, h2, h3, h4, h5, h6⟩ | ⟨h1, h2, h3, h4, h5, h6⟩ | ⟨h1, h2, h3, h4, h5, h6⟩ | ⟨h1, h2, h3, h4, h5, h6⟩ <;> first | omega | (have h9 := llen h3; omega)⟩, (hv.sub (List.Sublist.cons _ (List.Sublist.refl _)))⟩)
  refine xG (.bool false) rfl (ex_gtr rfl rfl rfl (decide_eq_false hb29)) (xM (.bool false) rfl ?_)
  iterate 4 refine yN rfl ?_
  refine xK false (.bool false) rfl ?_
  simp only [zP, po]
  refine xA (.bool false) rfl ?_
  simp only [zP, po]
  refine wK k28 (rR ?_)
  refine bR rfl rfl (⟨false, rfl, ⟨fun h => (by cases h), fun h => by rcases h with ⟨h1, h2, h3, h4, h5⟩ | ⟨h1, h2, h3, h4, h5, h6⟩ | ⟨h1, h2, h3, h4, h5, h6⟩ | ⟨h1, h2, h3, h4, h5, h6⟩ | ⟨h1, h2, h3, h4, h5, h6⟩ <;> first | omega | contradiction | (have h9 := hv.2 h3; cases h9)⟩, (hv.sub (List.Sublist.cons _ (List.Sublist.refl _)))⟩)
theorem s31callable94 : Callable Tryz.prog 94 := ⟨_, Tryz.func94, by kernel_rfl, by kernel_rfl⟩
set_option maxHeartbeats 8000000 in
theorem refRight_4 (B : Base) (H : List Res) (w : World) (v : Val) (ap at2 az : Option Addr) (cp ct cz : Nat) (hrp : RdV B [] ap (pairCells v.pairs)) (hrt : RdV B [] at2 (textCells v.texts)) (hrz : RdV B [] az (memCells v.zset)) (hpm : v.pairs.length ≤ 1000000) (htm : v.texts.length ≤ 1000000) (hzm : v.zset.length ≤ 1000000) (hk : v.kind = 4) (hv : Inv B H w) :
  Calls Tryz.prog 78 #[.agg #[.int .i64 v.kind, .string ⟨v.text.toArray⟩, .slice ap v.pairs.length cp, .slice at2 v.texts.length ct, .slice az v.zset.length cz]] w fun e w' => ∃ b, e = .returned (.bool b) ∧ (b = true ↔ ValOk v) ∧ Inv B H w' := by
 refine cW Tryz.func78 rfl Tryz.ntmps78 ?_
 simp only [al]
 refine sK fun _ k1 => rL (sl_box (L := [.int .i64 v.kind, .string ⟨v.text.toArray⟩, .slice ap v.pairs.length cp, .slice at2 v.texts.length ct, .slice az v.zset.length cz]) tV (wn rfl) rfl rfl hv (fun w => by kernel_rfl) (fun b2 w3 hv => ?_))
 refine xA (.bool false) rfl ?_
 simp only [zP, po]
 refine wK k1 (sK fun _ k4 => ?_)
 refine sK fun _ k5 => rL (xF (.pointer (some ⟨b2, 0, none⟩)) rfl (s12fa53_0 _ _ _) ?_)
 refine xL _ rfl (run_load1 s2na3 (hv.load 0 0 rfl rfl)) (xG (.bool false) rfl (ex_lss rfl rfl rfl (decide_eq_false (by omega))) ?_)
 simp only [zP, po]
 refine xM (.bool false) rfl (xF (.pointer (some ⟨b2, 0, none⟩)) rfl (s12fa53_0 _ _ _) ?_)
 refine xL _ rfl (run_load1 s2na3 (hv.load 0 0 rfl rfl)) ?_
 simp only [zP, po]
 refine xG (.bool false) rfl (ex_gtr rfl rfl rfl (decide_eq_false (by omega))) (xK false (.bool false) rfl ?_)
 refine xM (.bool false) rfl ?_
 simp only [zP, po]
 refine xF (.pointer (some ⟨b2, 0, none⟩)) rfl (s12fa53_0 _ _ _) (xL _ rfl (run_load1 s2na3 (hv.load 0 0 rfl rfl)) ?_)
 refine xG (.bool true) rfl (ex_neq rfl rfl rfl (decide_eq_true (by omega))) ?_
 simp only [zP, po]
 refine xM (.bool true) rfl (xF (.pointer (some ⟨b2, 1, none⟩)) rfl (s12fa53_1 _ _ _) ?_)
 refine xL _ rfl (run_load1 s3na9 (hv.load 0 1 rfl rfl)) ?_
 simp only [zP, po]
 by_cases hb6 : v.text ≠ ([] : List UInt8)
 ·refine xG (.bool true) rfl (ex_sneq rfl rfl rfl (decide_eq_true hb6)) (xK true (.bool true) rfl ?_)
  refine xK false (.bool true) rfl ?_
  simp only [zP, po]
  refine xM (.bool true) rfl ?_
  iterate 9 refine yN rfl ?_
  refine xK true (.bool true) rfl (xM (.bool true) rfl ?_)
  simp only [zP, po]
  iterate 14 refine yN rfl ?_
  refine xK true (.bool true) rfl (xM (.bool true) rfl ?_)
  iterate 9 refine yN rfl ?_
  refine xK true (.bool true) rfl ?_
  simp only [zP, po]
  refine wK k5 (cT rfl ?_)
  refine sK fun _ k7 => rL (xA (.bool false) rfl ?_)
  simp only [zP, po]
  refine wK k7 (rR ?_)
  refine tR (bR rfl rfl ?_)
  exact ⟨false, rfl, ⟨fun h => (by cases h), fun h => by rcases h with ⟨h1, h2, h3, h4, h5⟩ | ⟨h1, h2, h3, h4, h5, h6⟩ | ⟨h1, h2, h3, h4, h5, h6⟩ | ⟨h1, h2, h3, h4, h5, h6⟩ | ⟨h1, h2, h3, h4, h5, h6⟩ <;> first | omega | contradiction | (have h9 := hv.2 h3; cases h9)⟩, (hv.sub (List.Sublist.cons _ (List.Sublist.refl _)))⟩
 refine xG (.bool false) rfl (ex_sneq rfl rfl rfl (decide_eq_false hb6)) (xK true (.bool false) rfl ?_)
 refine xK false (.bool false) rfl ?_
 simp only [zP, po]
 refine xM (.bool false) rfl (xF (.pointer (some ⟨b2, 0, none⟩)) rfl (s12fa53_0 _ _ _) ?_)
 refine xL _ rfl (run_load1 s2na3 (hv.load 0 0 rfl rfl)) ?_
 simp only [zP, po]
 refine xG (.bool true) rfl (ex_neq rfl rfl rfl (decide_eq_true (by omega))) (xM (.bool true) rfl ?_)
 refine xF (.pointer (some ⟨b2, 2, none⟩)) rfl (s1fa53_2 _ _ _) ?_
 simp only [zP, po]
 refine xL _ rfl (run_load1 s1na50 (hv.load 0 2 rfl rfl)) (xG (.int .i64 (v.pairs.length : Int)) rfl (ex_len0 Tryz.underlying50 rfl rfl) ?_)
 by_cases hb8 : (v.pairs.length : Int) > 0
 ·refine xG (.bool true) rfl (ex_gtr rfl rfl rfl (decide_eq_true hb8)) ?_
  simp only [zP, po]
  refine xK true (.bool true) rfl (xK false (.bool true) rfl ?_)
  refine xM (.bool true) rfl ?_
  simp only [zP, po]
  iterate 14 refine yN rfl ?_
  refine xK true (.bool true) rfl (xM (.bool true) rfl ?_)
  iterate 9 refine yN rfl ?_
  refine xK true (.bool true) rfl ?_
  simp only [zP, po]
  refine wK k5 (cT rfl ?_)
  refine sK fun _ k9 => rL (xA (.bool false) rfl ?_)
  simp only [zP, po]
  refine wK k9 (rR ?_)
  refine tR (bR rfl rfl ?_)
  exact ⟨false, rfl, ⟨fun h => (by cases h), fun h => by rcases h with ⟨h1, h2, h3, h4, h5⟩ | ⟨h1, h2, h3, h4, h5, h6⟩ | ⟨h1, h2, h3, h4, h5, h6⟩ | ⟨h1, h2, h3, h4, h5, h6⟩ | ⟨h1, h2, h3, h4, h5, h6⟩ <;> first | omega | contradiction | (have h9 := hv.2 h3; cases h9)⟩, (hv.sub (List.Sublist.cons _ (List.Sublist.refl _)))⟩
 refine xG (.bool false) rfl (ex_gtr rfl rfl rfl (decide_eq_false hb8)) ?_
 simp only [zP, po]
 refine xK true (.bool false) rfl (xK false (.bool false) rfl ?_)
 refine xM (.bool false) rfl ?_
 simp only [zP, po]
 refine xF (.pointer (some ⟨b2, 0, none⟩)) rfl (s12fa53_0 _ _ _) (xL _ rfl (run_load1 s2na3 (hv.load 0 0 rfl rfl)) ?_)
 refine xG (.bool true) rfl (ex_neq rfl rfl rfl (decide_eq_true (by omega))) ?_
 simp only [zP, po]
 refine xM (.bool true) rfl (xF (.pointer (some ⟨b2, 0, none⟩)) rfl (s12fa53_0 _ _ _) ?_)
 refine xL _ rfl (run_load1 s2na3 (hv.load 0 0 rfl rfl)) ?_
 simp only [zP, po]
 refine xG (.bool false) rfl (ex_neq rfl rfl rfl (decide_eq_false (by omega))) (xK true (.bool false) rfl ?_)
 refine xM (.bool false) rfl ?_
 simp only [zP, po]
 iterate 4 refine yN rfl ?_
 refine xK false (.bool false) rfl (xK false (.bool false) rfl ?_)
 refine xM (.bool false) rfl ?_
 simp only [zP, po]
 refine xF (.pointer (some ⟨b2, 0, none⟩)) rfl (s12fa53_0 _ _ _) (xL _ rfl (run_load1 s2na3 (hv.load 0 0 rfl rfl)) ?_)
 refine xG (.bool true) rfl (ex_neq rfl rfl rfl (decide_eq_true (by omega))) ?_
 simp only [zP, po]
 refine xM (.bool true) rfl (xF (.pointer (some ⟨b2, 4, none⟩)) rfl (s1fa53_4 _ _ _) ?_)
 refine xL _ rfl (run_load1 s1na51 (hv.load 0 4 rfl rfl)) ?_
 simp only [zP, po]
 refine xG (.int .i64 (v.zset.length : Int)) rfl (ex_len0 Tryz.underlying51 rfl rfl) ?_
 by_cases hb10 : (v.zset.length : Int) > 0
 ·refine xG (.bool true) rfl (ex_gtr rfl rfl rfl (decide_eq_true hb10)) (xK true (.bool true) rfl ?_)
  simp only [zP, po]
  refine xK false (.bool true) rfl ?_
  simp only [zP, po]
  refine wK k5 (cT rfl ?_)
  refine sK fun _ k11 => rL (xA (.bool false) rfl ?_)
  simp only [zP, po]
  refine wK k11 (rR ?_)
  refine tR (bR rfl rfl ?_)
  exact ⟨false, rfl, ⟨fun h => (by cases h), fun h => by rcases h with ⟨h1, h2, h3, h4, h5⟩ | ⟨h1, h2, h3, h4, h5, h6⟩ | ⟨h1, h2, h3, h4, h5, h6⟩ | ⟨h1, h2, h3, h4, h5, h6⟩ | ⟨h1, h2, h3, h4, h5, h6⟩ <;> first | omega | contradiction | (have h9 := hv.2 h3; cases h9)⟩, (hv.sub (List.Sublist.cons _ (List.Sublist.refl _)))⟩
 refine xG (.bool false) rfl (ex_gtr rfl rfl rfl (decide_eq_false hb10)) (xK true (.bool false) rfl ?_)
 simp only [zP, po]
 refine xK false (.bool false) rfl ?_
 simp only [zP, po]
 refine wK k5 (cF rfl ?_)
 refine kS (tK k4 ?_)
 refine sK fun _ k12 => sK fun _ k13 => rL (xF (.pointer (some ⟨b2, 0, none⟩)) rfl (s12fa53_0 _ _ _) ?_)
 refine xL _ rfl (run_load1 s2na3 (hv.load 0 0 rfl rfl)) ?_
 simp only [zP, po]
 refine wK k13 (bB ?_)
 refine sK fun _ k14 => rL (xG (.bool false) rfl (ex_eql rfl rfl rfl (decide_eq_false (by omega))) ?_)
 refine xA (.bool false) rfl ?_
 simp only [zP, po]
 refine wK k14 (cF rfl ?_)
 refine sK fun _ k15 => rL (xG (.bool false) rfl (ex_eql rfl rfl rfl (decide_eq_false (by omega))) ?_)
 refine xA (.bool false) rfl ?_
 simp only [zP, po]
 refine wK k15 (cF rfl ?_)
 refine sK fun _ k16 => rL (xG (.bool true) rfl (ex_eql rfl rfl rfl (decide_eq_true (by omega))) ?_)
 refine xA (.bool true) rfl ?_
 simp only [zP, po]
 refine wK k16 (cT rfl ?_)
 refine sK fun _ k17 => rL (xF (.pointer (some ⟨b2, 3, none⟩)) rfl (s1fa53_3 _ _ _) ?_)
 refine xL _ rfl (run_load1 s1na27 (hv.load 0 3 rfl rfl)) (xG (.int .i64 (v.texts.length : Int)) rfl (ex_len0 Tryz.underlying27 rfl rfl) ?_)
 simp only [zP, po]
 by_cases hb18 : (v.texts.length : Int) > 0
 ·refine xG (.bool true) rfl (ex_gtr rfl rfl rfl (decide_eq_true hb18)) (xM (.bool true) rfl ?_)
  refine xF (.pointer (some ⟨b2, 3, none⟩)) rfl (s1fa53_3 _ _ _) ?_
  simp only [zP, po]
  refine xL _ rfl (run_load1 s1na27 (hv.load 0 3 rfl rfl)) (xC s31callable94 rfl ((refSetRight B _ _ _ _ _ hrt htm hv).mono ?_) rfl)
  rintro e w20 ⟨bl19, rfl, hbl19, hv⟩
  refine ⟨_, rfl, ?_⟩
  cases bl19
  ·refine xK true (.bool false) rfl ?_
   simp only [zP, po]
   refine xA (.bool false) rfl ?_
   simp only [zP, po]
   refine wK k17 (rR ?_)
   refine bE (tR ?_)
   refine bR rfl rfl (⟨false, rfl, ⟨fun h => (by cases h), fun h => by rcases h with ⟨h1, h2, h3, h4, h5⟩ | ⟨h1, h2, h3, h4, h5, h6⟩ | ⟨h1, h2, h3, h4, h5, h6⟩ | ⟨h1, h2, h3, h4, h5, h6⟩ | ⟨h1, h2, h3, h4, h5, h6⟩ <;> first | omega | contradiction | (have h9 := hbl19.2 h3; cases h9)⟩, (hv.sub (List.Sublist.cons _ (List.Sublist.refl _)))⟩)
  refine xK true (.bool true) rfl ?_
  simp only [zP, po]
  refine xA (.bool true) rfl ?_
  simp only [zP, po]
  refine wK k17 (rR ?_)
  refine bE (tR ?_)
  refine bR rfl rfl (⟨true, rfl, ⟨fun _ => .inr (.inr (.inr (.inl ⟨by omega, by omega, hbl19.1 rfl, Classical.not_not.1 hb6, by omega, by omega⟩))), fun _ => rfl⟩, (hv.sub (List.Sublist.cons _ (List.Sublist.refl _)))⟩)
 refine xG (.bool false) rfl (ex_gtr rfl rfl rfl (decide_eq_false hb18)) (xM (.bool false) rfl ?_)
 iterate 3 refine yN rfl ?_
 refine xK false (.bool false) rfl ?_
 simp only [zP, po]
 refine xA (.bool false) rfl ?_
 simp only [zP, po]
 refine wK k17 (rR ?_)
 refine bE (tR ?_)
 refine bR rfl rfl (⟨false, rfl, ⟨fun h => (by cases h), fun h => by rcases h with ⟨h1, h2, h3, h4, h5⟩ | ⟨h1, h2, h3, h4, h5, h6⟩ | ⟨h1, h2, h3, h4, h5, h6⟩ | ⟨h1, h2, h3, h4, h5, h6⟩ | ⟨h1, h2, h3, h4, h5, h6⟩ <;> first | omega | contradiction | (have h9 := hv.2 h3; cases h9)⟩, (hv.sub (List.Sublist.cons _ (List.Sublist.refl _)))⟩)
theorem s31callable95 : Callable Tryz.prog 95 := ⟨_, Tryz.func95, by kernel_rfl, by kernel_rfl⟩
set_option maxHeartbeats 8000000 in
theorem refRight_5 (B : Base) (H : List Res) (w : World) (v : Val) (ap at2 az : Option Addr) (cp ct cz : Nat) (hrp : RdV B [] ap (pairCells v.pairs)) (hrt : RdV B [] at2 (textCells v.texts)) (hrz : RdV B [] az (memCells v.zset)) (hpm : v.pairs.length ≤ 1000000) (htm : v.texts.length ≤ 1000000) (hzm : v.zset.length ≤ 1000000) (hk : v.kind = 5) (hv : Inv B H w) :
  Calls Tryz.prog 78 #[.agg #[.int .i64 v.kind, .string ⟨v.text.toArray⟩, .slice ap v.pairs.length cp, .slice at2 v.texts.length ct, .slice az v.zset.length cz]] w fun e w' => ∃ b, e = .returned (.bool b) ∧ (b = true ↔ ValOk v) ∧ Inv B H w' := by
 refine cW Tryz.func78 rfl Tryz.ntmps78 ?_
 simp only [al]
 refine sK fun _ k1 => rL (sl_box (L := [.int .i64 v.kind, .string ⟨v.text.toArray⟩, .slice ap v.pairs.length cp, .slice at2 v.texts.length ct, .slice az v.zset.length cz]) tV (wn rfl) rfl rfl hv (fun w => by kernel_rfl) (fun b2 w3 hv => ?_))
 refine xA (.bool false) rfl ?_
 simp only [zP, po]
 refine wK k1 (sK fun _ k4 => ?_)
 refine sK fun _ k5 => rL (xF (.pointer (some ⟨b2, 0, none⟩)) rfl (s12fa53_0 _ _ _) ?_)
 refine xL _ rfl (run_load1 s2na3 (hv.load 0 0 rfl rfl)) (xG (.bool false) rfl (ex_lss rfl rfl rfl (decide_eq_false (by omega))) ?_)
 simp only [zP, po]
 refine xM (.bool false) rfl (xF (.pointer (some ⟨b2, 0, none⟩)) rfl (s12fa53_0 _ _ _) ?_)
 refine xL _ rfl (run_load1 s2na3 (hv.load 0 0 rfl rfl)) ?_
 simp only [zP, po]
 refine xG (.bool false) rfl (ex_gtr rfl rfl rfl (decide_eq_false (by omega))) (xK false (.bool false) rfl ?_)
 refine xM (.bool false) rfl ?_
 simp only [zP, po]
 refine xF (.pointer (some ⟨b2, 0, none⟩)) rfl (s12fa53_0 _ _ _) (xL _ rfl (run_load1 s2na3 (hv.load 0 0 rfl rfl)) ?_)
 refine xG (.bool true) rfl (ex_neq rfl rfl rfl (decide_eq_true (by omega))) ?_
 simp only [zP, po]
 refine xM (.bool true) rfl (xF (.pointer (some ⟨b2, 1, none⟩)) rfl (s12fa53_1 _ _ _) ?_)
 refine xL _ rfl (run_load1 s3na9 (hv.load 0 1 rfl rfl)) ?_
 simp only [zP, po]
 by_cases hb6 : v.text ≠ ([] : List UInt8)
 ·refine xG (.bool true) rfl (ex_sneq rfl rfl rfl (decide_eq_true hb6)) (xK true (.bool true) rfl ?_)
  refine xK false (.bool true) rfl ?_
  simp only [zP, po]
  refine xM (.bool true) rfl ?_
  iterate 9 refine yN rfl ?_
  refine xK true (.bool true) rfl (xM (.bool true) rfl ?_)
  simp only [zP, po]
  iterate 14 refine yN rfl ?_
  refine xK true (.bool true) rfl (xM (.bool true) rfl ?_)
  iterate 9 refine yN rfl ?_
  refine xK true (.bool true) rfl ?_
  simp only [zP, po]
  refine wK k5 (cT rfl ?_)
  refine sK fun _ k7 => rL (xA (.bool false) rfl ?_)
  simp only [zP, po]
  refine wK k7 (rR ?_)
  refine tR (bR rfl rfl ?_)
  exact ⟨false, rfl, ⟨fun h => (by cases h), fun h => by rcases h with ⟨h1, h2, h3, h4, h5⟩ | ⟨h1, h2, h3, h4, h5, h6⟩ | ⟨h1, h2, h3, h4, h5, h6⟩ | ⟨h1, h2, h3, h4, h5, h6⟩ | ⟨h1, h2, h3, h4, h5, h6⟩ <;> first | omega | contradiction | (have h9 := hv.2 h3; cases h9)⟩, (hv.sub (List.Sublist.cons _ (List.Sublist.refl _)))⟩
 refine xG (.bool false) rfl (ex_sneq rfl rfl rfl (decide_eq_false hb6)) (xK true (.bool false) rfl ?_)
 refine xK false (.bool false) rfl ?_
 simp only [zP, po]
 refine xM (.bool false) rfl (xF (.pointer (some ⟨b2, 0, none⟩)) rfl (s12fa53_0 _ _ _) ?_)
 refine xL _ rfl (run_load1 s2na3 (hv.load 0 0 rfl rfl)) ?_
 simp only [zP, po]
 refine xG (.bool true) rfl (ex_neq rfl rfl rfl (decide_eq_true (by omega))) (xM (.bool true) rfl ?_)
 refine xF (.pointer (some ⟨b2, 2, none⟩)) rfl (s1fa53_2 _ _ _) ?_
 simp only [zP, po]
 refine xL _ rfl (run_load1 s1na50 (hv.load 0 2 rfl rfl)) (xG (.int .i64 (v.pairs.length : Int)) rfl (ex_len0 Tryz.underlying50 rfl rfl) ?_)
 by_cases hb8 : (v.pairs.length : Int) > 0
 ·refine xG (.bool true) rfl (ex_gtr rfl rfl rfl (decide_eq_true hb8)) ?_
  simp only [zP, po]
  refine xK true (.bool true) rfl (xK false (.bool true) rfl ?_)
  refine xM (.bool true) rfl ?_
  simp only [zP, po]
  iterate 14 refine yN rfl ?_
  refine xK true (.bool true) rfl (xM (.bool true) rfl ?_)
  iterate 9 refine yN rfl ?_
  refine xK true (.bool true) rfl ?_
  simp only [zP, po]
  refine wK k5 (cT rfl ?_)
  refine sK fun _ k9 => rL (xA (.bool false) rfl ?_)
  simp only [zP, po]
  refine wK k9 (rR ?_)
  refine tR (bR rfl rfl ?_)
  exact ⟨false, rfl, ⟨fun h => (by cases h), fun h => by rcases h with ⟨h1, h2, h3, h4, h5⟩ | ⟨h1, h2, h3, h4, h5, h6⟩ | ⟨h1, h2, h3, h4, h5, h6⟩ | ⟨h1, h2, h3, h4, h5, h6⟩ | ⟨h1, h2, h3, h4, h5, h6⟩ <;> first | omega | contradiction | (have h9 := hv.2 h3; cases h9)⟩, (hv.sub (List.Sublist.cons _ (List.Sublist.refl _)))⟩
 refine xG (.bool false) rfl (ex_gtr rfl rfl rfl (decide_eq_false hb8)) ?_
 simp only [zP, po]
 refine xK true (.bool false) rfl (xK false (.bool false) rfl ?_)
 refine xM (.bool false) rfl ?_
 simp only [zP, po]
 refine xF (.pointer (some ⟨b2, 0, none⟩)) rfl (s12fa53_0 _ _ _) (xL _ rfl (run_load1 s2na3 (hv.load 0 0 rfl rfl)) ?_)
 refine xG (.bool true) rfl (ex_neq rfl rfl rfl (decide_eq_true (by omega))) ?_
 simp only [zP, po]
 refine xM (.bool true) rfl (xF (.pointer (some ⟨b2, 0, none⟩)) rfl (s12fa53_0 _ _ _) ?_)
 refine xL _ rfl (run_load1 s2na3 (hv.load 0 0 rfl rfl)) ?_
 simp only [zP, po]
 refine xG (.bool true) rfl (ex_neq rfl rfl rfl (decide_eq_true (by omega))) (xK true (.bool true) rfl ?_)
 refine xM (.bool true) rfl ?_
 simp only [zP, po]
 refine xF (.pointer (some ⟨b2, 3, none⟩)) rfl (s1fa53_3 _ _ _) (xL _ rfl (run_load1 s1na27 (hv.load 0 3 rfl rfl)) ?_)
 refine xG (.int .i64 (v.texts.length : Int)) rfl (ex_len0 Tryz.underlying27 rfl rfl) ?_
 simp only [zP, po]
 by_cases hb10 : (v.texts.length : Int) > 0
 ·refine xG (.bool true) rfl (ex_gtr rfl rfl rfl (decide_eq_true hb10)) (xK true (.bool true) rfl ?_)
  refine xK false (.bool true) rfl ?_
  simp only [zP, po]
  refine xM (.bool true) rfl ?_
  iterate 9 refine yN rfl ?_
  refine xK true (.bool true) rfl ?_
  simp only [zP, po]
  refine wK k5 (cT rfl ?_)
  refine sK fun _ k11 => rL (xA (.bool false) rfl ?_)
  simp only [zP, po]
  refine wK k11 (rR ?_)
  refine tR (bR rfl rfl ?_)
  exact ⟨false, rfl, ⟨fun h => (by cases h), fun h => by rcases h with ⟨h1, h2, h3, h4, h5⟩ | ⟨h1, h2, h3, h4, h5, h6⟩ | ⟨h1, h2, h3, h4, h5, h6⟩ | ⟨h1, h2, h3, h4, h5, h6⟩ | ⟨h1, h2, h3, h4, h5, h6⟩ <;> first | omega | contradiction | (have h9 := hv.2 h3; cases h9)⟩, (hv.sub (List.Sublist.cons _ (List.Sublist.refl _)))⟩
 refine xG (.bool false) rfl (ex_gtr rfl rfl rfl (decide_eq_false hb10)) (xK true (.bool false) rfl ?_)
 refine xK false (.bool false) rfl ?_
 simp only [zP, po]
 refine xM (.bool false) rfl (xF (.pointer (some ⟨b2, 0, none⟩)) rfl (s12fa53_0 _ _ _) ?_)
 refine xL _ rfl (run_load1 s2na3 (hv.load 0 0 rfl rfl)) ?_
 simp only [zP, po]
 refine xG (.bool false) rfl (ex_neq rfl rfl rfl (decide_eq_false (by omega))) (xM (.bool false) rfl ?_)
 iterate 4 refine yN rfl ?_
 refine xK false (.bool false) rfl ?_
 simp only [zP, po]
 refine xK false (.bool false) rfl ?_
 simp only [zP, po]
 refine wK k5 (cF rfl ?_)
 refine kS (tK k4 ?_)
 refine sK fun _ k12 => sK fun _ k13 => rL (xF (.pointer (some ⟨b2, 0, none⟩)) rfl (s12fa53_0 _ _ _) ?_)
 refine xL _ rfl (run_load1 s2na3 (hv.load 0 0 rfl rfl)) ?_
 simp only [zP, po]
 refine wK k13 (bB ?_)
 refine sK fun _ k14 => rL (xG (.bool false) rfl (ex_eql rfl rfl rfl (decide_eq_false (by omega))) ?_)
 refine xA (.bool false) rfl ?_
 simp only [zP, po]
 refine wK k14 (cF rfl ?_)
 refine sK fun _ k15 => rL (xG (.bool false) rfl (ex_eql rfl rfl rfl (decide_eq_false (by omega))) ?_)
 refine xA (.bool false) rfl ?_
 simp only [zP, po]
 refine wK k15 (cF rfl ?_)
 refine sK fun _ k16 => rL (xG (.bool false) rfl (ex_eql rfl rfl rfl (decide_eq_false (by omega))) ?_)
 refine xA (.bool false) rfl ?_
 simp only [zP, po]
 refine wK k16 (cF rfl ?_)
 refine sK fun _ k17 => rL (xG (.bool true) rfl (ex_eql rfl rfl rfl (decide_eq_true (by omega))) ?_)
 refine xA (.bool true) rfl ?_
 simp only [zP, po]
 refine wK k17 (cT rfl ?_)
 refine sK fun _ k18 => rL (xF (.pointer (some ⟨b2, 4, none⟩)) rfl (s1fa53_4 _ _ _) ?_)
 refine xL _ rfl (run_load1 s1na51 (hv.load 0 4 rfl rfl)) (xG (.int .i64 (v.zset.length : Int)) rfl (ex_len0 Tryz.underlying51 rfl rfl) ?_)
 simp only [zP, po]
 by_cases hb19 : (v.zset.length : Int) > 0
 ·refine xG (.bool true) rfl (ex_gtr rfl rfl rfl (decide_eq_true hb19)) (xM (.bool true) rfl ?_)
  refine xF (.pointer (some ⟨b2, 4, none⟩)) rfl (s1fa53_4 _ _ _) ?_
  simp only [zP, po]
  refine xL _ rfl (run_load1 s1na51 (hv.load 0 4 rfl rfl)) (xC s31callable95 rfl ((refZsetRight B _ _ _ _ _ hrz hzm hv).mono ?_) rfl)
  rintro e w21 ⟨bl20, rfl, hbl20, hv⟩
  refine ⟨_, rfl, ?_⟩
  cases bl20
  ·refine xK true (.bool false) rfl ?_
   simp only [zP, po]
   refine xA (.bool false) rfl ?_
   simp only [zP, po]
   refine wK k18 (rR ?_)
   refine bE (tR ?_)
   refine bR rfl rfl (⟨false, rfl, ⟨fun h => (by cases h), fun h => by rcases h with ⟨h1, h2, h3, h4, h5⟩ | ⟨h1, h2, h3, h4, h5, h6⟩ | ⟨h1, h2, h3, h4, h5, h6⟩ | ⟨h1, h2, h3, h4, h5, h6⟩ | ⟨h1, h2, h3, h4, h5, h6⟩ <;> first | omega | contradiction | (have h9 := hbl20.2 h3; cases h9)⟩, (hv.sub (List.Sublist.cons _ (List.Sublist.refl _)))⟩)
  refine xK true (.bool true) rfl ?_
  simp only [zP, po]
  refine xA (.bool true) rfl ?_
  simp only [zP, po]
  refine wK k18 (rR ?_)
  refine bE (tR ?_)
  refine bR rfl rfl (⟨true, rfl, ⟨fun _ => .inr (.inr (.inr (.inr (⟨by omega, by omega, hbl20.1 rfl, Classical.not_not.1 hb6, by omega, by omega⟩)))), fun _ => rfl⟩, (hv.sub (List.Sublist.cons _ (List.Sublist.refl _)))⟩)
 refine xG (.bool false) rfl (ex_gtr rfl rfl rfl (decide_eq_false hb19)) (xM (.bool false) rfl ?_)
 iterate 3 refine yN rfl ?_
 refine xK false (.bool false) rfl ?_
 simp only [zP, po]
 refine xA (.bool false) rfl ?_
 simp only [zP, po]
 refine wK k18 (rR ?_)
 refine bE (tR ?_)
 refine bR rfl rfl (⟨false, rfl, ⟨fun h => (by cases h), fun h => by rcases h with ⟨h1, h2, h3, h4, h5⟩ | ⟨h1, h2, h3, h4, h5, h6⟩ | ⟨h1, h2, h3, h4, h5, h6⟩ | ⟨h1, h2, h3, h4, h5, h6⟩ | ⟨h1, h2, h3, h4, h5, h6⟩ <;> first | omega | contradiction | (have h9 := hv.2 h3; cases h9)⟩, (hv.sub (List.Sublist.cons _ (List.Sublist.refl _)))⟩)
theorem refRight0 (B : Base) (H : List Res) (w : World) (v : Val) (ap at2 az : Option Addr) (cp ct cz : Nat) (hrp : RdV B [] ap (pairCells v.pairs)) (hrt : RdV B [] at2 (textCells v.texts)) (hrz : RdV B [] az (memCells v.zset)) (hpm : v.pairs.length ≤ 1000000) (htm : v.texts.length ≤ 1000000) (hzm : v.zset.length ≤ 1000000) (hv : Inv B H w) :
  Calls Tryz.prog 78 #[.agg #[.int .i64 v.kind, .string ⟨v.text.toArray⟩, .slice ap v.pairs.length cp, .slice at2 v.texts.length ct, .slice az v.zset.length cz]] w fun e w' => ∃ b, e = .returned (.bool b) ∧ (b = true ↔ ValOk v) ∧ Inv B H w' := by
 by_cases h : v.kind < 1 ∨ 5 < v.kind
 ·exact refRight_0 B H w v ap at2 az cp ct cz hrp hrt hrz hpm htm hzm h hv
 rcases (show v.kind = 1 ∨ v.kind = 2 ∨ v.kind = 3 ∨ v.kind = 4 ∨ v.kind = 5 by omega) with h | h | h | h | h
 ·exact refRight_1 B H w v ap at2 az cp ct cz hrp hrt hrz hpm htm hzm h hv
 ·exact refRight_2 B H w v ap at2 az cp ct cz hrp hrt hrz hpm htm hzm h hv
 ·exact refRight_3 B H w v ap at2 az cp ct cz hrp hrt hrz hpm htm hzm h hv
 ·exact refRight_4 B H w v ap at2 az cp ct cz hrp hrt hrz hpm htm hzm h hv
 exact refRight_5 B H w v ap at2 az cp ct cz hrp hrt hrz hpm htm hzm h hv
theorem refRightV (B : Base) (H : List Res) (w : World) (v : Val) (p t z : Value) (h : ValAt B v p t z) (hv : Inv B H w) : Calls Tryz.prog 78 #[.agg (valCells v p t z).toArray] w fun e w' => ∃ b, e = .returned (.bool b) ∧ (b = true ↔ ValOk v) ∧ Inv B H w' := by
 obtain ⟨⟨ap, cp, rfl, -, hrp⟩, ⟨at2, ct, rfl, -, hrt⟩, ⟨az, cz, rfl, -, hrz⟩, hpm, htm, hzm⟩ := h
 exact refRight0 B H w v ap at2 az cp ct cz hrp hrt hrz hpm htm hzm hv
end Go.Proofs.YtffmbdagjpdieaaGreat
