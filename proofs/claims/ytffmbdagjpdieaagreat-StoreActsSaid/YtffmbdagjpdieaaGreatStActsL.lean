/- The reference's chains: One, Alive, At, Latest, Prune; the store's Latest, Versions, Mark. -/
import Derived.Test.YtffmbdagjpdieaaGreatStActsB
import Derived.Test.YtffmbdagjpdieaaGreatStActsK
import Derived.Test.YtffmbdagjpdieaaGreatStActsJ
import Derived.Test.YtffmbdagjpdieaaGreatRows
import Derived.Test.YtffmbdagjpdieaaGreatStActsG
set_option maxRecDepth 100000
namespace Go.Proofs.YtffmbdagjpdieaaGreat
open Go.RowKit Go.Pm
set_option maxHeartbeats 2000000 in
theorem refPairs0 (B : Base) (H : List Res) (w : World) (ad : Option Addr) (n c : Nat) (hv : Inv B H w) :
  Calls Tryz.prog 83 #[.slice ad n c, .slice none 0 0] w fun e w' => e = .returned (.bool (decide (n = 0))) ∧ Inv B H w' := by
 refine cW Tryz.func83 rfl Tryz.ntmps83 ?_
 simp only [al]
 refine sK fun _ k1 => rL (xA (.bool false) rfl ?_)
 simp only [zP, po]
 refine wK k1 (sK fun _ k2 => ?_)
 refine sK fun _ k3 => rL (xM (.slice ad n c) rfl ?_)
 refine xG (.int .i64 (n : Int)) rfl (ex_len0 Tryz.underlying50 rfl rfl) (xM (.slice none 0 0) rfl ?_)
 simp only [zP, po]
 refine xG (.int .i64 0) rfl (ex_len0 Tryz.underlying50 rfl rfl) ?_
 by_cases hb4 : (n : Int) ≠ 0
 ·refine xG (.bool true) rfl (ex_neq rfl rfl rfl (decide_eq_true hb4)) ?_
  simp only [zP, po]
  refine wK k3 (cT rfl ?_)
  refine sK fun _ k5 => rL (xA (.bool false) rfl ?_)
  simp only [zP, po]
  refine wK k5 (rR ?_)
  refine tR (bR rfl rfl ?_)
  exact ⟨congrArg (fun b => Ending.returned (Value.bool b)) (by symm; first | exact decide_eq_true (by omega) | exact decide_eq_false (by omega)), hv⟩
 refine xG (.bool false) rfl (ex_neq rfl rfl rfl (decide_eq_false hb4)) ?_
 simp only [zP, po]
 refine wK k3 (cF rfl ?_)
 refine kS (tK k2 ?_)
 refine sK fun _ k6 => sK fun _ k7 => rL (xA (.int .i64 0) rfl ?_)
 simp only [zP, po]
 refine wK k7 (bB ?_)
 gi_loopw [5] (fun x5 wr => ∃ (i : Nat), x5 = .int .i64 (i : Int) ∧ Inv B H wr) (fun x5 _ => 0)
 case atStart => exact ⟨0, rfl, hv⟩
 case round =>
  obtain ⟨i, rfl, hv⟩ := hrel
  refine sK fun _ k9 => sK fun _ k10 => rL (xM (.int .i64 (i : Int)) rfl ?_)
  refine xM (.slice ad n c) rfl (xG (.int .i64 (n : Int)) rfl (ex_len0 Tryz.underlying50 rfl rfl) ?_)
  simp only [zP, po]
  refine xG (.bool false) rfl (ex_lss rfl rfl rfl (decide_eq_false (by omega))) ?_
  simp only [zP, po]
  refine wK k10 (cF rfl ?_)
  refine xE (tX ?_)
  refine tX (bH ?_)
  refine tK k6 (sK fun _ k11 => ?_)
  refine rL (xA (.bool true) rfl ?_)
  simp only [zP, po]
  refine wK k11 (rR ?_)
  refine bR rfl rfl (⟨congrArg (fun b => Ending.returned (Value.bool b)) (by symm; first | exact decide_eq_true (by omega) | exact decide_eq_false (by omega)), hv⟩)
set_option maxHeartbeats 2000000 in
theorem refWords0 (B : Base) (H : List Res) (w : World) (ad : Option Addr) (n c : Nat) (hv : Inv B H w) :
  Calls Tryz.prog 37 #[.slice ad n c, .slice none 0 0] w fun e w' => e = .returned (.bool (decide (n = 0))) ∧ Inv B H w' := by
 refine cW Tryz.func37 rfl Tryz.ntmps37 ?_
 simp only [al]
 refine sK fun _ k1 => rL (xA (.bool false) rfl ?_)
 simp only [zP, po]
 refine wK k1 (sK fun _ k2 => ?_)
 refine sK fun _ k3 => rL (xM (.slice ad n c) rfl ?_)
 refine xG (.int .i64 (n : Int)) rfl (ex_len0 Tryz.underlying27 rfl rfl) (xM (.slice none 0 0) rfl ?_)
 simp only [zP, po]
 refine xG (.int .i64 0) rfl (ex_len0 Tryz.underlying27 rfl rfl) ?_
 by_cases hb4 : (n : Int) ≠ 0
 ·refine xG (.bool true) rfl (ex_neq rfl rfl rfl (decide_eq_true hb4)) ?_
  simp only [zP, po]
  refine wK k3 (cT rfl ?_)
  refine sK fun _ k5 => rL (xA (.bool false) rfl ?_)
  simp only [zP, po]
  refine wK k5 (rR ?_)
  refine tR (bR rfl rfl ?_)
  exact ⟨congrArg (fun b => Ending.returned (Value.bool b)) (by symm; first | exact decide_eq_true (by omega) | exact decide_eq_false (by omega)), hv⟩
 refine xG (.bool false) rfl (ex_neq rfl rfl rfl (decide_eq_false hb4)) ?_
 simp only [zP, po]
 refine wK k3 (cF rfl ?_)
 refine kS (tK k2 ?_)
 refine sK fun _ k6 => sK fun _ k7 => rL (xA (.int .i64 0) rfl ?_)
 simp only [zP, po]
 refine wK k7 (bB ?_)
 gi_loopw [5] (fun x5 wr => ∃ (i : Nat), x5 = .int .i64 (i : Int) ∧ Inv B H wr) (fun x5 _ => 0)
 case atStart => exact ⟨0, rfl, hv⟩
 case round =>
  obtain ⟨i, rfl, hv⟩ := hrel
  refine sK fun _ k9 => sK fun _ k10 => rL (xM (.int .i64 (i : Int)) rfl ?_)
  refine xM (.slice ad n c) rfl (xG (.int .i64 (n : Int)) rfl (ex_len0 Tryz.underlying27 rfl rfl) ?_)
  simp only [zP, po]
  refine xG (.bool false) rfl (ex_lss rfl rfl rfl (decide_eq_false (by omega))) ?_
  simp only [zP, po]
  refine wK k10 (cF rfl ?_)
  refine xE (tX ?_)
  refine tX (bH ?_)
  refine tK k6 (sK fun _ k11 => ?_)
  refine rL (xA (.bool true) rfl ?_)
  simp only [zP, po]
  refine wK k11 (rR ?_)
  refine bR rfl rfl (⟨congrArg (fun b => Ending.returned (Value.bool b)) (by symm; first | exact decide_eq_true (by omega) | exact decide_eq_false (by omega)), hv⟩)
set_option maxHeartbeats 2000000 in
theorem refMems0 (B : Base) (H : List Res) (w : World) (ad : Option Addr) (n c : Nat) (hv : Inv B H w) :
  Calls Tryz.prog 84 #[.slice ad n c, .slice none 0 0] w fun e w' => e = .returned (.bool (decide (n = 0))) ∧ Inv B H w' := by
 refine cW Tryz.func84 rfl Tryz.ntmps84 ?_
 simp only [al]
 refine sK fun _ k1 => rL (xA (.bool false) rfl ?_)
 simp only [zP, po]
 refine wK k1 (sK fun _ k2 => ?_)
 refine sK fun _ k3 => rL (xM (.slice ad n c) rfl ?_)
 refine xG (.int .i64 (n : Int)) rfl (ex_len0 Tryz.underlying51 rfl rfl) (xM (.slice none 0 0) rfl ?_)
 simp only [zP, po]
 refine xG (.int .i64 0) rfl (ex_len0 Tryz.underlying51 rfl rfl) ?_
 by_cases hb4 : (n : Int) ≠ 0
 ·refine xG (.bool true) rfl (ex_neq rfl rfl rfl (decide_eq_true hb4)) ?_
  simp only [zP, po]
  refine wK k3 (cT rfl ?_)
  refine sK fun _ k5 => rL (xA (.bool false) rfl ?_)
  simp only [zP, po]
  refine wK k5 (rR ?_)
  refine tR (bR rfl rfl ?_)
  exact ⟨congrArg (fun b => Ending.returned (Value.bool b)) (by symm; first | exact decide_eq_true (by omega) | exact decide_eq_false (by omega)), hv⟩
 refine xG (.bool false) rfl (ex_neq rfl rfl rfl (decide_eq_false hb4)) ?_
 simp only [zP, po]
 refine wK k3 (cF rfl ?_)
 refine kS (tK k2 ?_)
 refine sK fun _ k6 => sK fun _ k7 => rL (xA (.int .i64 0) rfl ?_)
 simp only [zP, po]
 refine wK k7 (bB ?_)
 gi_loopw [5] (fun x5 wr => ∃ (i : Nat), x5 = .int .i64 (i : Int) ∧ Inv B H wr) (fun x5 _ => 0)
 case atStart => exact ⟨0, rfl, hv⟩
 case round =>
  obtain ⟨i, rfl, hv⟩ := hrel
  refine sK fun _ k9 => sK fun _ k10 => rL (xM (.int .i64 (i : Int)) rfl ?_)
  refine xM (.slice ad n c) rfl (xG (.int .i64 (n : Int)) rfl (ex_len0 Tryz.underlying51 rfl rfl) ?_)
  simp only [zP, po]
  refine xG (.bool false) rfl (ex_lss rfl rfl rfl (decide_eq_false (by omega))) ?_
  simp only [zP, po]
  refine wK k10 (cF rfl ?_)
  refine xE (tX ?_)
  refine tX (bH ?_)
  refine tK k6 (sK fun _ k11 => ?_)
  refine rL (xA (.bool true) rfl ?_)
  simp only [zP, po]
  refine wK k11 (rR ?_)
  refine bR rfl rfl (⟨congrArg (fun b => Ending.returned (Value.bool b)) (by symm; first | exact decide_eq_true (by omega) | exact decide_eq_false (by omega)), hv⟩)
set_option maxHeartbeats 2000000 in
theorem refSameZ0 (B : Base) (H : List Res) (w : World) (v : Val) (ap at2 az : Option Addr) (cp ct cz : Nat) (hv : Inv B H w) :
  Calls Tryz.prog 66 #[.agg #[.int .i64 v.kind, .string ⟨v.text.toArray⟩, .slice ap v.pairs.length cp, .slice at2 v.texts.length ct, .slice az v.zset.length cz], .agg #[.int .i64 0, .string ⟨([] : List UInt8).toArray⟩, .slice none 0 0, .slice none 0 0, .slice none 0 0]] w fun e w' => e = .returned (.bool (decide (ZeroVal v))) ∧ Inv B H w' := by
 refine cW Tryz.func66 rfl Tryz.ntmps66 ?_
 simp only [al]
 refine sK fun _ k1 => rL (sl_box (L := [.int .i64 v.kind, .string ⟨v.text.toArray⟩, .slice ap v.pairs.length cp, .slice at2 v.texts.length ct, .slice az v.zset.length cz]) tV (wn rfl) rfl rfl hv (fun w => by kernel_rfl) (fun b2 w3 hv => ?_))
 refine sl_box (L := [.int .i64 0, .string ⟨([] : List UInt8).toArray⟩, .slice none 0 0, .slice none 0 0, .slice none 0 0]) tV (wn rfl) rfl rfl hv (fun w => by kernel_rfl) (fun b4 w5 hv => ?_)
 refine xA (.bool false) rfl ?_
 simp only [zP, po]
 refine wK k1 (sK fun _ k6 => ?_)
 refine rL (xF (.pointer (some ⟨b2, 0, none⟩)) rfl (s12fa53_0 _ _ _) ?_)
 refine xL _ rfl (run_load1 s2na3 (hv.load 1 0 rfl rfl)) (xF (.pointer (some ⟨b4, 0, none⟩)) rfl (s12fa53_0 _ _ _) ?_)
 simp only [zP, po]
 refine xL _ rfl (run_load1 s2na3 (hv.load 0 0 rfl rfl)) ?_
 by_cases hb7 : v.kind = 0
 ·refine xG (.bool true) rfl (ex_eql rfl rfl rfl (decide_eq_true hb7)) (xM (.bool true) rfl ?_)
  simp only [zP, po]
  refine xF (.pointer (some ⟨b2, 1, none⟩)) rfl (s12fa53_1 _ _ _) (xL _ rfl (run_load1 s3na9 (hv.load 1 1 rfl rfl)) ?_)
  refine xF (.pointer (some ⟨b4, 1, none⟩)) rfl (s12fa53_1 _ _ _) ?_
  simp only [zP, po]
  refine xL _ rfl (run_load1 s3na9 (hv.load 0 1 rfl rfl)) ?_
  by_cases hb8 : v.text = ([] : List UInt8)
  ·refine xG (.bool true) rfl (ex_seql rfl rfl rfl (decide_eq_true hb8)) (xK true (.bool true) rfl ?_)
   simp only [zP, po]
   refine xM (.bool true) rfl (xF (.pointer (some ⟨b2, 2, none⟩)) rfl (s1fa53_2 _ _ _) ?_)
   refine xL _ rfl (run_load1 s1na50 (hv.load 1 2 rfl rfl)) ?_
   simp only [zP, po]
   refine xF (.pointer (some ⟨b4, 2, none⟩)) rfl (s1fa53_2 _ _ _) (xL _ rfl (run_load1 s1na50 (hv.load 0 2 rfl rfl)) ?_)
   by_cases hq9 : v.pairs.length = 0
   ·refine xC s18callable83 rfl ((calls_bool (refPairs0 B _ _ _ _ _ hv) (decide_eq_true hq9)).mono ?_) rfl
    rintro e w10 ⟨rfl, hv⟩
    refine ⟨_, rfl, ?_⟩
    simp only [zP, po]
    refine xK true (.bool true) rfl (xM (.bool true) rfl ?_)
    refine xF (.pointer (some ⟨b2, 3, none⟩)) rfl (s1fa53_3 _ _ _) ?_
    simp only [zP, po]
    refine xL _ rfl (run_load1 s1na27 (hv.load 1 3 rfl rfl)) (xF (.pointer (some ⟨b4, 3, none⟩)) rfl (s1fa53_3 _ _ _) ?_)
    refine xL _ rfl (run_load1 s1na27 (hv.load 0 3 rfl rfl)) ?_
    simp only [zP, po]
    by_cases hq11 : v.texts.length = 0
    ·refine xC s18callable37 rfl ((calls_bool (refWords0 B _ _ _ _ _ hv) (decide_eq_true hq11)).mono ?_) rfl
     rintro e w12 ⟨rfl, hv⟩
     refine ⟨_, rfl, ?_⟩
     refine xK true (.bool true) rfl (xM (.bool true) rfl ?_)
     simp only [zP, po]
     refine xF (.pointer (some ⟨b2, 4, none⟩)) rfl (s1fa53_4 _ _ _) (xL _ rfl (run_load1 s1na51 (hv.load 1 4 rfl rfl)) ?_)
     refine xF (.pointer (some ⟨b4, 4, none⟩)) rfl (s1fa53_4 _ _ _) ?_
     simp only [zP, po]
     refine xL _ rfl (run_load1 s1na51 (hv.load 0 4 rfl rfl)) ?_
     by_cases hq13 : v.zset.length = 0
     ·refine xC s18callable84 rfl ((calls_bool (refMems0 B _ _ _ _ _ hv) (decide_eq_true hq13)).mono ?_) rfl
      rintro e w14 ⟨rfl, hv⟩
      refine ⟨_, rfl, ?_⟩
      refine xK true (.bool true) rfl ?_
      simp only [zP, po]
      refine xA (.bool true) rfl ?_
      simp only [zP, po]
      refine wK k6 (rR ?_)
      refine bR rfl rfl (⟨congrArg (fun b => Ending.returned (Value.bool b)) (by symm; first | exact decide_eq_true ⟨by omega, by assumption, by omega, by omega, by omega⟩ | exact decide_eq_false (fun ⟨h1, h2, h3, h4, h5⟩ => by first | omega | contradiction)), (hv.sub (List.Sublist.cons _ (List.Sublist.cons _ (List.Sublist.refl _))))⟩)
     refine xC s18callable84 rfl ((calls_bool (refMems0 B _ _ _ _ _ hv) (decide_eq_false hq13)).mono ?_) rfl
     rintro e w15 ⟨rfl, hv⟩
     refine ⟨_, rfl, ?_⟩
     refine xK true (.bool false) rfl ?_
     simp only [zP, po]
     refine xA (.bool false) rfl ?_
     simp only [zP, po]
     refine wK k6 (rR ?_)
     refine bR rfl rfl (⟨congrArg (fun b => Ending.returned (Value.bool b)) (by symm; first | exact decide_eq_true ⟨by omega, by assumption, by omega, by omega, by omega⟩ | exact decide_eq_false (fun ⟨h1, h2, h3, h4, h5⟩ => by first | omega | contradiction)), (hv.sub (List.Sublist.cons _ (List.Sublist.cons _ (List.Sublist.refl _))))⟩)
    refine xC s18callable37 rfl ((calls_bool (refWords0 B _ _ _ _ _ hv) (decide_eq_false hq11)).mono ?_) rfl
    rintro e w16 ⟨rfl, hv⟩
    refine ⟨_, rfl, ?_⟩
    refine xK true (.bool false) rfl (xM (.bool false) rfl ?_)
    simp only [zP, po]
    iterate 5 refine yN rfl ?_
    refine xK false (.bool false) rfl (xA (.bool false) rfl ?_)
    simp only [zP, po]
    refine wK k6 (rR ?_)
    refine bR rfl rfl (⟨congrArg (fun b => Ending.returned (Value.bool b)) (by symm; first | exact decide_eq_true ⟨by omega, by assumption, by omega, by omega, by omega⟩ | exact decide_eq_false (fun ⟨h1, h2, h3, h4, h5⟩ => by first | omega | contradiction)), (hv.sub (List.Sublist.cons _ (List.Sublist.cons _ (List.Sublist.refl _))))⟩)
   refine xC s18callable83 rfl ((calls_bool (refPairs0 B _ _ _ _ _ hv) (decide_eq_false hq9)).mono ?_) rfl
   rintro e w17 ⟨rfl, hv⟩
   refine ⟨_, rfl, ?_⟩
   simp only [zP, po]
   refine xK true (.bool false) rfl (xM (.bool false) rfl ?_)
   iterate 5 refine yN rfl ?_
   refine xK false (.bool false) rfl ?_
   simp only [zP, po]
   refine xM (.bool false) rfl ?_
   iterate 5 refine yN rfl ?_
   refine xK false (.bool false) rfl (xA (.bool false) rfl ?_)
   simp only [zP, po]
   refine wK k6 (rR ?_)
   refine bR rfl rfl (⟨congrArg (fun b => Ending.returned (Value.bool b)) (by symm; first | exact decide_eq_true ⟨by omega, by assumption, by omega, by omega, by omega⟩ | exact decide_eq_false (fun ⟨h1, h2, h3, h4, h5⟩ => by first | omega | contradiction)), (hv.sub (List.Sublist.cons _ (List.Sublist.cons _ (List.Sublist.refl _))))⟩)
  refine xG (.bool false) rfl (ex_seql rfl rfl rfl (decide_eq_false hb8)) (xK true (.bool false) rfl ?_)
  simp only [zP, po]
  refine xM (.bool false) rfl ?_
  iterate 5 refine yN rfl ?_
  refine xK false (.bool false) rfl (xM (.bool false) rfl ?_)
  simp only [zP, po]
  iterate 5 refine yN rfl ?_
  refine xK false (.bool false) rfl (xM (.bool false) rfl ?_)
  iterate 5 refine yN rfl ?_
  refine xK false (.bool false) rfl ?_
  simp only [zP, po]
  refine xA (.bool false) rfl ?_
  simp only [zP, po]
  refine wK k6 (rR ?_)
  refine bR rfl rfl (⟨congrArg (fun b => Ending.returned (Value.bool b)) (by symm; first | exact decide_eq_true ⟨by omega, by assumption, by omega, by omega, by omega⟩ | exact decide_eq_false (fun ⟨h1, h2, h3, h4, h5⟩ => by first | omega | contradiction)), (hv.sub (List.Sublist.cons _ (List.Sublist.cons _ (List.Sublist.refl _))))⟩)
 refine xG (.bool false) rfl (ex_eql rfl rfl rfl (decide_eq_false hb7)) (xM (.bool false) rfl ?_)
 simp only [zP, po]
 iterate 5 refine yN rfl ?_
 refine xK false (.bool false) rfl (xM (.bool false) rfl ?_)
 iterate 5 refine yN rfl ?_
 refine xK false (.bool false) rfl ?_
 simp only [zP, po]
 refine xM (.bool false) rfl ?_
 iterate 5 refine yN rfl ?_
 refine xK false (.bool false) rfl (xM (.bool false) rfl ?_)
 simp only [zP, po]
 iterate 5 refine yN rfl ?_
 refine xK false (.bool false) rfl (xA (.bool false) rfl ?_)
 simp only [zP, po]
 refine wK k6 (rR ?_)
 refine bR rfl rfl (⟨congrArg (fun b => Ending.returned (Value.bool b)) (by symm; first | exact decide_eq_true ⟨by omega, by assumption, by omega, by omega, by omega⟩ | exact decide_eq_false (fun ⟨h1, h2, h3, h4, h5⟩ => by first | omega | contradiction)), (hv.sub (List.Sublist.cons _ (List.Sublist.cons _ (List.Sublist.refl _))))⟩)
theorem refSameZ (B : Base) (H : List Res) (w : World) (v : Val) (p t z : Value) (h : ValAt B v p t z) (hv : Inv B H w) : Calls Tryz.prog 66 #[.agg (valCells v p t z).toArray, .agg #[.int .i64 0, .string ⟨([] : List UInt8).toArray⟩, .slice none 0 0, .slice none 0 0, .slice none 0 0]] w fun e w' => e = .returned (.bool (decide (ZeroVal v))) ∧ Inv B H w' := by
 obtain ⟨⟨ap, cp, rfl, -, -⟩, ⟨at2, ct, rfl, -, -⟩, ⟨az, cz, rfl, -, -⟩, -, -, -⟩ := h
 exact refSameZ0 B H w v ap at2 az cp ct cz hv
def OneOk (v : Ver) : Prop := VerOk v ∧ 0 < v.stamp ∧ v.stamp ≤ 1152921504606846975
theorem s32callable78 : Callable Tryz.prog 78 := ⟨_, Tryz.func78, by kernel_rfl, by kernel_rfl⟩
set_option maxHeartbeats 4000000 in
theorem refOne (B : Base) (H : List Res) (w : World) (v : Ver) (p t z : Value) (h : ValAt B v.val p t z) (hv : Inv B H w) :
  Calls Tryz.prog 55 #[.agg #[.int .i64 v.stamp, .bool v.gone, .int .i64 v.expire, .int .i64 v.val.kind, .string ⟨v.val.text.toArray⟩, p, t, z]] w fun e w' => ∃ b, e = .returned (.bool b) ∧ (b = true ↔ OneOk v) ∧ Inv B H w' := by
 refine cW Tryz.func55 rfl Tryz.ntmps55 ?_
 simp only [al]
 refine sK fun _ k1 => rL (sl_box (L := [.int .i64 v.stamp, .bool v.gone, .int .i64 v.expire, .int .i64 v.val.kind, .string ⟨v.val.text.toArray⟩, p, t, z]) tV (wn rfl) rfl rfl hv (fun w => by kernel_rfl) (fun b2 w3 hv => ?_))
 refine xA (.bool false) rfl ?_
 simp only [zP, po]
 refine wK k1 (sK fun _ k4 => ?_)
 refine sK fun _ k5 => rL (xF (.pointer (some ⟨b2, 0, none⟩)) rfl (s2fa55_0 _ _ _) ?_)
 refine xL _ rfl (run_load1 s2na3 (hv.load 0 0 rfl rfl)) ?_
 by_cases hb6 : v.stamp < 1
 ·refine xG (.bool true) rfl (ex_lss rfl rfl rfl (decide_eq_true hb6)) ?_
  simp only [zP, po]
  refine xM (.bool true) rfl ?_
  iterate 3 refine yN rfl ?_
  refine xK true (.bool true) rfl (xM (.bool true) rfl ?_)
  simp only [zP, po]
  iterate 3 refine yN rfl ?_
  refine xK true (.bool true) rfl (xM (.bool true) rfl ?_)
  iterate 3 refine yN rfl ?_
  refine xK true (.bool true) rfl ?_
  simp only [zP, po]
  refine wK k5 (cT rfl ?_)
  refine sK fun _ k7 => rL (xA (.bool false) rfl ?_)
  simp only [zP, po]
  refine wK k7 (rR ?_)
  refine tR (bR rfl rfl ?_)
  exact ⟨false, rfl, ⟨fun h => (by cases h), fun ⟨h1, h2, h3⟩ => by rcases h1 with ⟨_, h4, _⟩ | ⟨_, h4, h5, _⟩ <;> omega⟩, (hv.sub (List.Sublist.cons _ (List.Sublist.refl _)))⟩
 refine xG (.bool false) rfl (ex_lss rfl rfl rfl (decide_eq_false hb6)) ?_
 simp only [zP, po]
 refine xM (.bool false) rfl (xF (.pointer (some ⟨b2, 0, none⟩)) rfl (s2fa55_0 _ _ _) ?_)
 refine xL _ rfl (run_load1 s2na3 (hv.load 0 0 rfl rfl)) ?_
 simp only [zP, po]
 by_cases hb8 : v.stamp > 1152921504606846975
 ·refine xG (.bool true) rfl (ex_gtr rfl rfl rfl (decide_eq_true hb8)) (xK false (.bool true) rfl ?_)
  refine xM (.bool true) rfl ?_
  simp only [zP, po]
  iterate 3 refine yN rfl ?_
  refine xK true (.bool true) rfl (xM (.bool true) rfl ?_)
  iterate 3 refine yN rfl ?_
  refine xK true (.bool true) rfl ?_
  simp only [zP, po]
  refine wK k5 (cT rfl ?_)
  refine sK fun _ k9 => rL (xA (.bool false) rfl ?_)
  simp only [zP, po]
  refine wK k9 (rR ?_)
  refine tR (bR rfl rfl ?_)
  exact ⟨false, rfl, ⟨fun h => (by cases h), fun ⟨h1, h2, h3⟩ => by rcases h1 with ⟨_, h4, _⟩ | ⟨_, h4, h5, _⟩ <;> omega⟩, (hv.sub (List.Sublist.cons _ (List.Sublist.refl _)))⟩
 refine xG (.bool false) rfl (ex_gtr rfl rfl rfl (decide_eq_false hb8)) (xK false (.bool false) rfl ?_)
 refine xM (.bool false) rfl ?_
 simp only [zP, po]
 refine xF (.pointer (some ⟨b2, 2, none⟩)) rfl (s2fa55_2 _ _ _) (xL _ rfl (run_load1 s2na3 (hv.load 0 2 rfl rfl)) ?_)
 by_cases hb10 : v.expire < 0
 ·refine xG (.bool true) rfl (ex_lss rfl rfl rfl (decide_eq_true hb10)) ?_
  simp only [zP, po]
  refine xK false (.bool true) rfl (xM (.bool true) rfl ?_)
  iterate 3 refine yN rfl ?_
  refine xK true (.bool true) rfl ?_
  simp only [zP, po]
  refine wK k5 (cT rfl ?_)
  refine sK fun _ k11 => rL (xA (.bool false) rfl ?_)
  simp only [zP, po]
  refine wK k11 (rR ?_)
  refine tR (bR rfl rfl ?_)
  exact ⟨false, rfl, ⟨fun h => (by cases h), fun ⟨h1, h2, h3⟩ => by rcases h1 with ⟨_, h4, _⟩ | ⟨_, h4, h5, _⟩ <;> omega⟩, (hv.sub (List.Sublist.cons _ (List.Sublist.refl _)))⟩
 refine xG (.bool false) rfl (ex_lss rfl rfl rfl (decide_eq_false hb10)) ?_
 simp only [zP, po]
 refine xK false (.bool false) rfl (xM (.bool false) rfl ?_)
 refine xF (.pointer (some ⟨b2, 2, none⟩)) rfl (s2fa55_2 _ _ _) ?_
 simp only [zP, po]
 refine xL _ rfl (run_load1 s2na3 (hv.load 0 2 rfl rfl)) ?_
 by_cases hb12 : v.expire > 1099511627776
 ·refine xG (.bool true) rfl (ex_gtr rfl rfl rfl (decide_eq_true hb12)) (xK false (.bool true) rfl ?_)
  simp only [zP, po]
  refine wK k5 (cT rfl ?_)
  refine sK fun _ k13 => rL (xA (.bool false) rfl ?_)
  simp only [zP, po]
  refine wK k13 (rR ?_)
  refine tR (bR rfl rfl ?_)
  exact ⟨false, rfl, ⟨fun h => (by cases h), fun ⟨h1, h2, h3⟩ => by rcases h1 with ⟨_, h4, _⟩ | ⟨_, h4, h5, _⟩ <;> omega⟩, (hv.sub (List.Sublist.cons _ (List.Sublist.refl _)))⟩
 refine xG (.bool false) rfl (ex_gtr rfl rfl rfl (decide_eq_false hb12)) (xK false (.bool false) rfl ?_)
 simp only [zP, po]
 refine wK k5 (cF rfl ?_)
 refine kS (tK k4 ?_)
 refine sK fun _ k14 => sK fun _ k15 => rL (xF (.pointer (some ⟨b2, 1, none⟩)) rfl (s2fa55_1 _ _ _) ?_)
 refine xL _ rfl (run_load1 s2na4 (hv.load 0 1 rfl rfl)) ?_
 simp only [zP, po]
 refine wK k15 (wpIn_cond_split (t := v.gone) rfl (fun hc16 => ?_) (fun hc16 => ?_))
 ·refine sK fun _ k17 => rL (xF (.pointer (some ⟨b2, 2, none⟩)) rfl (s2fa55_2 _ _ _) ?_)
  refine xL _ rfl (run_load1 s2na3 (hv.load 0 2 rfl rfl)) ?_
  by_cases hb18 : v.expire = 0
  ·refine xG (.bool true) rfl (ex_eql rfl rfl rfl (decide_eq_true hb18)) ?_
   simp only [zP, po]
   refine xM (.bool true) rfl (xF (.pointer (some ⟨b2, 3, none⟩)) rfl (s1fa55_3 _ _ _) ?_)
   refine xL (.agg #[.int .i64 v.val.kind, .string ⟨v.val.text.toArray⟩, p, t, z]) rfl (run_load_mid (pre := [.int .i64 v.stamp, .bool v.gone, .int .i64 v.expire]) (mid := [.int .i64 v.val.kind, .string ⟨v.val.text.toArray⟩, p, t, z]) (post := []) s1wd53 (show Blk _ b2 ([.int .i64 v.stamp, .bool v.gone, .int .i64 v.expire] ++ [.int .i64 v.val.kind, .string ⟨v.val.text.toArray⟩, p, t, z] ++ []) _ from hv.get 0 rfl) rfl) ?_
   simp only [zP, po]
   refine xG (.agg #[.int .i64 0, .string ⟨([] : List UInt8).toArray⟩, .slice none 0 0, .slice none 0 0, .slice none 0 0]) rfl (ex_buildN (vs := #[]) rfl (by simp only [List.map_toArray, List.map_nil]) (by kernel_rfl)) ?_
   by_cases hq19 : ZeroVal v.val
   ·refine xC s27callable66 rfl ((calls_bool (refSameZ B _ _ v.val p t z h hv) (decide_eq_true hq19)).mono ?_) rfl
    rintro e w20 ⟨rfl, hv⟩
    refine ⟨_, rfl, ?_⟩
    refine xK true (.bool true) rfl ?_
    simp only [zP, po]
    refine xA (.bool true) rfl ?_
    simp only [zP, po]
    refine wK k17 (rR ?_)
    refine tR (bR rfl rfl ?_)
    exact ⟨true, rfl, ⟨fun _ => ⟨.inl ⟨hc16, by omega, by assumption⟩, by omega, by omega⟩, fun _ => rfl⟩, (hv.sub (List.Sublist.cons _ (List.Sublist.refl _)))⟩
   refine xC s27callable66 rfl ((calls_bool (refSameZ B _ _ v.val p t z h hv) (decide_eq_false hq19)).mono ?_) rfl
   rintro e w21 ⟨rfl, hv⟩
   refine ⟨_, rfl, ?_⟩
   refine xK true (.bool false) rfl ?_
   simp only [zP, po]
   refine xA (.bool false) rfl ?_
   simp only [zP, po]
   refine wK k17 (rR ?_)
   refine tR (bR rfl rfl ?_)
   exact ⟨false, rfl, ⟨fun h => (by cases h), fun ⟨h1, _, _⟩ => by rcases h1 with ⟨_, h4, h5⟩ | ⟨h4, _⟩ <;> first | omega | contradiction | (rw [h4] at hc16; cases hc16)⟩, (hv.sub (List.Sublist.cons _ (List.Sublist.refl _)))⟩
  refine xG (.bool false) rfl (ex_eql rfl rfl rfl (decide_eq_false hb18)) ?_
  simp only [zP, po]
  refine xM (.bool false) rfl ?_
  iterate 4 refine yN rfl ?_
  refine xK false (.bool false) rfl (xA (.bool false) rfl ?_)
  simp only [zP, po]
  refine wK k17 (rR ?_)
  refine tR (bR rfl rfl ?_)
  exact ⟨false, rfl, ⟨fun h => (by cases h), fun ⟨h1, _, _⟩ => by rcases h1 with ⟨_, h4, h5⟩ | ⟨h4, _⟩ <;> first | omega | contradiction | (rw [h4] at hc16; cases hc16)⟩, (hv.sub (List.Sublist.cons _ (List.Sublist.refl _)))⟩
 refine kS (tK k14 ?_)
 refine sK fun _ k22 => rL (xF (.pointer (some ⟨b2, 3, none⟩)) rfl (s1fa55_3 _ _ _) ?_)
 refine xL (.agg #[.int .i64 v.val.kind, .string ⟨v.val.text.toArray⟩, p, t, z]) rfl (run_load_mid (pre := [.int .i64 v.stamp, .bool v.gone, .int .i64 v.expire]) (mid := [.int .i64 v.val.kind, .string ⟨v.val.text.toArray⟩, p, t, z]) (post := []) s1wd53 (show Blk _ b2 ([.int .i64 v.stamp, .bool v.gone, .int .i64 v.expire] ++ [.int .i64 v.val.kind, .string ⟨v.val.text.toArray⟩, p, t, z] ++ []) _ from hv.get 0 rfl) rfl) (xC s32callable78 rfl ((refRightV B _ _ v.val p t z h hv).mono ?_) rfl)
 rintro e w24 ⟨bl23, rfl, hbl23, hv⟩
 refine ⟨_, rfl, ?_⟩
 cases bl23
 ·simp only [zP, po]
  refine xA (.bool false) rfl ?_
  simp only [zP, po]
  refine wK k22 (rR ?_)
  refine bR rfl rfl (⟨false, rfl, ⟨fun h => (by cases h), fun ⟨h1, _, _⟩ => by rcases h1 with ⟨h4, _⟩ | ⟨_, _, _, h4⟩ <;> first | (rw [h4] at hc16; cases hc16; done) | (have h9 := hbl23.2 h4; cases h9)⟩, (hv.sub (List.Sublist.cons _ (List.Sublist.refl _)))⟩)
 simp only [zP, po]
 refine xA (.bool true) rfl ?_
 simp only [zP, po]
 refine wK k22 (rR ?_)
 refine bR rfl rfl (⟨true, rfl, ⟨fun _ => ⟨.inr ⟨hc16, by omega, by omega, hbl23.1 rfl⟩, by omega, by omega⟩, fun _ => rfl⟩, (hv.sub (List.Sublist.cons _ (List.Sublist.refl _)))⟩)
set_option maxHeartbeats 2000000 in
theorem refAlive0 (B : Base) (H : List Res) (w : World) (v : Ver) (p t z : Value) (clock : Int) (hg : v.gone = true) (hv : Inv B H w) :
  Calls Tryz.prog 59 #[.agg #[.int .i64 v.stamp, .bool true, .int .i64 v.expire, .int .i64 v.val.kind, .string ⟨v.val.text.toArray⟩, p, t, z], .int .i64 clock] w fun e w' => e = .returned (.bool (aliveB v clock)) ∧ Inv B H w' := by
 refine cW Tryz.func59 rfl Tryz.ntmps59 ?_
 simp only [al]
 refine sK fun _ k1 => rL (sl_box (L := [.int .i64 v.stamp, .bool true, .int .i64 v.expire, .int .i64 v.val.kind, .string ⟨v.val.text.toArray⟩, p, t, z]) tV (wn rfl) rfl rfl hv (fun w => by kernel_rfl) (fun b2 w3 hv => ?_))
 refine xA (.bool false) rfl ?_
 simp only [zP, po]
 refine wK k1 (sK fun _ k4 => ?_)
 refine sK fun _ k5 => rL (xF (.pointer (some ⟨b2, 1, none⟩)) rfl (s2fa55_1 _ _ _) ?_)
 refine xL _ rfl (run_load1 s2na4 (hv.load 0 1 rfl rfl)) ?_
 simp only [zP, po]
 refine wK k5 (cT rfl ?_)
 refine sK fun _ k6 => rL (xA (.bool false) rfl ?_)
 simp only [zP, po]
 refine wK k6 (rR ?_)
 refine tR (bR rfl rfl ?_)
 exact ⟨congrArg (fun b => Ending.returned (Value.bool b)) (show false = aliveB v clock from by simp [aliveB, *]), (hv.sub (List.Sublist.cons _ (List.Sublist.refl _)))⟩
set_option maxHeartbeats 2000000 in
theorem refAlive1 (B : Base) (H : List Res) (w : World) (v : Ver) (p t z : Value) (clock : Int) (hg : v.gone = false) (hv : Inv B H w) :
  Calls Tryz.prog 59 #[.agg #[.int .i64 v.stamp, .bool false, .int .i64 v.expire, .int .i64 v.val.kind, .string ⟨v.val.text.toArray⟩, p, t, z], .int .i64 clock] w fun e w' => e = .returned (.bool (aliveB v clock)) ∧ Inv B H w' := by
 refine cW Tryz.func59 rfl Tryz.ntmps59 ?_
 simp only [al]
 refine sK fun _ k1 => rL (sl_box (L := [.int .i64 v.stamp, .bool false, .int .i64 v.expire, .int .i64 v.val.kind, .string ⟨v.val.text.toArray⟩, p, t, z]) tV (wn rfl) rfl rfl hv (fun w => by kernel_rfl) (fun b2 w3 hv => ?_))
 refine xA (.bool false) rfl ?_
 simp only [zP, po]
 refine wK k1 (sK fun _ k4 => ?_)
 refine sK fun _ k5 => rL (xF (.pointer (some ⟨b2, 1, none⟩)) rfl (s2fa55_1 _ _ _) ?_)
 refine xL _ rfl (run_load1 s2na4 (hv.load 0 1 rfl rfl)) ?_
 simp only [zP, po]
 refine wK k5 (cF rfl ?_)
 refine kS (tK k4 ?_)
 refine sK fun _ k6 => rL (xF (.pointer (some ⟨b2, 2, none⟩)) rfl (s2fa55_2 _ _ _) ?_)
 refine xL _ rfl (run_load1 s2na3 (hv.load 0 2 rfl rfl)) ?_
 by_cases hb7 : v.expire = 0
 ·refine xG (.bool true) rfl (ex_eql rfl rfl rfl (decide_eq_true hb7)) ?_
  simp only [zP, po]
  refine xM (.bool true) rfl ?_
  iterate 4 refine yN rfl ?_
  refine xK true (.bool true) rfl (xA (.bool true) rfl ?_)
  simp only [zP, po]
  refine wK k6 (rR ?_)
  refine bR rfl rfl (⟨congrArg (fun b => Ending.returned (Value.bool b)) (show true = aliveB v clock from by simp [aliveB, *]), (hv.sub (List.Sublist.cons _ (List.Sublist.refl _)))⟩)
 refine xG (.bool false) rfl (ex_eql rfl rfl rfl (decide_eq_false hb7)) ?_
 simp only [zP, po]
 refine xM (.bool false) rfl (xF (.pointer (some ⟨b2, 2, none⟩)) rfl (s2fa55_2 _ _ _) ?_)
 refine xL _ rfl (run_load1 s2na3 (hv.load 0 2 rfl rfl)) ?_
 simp only [zP, po]
 refine xM (.int .i64 clock) rfl ?_
 by_cases hb8 : v.expire > clock
 ·refine xG (.bool true) rfl (ex_gtr rfl rfl rfl (decide_eq_true hb8)) (xK false (.bool true) rfl ?_)
  simp only [zP, po]
  refine xA (.bool true) rfl ?_
  simp only [zP, po]
  refine wK k6 (rR ?_)
  refine bR rfl rfl (⟨congrArg (fun b => Ending.returned (Value.bool b)) (show true = aliveB v clock from by simp [aliveB, *]), (hv.sub (List.Sublist.cons _ (List.Sublist.refl _)))⟩)
 refine xG (.bool false) rfl (ex_gtr rfl rfl rfl (decide_eq_false hb8)) (xK false (.bool false) rfl ?_)
 simp only [zP, po]
 refine xA (.bool false) rfl ?_
 simp only [zP, po]
 refine wK k6 (rR ?_)
 refine bR rfl rfl (⟨congrArg (fun b => Ending.returned (Value.bool b)) (show false = aliveB v clock from by simp [aliveB, *]), (hv.sub (List.Sublist.cons _ (List.Sublist.refl _)))⟩)
theorem refAlive (B : Base) (H : List Res) (w : World) (v : Ver) (p t z : Value) (clock : Int) (hv : Inv B H w) : Calls Tryz.prog 59 #[.agg (verCells v p t z).toArray, .int .i64 clock] w fun e w' => e = .returned (.bool (aliveB v clock)) ∧ Inv B H w' := by
 cases hg : v.gone with
 | true => have := refAlive0 B H w v p t z clock hg hv; rw [← hg] at this; exact this
 | false => have := refAlive1 B H w v p t z clock hg hv; rw [← hg] at this; exact this
theorem uptoL_next {l : List Ver} {i : Nat} {x : Ver} (s : Int) (hx : l[i]? = some x) : uptoL (l.take (i + 1)) s = uptoL (l.take i) s ++ if x.stamp ≤ s then [x] else [] := by
 unfold uptoL
 rw [take_next hx, List.filter_append]
 by_cases h : x.stamp ≤ s <;> simp [h]
def latL (l : List Ver) : Int := (l.getLast?.map (·.stamp)).getD 0
theorem latL_next {l : List Ver} {i : Nat} {x : Ver} (hx : l[i]? = some x) : latL (l.take (i + 1)) = x.stamp := by
 unfold latL
 rw [take_last hx]; rfl
theorem s32al55 (w : World) : (Instr.alloc 55 true (.tuple #[])).run Tryz.prog w = .ok (.pointer (some ⟨w.heap.size, 0, none⟩)) (w.alloc (.cells ([.int .i64 0, .bool false, .int .i64 0, .int .i64 0, .string ⟨([] : List UInt8).toArray⟩, .slice none 0 0, .slice none 0 0, .slice none 0 0] : List Value).toArray 55)) := by kernel_rfl
set_option maxHeartbeats 4000000 in
theorem refAt (B : Base) (H : List Res) (w : World) (ad : Option Addr) (c : Nat) (s : Int) (xs : List Value) (l : List Ver) (hr : RdV B [] ad xs) (hxs : VersAt B l xs) (hm : l.length ≤ 100000) (hv : Inv B H w) :
  Calls Tryz.prog 63 #[.slice ad l.length c, .int .i64 s] w fun e w' => ∃ x p t z ok, e = .returned (.tuple #[.agg (verCells x p t z).toArray, .bool ok]) ∧ ((ok = true ∧ (uptoL l s).getLast? = some x ∧ ∃ (b o j : Nat), ad = some ⟨b, o, none⟩ ∧ l[j]? = some x ∧ Reads B [] b (o + j * 8) (verCells x p t z)) ∨ (ok = false ∧ (uptoL l s).getLast? = none ∧ x = zver ∧ p = .slice none 0 0 ∧ t = .slice none 0 0 ∧ z = .slice none 0 0)) ∧ ValAt B x.val p t z ∧ Inv B H w' := by
 refine cW Tryz.func63 rfl Tryz.ntmps63 ?_
 simp only [al]
 refine sK fun _ k1 => rL (sl_alloc tV (wn rfl) rfl hv s32al55 (fun b2 w3 hv => ?_))
 refine xA (.bool false) rfl ?_
 simp only [zP, po]
 refine wK k1 (sK fun _ k4 => ?_)
 refine rL (xA (.int .i64 (-1)) rfl ?_)
 simp only [zP, po]
 refine wK k4 (sK fun _ k5 => ?_)
 refine sK fun _ k6 => rL (xA (.int .i64 0) rfl ?_)
 simp only [zP, po]
 refine wK k6 (bB ?_)
 gi_loopw [6, 7] (fun x6 x7 wr => ∃ (i : Nat) (k : Int), x6 = .int .i64 k ∧ x7 = .int .i64 (i : Int) ∧ i ≤ l.length ∧ ((k = -1 ∧ uptoL (l.take i) s = []) ∨ ∃ j : Nat, k = (j : Int) ∧ j < i ∧ (uptoL (l.take i) s).getLast? = l[j]?) ∧ Inv B (Res.cell b2 [.int .i64 0, .bool false, .int .i64 0, .int .i64 0, .string ⟨([] : List UInt8).toArray⟩, .slice none 0 0, .slice none 0 0, .slice none 0 0] 55 :: H) wr) (fun x6 x7 _ => l.length - (intOf x7).toNat)
 case atStart => exact ⟨0, -1, rfl, rfl, Nat.zero_le _, .inl ⟨rfl, rfl⟩, hv⟩
 case round =>
  obtain ⟨i, k, rfl, rfl, hi, hk, hv⟩ := hrel
  refine sK fun _ k8 => sK fun _ k9 => rL (xM (.int .i64 (i : Int)) rfl ?_)
  refine xM (.slice ad l.length c) rfl (xG (.int .i64 (l.length : Int)) rfl (ex_len0 Tryz.underlying70 rfl rfl) ?_)
  simp only [zP, po]
  by_cases hb10 : (i : Int) < (l.length : Int)
  ·refine xG (.bool true) rfl (ex_lss rfl rfl rfl (decide_eq_true hb10)) ?_
   simp only [zP, po]
   refine wK k9 (cT rfl ?_)
   refine kS (tK k8 ?_)
   refine sK fun _ k11 => bB (sK fun _ k12 => ?_)
   obtain ⟨x, hx⟩ : ∃ x, l[i]? = some x := ⟨_, List.getElem?_eq_getElem (show i < l.length by omega)⟩
   obtain ⟨bb, bo, xp, xt, xz, had, hvalx, hrdx⟩ := VersAt.reads hxs hr hx
   subst had
   refine rL (xM (.slice (some ⟨bb, bo, none⟩) l.length c) rfl ?_)
   refine xM (.int .i64 (i : Int)) rfl (xG (.pointer (some ⟨bb, bo + i * 8, none⟩)) rfl (ex_index rfl rfl rfl (run_idx (k := i) Tryz.underlying70 s1es70 (by omega))) ?_)
   simp only [zP, po]
   refine xF (.pointer (some ⟨bb, bo + i * 8, none⟩)) rfl (s2fa55_0 _ _ _) (xL _ rfl (run_load1 s2na3 (hrdx _ _ _ (Base.Le.refl _) no_res hv 0 _ rfl)) ?_)
   refine xM (.int .i64 s) rfl ?_
   simp only [zP, po]
   by_cases hb13 : x.stamp ≤ s
   ·refine xG (.bool true) rfl (ex_leq rfl rfl rfl (decide_eq_true hb13)) ?_
    simp only [zP, po]
    refine wK k12 (cT rfl ?_)
    refine rL (xM (.int .i64 (i : Int)) rfl ?_)
    refine xA (.int .i64 (i : Int)) rfl (wL ?_)
    simp only [zP, po]
    refine bN (tK k11 ?_)
    refine rL (xM (.int .i64 (i : Int)) rfl ?_)
    refine xG (.int .i64 ((i + 1 : Nat) : Int)) rfl (ex_add rfl rfl rfl (by rw [i64_in (by omega)]; omega)) (xA (.int .i64 ((i + 1 : Nat) : Int)) rfl ?_)
    refine wL ?_
    simp only [zP, po]
    refine then_normal ?_
    go_roundw
    case rel => exact ⟨i + 1, _, rfl, rfl, by omega, .inr ⟨i, rfl, by omega, by rw [uptoL_next s hx, if_pos (by omega), hx]; simp⟩, hv⟩
    case measure => show l.length - (((i + 1 : Nat) : Int)).toNat < l.length - ((i : Int)).toNat; omega
   refine xG (.bool false) rfl (ex_leq rfl rfl rfl (decide_eq_false hb13)) ?_
   simp only [zP, po]
   refine wK k12 (cF rfl ?_)
   refine kS (bN ?_)
   refine tK k11 (rL ?_)
   refine xM (.int .i64 (i : Int)) rfl (xG (.int .i64 ((i + 1 : Nat) : Int)) rfl (ex_add rfl rfl rfl (by rw [i64_in (by omega)]; omega)) ?_)
   refine xA (.int .i64 ((i + 1 : Nat) : Int)) rfl (wL ?_)
   simp only [zP, po]
   refine then_normal ?_
   go_roundw
   case rel => exact ⟨i + 1, k, rfl, rfl, by omega, hk.imp (fun h => ⟨h.1, by rw [uptoL_next s hx, if_neg (by omega), List.append_nil]; exact h.2⟩) (fun ⟨j, h1, h2, h3⟩ => ⟨j, h1, by omega, by rw [uptoL_next s hx, if_neg (by omega), List.append_nil]; exact h3⟩), hv⟩
   case measure => show l.length - (((i + 1 : Nat) : Int)).toNat < l.length - ((i : Int)).toNat; omega
  refine xG (.bool false) rfl (ex_lss rfl rfl rfl (decide_eq_false hb10)) ?_
  simp only [zP, po]
  refine wK k9 (cF rfl ?_)
  refine xE (tX ?_)
  refine tX (bH ?_)
  refine tK k5 (sK fun _ k14 => ?_)
  refine sK fun _ k15 => ?_
  obtain rfl : i = l.length := by omega
  rw [List.take_length] at hk
  refine rL (xM (.int .i64 k) rfl ?_)
  by_cases hb16 : k < 0
  ·refine xG (.bool true) rfl (ex_lss rfl rfl rfl (decide_eq_true hb16)) ?_
   simp only [zP, po]
   refine wK k15 (cT rfl ?_)
   refine sK fun _ k17 => rL (xG (.agg #[.int .i64 0, .bool false, .int .i64 0, .int .i64 0, .string ⟨([] : List UInt8).toArray⟩, .slice none 0 0, .slice none 0 0, .slice none 0 0]) rfl (ex_buildN (vs := #[]) rfl (by simp only [List.map_toArray, List.map_nil]) (by kernel_rfl)) ?_)
   refine xS 0 rfl hv s1sz55 rfl (by exact ⟨rfl, rfl, rfl, rfl, rfl, rfl, rfl, rfl, trivial⟩) (fun w18 hv => ?_)
   simp only [zO, sp] at hv
   refine xA (.bool false) rfl ?_
   simp only [zP, po]
   refine wK k17 (rR ?_)
   refine tR (bodyPost_ret (res_cell2 rfl rfl (run_load_mid (pre := []) (mid := [.int .i64 0, .bool false, .int .i64 0, .int .i64 0, .string ⟨([] : List UInt8).toArray⟩, .slice none 0 0, .slice none 0 0, .slice none 0 0]) (post := []) s1wd55 (show Blk _ b2 ([] ++ [.int .i64 0, .bool false, .int .i64 0, .int .i64 0, .string ⟨([] : List UInt8).toArray⟩, .slice none 0 0, .slice none 0 0, .slice none 0 0] ++ []) _ from hv.get 0 rfl) rfl)) rfl ?_)
   exact ⟨zver, _, _, _, false, rfl, .inr ⟨rfl, (by rcases hk with ⟨-, h⟩ | ⟨j, h1, -, -⟩; rw [h]; rfl; omega), rfl, rfl, rfl, rfl⟩, zver_at B, (hv.sub (List.Sublist.cons _ (List.Sublist.refl _)))⟩
  refine xG (.bool false) rfl (ex_lss rfl rfl rfl (decide_eq_false hb16)) ?_
  simp only [zP, po]
  refine wK k15 (cF rfl ?_)
  refine kS (tK k14 ?_)
  refine sK fun _ k19 => ?_
  obtain ⟨j, rfl, hj1, hj2⟩ : ∃ j : Nat, k = (j : Int) ∧ j < l.length ∧ (uptoL l s).getLast? = l[j]? := hk.elim (fun h => by have := h.1; omega) id
  obtain ⟨y, hy⟩ : ∃ x, l[j]? = some x := ⟨_, List.getElem?_eq_getElem (show j < l.length by omega)⟩
  obtain ⟨bb, bo, yp, yt, yz, had, hvaly, hrdy⟩ := VersAt.reads hxs hr hy
  subst had
  refine rL (xM (.slice (some ⟨bb, bo, none⟩) l.length c) rfl ?_)
  refine xM (.int .i64 (j : Int)) rfl (xG (.pointer (some ⟨bb, bo + j * 8, none⟩)) rfl (ex_index rfl rfl rfl (run_idx (k := j) Tryz.underlying70 s1es70 (by omega))) ?_)
  simp only [zP, po]
  refine xL (.agg #[.int .i64 y.stamp, .bool y.gone, .int .i64 y.expire, .int .i64 y.val.kind, .string ⟨y.val.text.toArray⟩, yp, yt, yz]) rfl (run_loadR (cs := [.int .i64 y.stamp, .bool y.gone, .int .i64 y.expire, .int .i64 y.val.kind, .string ⟨y.val.text.toArray⟩, yp, yt, yz]) s1wd55 (Reads.mid (pre := []) (mid := [.int .i64 y.stamp, .bool y.gone, .int .i64 y.expire, .int .i64 y.val.kind, .string ⟨y.val.text.toArray⟩, yp, yt, yz]) (post := []) hrdy _ _ _ (Base.Le.refl _) no_res hv)) (xS 0 rfl hv s1sz55 rfl (by exact ⟨rfl, rfl, rfl, rfl, rfl, hvaly.p.one, hvaly.t.one, hvaly.z.one, trivial⟩) (fun w20 hv => ?_))
  simp only [zO, sp] at hv
  refine xA (.bool true) rfl ?_
  simp only [zP, po]
  refine wK k19 (rR ?_)
  refine bodyPost_ret (res_cell2 rfl rfl (run_load_mid (pre := []) (mid := [.int .i64 y.stamp, .bool y.gone, .int .i64 y.expire, .int .i64 y.val.kind, .string ⟨y.val.text.toArray⟩, yp, yt, yz]) (post := []) s1wd55 (show Blk _ b2 ([] ++ [.int .i64 y.stamp, .bool y.gone, .int .i64 y.expire, .int .i64 y.val.kind, .string ⟨y.val.text.toArray⟩, yp, yt, yz] ++ []) _ from hv.get 0 rfl) rfl)) rfl (⟨y, yp, yt, yz, true, rfl, .inl ⟨rfl, hj2.trans hy, bb, bo, j, rfl, hy, hrdy⟩, hvaly, (hv.sub (List.Sublist.cons _ (List.Sublist.refl _)))⟩)
set_option maxHeartbeats 2000000 in
theorem refLatest (B : Base) (H : List Res) (w : World) (ad : Option Addr) (c : Nat)  (xs : List Value) (l : List Ver) (hr : RdV B [] ad xs) (hxs : VersAt B l xs) (hm : l.length ≤ 100000) (hv : Inv B H w) :
  Calls Tryz.prog 42 #[.slice ad l.length c] w fun e w' => e = .returned (.int .i64 (latL l)) ∧ Inv B H w' := by
 refine cW Tryz.func42 rfl Tryz.ntmps42 ?_
 simp only [al]
 refine sK fun _ k1 => rL (xA (.int .i64 0) rfl ?_)
 simp only [zP, po]
 refine wK k1 (sK fun _ k2 => ?_)
 refine rL (xA (.int .i64 0) rfl ?_)
 simp only [zP, po]
 refine wK k2 (sK fun _ k3 => ?_)
 refine sK fun _ k4 => rL (xA (.int .i64 0) rfl ?_)
 simp only [zP, po]
 refine wK k4 (bB ?_)
 gi_loopw [3, 4] (fun x3 x4 wr => ∃ (i : Nat) (n : Int), x3 = .int .i64 n ∧ x4 = .int .i64 (i : Int) ∧ i ≤ l.length ∧ n = latL (l.take i) ∧ Inv B H wr) (fun x3 x4 _ => l.length - (intOf x4).toNat)
 case atStart => exact ⟨0, 0, rfl, rfl, Nat.zero_le _, rfl, hv⟩
 case round =>
  obtain ⟨i, n, rfl, rfl, hi, hn, hv⟩ := hrel
  refine sK fun _ k6 => sK fun _ k7 => rL (xM (.int .i64 (i : Int)) rfl ?_)
  refine xM (.slice ad l.length c) rfl (xG (.int .i64 (l.length : Int)) rfl (ex_len0 Tryz.underlying70 rfl rfl) ?_)
  simp only [zP, po]
  by_cases hb8 : (i : Int) < (l.length : Int)
  ·refine xG (.bool true) rfl (ex_lss rfl rfl rfl (decide_eq_true hb8)) ?_
   simp only [zP, po]
   refine wK k7 (cT rfl ?_)
   refine kS (tK k6 ?_)
   refine sK fun _ k9 => bB ?_
   obtain ⟨x, hx⟩ : ∃ x, l[i]? = some x := ⟨_, List.getElem?_eq_getElem (show i < l.length by omega)⟩
   obtain ⟨bb, bo, xp, xt, xz, had, hvalx, hrdx⟩ := VersAt.reads hxs hr hx
   subst had
   refine rL (xM (.slice (some ⟨bb, bo, none⟩) l.length c) rfl ?_)
   refine xM (.int .i64 (i : Int)) rfl (xG (.pointer (some ⟨bb, bo + i * 8, none⟩)) rfl (ex_index rfl rfl rfl (run_idx (k := i) Tryz.underlying70 s1es70 (by omega))) ?_)
   simp only [zP, po]
   refine xF (.pointer (some ⟨bb, bo + i * 8, none⟩)) rfl (s2fa55_0 _ _ _) (xL _ rfl (run_load1 s2na3 (hrdx _ _ _ (Base.Le.refl _) no_res hv 0 _ rfl)) ?_)
   refine xA (.int .i64 x.stamp) rfl (wL ?_)
   simp only [zP, po]
   refine bN (tK k9 ?_)
   refine rL (xM (.int .i64 (i : Int)) rfl ?_)
   refine xG (.int .i64 ((i + 1 : Nat) : Int)) rfl (ex_add rfl rfl rfl (by rw [i64_in (by omega)]; omega)) (xA (.int .i64 ((i + 1 : Nat) : Int)) rfl ?_)
   refine wL ?_
   simp only [zP, po]
   refine then_normal ?_
   go_roundw
   case rel => exact ⟨i + 1, _, rfl, rfl, by omega, (latL_next hx).symm, hv⟩
   case measure => show l.length - (((i + 1 : Nat) : Int)).toNat < l.length - ((i : Int)).toNat; omega
  refine xG (.bool false) rfl (ex_lss rfl rfl rfl (decide_eq_false hb8)) ?_
  simp only [zP, po]
  refine wK k7 (cF rfl ?_)
  refine xE (tX ?_)
  refine tX (bH ?_)
  refine tK k3 (sK fun _ k10 => ?_)
  refine rL (xM (.int .i64 n) rfl ?_)
  refine xA (.int .i64 n) rfl ?_
  simp only [zP, po]
  refine wK k10 (rR ?_)
  refine bR rfl rfl ?_
  obtain rfl : i = l.length := by omega
  rw [List.take_length] at hn
  exact ⟨by rw [hn]; rfl, hv⟩
set_option maxHeartbeats 2000000 in
theorem chainLatest (B : Base) (H : List Res) (w : World) (ad : Option Addr) (c : Nat)  (xs : List Value) (l : List Ver) (hr : RdV B [] ad xs) (hxs : VersAt B l xs) (hm : l.length ≤ 100000) (hv : Inv B H w) :
  Calls Tryz.prog 67 #[.slice ad l.length c] w fun e w' => e = .returned (.int .i64 (latL l)) ∧ Inv B H w' := by
 refine cW Tryz.func67 rfl Tryz.ntmps67 ?_
 simp only [al]
 refine sK fun _ k1 => rL (xA (.int .i64 0) rfl ?_)
 simp only [zP, po]
 refine wK k1 (sK fun _ k2 => ?_)
 refine sK fun _ k3 => rL (xM (.slice ad l.length c) rfl ?_)
 refine xG (.int .i64 (l.length : Int)) rfl (ex_len0 Tryz.underlying70 rfl rfl) ?_
 by_cases hb4 : (l.length : Int) = 0
 ·refine xG (.bool true) rfl (ex_eql rfl rfl rfl (decide_eq_true hb4)) ?_
  simp only [zP, po]
  refine wK k3 (cT rfl ?_)
  refine sK fun _ k5 => rL (xA (.int .i64 0) rfl ?_)
  simp only [zP, po]
  refine wK k5 (rR ?_)
  refine tR (bR rfl rfl ?_)
  exact ⟨by rw [List.eq_nil_of_length_eq_zero (show l.length = 0 by omega)]; rfl, hv⟩
 refine xG (.bool false) rfl (ex_eql rfl rfl rfl (decide_eq_false hb4)) ?_
 simp only [zP, po]
 refine wK k3 (cF rfl ?_)
 refine kS (tK k2 ?_)
 refine sK fun _ k6 => ?_
 obtain ⟨j, hj⟩ : ∃ j : Nat, l.length = j + 1 := ⟨l.length - 1, by omega⟩
 obtain ⟨x, hx⟩ : ∃ x, l[j]? = some x := ⟨_, List.getElem?_eq_getElem (show j < l.length by omega)⟩
 obtain ⟨bb, bo, xp, xt, xz, had, hvalx, hrdx⟩ := VersAt.reads hxs hr hx
 subst had
 refine rL (xM (.slice (some ⟨bb, bo, none⟩) l.length c) rfl ?_)
 refine xM (.slice (some ⟨bb, bo, none⟩) l.length c) rfl (xG (.int .i64 (l.length : Int)) rfl (ex_len0 Tryz.underlying70 rfl rfl) ?_)
 simp only [zP, po]
 refine xG (.int .i64 (j : Int)) rfl (ex_sub rfl rfl rfl (by rw [i64_in (by omega)]; omega)) (xG (.pointer (some ⟨bb, bo + j * 8, none⟩)) rfl (ex_index rfl rfl rfl (run_idx (k := j) Tryz.underlying70 s1es70 (by omega))) ?_)
 refine xF (.pointer (some ⟨bb, bo + j * 8, none⟩)) rfl (s2fa55_0 _ _ _) ?_
 simp only [zP, po]
 refine xL _ rfl (run_load1 s2na3 (hrdx _ _ _ (Base.Le.refl _) no_res hv 0 _ rfl)) (xA (.int .i64 x.stamp) rfl ?_)
 simp only [zP, po]
 refine wK k6 (rR ?_)
 refine bR rfl rfl ?_
 have h9 := latL_next hx
 rw [← hj, List.take_length] at h9
 exact ⟨by rw [h9]; rfl, hv⟩
theorem chainLatestX (B : Base) (H : List Res) (w : World) (v : Value) (l : List Ver) (h : ChainB B v l) (hm : l.length ≤ 100000) (hv : Inv B H w) : Calls Tryz.prog 67 #[v] w fun e w' => e = .returned (.int .i64 (latL l)) ∧ Inv B H w' := by
 obtain ⟨ad, c, xs, rfl, -, hr, hxs⟩ := h
 exact chainLatest B H w ad c xs l hr hxs hm hv
theorem refLatestX (B : Base) (H : List Res) (w : World) (v : Value) (l : List Ver) (h : ChainB B v l) (hm : l.length ≤ 100000) (hv : Inv B H w) : Calls Tryz.prog 42 #[v] w fun e w' => e = .returned (.int .i64 (latL l)) ∧ Inv B H w' := by
 obtain ⟨ad, c, xs, rfl, -, hr, hxs⟩ := h
 exact refLatest B H w ad c xs l hr hxs hm hv
theorem refAtX (B : Base) (H : List Res) (w : World) (v : Value) (l : List Ver) (s : Int) (h : ChainB B v l) (hm : l.length ≤ 100000) (hv : Inv B H w) : Calls Tryz.prog 63 #[v, .int .i64 s] w fun e w' => ∃ x p t z ok, e = .returned (.tuple #[.agg (verCells x p t z).toArray, .bool ok]) ∧ ((ok = true ∧ (uptoL l s).getLast? = some x ∧ ∃ (b o j c : Nat), v = .slice (some ⟨b, o, none⟩) l.length c ∧ l[j]? = some x ∧ Reads B [] b (o + j * 8) (verCells x p t z)) ∨ (ok = false ∧ (uptoL l s).getLast? = none ∧ x = zver ∧ p = .slice none 0 0 ∧ t = .slice none 0 0 ∧ z = .slice none 0 0)) ∧ ValAt B x.val p t z ∧ Inv B H w' := by
 obtain ⟨ad, c, xs, rfl, -, hr, hxs⟩ := h
 refine (refAt B H w ad c s xs l hr hxs hm hv).mono ?_
 rintro e w' ⟨x, p, t, z, ok, he, hor, h1, h2⟩
 refine ⟨x, p, t, z, ok, he, hor.imp (fun ⟨k1, k2, b, o, j, k3, k4⟩ => ⟨k1, k2, b, o, j, c, by rw [k3], k4⟩) id, h1, h2⟩
theorem s32callable67 : Callable Tryz.prog 67 := ⟨_, Tryz.func67, by kernel_rfl, by kernel_rfl⟩
set_option maxHeartbeats 2000000 in
theorem storeLatest (B : Base) (H : List Res) (w : World) (s p : Nat) (v : Value) (X : List (List Ent)) (bvs : List Value) (M : Model) (last mark : Int) (key : List UInt8) (hx : IxM B X M) (hv : Inv B (Res.cell s [.pointer (some ⟨p, 0, none⟩), .int .i64 last, .int .i64 mark] 65 :: ixS 89 101 100 p v (M.length : Int) X bvs :: H) w) :
  Calls Tryz.prog 41 #[.pointer (some ⟨s, 0, none⟩), .string ⟨key.toArray⟩] w fun e w' => ∃ C, B.Le C ∧ e = .returned (.int .i64 (latL (getM M key))) ∧ Inv C (Res.cell s [.pointer (some ⟨p, 0, none⟩), .int .i64 last, .int .i64 mark] 65 :: ixS 89 101 100 p v (M.length : Int) X bvs :: H) w' := by
 refine cW Tryz.func41 rfl Tryz.ntmps41 ?_
 simp only [al]
 refine sK fun _ k1 => rL (xA (.int .i64 0) rfl ?_)
 simp only [zP, po]
 refine wK k1 (sK fun _ k2 => ?_)
 refine rL (xM (.pointer (some ⟨s, 0, none⟩)) rfl ?_)
 refine xG (.pointer (some ⟨s, 0, none⟩)) rfl (ex_nil rfl rfl) (xF (.pointer (some ⟨s, 0, none⟩)) rfl (s15fa65_0 _ _ _) ?_)
 simp only [zP, po]
 refine xL _ rfl (run_load1 s3na62 (hv.load 0 0 rfl rfl)) (xM (.string ⟨key.toArray⟩) rfl ?_)
 replace hv := hv.front 1 rfl
 simp only [List.eraseIdx_cons_succ, List.eraseIdx_cons_zero] at hv
 refine xC s15callable28 rfl ((ixGetS B _ _ p v X bvs M key hx hv).mono ?_) rfl
 rintro e w3 ⟨C, q, hC, rfl, hQ, hv⟩
 refine ⟨_, rfl, ?_⟩
 obtain ⟨qa, qc, hqe⟩ := hQ.shape
 subst hqe
 have hgl := hx.glen key
 simp only [zP, po]
 refine xC s32callable67 rfl ((chainLatestX C _ _ _ _ hQ (by omega) hv).mono ?_) rfl
 rintro e w4 ⟨rfl, hv⟩
 refine ⟨_, rfl, ?_⟩
 refine xA (.int .i64 (latL (getM M key))) rfl ?_
 simp only [zP, po]
 refine wK k2 (rR ?_)
 refine bR rfl rfl (⟨C, hC, rfl, (hv.front 1 rfl)⟩)
set_option maxHeartbeats 2000000 in
theorem storeVersions (B : Base) (H : List Res) (w : World) (s p : Nat) (v : Value) (X : List (List Ent)) (bvs : List Value) (M : Model) (last mark : Int) (key : List UInt8) (hx : IxM B X M) (hv : Inv B (Res.cell s [.pointer (some ⟨p, 0, none⟩), .int .i64 last, .int .i64 mark] 65 :: ixS 89 101 100 p v (M.length : Int) X bvs :: H) w) :
  Calls Tryz.prog 43 #[.pointer (some ⟨s, 0, none⟩), .string ⟨key.toArray⟩] w fun e w' => ∃ C, B.Le C ∧ e = .returned (.int .i64 (((getM M key).length : Int))) ∧ Inv C (Res.cell s [.pointer (some ⟨p, 0, none⟩), .int .i64 last, .int .i64 mark] 65 :: ixS 89 101 100 p v (M.length : Int) X bvs :: H) w' := by
 refine cW Tryz.func43 rfl Tryz.ntmps43 ?_
 simp only [al]
 refine sK fun _ k1 => rL (xA (.int .i64 0) rfl ?_)
 simp only [zP, po]
 refine wK k1 (sK fun _ k2 => ?_)
 refine rL (xM (.pointer (some ⟨s, 0, none⟩)) rfl ?_)
 refine xG (.pointer (some ⟨s, 0, none⟩)) rfl (ex_nil rfl rfl) (xF (.pointer (some ⟨s, 0, none⟩)) rfl (s15fa65_0 _ _ _) ?_)
 simp only [zP, po]
 refine xL _ rfl (run_load1 s3na62 (hv.load 0 0 rfl rfl)) (xM (.string ⟨key.toArray⟩) rfl ?_)
 replace hv := hv.front 1 rfl
 simp only [List.eraseIdx_cons_succ, List.eraseIdx_cons_zero] at hv
 refine xC s15callable28 rfl ((ixGetS B _ _ p v X bvs M key hx hv).mono ?_) rfl
 rintro e w3 ⟨C, q, hC, rfl, hQ, hv⟩
 refine ⟨_, rfl, ?_⟩
 obtain ⟨qa, qc, hqe⟩ := hQ.shape
 subst hqe
 have hgl := hx.glen key
 simp only [zP, po]
 refine xG (.int .i64 (((getM M key).length) : Int)) rfl (ex_len0 Tryz.underlying70 rfl rfl) (xA (.int .i64 (((getM M key).length) : Int)) rfl ?_)
 simp only [zP, po]
 refine wK k2 (rR ?_)
 refine bR rfl rfl (⟨C, hC, rfl, (hv.front 1 rfl)⟩)
set_option maxHeartbeats 2000000 in
theorem storeMark (B : Base) (H : List Res) (w : World) (s p : Nat) (last mark : Int) (hv : Inv B (Res.cell s [.pointer (some ⟨p, 0, none⟩), .int .i64 last, .int .i64 mark] 65 :: H) w) :
  Calls Tryz.prog 45 #[.pointer (some ⟨s, 0, none⟩)] w fun e w' => e = .returned (.int .i64 mark) ∧ Inv B (Res.cell s [.pointer (some ⟨p, 0, none⟩), .int .i64 last, .int .i64 mark] 65 :: H) w' := by
 refine cW Tryz.func45 rfl Tryz.ntmps45 ?_
 simp only [al]
 refine sK fun _ k1 => rL (xA (.int .i64 0) rfl ?_)
 simp only [zP, po]
 refine wK k1 (sK fun _ k2 => ?_)
 refine rL (xM (.pointer (some ⟨s, 0, none⟩)) rfl ?_)
 refine xG (.pointer (some ⟨s, 0, none⟩)) rfl (ex_nil rfl rfl) (xF (.pointer (some ⟨s, 2, none⟩)) rfl (s25fa65_2 _ _ _) ?_)
 simp only [zP, po]
 refine xL _ rfl (run_load1 s2na3 (hv.load 0 2 rfl rfl)) (xA (.int .i64 mark) rfl ?_)
 simp only [zP, po]
 refine wK k2 (rR ?_)
 refine bR rfl rfl (⟨rfl, hv⟩)
def refPr (mark c : Int) : List Ver → List Ver
 | [] => []
 | x :: r => if mark < x.stamp ∨ ((∀ y, r.head? = some y → mark < y.stamp) ∧ aliveB x c = true) then x :: refPr mark c r else refPr mark c r
theorem refPr_all {mark c : Int} : ∀ {l : List Ver}, (∀ x ∈ l, mark < x.stamp) → refPr mark c l = l
 | [], _ => rfl
 | x :: r, h => by
  rw [refPr, if_pos (.inl (h x List.mem_cons_self)), refPr_all (fun y hy => h y (List.mem_cons_of_mem _ hy))]
theorem refPr_eq {mark c : Int} : ∀ {l : List Ver}, Asc l → refPr mark c l = pruneC l mark c
 | [], _ => rfl
 | x :: r, ha => by
  obtain ⟨h1, h2⟩ := List.pairwise_cons.1 ha
  have ih := refPr_eq (mark := mark) (c := c) h2
  by_cases hm : mark < x.stamp
  ·have hall : ∀ y ∈ x :: r, mark < y.stamp := fun y hy => by
    rcases List.mem_cons.1 hy with rfl | hy
    ·exact hm
    have := h1 y hy; omega
   rw [refPr_all hall]
   unfold pruneC readV uptoL
   rw [filt0 (p := fun y => decide (y.stamp ≤ mark)) (fun y hy => by have := hall y hy; simp; omega), filtA (p := fun y => decide (mark < y.stamp)) (fun y hy => by simpa using hall y hy)]
   rfl
  have hx1 : decide (x.stamp ≤ mark) = true := by simp; omega
  have hx2 : decide (mark < x.stamp) = false := by simp; omega
  have e1 : (x :: r).filter (fun y => decide (y.stamp ≤ mark)) = x :: r.filter (fun y => decide (y.stamp ≤ mark)) := by rw [List.filter_cons, hx1]; rfl
  have e2 : (x :: r).filter (fun y => decide (mark < y.stamp)) = r.filter (fun y => decide (mark < y.stamp)) := by rw [List.filter_cons, hx2]; rfl
  by_cases hh : ∀ y, r.head? = some y → mark < y.stamp
  ·have hall : ∀ y ∈ r, mark < y.stamp := fun y hy => by
    cases r with
    | nil => cases hy
    | cons z r =>
     have hz := hh z rfl
     rcases List.mem_cons.1 hy with rfl | hy
     ·exact hz
     have := (List.pairwise_cons.1 h2).1 y hy; omega
   rw [refPr, refPr_all hall]
   unfold pruneC readV uptoL
   rw [e1, e2, filt0 (p := fun y => decide (y.stamp ≤ mark)) (fun y hy => by have := hall y hy; simp; omega), filtA (p := fun y => decide (mark < y.stamp)) (fun y hy => by simpa using hall y hy)]
   cases hc : aliveB x c with
   | true => rw [if_pos (.inr ⟨hh, rfl⟩)]; simp [Option.filter, hc]
   | false => rw [if_neg (by rintro (h | ⟨-, h⟩); exact hm h; cases h)]; simp [Option.filter, hc]
  rw [refPr, if_neg (by rintro (h | ⟨h, -⟩); exact hm h; exact hh h), ih]
  unfold pruneC readV uptoL
  rw [e1, e2]
  obtain ⟨y, r', rfl, hy⟩ : ∃ y r', r = y :: r' ∧ ¬ mark < y.stamp := by
   cases r with
   | nil => exact absurd (fun y h => by cases h) hh
   | cons y r' => exact ⟨y, r', rfl, fun h => hh (fun z hz => by cases hz; exact h)⟩
  have hy1 : decide (y.stamp ≤ mark) = true := by simp; omega
  rw [List.filter_cons, hy1]
  simp
theorem refPr_keep {mark c : Int} {l : List Ver} {i : Nat} {x : Ver} (hx : l[i]? = some x) (h : mark < x.stamp ∨ ((∀ y, l[i + 1]? = some y → mark < y.stamp) ∧ aliveB x c = true)) : refPr mark c (l.drop i) = x :: refPr mark c (l.drop (i + 1)) := by
 obtain ⟨hi, rfl⟩ := List.getElem?_eq_some_iff.1 hx
 rw [List.drop_eq_getElem_cons hi, refPr, if_pos]
 rwa [List.head?_drop]
theorem refPr_drop {mark c : Int} {l : List Ver} {i : Nat} {x : Ver} (hx : l[i]? = some x) (h : ¬ (mark < x.stamp ∨ ((∀ y, l[i + 1]? = some y → mark < y.stamp) ∧ aliveB x c = true))) : refPr mark c (l.drop i) = refPr mark c (l.drop (i + 1)) := by
 obtain ⟨hi, rfl⟩ := List.getElem?_eq_some_iff.1 hx
 rw [List.drop_eq_getElem_cons hi, refPr, if_neg]
 rwa [List.head?_drop]
theorem refPr_len (mark c : Int) : ∀ l : List Ver, (refPr mark c l).length ≤ l.length
 | [] => Nat.le_refl _
 | x :: r => by
  have := refPr_len mark c r
  rw [refPr]
  split <;> simp <;> omega
theorem s32mk55 : (Tryz.prog.info? 55).map (fun i => (i.zero, i.size, i.bytes)) = some (some (.agg #[.int .i64 0, .bool false, .int .i64 0, .int .i64 0, .string ⟨([] : List UInt8).toArray⟩, .slice none 0 0, .slice none 0 0, .slice none 0 0]), 8, 120) := by kernel_rfl
theorem s32el70 : Elem Tryz.prog 70 55 (.agg #[.int .i64 0, .bool false, .int .i64 0, .int .i64 0, .string ⟨([] : List UInt8).toArray⟩, .slice none 0 0, .slice none 0 0, .slice none 0 0]) 8 120 := elem_of Tryz.underlying70 s32mk55 (by rfl) (by decide)
theorem s32callable59 : Callable Tryz.prog 59 := ⟨_, Tryz.func59, by kernel_rfl, by kernel_rfl⟩
set_option maxHeartbeats 8000000 in
theorem refPrune (B : Base) (H : List Res) (w : World) (ad : Option Addr) (c : Nat) (mark clock : Int) (xs : List Value) (l : List Ver) (hr : RdV B [] ad xs) (hxs : VersAt B l xs) (hm : l.length ≤ 100000) (hasc : Asc l) (hv : Inv B H w) :
  Calls Tryz.prog 30 #[.slice ad l.length c, .int .i64 mark, .int .i64 clock] w fun e w' => ∃ C v', B.Le C ∧ e = .returned v' ∧ ChainB C v' (pruneC l mark clock) ∧ Inv C H w' := by
 refine cW Tryz.func30 rfl Tryz.ntmps30 ?_
 simp only [al]
 refine sK fun _ k1 => rL (xA (.slice none 0 0) rfl ?_)
 simp only [zP, po]
 refine wK k1 (sK fun _ k2 => ?_)
 refine rL (xA (.slice none 0 0) rfl ?_)
 simp only [zP, po]
 refine wK k2 (sK fun _ k3 => ?_)
 refine sK fun _ k4 => rL (xA (.int .i64 0) rfl ?_)
 simp only [zP, po]
 refine wK k4 (bB ?_)
 gi_loopw [7, 8] (fun x7 x8 wr => ∃ (i : Nat) (ra : Option Addr) (rc : Nat) (ys : List Value) (kl : List Ver), x7 = .slice ra kl.length rc ∧ x8 = .int .i64 (i : Int) ∧ i ≤ l.length ∧ kl ++ refPr mark clock (l.drop i) = refPr mark clock l ∧ VersAt B kl ys ∧ Inv B (Res.row 55 8 (.slice ra kl.length rc) kl.length ys :: H) wr) (fun x7 x8 _ => l.length - (intOf x8).toNat)
 case atStart => exact ⟨0, none, 0, [], [], rfl, rfl, Nat.zero_le _, rfl, rfl, hv.rowNil 55 8⟩
 case round =>
  obtain ⟨i, ra, rc, ys, kl, rfl, rfl, hi, hpr, hys, hv⟩ := hrel
  have hkl : kl.length ≤ l.length := by
   have h9 := congrArg List.length hpr
   have h8 := refPr_len mark clock l
   rw [List.length_append] at h9
   omega
  refine sK fun _ k6 => sK fun _ k7 => rL (xM (.int .i64 (i : Int)) rfl ?_)
  refine xM (.slice ad l.length c) rfl (xG (.int .i64 (l.length : Int)) rfl (ex_len0 Tryz.underlying70 rfl rfl) ?_)
  simp only [zP, po]
  by_cases hb8 : (i : Int) < (l.length : Int)
  ·refine xG (.bool true) rfl (ex_lss rfl rfl rfl (decide_eq_true hb8)) ?_
   simp only [zP, po]
   refine wK k7 (cT rfl ?_)
   refine kS (tK k6 ?_)
   refine sK fun _ k9 => bB (sK fun _ k10 => ?_)
   obtain ⟨x, hx⟩ : ∃ x, l[i]? = some x := ⟨_, List.getElem?_eq_getElem (show i < l.length by omega)⟩
   obtain ⟨bb, bo, xp, xt, xz, had, hvalx, hrdx⟩ := VersAt.reads hxs hr hx
   subst had
   refine rL (xM (.int .i64 (i : Int)) rfl ?_)
   refine xM (.slice (some ⟨bb, bo, none⟩) l.length c) rfl (xG (.int .i64 (l.length : Int)) rfl (ex_len0 Tryz.underlying70 rfl rfl) ?_)
   simp only [zP, po]
   refine xG (.int .i64 ((l.length : Int) - 1)) rfl (ex_sub rfl rfl rfl (i64_in (by omega))) ?_
   by_cases hb11 : (i : Int) = ((l.length : Int) - 1)
   ·refine xG (.bool true) rfl (ex_eql rfl rfl rfl (decide_eq_true hb11)) (xM (.bool true) rfl ?_)
    simp only [zP, po]
    refine yP rfl (yP rfl ?_)
    refine yP rfl ?_
    simp only [zP, po]
    refine yP rfl (yP rfl ?_)
    refine yP rfl ?_
    simp only [zP, po]
    refine yP rfl (yP rfl ?_)
    refine xK true (.bool true) rfl ?_
    simp only [zP, po]
    refine xA (.bool true) rfl ?_
    simp only [zP, po]
    refine wK k10 (sK fun _ k12 => ?_)
    refine rL (xM (.slice (some ⟨bb, bo, none⟩) l.length c) rfl ?_)
    refine xM (.int .i64 (i : Int)) rfl (xG (.pointer (some ⟨bb, bo + i * 8, none⟩)) rfl (ex_index rfl rfl rfl (run_idx (k := i) Tryz.underlying70 s1es70 (by omega))) ?_)
    simp only [zP, po]
    refine xF (.pointer (some ⟨bb, bo + i * 8, none⟩)) rfl (s2fa55_0 _ _ _) (xL _ rfl (run_load1 s2na3 (hrdx _ _ _ (Base.Le.refl _) no_res hv 0 _ rfl)) ?_)
    refine xM (.int .i64 mark) rfl ?_
    simp only [zP, po]
    by_cases hb13 : x.stamp > mark
    ·refine xG (.bool true) rfl (ex_gtr rfl rfl rfl (decide_eq_true hb13)) (xM (.bool true) rfl ?_)
     refine yP rfl ?_
     simp only [zP, po]
     refine yP rfl (yP rfl ?_)
     refine yP rfl ?_
     simp only [zP, po]
     refine yP rfl (yP rfl ?_)
     refine yP rfl ?_
     simp only [zP, po]
     refine yP rfl (yP rfl ?_)
     refine xK true (.bool true) rfl ?_
     simp only [zP, po]
     refine wK k12 (cT rfl ?_)
     refine rL (xM (.slice ra kl.length rc) rfl ?_)
     refine xM (.slice (some ⟨bb, bo, none⟩) l.length c) rfl (xM (.int .i64 (i : Int)) rfl ?_)
     simp only [zP, po]
     refine xG (.pointer (some ⟨bb, bo + i * 8, none⟩)) rfl (ex_index rfl rfl rfl (run_idx (k := i) Tryz.underlying70 s1es70 (by omega))) (xL (.agg #[.int .i64 x.stamp, .bool x.gone, .int .i64 x.expire, .int .i64 x.val.kind, .string ⟨x.val.text.toArray⟩, xp, xt, xz]) rfl (run_loadR (cs := [.int .i64 x.stamp, .bool x.gone, .int .i64 x.expire, .int .i64 x.val.kind, .string ⟨x.val.text.toArray⟩, xp, xt, xz]) s1wd55 (Reads.mid (pre := []) (mid := [.int .i64 x.stamp, .bool x.gone, .int .i64 x.expire, .int .i64 x.val.kind, .string ⟨x.val.text.toArray⟩, xp, xt, xz]) (post := []) hrdx _ _ _ (Base.Le.refl _) no_res hv)) ?_)
     refine sl_rowAgg (L := [.int .i64 x.stamp, .bool x.gone, .int .i64 x.expire, .int .i64 x.val.kind, .string ⟨x.val.text.toArray⟩, xp, xt, xz]) tV (wn rfl) rfl rfl hv s32el70 rfl (by decide) (fun b14 w15 hv => ?_)
     simp only [zP, po]
     replace hv := hv.front 1 rfl
     simp only [List.eraseIdx_cons_succ, List.eraseIdx_cons_zero] at hv
     refine sl_append (news := [.int .i64 x.stamp, .bool x.gone, .int .i64 x.expire, .int .i64 x.val.kind, .string ⟨x.val.text.toArray⟩, xp, xt, xz]) tV (wn rfl) rfl rfl rfl s32el70 hv (ok_full (by omega)) rfl (rd_all (hv.get 1 rfl)) (verCells_one (v := x) hvalx) (by unfold maxLen; omega) (by omega) (fun rv16 w19 hv => ?_)
     obtain ⟨ra17, rc18, rfl⟩ := row_slice hv.head
     refine xA (.slice ra17 (kl.length + 1) rc18) rfl (wL ?_)
     simp only [zP, po]
     refine bN (tK k9 ?_)
     refine rL (xM (.int .i64 (i : Int)) rfl ?_)
     refine xG (.int .i64 ((i + 1 : Nat) : Int)) rfl (ex_add rfl rfl rfl (by rw [i64_in (by omega)]; omega)) (xA (.int .i64 ((i + 1 : Nat) : Int)) rfl ?_)
     refine wL ?_
     simp only [zP, po]
     refine then_normal ?_
     go_roundw
     case rel => exact ⟨i + 1, _, _, _, kl ++ [x], by rw [List.length_append]; rfl, rfl, by omega, by rw [List.append_assoc, List.singleton_append, ← refPr_keep hx (.inl (by omega))]; exact hpr, VersAt.append (VersAt.single hvalx) hys, by rw [List.length_append]; exact (hv.sub (List.Sublist.cons_cons _ (List.Sublist.cons _ (List.Sublist.refl _))))⟩
     case measure => show l.length - (((i + 1 : Nat) : Int)).toNat < l.length - ((i : Int)).toNat; omega
    refine xG (.bool false) rfl (ex_gtr rfl rfl rfl (decide_eq_false hb13)) (xM (.bool false) rfl ?_)
    refine xM (.bool true) rfl ?_
    simp only [zP, po]
    refine xM (.bool true) rfl (xM (.slice (some ⟨bb, bo, none⟩) l.length c) rfl ?_)
    refine xM (.int .i64 (i : Int)) rfl ?_
    simp only [zP, po]
    refine xG (.pointer (some ⟨bb, bo + i * 8, none⟩)) rfl (ex_index rfl rfl rfl (run_idx (k := i) Tryz.underlying70 s1es70 (by omega))) (xL (.agg #[.int .i64 x.stamp, .bool x.gone, .int .i64 x.expire, .int .i64 x.val.kind, .string ⟨x.val.text.toArray⟩, xp, xt, xz]) rfl (run_loadR (cs := [.int .i64 x.stamp, .bool x.gone, .int .i64 x.expire, .int .i64 x.val.kind, .string ⟨x.val.text.toArray⟩, xp, xt, xz]) s1wd55 (Reads.mid (pre := []) (mid := [.int .i64 x.stamp, .bool x.gone, .int .i64 x.expire, .int .i64 x.val.kind, .string ⟨x.val.text.toArray⟩, xp, xt, xz]) (post := []) hrdx _ _ _ (Base.Le.refl _) no_res hv)) ?_)
    refine xM (.int .i64 clock) rfl ?_
    simp only [zP, po]
    refine xC s32callable59 rfl ((refAlive B _ _ x xp xt xz clock hv).mono ?_) rfl
    rintro e w20 ⟨rfl, hv⟩
    refine ⟨_, rfl, ?_⟩
    refine xK true (.bool (aliveB x clock)) rfl (xK false (.bool (aliveB x clock)) rfl ?_)
    simp only [zP, po]
    refine wK k12 (wpIn_cond_split (t := aliveB x clock) rfl (fun hc21 => ?_) (fun hc21 => ?_))
    ·refine rL (xM (.slice ra kl.length rc) rfl ?_)
     refine xM (.slice (some ⟨bb, bo, none⟩) l.length c) rfl (xM (.int .i64 (i : Int)) rfl ?_)
     simp only [zP, po]
     refine xG (.pointer (some ⟨bb, bo + i * 8, none⟩)) rfl (ex_index rfl rfl rfl (run_idx (k := i) Tryz.underlying70 s1es70 (by omega))) (xL (.agg #[.int .i64 x.stamp, .bool x.gone, .int .i64 x.expire, .int .i64 x.val.kind, .string ⟨x.val.text.toArray⟩, xp, xt, xz]) rfl (run_loadR (cs := [.int .i64 x.stamp, .bool x.gone, .int .i64 x.expire, .int .i64 x.val.kind, .string ⟨x.val.text.toArray⟩, xp, xt, xz]) s1wd55 (Reads.mid (pre := []) (mid := [.int .i64 x.stamp, .bool x.gone, .int .i64 x.expire, .int .i64 x.val.kind, .string ⟨x.val.text.toArray⟩, xp, xt, xz]) (post := []) hrdx _ _ _ (Base.Le.refl _) no_res hv)) ?_)
     refine sl_rowAgg (L := [.int .i64 x.stamp, .bool x.gone, .int .i64 x.expire, .int .i64 x.val.kind, .string ⟨x.val.text.toArray⟩, xp, xt, xz]) tV (wn rfl) rfl rfl hv s32el70 rfl (by decide) (fun b22 w23 hv => ?_)
     simp only [zP, po]
     replace hv := hv.front 1 rfl
     simp only [List.eraseIdx_cons_succ, List.eraseIdx_cons_zero] at hv
     refine sl_append (news := [.int .i64 x.stamp, .bool x.gone, .int .i64 x.expire, .int .i64 x.val.kind, .string ⟨x.val.text.toArray⟩, xp, xt, xz]) tV (wn rfl) rfl rfl rfl s32el70 hv (ok_full (by omega)) rfl (rd_all (hv.get 1 rfl)) (verCells_one (v := x) hvalx) (by unfold maxLen; omega) (by omega) (fun rv24 w27 hv => ?_)
     obtain ⟨ra25, rc26, rfl⟩ := row_slice hv.head
     refine xA (.slice ra25 (kl.length + 1) rc26) rfl (wL ?_)
     simp only [zP, po]
     refine bN (tK k9 ?_)
     refine rL (xM (.int .i64 (i : Int)) rfl ?_)
     refine xG (.int .i64 ((i + 1 : Nat) : Int)) rfl (ex_add rfl rfl rfl (by rw [i64_in (by omega)]; omega)) (xA (.int .i64 ((i + 1 : Nat) : Int)) rfl ?_)
     refine wL ?_
     simp only [zP, po]
     refine then_normal ?_
     go_roundw
     case rel => exact ⟨i + 1, _, _, _, kl ++ [x], by rw [List.length_append]; rfl, rfl, by omega, by rw [List.append_assoc, List.singleton_append, ← refPr_keep hx (.inr ⟨(fun y hy => by have h7 := (List.getElem?_eq_some_iff.1 hy).1; omega), hc21⟩)]; exact hpr, VersAt.append (VersAt.single hvalx) hys, by rw [List.length_append]; exact (hv.sub (List.Sublist.cons_cons _ (List.Sublist.cons _ (List.Sublist.refl _))))⟩
     case measure => show l.length - (((i + 1 : Nat) : Int)).toNat < l.length - ((i : Int)).toNat; omega
    refine kS (bN ?_)
    refine tK k9 (rL ?_)
    refine xM (.int .i64 (i : Int)) rfl (xG (.int .i64 ((i + 1 : Nat) : Int)) rfl (ex_add rfl rfl rfl (by rw [i64_in (by omega)]; omega)) ?_)
    refine xA (.int .i64 ((i + 1 : Nat) : Int)) rfl (wL ?_)
    simp only [zP, po]
    refine then_normal ?_
    go_roundw
    case rel => exact ⟨i + 1, _, _, _, kl, rfl, rfl, by omega, by rw [← refPr_drop hx (by rintro (h | ⟨_, h⟩) <;> first | omega | (rw [h] at hc21; cases hc21))]; exact hpr, hys, hv⟩
    case measure => show l.length - (((i + 1 : Nat) : Int)).toNat < l.length - ((i : Int)).toNat; omega
   refine xG (.bool false) rfl (ex_eql rfl rfl rfl (decide_eq_false hb11)) ?_
   obtain ⟨y, hy⟩ : ∃ x, l[(i + 1)]? = some x := ⟨_, List.getElem?_eq_getElem (show (i + 1) < l.length by omega)⟩
   obtain ⟨b9, o9, yp, yt, yz, had9, hvaly, hrdy⟩ := VersAt.reads hxs hr hy
   cases had9
   refine xM (.bool false) rfl ?_
   simp only [zP, po]
   refine xM (.slice (some ⟨bb, bo, none⟩) l.length c) rfl (xM (.int .i64 (i : Int)) rfl ?_)
   refine xG (.int .i64 ((i + 1 : Nat) : Int)) rfl (ex_add rfl rfl rfl (by rw [i64_in (by omega)]; omega)) ?_
   simp only [zP, po]
   refine xG (.pointer (some ⟨bb, bo + (i + 1 : Nat) * 8, none⟩)) rfl (ex_index rfl rfl rfl (run_idx (k := (i + 1 : Nat)) Tryz.underlying70 s1es70 (by omega))) (xF (.pointer (some ⟨bb, bo + (i + 1 : Nat) * 8, none⟩)) rfl (s2fa55_0 _ _ _) ?_)
   refine xL _ rfl (run_load1 s2na3 (hrdy _ _ _ (Base.Le.refl _) no_res hv 0 _ rfl)) ?_
   simp only [zP, po]
   refine xM (.int .i64 mark) rfl ?_
   by_cases hb28 : y.stamp > mark
   ·refine xG (.bool true) rfl (ex_gtr rfl rfl rfl (decide_eq_true hb28)) (xK false (.bool true) rfl ?_)
    simp only [zP, po]
    refine xA (.bool true) rfl ?_
    simp only [zP, po]
    refine wK k10 (sK fun _ k29 => ?_)
    refine rL (xM (.slice (some ⟨bb, bo, none⟩) l.length c) rfl ?_)
    refine xM (.int .i64 (i : Int)) rfl (xG (.pointer (some ⟨bb, bo + i * 8, none⟩)) rfl (ex_index rfl rfl rfl (run_idx (k := i) Tryz.underlying70 s1es70 (by omega))) ?_)
    simp only [zP, po]
    refine xF (.pointer (some ⟨bb, bo + i * 8, none⟩)) rfl (s2fa55_0 _ _ _) (xL _ rfl (run_load1 s2na3 (hrdx _ _ _ (Base.Le.refl _) no_res hv 0 _ rfl)) ?_)
    refine xM (.int .i64 mark) rfl ?_
    simp only [zP, po]
    by_cases hb30 : x.stamp > mark
    ·refine xG (.bool true) rfl (ex_gtr rfl rfl rfl (decide_eq_true hb30)) (xM (.bool true) rfl ?_)
     refine yP rfl ?_
     simp only [zP, po]
     refine yP rfl (yP rfl ?_)
     refine yP rfl ?_
     simp only [zP, po]
     refine yP rfl (yP rfl ?_)
     refine yP rfl ?_
     simp only [zP, po]
     refine yP rfl (yP rfl ?_)
     refine xK true (.bool true) rfl ?_
     simp only [zP, po]
     refine wK k29 (cT rfl ?_)
     refine rL (xM (.slice ra kl.length rc) rfl ?_)
     refine xM (.slice (some ⟨bb, bo, none⟩) l.length c) rfl (xM (.int .i64 (i : Int)) rfl ?_)
     simp only [zP, po]
     refine xG (.pointer (some ⟨bb, bo + i * 8, none⟩)) rfl (ex_index rfl rfl rfl (run_idx (k := i) Tryz.underlying70 s1es70 (by omega))) (xL (.agg #[.int .i64 x.stamp, .bool x.gone, .int .i64 x.expire, .int .i64 x.val.kind, .string ⟨x.val.text.toArray⟩, xp, xt, xz]) rfl (run_loadR (cs := [.int .i64 x.stamp, .bool x.gone, .int .i64 x.expire, .int .i64 x.val.kind, .string ⟨x.val.text.toArray⟩, xp, xt, xz]) s1wd55 (Reads.mid (pre := []) (mid := [.int .i64 x.stamp, .bool x.gone, .int .i64 x.expire, .int .i64 x.val.kind, .string ⟨x.val.text.toArray⟩, xp, xt, xz]) (post := []) hrdx _ _ _ (Base.Le.refl _) no_res hv)) ?_)
     refine sl_rowAgg (L := [.int .i64 x.stamp, .bool x.gone, .int .i64 x.expire, .int .i64 x.val.kind, .string ⟨x.val.text.toArray⟩, xp, xt, xz]) tV (wn rfl) rfl rfl hv s32el70 rfl (by decide) (fun b31 w32 hv => ?_)
     simp only [zP, po]
     replace hv := hv.front 1 rfl
     simp only [List.eraseIdx_cons_succ, List.eraseIdx_cons_zero] at hv
     refine sl_append (news := [.int .i64 x.stamp, .bool x.gone, .int .i64 x.expire, .int .i64 x.val.kind, .string ⟨x.val.text.toArray⟩, xp, xt, xz]) tV (wn rfl) rfl rfl rfl s32el70 hv (ok_full (by omega)) rfl (rd_all (hv.get 1 rfl)) (verCells_one (v := x) hvalx) (by unfold maxLen; omega) (by omega) (fun rv33 w36 hv => ?_)
     obtain ⟨ra34, rc35, rfl⟩ := row_slice hv.head
     refine xA (.slice ra34 (kl.length + 1) rc35) rfl (wL ?_)
     simp only [zP, po]
     refine bN (tK k9 ?_)
     refine rL (xM (.int .i64 (i : Int)) rfl ?_)
     refine xG (.int .i64 ((i + 1 : Nat) : Int)) rfl (ex_add rfl rfl rfl (by rw [i64_in (by omega)]; omega)) (xA (.int .i64 ((i + 1 : Nat) : Int)) rfl ?_)
     refine wL ?_
     simp only [zP, po]
     refine then_normal ?_
     go_roundw
     case rel => exact ⟨i + 1, _, _, _, kl ++ [x], by rw [List.length_append]; rfl, rfl, by omega, by rw [List.append_assoc, List.singleton_append, ← refPr_keep hx (.inl (by omega))]; exact hpr, VersAt.append (VersAt.single hvalx) hys, by rw [List.length_append]; exact (hv.sub (List.Sublist.cons_cons _ (List.Sublist.cons _ (List.Sublist.refl _))))⟩
     case measure => show l.length - (((i + 1 : Nat) : Int)).toNat < l.length - ((i : Int)).toNat; omega
    refine xG (.bool false) rfl (ex_gtr rfl rfl rfl (decide_eq_false hb30)) (xM (.bool false) rfl ?_)
    refine xM (.bool true) rfl ?_
    simp only [zP, po]
    refine xM (.bool true) rfl (xM (.slice (some ⟨bb, bo, none⟩) l.length c) rfl ?_)
    refine xM (.int .i64 (i : Int)) rfl ?_
    simp only [zP, po]
    refine xG (.pointer (some ⟨bb, bo + i * 8, none⟩)) rfl (ex_index rfl rfl rfl (run_idx (k := i) Tryz.underlying70 s1es70 (by omega))) (xL (.agg #[.int .i64 x.stamp, .bool x.gone, .int .i64 x.expire, .int .i64 x.val.kind, .string ⟨x.val.text.toArray⟩, xp, xt, xz]) rfl (run_loadR (cs := [.int .i64 x.stamp, .bool x.gone, .int .i64 x.expire, .int .i64 x.val.kind, .string ⟨x.val.text.toArray⟩, xp, xt, xz]) s1wd55 (Reads.mid (pre := []) (mid := [.int .i64 x.stamp, .bool x.gone, .int .i64 x.expire, .int .i64 x.val.kind, .string ⟨x.val.text.toArray⟩, xp, xt, xz]) (post := []) hrdx _ _ _ (Base.Le.refl _) no_res hv)) ?_)
    refine xM (.int .i64 clock) rfl ?_
    simp only [zP, po]
    refine xC s32callable59 rfl ((refAlive B _ _ x xp xt xz clock hv).mono ?_) rfl
    rintro e w37 ⟨rfl, hv⟩
    refine ⟨_, rfl, ?_⟩
    refine xK true (.bool (aliveB x clock)) rfl (xK false (.bool (aliveB x clock)) rfl ?_)
    simp only [zP, po]
    refine wK k29 (wpIn_cond_split (t := aliveB x clock) rfl (fun hc38 => ?_) (fun hc38 => ?_))
    ·refine rL (xM (.slice ra kl.length rc) rfl ?_)
     refine xM (.slice (some ⟨bb, bo, none⟩) l.length c) rfl (xM (.int .i64 (i : Int)) rfl ?_)
     simp only [zP, po]
     refine xG (.pointer (some ⟨bb, bo + i * 8, none⟩)) rfl (ex_index rfl rfl rfl (run_idx (k := i) Tryz.underlying70 s1es70 (by omega))) (xL (.agg #[.int .i64 x.stamp, .bool x.gone, .int .i64 x.expire, .int .i64 x.val.kind, .string ⟨x.val.text.toArray⟩, xp, xt, xz]) rfl (run_loadR (cs := [.int .i64 x.stamp, .bool x.gone, .int .i64 x.expire, .int .i64 x.val.kind, .string ⟨x.val.text.toArray⟩, xp, xt, xz]) s1wd55 (Reads.mid (pre := []) (mid := [.int .i64 x.stamp, .bool x.gone, .int .i64 x.expire, .int .i64 x.val.kind, .string ⟨x.val.text.toArray⟩, xp, xt, xz]) (post := []) hrdx _ _ _ (Base.Le.refl _) no_res hv)) ?_)
     refine sl_rowAgg (L := [.int .i64 x.stamp, .bool x.gone, .int .i64 x.expire, .int .i64 x.val.kind, .string ⟨x.val.text.toArray⟩, xp, xt, xz]) tV (wn rfl) rfl rfl hv s32el70 rfl (by decide) (fun b39 w40 hv => ?_)
     simp only [zP, po]
     replace hv := hv.front 1 rfl
     simp only [List.eraseIdx_cons_succ, List.eraseIdx_cons_zero] at hv
     refine sl_append (news := [.int .i64 x.stamp, .bool x.gone, .int .i64 x.expire, .int .i64 x.val.kind, .string ⟨x.val.text.toArray⟩, xp, xt, xz]) tV (wn rfl) rfl rfl rfl s32el70 hv (ok_full (by omega)) rfl (rd_all (hv.get 1 rfl)) (verCells_one (v := x) hvalx) (by unfold maxLen; omega) (by omega) (fun rv41 w44 hv => ?_)
     obtain ⟨ra42, rc43, rfl⟩ := row_slice hv.head
     refine xA (.slice ra42 (kl.length + 1) rc43) rfl (wL ?_)
     simp only [zP, po]
     refine bN (tK k9 ?_)
     refine rL (xM (.int .i64 (i : Int)) rfl ?_)
     refine xG (.int .i64 ((i + 1 : Nat) : Int)) rfl (ex_add rfl rfl rfl (by rw [i64_in (by omega)]; omega)) (xA (.int .i64 ((i + 1 : Nat) : Int)) rfl ?_)
     refine wL ?_
     simp only [zP, po]
     refine then_normal ?_
     go_roundw
     case rel => exact ⟨i + 1, _, _, _, kl ++ [x], by rw [List.length_append]; rfl, rfl, by omega, by rw [List.append_assoc, List.singleton_append, ← refPr_keep hx (.inr ⟨(fun y9 hy9 => by rw [hy] at hy9; cases hy9; omega), hc38⟩)]; exact hpr, VersAt.append (VersAt.single hvalx) hys, by rw [List.length_append]; exact (hv.sub (List.Sublist.cons_cons _ (List.Sublist.cons _ (List.Sublist.refl _))))⟩
     case measure => show l.length - (((i + 1 : Nat) : Int)).toNat < l.length - ((i : Int)).toNat; omega
    refine kS (bN ?_)
    refine tK k9 (rL ?_)
    refine xM (.int .i64 (i : Int)) rfl (xG (.int .i64 ((i + 1 : Nat) : Int)) rfl (ex_add rfl rfl rfl (by rw [i64_in (by omega)]; omega)) ?_)
    refine xA (.int .i64 ((i + 1 : Nat) : Int)) rfl (wL ?_)
    simp only [zP, po]
    refine then_normal ?_
    go_roundw
    case rel => exact ⟨i + 1, _, _, _, kl, rfl, rfl, by omega, by rw [← refPr_drop hx (by rintro (h | ⟨_, h⟩) <;> first | omega | (rw [h] at hc38; cases hc38))]; exact hpr, hys, hv⟩
    case measure => show l.length - (((i + 1 : Nat) : Int)).toNat < l.length - ((i : Int)).toNat; omega
   refine xG (.bool false) rfl (ex_gtr rfl rfl rfl (decide_eq_false hb28)) (xK false (.bool false) rfl ?_)
   simp only [zP, po]
   refine xA (.bool false) rfl ?_
   simp only [zP, po]
   refine wK k10 (sK fun _ k45 => ?_)
   refine rL (xM (.slice (some ⟨bb, bo, none⟩) l.length c) rfl ?_)
   refine xM (.int .i64 (i : Int)) rfl (xG (.pointer (some ⟨bb, bo + i * 8, none⟩)) rfl (ex_index rfl rfl rfl (run_idx (k := i) Tryz.underlying70 s1es70 (by omega))) ?_)
   simp only [zP, po]
   refine xF (.pointer (some ⟨bb, bo + i * 8, none⟩)) rfl (s2fa55_0 _ _ _) (xL _ rfl (run_load1 s2na3 (hrdx _ _ _ (Base.Le.refl _) no_res hv 0 _ rfl)) ?_)
   refine xM (.int .i64 mark) rfl ?_
   simp only [zP, po]
   by_cases hb46 : x.stamp > mark
   ·refine xG (.bool true) rfl (ex_gtr rfl rfl rfl (decide_eq_true hb46)) (xM (.bool true) rfl ?_)
    refine yP rfl ?_
    simp only [zP, po]
    refine yP rfl (yP rfl ?_)
    refine yP rfl ?_
    simp only [zP, po]
    refine yP rfl (yP rfl ?_)
    refine yP rfl ?_
    simp only [zP, po]
    refine yP rfl (yP rfl ?_)
    refine xK true (.bool true) rfl ?_
    simp only [zP, po]
    refine wK k45 (cT rfl ?_)
    refine rL (xM (.slice ra kl.length rc) rfl ?_)
    refine xM (.slice (some ⟨bb, bo, none⟩) l.length c) rfl (xM (.int .i64 (i : Int)) rfl ?_)
    simp only [zP, po]
    refine xG (.pointer (some ⟨bb, bo + i * 8, none⟩)) rfl (ex_index rfl rfl rfl (run_idx (k := i) Tryz.underlying70 s1es70 (by omega))) (xL (.agg #[.int .i64 x.stamp, .bool x.gone, .int .i64 x.expire, .int .i64 x.val.kind, .string ⟨x.val.text.toArray⟩, xp, xt, xz]) rfl (run_loadR (cs := [.int .i64 x.stamp, .bool x.gone, .int .i64 x.expire, .int .i64 x.val.kind, .string ⟨x.val.text.toArray⟩, xp, xt, xz]) s1wd55 (Reads.mid (pre := []) (mid := [.int .i64 x.stamp, .bool x.gone, .int .i64 x.expire, .int .i64 x.val.kind, .string ⟨x.val.text.toArray⟩, xp, xt, xz]) (post := []) hrdx _ _ _ (Base.Le.refl _) no_res hv)) ?_)
    refine sl_rowAgg (L := [.int .i64 x.stamp, .bool x.gone, .int .i64 x.expire, .int .i64 x.val.kind, .string ⟨x.val.text.toArray⟩, xp, xt, xz]) tV (wn rfl) rfl rfl hv s32el70 rfl (by decide) (fun b47 w48 hv => ?_)
    simp only [zP, po]
    replace hv := hv.front 1 rfl
    simp only [List.eraseIdx_cons_succ, List.eraseIdx_cons_zero] at hv
    refine sl_append (news := [.int .i64 x.stamp, .bool x.gone, .int .i64 x.expire, .int .i64 x.val.kind, .string ⟨x.val.text.toArray⟩, xp, xt, xz]) tV (wn rfl) rfl rfl rfl s32el70 hv (ok_full (by omega)) rfl (rd_all (hv.get 1 rfl)) (verCells_one (v := x) hvalx) (by unfold maxLen; omega) (by omega) (fun rv49 w52 hv => ?_)
    obtain ⟨ra50, rc51, rfl⟩ := row_slice hv.head
    refine xA (.slice ra50 (kl.length + 1) rc51) rfl (wL ?_)
    simp only [zP, po]
    refine bN (tK k9 ?_)
    refine rL (xM (.int .i64 (i : Int)) rfl ?_)
    refine xG (.int .i64 ((i + 1 : Nat) : Int)) rfl (ex_add rfl rfl rfl (by rw [i64_in (by omega)]; omega)) (xA (.int .i64 ((i + 1 : Nat) : Int)) rfl ?_)
    refine wL ?_
    simp only [zP, po]
    refine then_normal ?_
    go_roundw
    case rel => exact ⟨i + 1, _, _, _, kl ++ [x], by rw [List.length_append]; rfl, rfl, by omega, by rw [List.append_assoc, List.singleton_append, ← refPr_keep hx (.inl (by omega))]; exact hpr, VersAt.append (VersAt.single hvalx) hys, by rw [List.length_append]; exact (hv.sub (List.Sublist.cons_cons _ (List.Sublist.cons _ (List.Sublist.refl _))))⟩
    case measure => show l.length - (((i + 1 : Nat) : Int)).toNat < l.length - ((i : Int)).toNat; omega
   refine xG (.bool false) rfl (ex_gtr rfl rfl rfl (decide_eq_false hb46)) (xM (.bool false) rfl ?_)
   refine xM (.bool false) rfl ?_
   simp only [zP, po]
   refine xM (.bool false) rfl (yP rfl ?_)
   refine yP rfl ?_
   simp only [zP, po]
   refine yP rfl (yP rfl ?_)
   refine yP rfl ?_
   simp only [zP, po]
   refine yP rfl (xK false (.bool false) rfl ?_)
   refine xK false (.bool false) rfl ?_
   simp only [zP, po]
   refine wK k45 (cF rfl ?_)
   refine kS (bN ?_)
   refine tK k9 (rL ?_)
   refine xM (.int .i64 (i : Int)) rfl (xG (.int .i64 ((i + 1 : Nat) : Int)) rfl (ex_add rfl rfl rfl (by rw [i64_in (by omega)]; omega)) ?_)
   refine xA (.int .i64 ((i + 1 : Nat) : Int)) rfl (wL ?_)
   simp only [zP, po]
   refine then_normal ?_
   go_roundw
   case rel => exact ⟨i + 1, _, _, _, kl, rfl, rfl, by omega, by rw [← refPr_drop hx (by rintro (h | ⟨h, _⟩) <;> first | omega | (have := h y hy; omega))]; exact hpr, hys, hv⟩
   case measure => show l.length - (((i + 1 : Nat) : Int)).toNat < l.length - ((i : Int)).toNat; omega
  refine xG (.bool false) rfl (ex_lss rfl rfl rfl (decide_eq_false hb8)) ?_
  simp only [zP, po]
  refine wK k7 (cF rfl ?_)
  refine xE (tX ?_)
  refine tX (bH ?_)
  refine tK k3 (sK fun _ k53 => ?_)
  refine rL (xM (.slice ra kl.length rc) rfl ?_)
  refine xA (.slice ra kl.length rc) rfl ?_
  simp only [zP, po]
  refine wK k53 (rR ?_)
  refine bR rfl rfl ?_
  obtain rfl : i = l.length := by omega
  rw [List.drop_length, show refPr mark clock [] = [] from rfl, List.append_nil] at hpr
  obtain ⟨D, hD, hv, hrD, hokD, -⟩ := (hv).rowBy
  exact ⟨D, _, hD, rfl, by rw [← refPr_eq hasc, ← hpr]; exact ⟨ra, rc, ys, rfl, hokD, hrD, hys.more hD⟩, hv⟩
theorem refPruneX (B : Base) (H : List Res) (w : World) (v : Value) (l : List Ver) (mark clock : Int) (hasc : Asc l) (h : ChainB B v l) (hm : l.length ≤ 100000) (hv : Inv B H w) : Calls Tryz.prog 30 #[v, .int .i64 mark, .int .i64 clock] w fun e w' => ∃ C v', B.Le C ∧ e = .returned v' ∧ ChainB C v' (pruneC l mark clock) ∧ Inv C H w' := by
 obtain ⟨ad, c, xs, rfl, -, hr, hxs⟩ := h
 exact refPrune B H w ad c mark clock xs l hr hxs hm hasc hv
end Go.Proofs.YtffmbdagjpdieaaGreat
/- The reference's index: keys and chains that stay; what a search finds, what is set. -/
namespace Go.Pm
open Go.RowKit
def ChB (B : Base) (cvs : List Value) (M : Model) : Prop := cvs.length = M.length ∧ ∀ (i : Nat) (m : List UInt8 × List Ver), M[i]? = some m → ∃ q, cvs[i]? = some q ∧ ChainB B q m.2
theorem ChB.more {B C : Base} {cvs : List Value} {M : Model} (h : ChB B cvs M) (hB : B.Le C) : ChB C cvs M := ⟨h.1, fun i m hm => by
 obtain ⟨q, h1, h2⟩ := h.2 i m hm
 exact ⟨q, h1, h2.more hB⟩⟩
theorem ChB.one {B : Base} {cvs : List Value} {M : Model} (h : ChB B cvs M) : ∀ u ∈ cvs, u.oneCell' = true := fun u hu => by
 obtain ⟨i, hi⟩ := List.mem_iff_getElem?.1 hu
 have hl := (List.getElem?_eq_some_iff.1 hi).1
 obtain ⟨q, h1, h2⟩ := h.2 i _ (List.getElem?_eq_getElem (by rw [← h.1]; exact hl))
 rw [hi] at h1; cases h1; exact h2.one
theorem ChB.take {B : Base} {cvs : List Value} {M : Model} (h : ChB B cvs M) (k : Nat) : ChB B (cvs.take k) (M.take k) := ⟨by rw [List.length_take, List.length_take, h.1], fun i m hm => by
 have hi := (List.getElem?_eq_some_iff.1 hm).1
 rw [List.length_take] at hi
 rw [List.getElem?_take_of_lt (by omega)] at hm ⊢
 exact h.2 i m hm⟩
theorem ChB.drop {B : Base} {cvs : List Value} {M : Model} (h : ChB B cvs M) (k : Nat) : ChB B (cvs.drop k) (M.drop k) := ⟨by rw [List.length_drop, List.length_drop, h.1], fun i m hm => by
 rw [List.getElem?_drop] at hm ⊢
 exact h.2 _ m hm⟩
theorem ChB.append {B : Base} {c1 c2 : List Value} {M1 M2 : Model} (h1 : ChB B c1 M1) (h2 : ChB B c2 M2) : ChB B (c1 ++ c2) (M1 ++ M2) := ⟨by rw [List.length_append, List.length_append, h1.1, h2.1], fun i m hm => by
 rcases Nat.lt_or_ge i M1.length with h | h
 ·rw [List.getElem?_append_left h] at hm
  rw [List.getElem?_append_left (by rw [h1.1]; exact h)]
  exact h1.2 i m hm
 rw [List.getElem?_append_right h] at hm
 rw [List.getElem?_append_right (by rw [h1.1]; exact h), h1.1]
 exact h2.2 _ m hm⟩
theorem ChB.single {B : Base} {q : Value} {key : List UInt8} {l : List Ver} (h : ChainB B q l) : ChB B [q] [(key, l)] := ⟨rfl, fun i m hm => by
 cases i with
 | zero => simp at hm; subst hm; exact ⟨q, rfl, h⟩
 | succ i => simp at hm⟩
structure RefIx (B : Base) (ka ca : Option Addr) (kc cc : Nat) (cvs : List Value) (M : Model) : Prop where
 ok1 : SliceOk ka M.length kc
 ok2 : SliceOk ca M.length cc
 keys : RdV B [] ka (textCells (keysM M))
 chains : RdV B [] ca cvs
 ch : ChB B cvs M
theorem RefIx.more {B C : Base} {ka ca : Option Addr} {kc cc : Nat} {cvs : List Value} {M : Model} (h : RefIx B ka ca kc cc cvs M) (hB : B.Le C) : RefIx C ka ca kc cc cvs M := ⟨h.ok1, h.ok2, h.keys.more hB (fun _ h => h), h.chains.more hB (fun _ h => h), h.ch.more hB⟩
theorem refIx_nil (B : Base) : RefIx B none none 0 0 [] [] := ⟨⟨Nat.le_refl _, Nat.zero_le _, fun _ => rfl⟩, ⟨Nat.le_refl _, Nat.zero_le _, fun _ => rfl⟩, rdV_nil, rdV_nil, rfl, fun i m hm => by simp at hm⟩
def IsQ (M : Model) (cvs : List Value) (key : List UInt8) (q : Value) : Prop := (∃ (i : Nat) (m : List UInt8 × List Ver), M[i]? = some m ∧ m.1 = key ∧ cvs[i]? = some q) ∨ ((∀ m ∈ M, m.1 ≠ key) ∧ q = .slice none 0 0)
theorem IsQ.uniq {M : Model} {cvs : List Value} {key : List UInt8} {q q' : Value} (hs : SortedT (keysM M)) (h : IsQ M cvs key q) (h' : IsQ M cvs key q') : q = q' := by
 rcases h with ⟨i, m, h1, h2, h3⟩ | ⟨h1, h2⟩
 ·rcases h' with ⟨j, n, k1, k2, k3⟩ | ⟨k1, -⟩
  ·have e : i = j := by
    have hi := (List.getElem?_eq_some_iff.1 h1).1
    have hk1 : (keysM M)[i]? = some key := by rw [keysM, List.getElem?_map, h1, ← h2]; rfl
    have hk2 : (keysM M)[j]? = some key := by rw [keysM, List.getElem?_map, k1, ← k2]; rfl
    have hnd : (keysM M).Nodup := List.Pairwise.imp (fun {a b} hab e => lt_ne hab e) hs
    exact (List.getElem?_inj (by rw [List.length_map]; exact hi) hnd).1 (hk1.trans hk2.symm)
   subst e
   rw [h3] at k3
   exact Option.some.inj k3
  exact absurd h2 (k1 m (List.mem_of_getElem? h1))
 rcases h' with ⟨j, n, k1, k2, -⟩ | ⟨-, k2⟩
 ·exact absurd k2 (h1 n (List.mem_of_getElem? k1))
 rw [h2, k2]
theorem reads_cell {B : Base} {b : Nat} {L : List Value} {t : TypeId} : Reads B [Res.cell b L t] b 0 L := fun C K w _ hR hv j v hj => by
 rw [Blk.cell (show Blk w b L t from hv.own _ (hR _ (List.mem_singleton.2 rfl))), Nat.zero_add]
 exact hj
theorem le_of {B : Base} {H : List Res} {w : World} (hv : Inv B H w) : B.Le (Base.of w) := ⟨hv.base.blk, hv.base.lo, hv.base.os, hv.base.tape, hv.base.output⟩
theorem cell_keep {w w' : World} {C : Base} {K : List Res} {b i : Nat} {v : Value} (hB : (Base.of w).Le C) (hv' : Inv C K w') (hb : w.cell? ⟨b, i, none⟩ = some v) : w'.cell? ⟨b, i, none⟩ = some v := by
 unfold World.cell? at hb ⊢
 cases ho : w.heap[b]? with
 | none => simp only [ho] at hb; cases hb
 | some o =>
  have := hv'.base.blk b o (hB.blk b o ho)
  simp only [ho] at hb
  simp only [this]
  exact hb
theorem reads_lift {B : Base} {R H : List Res} {b off : Nat} {cs : List Value} {w : World} (h : Reads B R b off cs) (hR : ∀ r ∈ R, r ∈ H) (hv : Inv B H w) : Reads (Base.of w) [] b off cs := fun _ _ _ hB _ hv' j v hj => cell_keep hB hv' (h B H w (Base.Le.refl _) hR hv j v hj)
theorem calls_facts {P : Program} {f : FuncId} {args : Array Value} {w : World} {R : Ending → World → Prop} (h : Calls P f args w R) : ∃ e w', R e w' := by
 obtain ⟨e, w', -, h1, -⟩ := h []
 exact ⟨e, w', h1⟩
structure FindK (M : Model) (key : List UInt8) (k : Nat) (ok : Bool) : Prop where
 le : k ≤ M.length
 lo : ∀ m ∈ M.take k, Op.bytesLess m.1 key = true
 hi : ∀ m, M[k]? = some m → Op.bytesLess m.1 key = false
 ok : ok = true ↔ ∃ m, M[k]? = some m ∧ m.1 = key
def setK (M : Model) (key : List UInt8) (l : List Ver) (k : Nat) (ok : Bool) : Model := M.take k ++ (if l = [] then [] else [(key, l)]) ++ M.drop (if ok then k + 1 else k)
section
variable {M : Model} {key : List UInt8} {l : List Ver} {k : Nat} {ok : Bool}
theorem FindK.gt (hs : SortedT (keysM M)) (h : FindK M key k ok) : ∀ m ∈ M.drop (if ok then k + 1 else k), Op.bytesLess key m.1 = true := by
 have base : ∀ m0, M[k]? = some m0 → ∀ m ∈ M.drop (k + 1), Op.bytesLess m0.1 m.1 = true := fun m0 hm0 m hm => by
  have hs := hs
  unfold SortedT keysM at hs
  rw [split_at hm0, List.map_append, List.map_cons, List.pairwise_append] at hs
  exact (List.pairwise_cons.1 hs.2.1).1 m.1 (List.mem_map.2 ⟨m, hm, rfl⟩)
 intro m hm
 cases ok with
 | true =>
  obtain ⟨m0, h1, h2⟩ := h.ok.1 rfl
  rw [← h2]; exact base m0 h1 m hm
 | false =>
  rcases Nat.lt_or_ge k M.length with hk | hk
  ·have h1 : M[k]? = some M[k] := List.getElem?_eq_getElem hk
   have hlt : Op.bytesLess key M[k].1 = true := by
    cases hc : Op.bytesLess key M[k].1 with
    | true => rfl
    | false =>
     have e := lt_total _ _ (h.hi _ h1) hc
     have := h.ok.2 ⟨_, h1, e⟩
     cases this
   have hm : m ∈ M.drop k := hm
   rw [List.drop_eq_getElem_cons hk] at hm
   rcases List.mem_cons.1 hm with rfl | hm
   ·exact hlt
   exact lt_trans _ _ _ hlt (base _ h1 m hm)
  have hm : m ∈ M.drop k := hm
  rw [List.drop_of_length_le hk] at hm
  cases hm
theorem setK_sorted (hs : SortedT (keysM M)) (h : FindK M key k ok) : SortedT (keysM (setK M key l k ok)) := by
 have hs2 := hs
 unfold SortedT keysM at hs ⊢
 have hgt := h.gt hs2
 have h1 : ((M.take k).map (·.1)).Pairwise (fun a b => Op.bytesLess a b = true) := by rw [List.map_take]; exact List.Pairwise.sublist (List.take_sublist _ _) hs
 have h2 : ((M.drop (if ok then k + 1 else k)).map (·.1)).Pairwise (fun a b => Op.bytesLess a b = true) := by rw [List.map_drop]; exact List.Pairwise.sublist (List.drop_sublist _ _) hs
 have h3 : ∀ a ∈ (M.take k).map (·.1), ∀ b ∈ (M.drop (if ok then k + 1 else k)).map (·.1), Op.bytesLess a b = true := fun a ha b hb => by
  obtain ⟨m, hm, rfl⟩ := List.mem_map.1 ha
  obtain ⟨n, hn, rfl⟩ := List.mem_map.1 hb
  exact lt_trans _ _ _ (h.lo m hm) (hgt n hn)
 unfold setK
 rw [List.map_append, List.map_append, List.pairwise_append, List.pairwise_append]
 split
 ·exact ⟨⟨h1, List.Pairwise.nil, fun a _ b hb => by cases hb⟩, h2, fun a ha b hb => by
   rw [List.map_nil, List.append_nil] at ha; exact h3 a ha b hb⟩
 refine ⟨⟨h1, List.pairwise_singleton _ _, fun a ha b hb => ?_⟩, h2, fun a ha b hb => ?_⟩
 ·obtain ⟨m, hm, rfl⟩ := List.mem_map.1 ha
  rw [List.mem_singleton.1 hb]; exact h.lo m hm
 rcases List.mem_append.1 ha with ha | ha
 ·exact h3 a ha b hb
 rw [List.mem_singleton.1 ha]
 obtain ⟨n, hn, rfl⟩ := List.mem_map.1 hb
 exact hgt n hn
theorem getM_findK (hs : SortedT (keysM M)) (h : FindK M key k ok) (key' : List UInt8) : getM (setK M key l k ok) key' = if key' = key then l else getM M key' := by
 have hlo : ∀ m ∈ M.take k, m.1 ≠ key := fun m hm => lt_ne (h.lo m hm)
 have hgt := h.gt hs
 have hhi : ∀ m ∈ M.drop (if ok then k + 1 else k), m.1 ≠ key := fun m hm e => by have := hgt m hm; rw [e, lt_irrefl] at this; cases this
 unfold setK
 by_cases e : key' = key
 ·subst e
  rw [if_pos rfl, List.append_assoc, getM_split hlo]
  split
  ·rename_i h0
   rw [h0, List.nil_append]; exact getM_none hhi
  exact getM_cons_self
 rw [if_neg e]
 have app : ∀ (a x y : Model), getM x key' = getM y key' → getM (a ++ x) key' = getM (a ++ y) key' := fun a x y hxy => by
  unfold getM at hxy ⊢
  rw [List.find?_append, List.find?_append]
  cases a.find? fun m => m.1 == key' with
  | some z => rfl
  | none => exact hxy
 have hM : M = M.take k ++ M.drop k := (List.take_append_drop k M).symm
 conv => rhs; rw [hM]
 rw [List.append_assoc]
 refine app _ _ _ ?_
 have h1 : getM ((if l = [] then [] else [(key, l)]) ++ M.drop (if ok then k + 1 else k)) key' = getM (M.drop (if ok then k + 1 else k)) key' := by
  split
  ·rfl
  exact getM_cons_ne (fun h => e h.symm)
 rw [h1]
 cases ok with
 | false => rfl
 | true =>
  obtain ⟨m0, h2, h3⟩ := h.ok.1 rfl
  have hk := (List.getElem?_eq_some_iff.1 h2).1
  have hm0 : M[k] = m0 := by rw [List.getElem?_eq_getElem hk] at h2; exact Option.some.inj h2
  rw [List.drop_eq_getElem_cons hk, hm0, show m0 = (key, m0.2) by rw [← h3], getM_cons_ne (fun h => e h.symm)]; rfl
theorem FindK.get (h : FindK M key k ok) (hs : SortedT (keysM M)) : (ok = true → ∃ m, M[k]? = some m ∧ getM M key = m.2) ∧ (ok = false → getM M key = []) := by
 constructor
 ·intro hok
  obtain ⟨m, h1, h2⟩ := h.ok.1 hok
  exact ⟨m, h1, by rw [← h2]; exact getM_at hs (List.mem_of_getElem? h1)⟩
 intro hok
 subst hok
 refine getM_none fun m hm e => ?_
 rw [← List.take_append_drop k M] at hm
 rcases List.mem_append.1 hm with h1 | h1
 ·exact lt_ne (h.lo m h1) e
 have := h.gt hs m h1
 rw [e, lt_irrefl] at this; cases this
theorem setK_mem (h : ∀ m ∈ M, m.2 ≠ []) : ∀ m ∈ setK M key l k ok, m.2 ≠ [] := fun m hm => by
 unfold setK at hm
 rcases List.mem_append.1 hm with hm | hm
 ·rcases List.mem_append.1 hm with hm | hm
  ·exact h m (List.mem_of_mem_take hm)
  split at hm
  ·cases hm
  rename_i h0
  rw [List.mem_singleton.1 hm]; exact h0
 exact h m (List.mem_of_mem_drop hm)
end
theorem sliced_hiV {B : Base} {ad : Option Addr} {n c h : Nat} {xs : List Value} (size : Nat) (hok : SliceOk ad n c) (hr : RdV B [] ad xs) (hl : xs.length = n * size) (hh : h ≤ n) : ∃ a2, sliced ad 0 h c size = .slice a2 h c ∧ SliceOk a2 h c ∧ RdV B [] a2 (xs.take (h * size)) := by
 have hle := hok.le
 unfold sliced
 by_cases hc : c = 0
 ·rw [if_pos hc]
  refine ⟨ad, by simp, ⟨by omega, hok.max, hok.nil⟩, ?_⟩
  have : xs = [] := List.eq_nil_of_length_eq_zero (by rw [hl, show n = 0 by omega, Nat.zero_mul])
  rw [this, List.take_nil]
  exact rdV_nil_any _ _
 rw [if_neg hc]
 refine ⟨ad, ?_, ⟨by omega, hok.max, hok.nil⟩, fun i hi => ?_⟩
 ·cases ad with
  | none => exact absurd (hok.nil rfl) hc
  | some a =>
   obtain ⟨b, o, p⟩ := a
   simp only [Nat.zero_mul, Option.map_some, Nat.sub_zero]
   rfl
 rw [List.length_take] at hi
 obtain ⟨b, off, h1, h2⟩ := hr i (by omega)
 refine ⟨b, off, h1, ?_⟩
 rw [List.getElem_take]
 exact h2
theorem sliced_fromV {B : Base} {ad : Option Addr} {n c k : Nat} {xs : List Value} (size : Nat) (hok : SliceOk ad n c) (hr : RdV B [] ad xs) (hl : xs.length = n * size) (hk : k ≤ n) (hz : 0 < size) : ∃ a2 c2, sliced ad k n c size = .slice a2 (n - k) c2 ∧ SliceOk a2 (n - k) c2 ∧ RdV B [] a2 (xs.drop (k * size)) := by
 have hle := hok.le
 have hmx := hok.max
 rcases Nat.lt_or_ge k n with h | h
 ·obtain ⟨a2, h1, h2⟩ := sliced_rdV size hr hl hle hk hz
  refine ⟨a2, c - k, h1, ⟨by omega, by unfold maxLen at hmx ⊢; omega, fun e => ?_⟩, h2⟩
  subst e
  have hlt : 0 < (xs.drop (k * size)).length := by
   rw [List.length_drop, hl]
   have := Nat.mul_lt_mul_of_pos_right h hz
   omega
  obtain ⟨b, off, h3, -⟩ := h2 0 hlt
  cases h3
 obtain rfl : k = n := by omega
 have hd : xs.drop (k * size) = [] := List.drop_of_length_le (by omega)
 rw [hd]
 unfold sliced
 by_cases hc : c = k
 ·rw [if_pos hc]
  exact ⟨ad, c - k, rfl, ⟨by omega, by unfold maxLen at hmx ⊢; omega, fun _ => by omega⟩, rdV_nil_any _ _⟩
 rw [if_neg hc]
 refine ⟨_, c - k, rfl, ⟨by omega, by unfold maxLen at hmx ⊢; omega, fun e => ?_⟩, rdV_nil_any _ _⟩
 cases ad with
 | none => have := hok.nil rfl; omega
 | some a => cases e
section
variable {P : Program} {t : TypeId} {w : World}
theorem run_hiAny {ad : Option Addr} {n c h size : Nat} (ht : P.underlying t = some (.slice (P.elem t))) (hs : ∀ w, (sizeOf (P.elem t)).run P w = .ok size w) (h1 : h ≤ c) :
  (Instr.sliceAt t (.slice ad n c) none (some (.int .i64 (h : Int))) none).run P w = .ok (sliced ad 0 h c size) w := by
 rw [run_sliceAt_slice w t _ _ _ _ ht, run_slice_h w t _ n c ht .i64 h (by omega) (by omega), hs]
 simp only [Result.andThen, Int.toNat_natCast]
end
theorem textCells_take (l : List (List UInt8)) (k : Nat) : (textCells l).take (k * 1) = textCells (l.take k) := by rw [Nat.mul_one, textCells, textCells, List.map_take]
theorem textCells_drop (l : List (List UInt8)) (k : Nat) : (textCells l).drop (k * 1) = textCells (l.drop k) := by rw [Nat.mul_one, textCells, textCells, List.map_drop]
end Go.Pm
