/- Which values, versions and chains are right. -/
import Derived.Test.YtffmbdagjpdieaaGreatStActsB
import Derived.Test.YtffmbdagjpdieaaGreatStActsE
import Derived.Test.YtffmbdagjpdieaaGreatRows
set_option maxRecDepth 100000
namespace Go.Proofs.YtffmbdagjpdieaaGreat
open Go.RowKit Go.Pm
set_option maxHeartbeats 2000000 in
theorem eqPairs (B : Base) (H : List Res) (w : World) (ad : Option Addr) (n c : Nat) (hv : Inv B H w) :
  Calls Tryz.prog 102 #[.slice ad n c, .slice none 0 0] w fun e w' => e = .returned (.bool (decide (n = 0))) ∧ Inv B H w' := by
 refine cW Tryz.func102 rfl Tryz.ntmps102 ?_
 simp only [al]
 refine sK fun _ k1 => rL (xA (.bool false) rfl ?_)
 simp only [zP, po]
 refine wK k1 (sK fun _ k2 => ?_)
 refine sK fun _ k3 => rL (xM (.slice ad n c) rfl ?_)
 refine xG (.int .i64 (n : Int)) rfl (ex_len0 Tryz.underlying50 rfl rfl) (xM (.slice none 0 0) rfl ?_)
 simp only [zP, po]
 refine xG (.int .i64 0) rfl (ex_len0 Tryz.underlying50 rfl rfl) ?_
 by_cases hb4 : (n : Int) ≠ 0
 ·refine xG (.bool true) rfl (ex_neq rfl rfl rfl (decide_eq_true hb4)) ?_
  simp only [zP, po]
  refine wK k3 (cT rfl ?_)
  refine sK fun _ k5 => rL (xA (.bool false) rfl ?_)
  simp only [zP, po]
  refine wK k5 (rR ?_)
  refine tR (bR rfl rfl ?_)
  exact ⟨congrArg (fun b => Ending.returned (Value.bool b)) (by symm; first | exact decide_eq_true (by omega) | exact decide_eq_false (by omega)), hv⟩
 refine xG (.bool false) rfl (ex_neq rfl rfl rfl (decide_eq_false hb4)) ?_
 simp only [zP, po]
 refine wK k3 (cF rfl ?_)
 refine kS (tK k2 ?_)
 refine sK fun _ k6 => sK fun _ k7 => rL (xM (.slice ad n c) rfl ?_)
 refine xG (.int .i64 (n : Int)) rfl (ex_len0 Tryz.underlying50 rfl rfl) (xM (.int .i64 0) rfl ?_)
 simp only [zP, po]
 refine wK k7 (bB ?_)
 gi_loopw [13] (fun x13 wr => ∃ (i : Nat), x13 = .int .i64 (i : Int) ∧ Inv B H wr) (fun x13 _ => 0)
 case atStart => exact ⟨0, rfl, hv⟩
 case round =>
  obtain ⟨i, rfl, hv⟩ := hrel
  refine sK fun _ k9 => rL (xG (.bool false) rfl (ex_lss rfl rfl rfl (decide_eq_false (by omega))) ?_)
  simp only [zP, po]
  refine wK k9 (sK fun _ k10 => ?_)
  refine cF rfl (xE ?_)
  refine tX (tX ?_)
  refine bH (tK k6 ?_)
  refine sK fun _ k11 => rL (xA (.bool true) rfl ?_)
  simp only [zP, po]
  refine wK k11 (rR ?_)
  refine bR rfl rfl (⟨congrArg (fun b => Ending.returned (Value.bool b)) (by symm; first | exact decide_eq_true (by omega) | exact decide_eq_false (by omega)), hv⟩)
set_option maxHeartbeats 2000000 in
theorem eqTexts (B : Base) (H : List Res) (w : World) (ad : Option Addr) (n c : Nat) (hv : Inv B H w) :
  Calls Tryz.prog 103 #[.slice ad n c, .slice none 0 0] w fun e w' => e = .returned (.bool (decide (n = 0))) ∧ Inv B H w' := by
 refine cW Tryz.func103 rfl Tryz.ntmps103 ?_
 simp only [al]
 refine sK fun _ k1 => rL (xA (.bool false) rfl ?_)
 simp only [zP, po]
 refine wK k1 (sK fun _ k2 => ?_)
 refine sK fun _ k3 => rL (xM (.slice ad n c) rfl ?_)
 refine xG (.int .i64 (n : Int)) rfl (ex_len0 Tryz.underlying27 rfl rfl) (xM (.slice none 0 0) rfl ?_)
 simp only [zP, po]
 refine xG (.int .i64 0) rfl (ex_len0 Tryz.underlying27 rfl rfl) ?_
 by_cases hb4 : (n : Int) ≠ 0
 ·refine xG (.bool true) rfl (ex_neq rfl rfl rfl (decide_eq_true hb4)) ?_
  simp only [zP, po]
  refine wK k3 (cT rfl ?_)
  refine sK fun _ k5 => rL (xA (.bool false) rfl ?_)
  simp only [zP, po]
  refine wK k5 (rR ?_)
  refine tR (bR rfl rfl ?_)
  exact ⟨congrArg (fun b => Ending.returned (Value.bool b)) (by symm; first | exact decide_eq_true (by omega) | exact decide_eq_false (by omega)), hv⟩
 refine xG (.bool false) rfl (ex_neq rfl rfl rfl (decide_eq_false hb4)) ?_
 simp only [zP, po]
 refine wK k3 (cF rfl ?_)
 refine kS (tK k2 ?_)
 refine sK fun _ k6 => sK fun _ k7 => rL (xM (.slice ad n c) rfl ?_)
 refine xG (.int .i64 (n : Int)) rfl (ex_len0 Tryz.underlying27 rfl rfl) (xM (.int .i64 0) rfl ?_)
 simp only [zP, po]
 refine wK k7 (bB ?_)
 gi_loopw [13] (fun x13 wr => ∃ (i : Nat), x13 = .int .i64 (i : Int) ∧ Inv B H wr) (fun x13 _ => 0)
 case atStart => exact ⟨0, rfl, hv⟩
 case round =>
  obtain ⟨i, rfl, hv⟩ := hrel
  refine sK fun _ k9 => rL (xG (.bool false) rfl (ex_lss rfl rfl rfl (decide_eq_false (by omega))) ?_)
  simp only [zP, po]
  refine wK k9 (sK fun _ k10 => ?_)
  refine cF rfl (xE ?_)
  refine tX (tX ?_)
  refine bH (tK k6 ?_)
  refine sK fun _ k11 => rL (xA (.bool true) rfl ?_)
  simp only [zP, po]
  refine wK k11 (rR ?_)
  refine bR rfl rfl (⟨congrArg (fun b => Ending.returned (Value.bool b)) (by symm; first | exact decide_eq_true (by omega) | exact decide_eq_false (by omega)), hv⟩)
set_option maxHeartbeats 2000000 in
theorem eqMems (B : Base) (H : List Res) (w : World) (ad : Option Addr) (n c : Nat) (hv : Inv B H w) :
  Calls Tryz.prog 104 #[.slice ad n c, .slice none 0 0] w fun e w' => e = .returned (.bool (decide (n = 0))) ∧ Inv B H w' := by
 refine cW Tryz.func104 rfl Tryz.ntmps104 ?_
 simp only [al]
 refine sK fun _ k1 => rL (xA (.bool false) rfl ?_)
 simp only [zP, po]
 refine wK k1 (sK fun _ k2 => ?_)
 refine sK fun _ k3 => rL (xM (.slice ad n c) rfl ?_)
 refine xG (.int .i64 (n : Int)) rfl (ex_len0 Tryz.underlying51 rfl rfl) (xM (.slice none 0 0) rfl ?_)
 simp only [zP, po]
 refine xG (.int .i64 0) rfl (ex_len0 Tryz.underlying51 rfl rfl) ?_
 by_cases hb4 : (n : Int) ≠ 0
 ·refine xG (.bool true) rfl (ex_neq rfl rfl rfl (decide_eq_true hb4)) ?_
  simp only [zP, po]
  refine wK k3 (cT rfl ?_)
  refine sK fun _ k5 => rL (xA (.bool false) rfl ?_)
  simp only [zP, po]
  refine wK k5 (rR ?_)
  refine tR (bR rfl rfl ?_)
  exact ⟨congrArg (fun b => Ending.returned (Value.bool b)) (by symm; first | exact decide_eq_true (by omega) | exact decide_eq_false (by omega)), hv⟩
 refine xG (.bool false) rfl (ex_neq rfl rfl rfl (decide_eq_false hb4)) ?_
 simp only [zP, po]
 refine wK k3 (cF rfl ?_)
 refine kS (tK k2 ?_)
 refine sK fun _ k6 => sK fun _ k7 => rL (xM (.slice ad n c) rfl ?_)
 refine xG (.int .i64 (n : Int)) rfl (ex_len0 Tryz.underlying51 rfl rfl) (xM (.int .i64 0) rfl ?_)
 simp only [zP, po]
 refine wK k7 (bB ?_)
 gi_loopw [13] (fun x13 wr => ∃ (i : Nat), x13 = .int .i64 (i : Int) ∧ Inv B H wr) (fun x13 _ => 0)
 case atStart => exact ⟨0, rfl, hv⟩
 case round =>
  obtain ⟨i, rfl, hv⟩ := hrel
  refine sK fun _ k9 => rL (xG (.bool false) rfl (ex_lss rfl rfl rfl (decide_eq_false (by omega))) ?_)
  simp only [zP, po]
  refine wK k9 (sK fun _ k10 => ?_)
  refine cF rfl (xE ?_)
  refine tX (tX ?_)
  refine bH (tK k6 ?_)
  refine sK fun _ k11 => rL (xA (.bool true) rfl ?_)
  simp only [zP, po]
  refine wK k11 (rR ?_)
  refine bR rfl rfl (⟨congrArg (fun b => Ending.returned (Value.bool b)) (by symm; first | exact decide_eq_true (by omega) | exact decide_eq_false (by omega)), hv⟩)
def ZeroVal (v : Val) : Prop := v.kind = 0 ∧ v.text = [] ∧ v.pairs.length = 0 ∧ v.texts.length = 0 ∧ v.zset.length = 0
instance (v : Val) : Decidable (ZeroVal v) := inferInstanceAs (Decidable (_ ∧ _))
def ValOk (v : Val) : Prop := (v.kind = 1 ∧ v.text.length ≤ 4096 ∧ v.pairs.length = 0 ∧ v.texts.length = 0 ∧ v.zset.length = 0) ∨ (v.kind = 2 ∧ 0 < v.pairs.length ∧ HashOk v.pairs ∧ v.text = [] ∧ v.texts.length = 0 ∧ v.zset.length = 0) ∨
 (v.kind = 3 ∧ 0 < v.texts.length ∧ listRight v.texts = true ∧ v.text = [] ∧ v.pairs.length = 0 ∧ v.zset.length = 0) ∨ (v.kind = 4 ∧ 0 < v.texts.length ∧ SetOk v.texts ∧ v.text = [] ∧ v.pairs.length = 0 ∧ v.zset.length = 0) ∨
 (v.kind = 5 ∧ 0 < v.zset.length ∧ ZsetOk v.zset ∧ v.text = [] ∧ v.pairs.length = 0 ∧ v.texts.length = 0)
theorem listRightX (B : Base) (H : List Res) (w : World) (ad : Option Addr) (c : Nat) (l : List (List UInt8)) (hr : RdV B [] ad (textCells l)) (hm : l.length ≤ 1000000) (hv : Inv B H w) : Calls Tryz.prog 106 #[.slice ad l.length c] w fun e w' => ∃ b, e = .returned (.bool b) ∧ (b = true ↔ listRight l = true) ∧ Inv B H w' :=
 (listRightC B H w ad c l hr hm hv).mono fun _ _ ⟨h1, h2⟩ => ⟨_, h1, Iff.rfl, h2⟩
theorem s12fa53_0 (w : World) (b o : Nat) : (Instr.fieldAt 53 (.pointer (some ⟨b, o, none⟩)) 0).run Tryz.prog w = .ok (.pointer (some ⟨b, o + 0, none⟩)) w := by kernel_rfl
theorem s12fa53_1 (w : World) (b o : Nat) : (Instr.fieldAt 53 (.pointer (some ⟨b, o, none⟩)) 1).run Tryz.prog w = .ok (.pointer (some ⟨b, o + 1, none⟩)) w := by kernel_rfl
theorem s12callable102 : Callable Tryz.prog 102 := ⟨_, Tryz.func102, by kernel_rfl, by kernel_rfl⟩
theorem s12callable103 : Callable Tryz.prog 103 := ⟨_, Tryz.func103, by kernel_rfl, by kernel_rfl⟩
theorem s12callable104 : Callable Tryz.prog 104 := ⟨_, Tryz.func104, by kernel_rfl, by kernel_rfl⟩
set_option maxHeartbeats 2000000 in
theorem valueSame0 (B : Base) (H : List Res) (w : World) (v : Val) (ap at2 az : Option Addr) (cp ct cz : Nat) (hv : Inv B H w) :
  Calls Tryz.prog 96 #[.agg #[.int .i64 v.kind, .string ⟨v.text.toArray⟩, .slice ap v.pairs.length cp, .slice at2 v.texts.length ct, .slice az v.zset.length cz], .agg #[.int .i64 0, .string ⟨([] : List UInt8).toArray⟩, .slice none 0 0, .slice none 0 0, .slice none 0 0]] w fun e w' => e = .returned (.bool (decide (ZeroVal v))) ∧ Inv B H w' := by
 refine cW Tryz.func96 rfl Tryz.ntmps96 ?_
 simp only [al]
 refine sK fun _ k1 => rL (sl_box (L := [.int .i64 v.kind, .string ⟨v.text.toArray⟩, .slice ap v.pairs.length cp, .slice at2 v.texts.length ct, .slice az v.zset.length cz]) tV (wn rfl) rfl rfl hv (fun w => by kernel_rfl) (fun b2 w3 hv => ?_))
 refine sl_box (L := [.int .i64 0, .string ⟨([] : List UInt8).toArray⟩, .slice none 0 0, .slice none 0 0, .slice none 0 0]) tV (wn rfl) rfl rfl hv (fun w => by kernel_rfl) (fun b4 w5 hv => ?_)
 refine xA (.bool false) rfl ?_
 simp only [zP, po]
 refine wK k1 (sK fun _ k6 => ?_)
 refine rL (xF (.pointer (some ⟨b2, 0, none⟩)) rfl (s12fa53_0 _ _ _) ?_)
 refine xL _ rfl (run_load1 s2na3 (hv.load 1 0 rfl rfl)) (xF (.pointer (some ⟨b4, 0, none⟩)) rfl (s12fa53_0 _ _ _) ?_)
 simp only [zP, po]
 refine xL _ rfl (run_load1 s2na3 (hv.load 0 0 rfl rfl)) ?_
 by_cases hb7 : v.kind = 0
 ·refine xG (.bool true) rfl (ex_eql rfl rfl rfl (decide_eq_true hb7)) (xM (.bool true) rfl ?_)
  simp only [zP, po]
  refine xF (.pointer (some ⟨b2, 1, none⟩)) rfl (s12fa53_1 _ _ _) (xL _ rfl (run_load1 s3na9 (hv.load 1 1 rfl rfl)) ?_)
  refine xF (.pointer (some ⟨b4, 1, none⟩)) rfl (s12fa53_1 _ _ _) ?_
  simp only [zP, po]
  refine xL _ rfl (run_load1 s3na9 (hv.load 0 1 rfl rfl)) ?_
  by_cases hb8 : v.text = ([] : List UInt8)
  ·refine xG (.bool true) rfl (ex_seql rfl rfl rfl (decide_eq_true hb8)) (xK true (.bool true) rfl ?_)
   simp only [zP, po]
   refine xM (.bool true) rfl (xF (.pointer (some ⟨b2, 2, none⟩)) rfl (s1fa53_2 _ _ _) ?_)
   refine xL _ rfl (run_load1 s1na50 (hv.load 1 2 rfl rfl)) ?_
   simp only [zP, po]
   refine xF (.pointer (some ⟨b4, 2, none⟩)) rfl (s1fa53_2 _ _ _) (xL _ rfl (run_load1 s1na50 (hv.load 0 2 rfl rfl)) ?_)
   by_cases hq9 : v.pairs.length = 0
   ·refine xC s12callable102 rfl ((calls_bool (eqPairs B _ _ _ _ _ hv) (decide_eq_true hq9)).mono ?_) rfl
    rintro e w10 ⟨rfl, hv⟩
    refine ⟨_, rfl, ?_⟩
    simp only [zP, po]
    refine xK true (.bool true) rfl (xM (.bool true) rfl ?_)
    refine xF (.pointer (some ⟨b2, 3, none⟩)) rfl (s1fa53_3 _ _ _) ?_
    simp only [zP, po]
    refine xL _ rfl (run_load1 s1na27 (hv.load 1 3 rfl rfl)) (xF (.pointer (some ⟨b4, 3, none⟩)) rfl (s1fa53_3 _ _ _) ?_)
    refine xL _ rfl (run_load1 s1na27 (hv.load 0 3 rfl rfl)) ?_
    simp only [zP, po]
    by_cases hq11 : v.texts.length = 0
    ·refine xC s12callable103 rfl ((calls_bool (eqTexts B _ _ _ _ _ hv) (decide_eq_true hq11)).mono ?_) rfl
     rintro e w12 ⟨rfl, hv⟩
     refine ⟨_, rfl, ?_⟩
     refine xK true (.bool true) rfl (xM (.bool true) rfl ?_)
     simp only [zP, po]
     refine xF (.pointer (some ⟨b2, 4, none⟩)) rfl (s1fa53_4 _ _ _) (xL _ rfl (run_load1 s1na51 (hv.load 1 4 rfl rfl)) ?_)
     refine xF (.pointer (some ⟨b4, 4, none⟩)) rfl (s1fa53_4 _ _ _) ?_
     simp only [zP, po]
     refine xL _ rfl (run_load1 s1na51 (hv.load 0 4 rfl rfl)) ?_
     by_cases hq13 : v.zset.length = 0
     ·refine xC s12callable104 rfl ((calls_bool (eqMems B _ _ _ _ _ hv) (decide_eq_true hq13)).mono ?_) rfl
      rintro e w14 ⟨rfl, hv⟩
      refine ⟨_, rfl, ?_⟩
      refine xK true (.bool true) rfl ?_
      simp only [zP, po]
      refine xA (.bool true) rfl ?_
      simp only [zP, po]
      refine wK k6 (rR ?_)
      refine bR rfl rfl (⟨congrArg (fun b => Ending.returned (Value.bool b)) (by symm; first | exact decide_eq_true ⟨by omega, by assumption, by omega, by omega, by omega⟩ | exact decide_eq_false (fun ⟨h1, h2, h3, h4, h5⟩ => by first | omega | contradiction)), (hv.sub (List.Sublist.cons _ (List.Sublist.cons _ (List.Sublist.refl _))))⟩)
     refine xC s12callable104 rfl ((calls_bool (eqMems B _ _ _ _ _ hv) (decide_eq_false hq13)).mono ?_) rfl
     rintro e w15 ⟨rfl, hv⟩
     refine ⟨_, rfl, ?_⟩
     refine xK true (.bool false) rfl ?_
     simp only [zP, po]
     refine xA (.bool false) rfl ?_
     simp only [zP, po]
     refine wK k6 (rR ?_)
     refine bR rfl rfl (⟨congrArg (fun b => Ending.returned (Value.bool b)) (by symm; first | exact decide_eq_true ⟨by omega, by assumption, by omega, by omega, by omega⟩ | exact decide_eq_false (fun ⟨h1, h2, h3, h4, h5⟩ => by first | omega | contradiction)), (hv.sub (List.Sublist.cons _ (List.Sublist.cons _ (List.Sublist.refl _))))⟩)
    refine xC s12callable103 rfl ((calls_bool (eqTexts B _ _ _ _ _ hv) (decide_eq_false hq11)).mono ?_) rfl
    rintro e w16 ⟨rfl, hv⟩
    refine ⟨_, rfl, ?_⟩
    refine xK true (.bool false) rfl (xM (.bool false) rfl ?_)
    simp only [zP, po]
    iterate 5 refine yN rfl ?_
    refine xK false (.bool false) rfl (xA (.bool false) rfl ?_)
    simp only [zP, po]
    refine wK k6 (rR ?_)
    refine bR rfl rfl (⟨congrArg (fun b => Ending.returned (Value.bool b)) (by symm; first | exact decide_eq_true ⟨by omega, by assumption, by omega, by omega, by omega⟩ | exact decide_eq_false (fun ⟨h1, h2, h3, h4, h5⟩ => by first | omega | contradiction)), (hv.sub (List.Sublist.cons _ (List.Sublist.cons _ (List.Sublist.refl _))))⟩)
   refine xC s12callable102 rfl ((calls_bool (eqPairs B _ _ _ _ _ hv) (decide_eq_false hq9)).mono ?_) rfl
   rintro e w17 ⟨rfl, hv⟩
   refine ⟨_, rfl, ?_⟩
   simp only [zP, po]
   refine xK true (.bool false) rfl (xM (.bool false) rfl ?_)
   iterate 5 refine yN rfl ?_
   refine xK false (.bool false) rfl ?_
   simp only [zP, po]
   refine xM (.bool false) rfl ?_
   iterate 5 refine yN rfl ?_
   refine xK false (.bool false) rfl (xA (.bool false) rfl ?_)
   simp only [zP, po]
   refine wK k6 (rR ?_)
   refine bR rfl rfl (⟨congrArg (fun b => Ending.returned (Value.bool b)) (by symm; first | exact decide_eq_true ⟨by omega, by assumption, by omega, by omega, by omega⟩ | exact decide_eq_false (fun ⟨h1, h2, h3, h4, h5⟩ => by first | omega | contradiction)), (hv.sub (List.Sublist.cons _ (List.Sublist.cons _ (List.Sublist.refl _))))⟩)
  refine xG (.bool false) rfl (ex_seql rfl rfl rfl (decide_eq_false hb8)) (xK true (.bool false) rfl ?_)
  simp only [zP, po]
  refine xM (.bool false) rfl ?_
  iterate 5 refine yN rfl ?_
  refine xK false (.bool false) rfl (xM (.bool false) rfl ?_)
  simp only [zP, po]
  iterate 5 refine yN rfl ?_
  refine xK false (.bool false) rfl (xM (.bool false) rfl ?_)
  iterate 5 refine yN rfl ?_
  refine xK false (.bool false) rfl ?_
  simp only [zP, po]
  refine xA (.bool false) rfl ?_
  simp only [zP, po]
  refine wK k6 (rR ?_)
  refine bR rfl rfl (⟨congrArg (fun b => Ending.returned (Value.bool b)) (by symm; first | exact decide_eq_true ⟨by omega, by assumption, by omega, by omega, by omega⟩ | exact decide_eq_false (fun ⟨h1, h2, h3, h4, h5⟩ => by first | omega | contradiction)), (hv.sub (List.Sublist.cons _ (List.Sublist.cons _ (List.Sublist.refl _))))⟩)
 refine xG (.bool false) rfl (ex_eql rfl rfl rfl (decide_eq_false hb7)) (xM (.bool false) rfl ?_)
 simp only [zP, po]
 iterate 5 refine yN rfl ?_
 refine xK false (.bool false) rfl (xM (.bool false) rfl ?_)
 iterate 5 refine yN rfl ?_
 refine xK false (.bool false) rfl ?_
 simp only [zP, po]
 refine xM (.bool false) rfl ?_
 iterate 5 refine yN rfl ?_
 refine xK false (.bool false) rfl (xM (.bool false) rfl ?_)
 simp only [zP, po]
 iterate 5 refine yN rfl ?_
 refine xK false (.bool false) rfl (xA (.bool false) rfl ?_)
 simp only [zP, po]
 refine wK k6 (rR ?_)
 refine bR rfl rfl (⟨congrArg (fun b => Ending.returned (Value.bool b)) (by symm; first | exact decide_eq_true ⟨by omega, by assumption, by omega, by omega, by omega⟩ | exact decide_eq_false (fun ⟨h1, h2, h3, h4, h5⟩ => by first | omega | contradiction)), (hv.sub (List.Sublist.cons _ (List.Sublist.cons _ (List.Sublist.refl _))))⟩)
theorem s12al53 (w : World) : (Instr.alloc 53 true (.tuple #[])).run Tryz.prog w = .ok (.pointer (some ⟨w.heap.size, 0, none⟩)) (w.alloc (.cells ([.int .i64 0, .string ⟨([] : List UInt8).toArray⟩, .slice none 0 0, .slice none 0 0, .slice none 0 0] : List Value).toArray 53)) := by kernel_rfl
theorem s12sz9 : (Tryz.prog.info? 9).map (·.size) = some 1 := by kernel_rfl
theorem s12callable105 : Callable Tryz.prog 105 := ⟨_, Tryz.func105, by kernel_rfl, by kernel_rfl⟩
theorem s12callable106 : Callable Tryz.prog 106 := ⟨_, Tryz.func106, by kernel_rfl, by kernel_rfl⟩
theorem s12callable107 : Callable Tryz.prog 107 := ⟨_, Tryz.func107, by kernel_rfl, by kernel_rfl⟩
theorem s12callable108 : Callable Tryz.prog 108 := ⟨_, Tryz.func108, by kernel_rfl, by kernel_rfl⟩
set_option maxHeartbeats 4000000 in
theorem valueRight0 (B : Base) (H : List Res) (w : World) (v : Val) (ap at2 az : Option Addr) (cp ct cz : Nat) (hrp : RdV B [] ap (pairCells v.pairs)) (hrt : RdV B [] at2 (textCells v.texts)) (hrz : RdV B [] az (memCells v.zset)) (hpm : v.pairs.length ≤ 1000000) (htm : v.texts.length ≤ 1000000) (hzm : v.zset.length ≤ 1000000) (hv : Inv B H w) :
  Calls Tryz.prog 97 #[.agg #[.int .i64 v.kind, .string ⟨v.text.toArray⟩, .slice ap v.pairs.length cp, .slice at2 v.texts.length ct, .slice az v.zset.length cz]] w fun e w' => ∃ b, e = .returned (.bool b) ∧ (b = true ↔ ValOk v) ∧ Inv B H w' := by
 refine cW Tryz.func97 rfl Tryz.ntmps97 ?_
 simp only [al]
 refine sK fun _ k1 => rL (sl_box (L := [.int .i64 v.kind, .string ⟨v.text.toArray⟩, .slice ap v.pairs.length cp, .slice at2 v.texts.length ct, .slice az v.zset.length cz]) tV (wn rfl) rfl rfl hv (fun w => by kernel_rfl) (fun b2 w3 hv => ?_))
 refine xA (.bool false) rfl ?_
 simp only [zP, po]
 refine wK k1 (sK fun _ k4 => ?_)
 refine rL (xL (.agg #[.int .i64 v.kind, .string ⟨v.text.toArray⟩, .slice ap v.pairs.length cp, .slice at2 v.texts.length ct, .slice az v.zset.length cz]) rfl (run_load_mid (pre := []) (mid := [.int .i64 v.kind, .string ⟨v.text.toArray⟩, .slice ap v.pairs.length cp, .slice at2 v.texts.length ct, .slice az v.zset.length cz]) (post := []) s1wd53 (show Blk _ b2 ([] ++ [.int .i64 v.kind, .string ⟨v.text.toArray⟩, .slice ap v.pairs.length cp, .slice at2 v.texts.length ct, .slice az v.zset.length cz] ++ []) _ from hv.get 0 rfl) rfl) ?_)
 refine sl_alloc tV (wn rfl) rfl hv s12al53 (fun b5 w6 hv => ?_)
 refine xS 0 rfl hv s1sz53 rfl (by exact ⟨rfl, rfl, rfl, rfl, rfl, trivial⟩) (fun w7 hv => ?_)
 simp only [zO, sp] at hv
 simp only [zP, po]
 refine xA (.bool false) rfl ?_
 simp only [zP, po]
 refine wK k4 (sK fun _ k8 => ?_)
 refine sK fun _ k9 => rL (xF (.pointer (some ⟨b2, 0, none⟩)) rfl (s12fa53_0 _ _ _) ?_)
 refine xL _ rfl (run_load1 s2na3 (hv.load 1 0 rfl rfl)) ?_
 simp only [zP, po]
 refine wK k9 (bB ?_)
 refine sK fun _ k10 => rL ?_
 by_cases hb11 : v.kind = 1
 ·refine xG (.bool true) rfl (ex_eql rfl rfl rfl (decide_eq_true hb11)) (xA (.bool true) rfl ?_)
  simp only [zP, po]
  refine wK k10 (cT rfl ?_)
  refine rW mixed [5] [0,1,2,3,4,5,6] 83 rfl (by kernel_rfl) hv ?_
  simp only [qm, opAt]
  refine dG (.pointer (some ⟨b2, 1, none⟩)) rfl (ex_field rfl rfl (s12fa53_1 _ _ _)) (dF _ rfl (fun hv => ex_load rfl rfl (run_load1 s3na9 (hv.load 1 1 rfl rfl))) fun f12 hf12 => ?_)
  refine dG (.int .i64 (v.text.length : Int)) rfl (ex_lenStr Tryz.underlying9 rfl rfl) ?_
  simp only [zP, po]
  by_cases hb13 : (v.text.length : Int) ≤ 4096
  ·refine dG (.bool true) rfl (ex_leq rfl rfl rfl (decide_eq_true hb13)) (dG (.pointer (some ⟨b5, 1, none⟩)) rfl (ex_field rfl rfl (s12fa53_1 _ _ _)) ?_)
   refine dS rfl fun w14 hv => mV 0 (.string ⟨([] : List UInt8).toArray⟩) rfl hv s12sz9 rfl rfl (fun w15 hv => ?_)
   simp only [zO, sp] at hv
   refine dV hv (fC (fun ww hv => hf12 ww (ex_load rfl rfl (run_load1 s3na9 (hv.load 1 1 rfl rfl)))) fN) ?_
   simp only [zP, po]
   refine dA (.bool true) rfl (dE fun w16 hv => ?_)
   simp only [zP, po]
   refine bN (tK k8 ?_)
   refine sK fun _ k17 => rL (xM (.bool true) rfl ?_)
   refine xM (.bool true) rfl (xF (.pointer (some ⟨b5, 1, none⟩)) rfl (s12fa53_1 _ _ _) ?_)
   simp only [zP, po]
   refine xL _ rfl (run_load1 s3na9 (hv.load 0 1 rfl rfl)) ?_
   by_cases hb18 : ([] : List UInt8) = ([] : List UInt8)
   ·refine xG (.bool true) rfl (ex_seql rfl rfl rfl (decide_eq_true hb18)) (xK true (.bool true) rfl ?_)
    simp only [zP, po]
    refine xM (.bool true) rfl (xF (.pointer (some ⟨b5, 2, none⟩)) rfl (s1fa53_2 _ _ _) ?_)
    refine xL _ rfl (run_load1 s1na50 (hv.load 0 2 rfl rfl)) ?_
    simp only [zP, po]
    refine xG (.int .i64 (v.pairs.length : Int)) rfl (ex_len0 Tryz.underlying50 rfl rfl) (xF (.pointer (some ⟨b5, 3, none⟩)) rfl (s1fa53_3 _ _ _) ?_)
    refine xL _ rfl (run_load1 s1na27 (hv.load 0 3 rfl rfl)) ?_
    simp only [zP, po]
    refine xG (.int .i64 (v.texts.length : Int)) rfl (ex_len0 Tryz.underlying27 rfl rfl) (xG (.int .i64 ((v.pairs.length : Int) + (v.texts.length : Int))) rfl (ex_add rfl rfl rfl (i64_in (by omega))) ?_)
    refine xF (.pointer (some ⟨b5, 4, none⟩)) rfl (s1fa53_4 _ _ _) ?_
    simp only [zP, po]
    refine xL _ rfl (run_load1 s1na51 (hv.load 0 4 rfl rfl)) (xG (.int .i64 (v.zset.length : Int)) rfl (ex_len0 Tryz.underlying51 rfl rfl) ?_)
    refine xG (.int .i64 (((v.pairs.length : Int) + (v.texts.length : Int)) + (v.zset.length : Int))) rfl (ex_add rfl rfl rfl (i64_in (by omega))) ?_
    simp only [zP, po]
    by_cases hb19 : (((v.pairs.length : Int) + (v.texts.length : Int)) + (v.zset.length : Int)) = 0
    ·refine xG (.bool true) rfl (ex_eql rfl rfl rfl (decide_eq_true hb19)) (xK true (.bool true) rfl ?_)
     refine xA (.bool true) rfl ?_
     simp only [zP, po]
     refine wK k17 (rR ?_)
     refine bR rfl rfl (⟨true, rfl, ⟨fun _ => by first | exact .inl ⟨by omega, by omega, by omega, by omega, by omega⟩ | exact .inr (.inl ⟨by omega, by omega, hv.1 rfl, by assumption, by omega, by omega⟩) | exact .inr (.inr (.inl ⟨by omega, by omega, hv.1 rfl, by assumption, by omega, by omega⟩)) | exact .inr (.inr (.inr (.inl ⟨by omega, by omega, hv.1 rfl, by assumption, by omega, by omega⟩))) | exact .inr (.inr (.inr (.inr (⟨by omega, by omega, hv.1 rfl, by assumption, by omega, by omega⟩)))), fun _ => rfl⟩, (hv.sub (List.Sublist.cons _ (List.Sublist.cons _ (List.Sublist.refl _))))⟩)
    refine xG (.bool false) rfl (ex_eql rfl rfl rfl (decide_eq_false hb19)) (xK true (.bool false) rfl ?_)
    refine xA (.bool false) rfl ?_
    simp only [zP, po]
    refine wK k17 (rR ?_)
    refine bR rfl rfl (⟨false, rfl, ⟨fun h => (by cases h), fun h => by rcases h with ⟨h1, h2, h3, h4, h5⟩ | ⟨h1, h2, h3, h4, h5, h6⟩ | ⟨h1, h2, h3, h4, h5, h6⟩ | ⟨h1, h2, h3, h4, h5, h6⟩ | ⟨h1, h2, h3, h4, h5, h6⟩ <;> first | omega | contradiction⟩, (hv.sub (List.Sublist.cons _ (List.Sublist.cons _ (List.Sublist.refl _))))⟩)
   refine xG (.bool false) rfl (ex_seql rfl rfl rfl (decide_eq_false hb18)) (xK true (.bool false) rfl ?_)
   simp only [zP, po]
   refine xM (.bool false) rfl ?_
   iterate 12 refine yN rfl ?_
   refine xK false (.bool false) rfl (xA (.bool false) rfl ?_)
   simp only [zP, po]
   refine wK k17 (rR ?_)
   refine bR rfl rfl (⟨false, rfl, ⟨fun h => (by cases h), fun h => by rcases h with ⟨h1, h2, h3, h4, h5⟩ | ⟨h1, h2, h3, h4, h5, h6⟩ | ⟨h1, h2, h3, h4, h5, h6⟩ | ⟨h1, h2, h3, h4, h5, h6⟩ | ⟨h1, h2, h3, h4, h5, h6⟩ <;> first | omega | contradiction⟩, (hv.sub (List.Sublist.cons _ (List.Sublist.cons _ (List.Sublist.refl _))))⟩)
  refine dG (.bool false) rfl (ex_leq rfl rfl rfl (decide_eq_false hb13)) (dG (.pointer (some ⟨b5, 1, none⟩)) rfl (ex_field rfl rfl (s12fa53_1 _ _ _)) ?_)
  refine dS rfl fun w20 hv => mV 0 (.string ⟨([] : List UInt8).toArray⟩) rfl hv s12sz9 rfl rfl (fun w21 hv => ?_)
  simp only [zO, sp] at hv
  refine dV hv (fC (fun ww hv => hf12 ww (ex_load rfl rfl (run_load1 s3na9 (hv.load 1 1 rfl rfl)))) fN) ?_
  simp only [zP, po]
  refine dA (.bool false) rfl (dE fun w22 hv => ?_)
  simp only [zP, po]
  refine bN (tK k8 ?_)
  refine sK fun _ k23 => rL (xM (.bool false) rfl ?_)
  refine xM (.bool false) rfl ?_
  iterate 3 refine yN rfl ?_
  refine xK false (.bool false) rfl ?_
  simp only [zP, po]
  refine xM (.bool false) rfl ?_
  iterate 12 refine yN rfl ?_
  refine xK false (.bool false) rfl (xA (.bool false) rfl ?_)
  simp only [zP, po]
  refine wK k23 (rR ?_)
  refine bR rfl rfl (⟨false, rfl, ⟨fun h => (by cases h), fun h => by rcases h with ⟨h1, h2, h3, h4, h5⟩ | ⟨h1, h2, h3, h4, h5, h6⟩ | ⟨h1, h2, h3, h4, h5, h6⟩ | ⟨h1, h2, h3, h4, h5, h6⟩ | ⟨h1, h2, h3, h4, h5, h6⟩ <;> first | omega | contradiction⟩, (hv.sub (List.Sublist.cons _ (List.Sublist.cons _ (List.Sublist.refl _))))⟩)
 refine xG (.bool false) rfl (ex_eql rfl rfl rfl (decide_eq_false hb11)) (xA (.bool false) rfl ?_)
 simp only [zP, po]
 refine wK k10 (cF rfl ?_)
 refine sK fun _ k24 => rL ?_
 by_cases hb25 : v.kind = 2
 ·refine xG (.bool true) rfl (ex_eql rfl rfl rfl (decide_eq_true hb25)) (xA (.bool true) rfl ?_)
  simp only [zP, po]
  refine wK k24 (cT rfl ?_)
  refine rL (xF (.pointer (some ⟨b2, 2, none⟩)) rfl (s1fa53_2 _ _ _) ?_)
  refine xL _ rfl (run_load1 s1na50 (hv.load 1 2 rfl rfl)) (xG (.int .i64 (v.pairs.length : Int)) rfl (ex_len0 Tryz.underlying50 rfl rfl) ?_)
  simp only [zP, po]
  by_cases hb26 : (v.pairs.length : Int) > 0
  ·refine xG (.bool true) rfl (ex_gtr rfl rfl rfl (decide_eq_true hb26)) (xM (.bool true) rfl ?_)
   refine xF (.pointer (some ⟨b2, 2, none⟩)) rfl (s1fa53_2 _ _ _) ?_
   simp only [zP, po]
   refine xL _ rfl (run_load1 s1na50 (hv.load 1 2 rfl rfl)) (xC s12callable105 rfl ((hashRightC B _ _ _ _ _ hrp (by omega) hv).mono ?_) rfl)
   rintro e w28 ⟨bl27, rfl, hbl27, hv⟩
   refine ⟨_, rfl, ?_⟩
   cases bl27
   ·refine xK true (.bool false) rfl ?_
    simp only [zP, po]
    refine xF (.pointer (some ⟨b5, 2, none⟩)) rfl (s1fa53_2 _ _ _) (xV 0 (.slice none 0 0) rfl hv s1sz50 rfl rfl (fun w29 hv => ?_))
    simp only [zO, sp] at hv
    refine xA (.bool false) rfl (wL ?_)
    simp only [zP, po]
    refine bN (tK k8 ?_)
    refine sK fun _ k30 => rL (xM (.bool false) rfl ?_)
    refine xM (.bool false) rfl ?_
    iterate 3 refine yN rfl ?_
    refine xK false (.bool false) rfl ?_
    simp only [zP, po]
    refine xM (.bool false) rfl ?_
    iterate 12 refine yN rfl ?_
    refine xK false (.bool false) rfl (xA (.bool false) rfl ?_)
    simp only [zP, po]
    refine wK k30 (rR ?_)
    refine bR rfl rfl (⟨false, rfl, ⟨fun h => (by cases h), fun h => by rcases h with ⟨h1, h2, h3, h4, h5⟩ | ⟨h1, h2, h3, h4, h5, h6⟩ | ⟨h1, h2, h3, h4, h5, h6⟩ | ⟨h1, h2, h3, h4, h5, h6⟩ | ⟨h1, h2, h3, h4, h5, h6⟩ <;> first | omega | contradiction | (have h9 := hbl27.2 h3; cases h9)⟩, (hv.sub (List.Sublist.cons _ (List.Sublist.cons _ (List.Sublist.refl _))))⟩)
   refine xK true (.bool true) rfl ?_
   simp only [zP, po]
   refine xF (.pointer (some ⟨b5, 2, none⟩)) rfl (s1fa53_2 _ _ _) (xV 0 (.slice none 0 0) rfl hv s1sz50 rfl rfl (fun w31 hv => ?_))
   simp only [zO, sp] at hv
   refine xA (.bool true) rfl (wL ?_)
   simp only [zP, po]
   refine bN (tK k8 ?_)
   refine sK fun _ k32 => rL (xM (.bool true) rfl ?_)
   refine xM (.bool true) rfl (xF (.pointer (some ⟨b5, 1, none⟩)) rfl (s12fa53_1 _ _ _) ?_)
   simp only [zP, po]
   refine xL _ rfl (run_load1 s3na9 (hv.load 0 1 rfl rfl)) ?_
   by_cases hb33 : v.text = ([] : List UInt8)
   ·refine xG (.bool true) rfl (ex_seql rfl rfl rfl (decide_eq_true hb33)) (xK true (.bool true) rfl ?_)
    simp only [zP, po]
    refine xM (.bool true) rfl (xF (.pointer (some ⟨b5, 2, none⟩)) rfl (s1fa53_2 _ _ _) ?_)
    refine xL _ rfl (run_load1 s1na50 (hv.load 0 2 rfl rfl)) ?_
    simp only [zP, po]
    refine xG (.int .i64 0) rfl (ex_len0 Tryz.underlying50 rfl rfl) (xF (.pointer (some ⟨b5, 3, none⟩)) rfl (s1fa53_3 _ _ _) ?_)
    refine xL _ rfl (run_load1 s1na27 (hv.load 0 3 rfl rfl)) ?_
    simp only [zP, po]
    refine xG (.int .i64 (v.texts.length : Int)) rfl (ex_len0 Tryz.underlying27 rfl rfl) (xG (.int .i64 (0 + (v.texts.length : Int))) rfl (ex_add rfl rfl rfl (i64_in (by omega))) ?_)
    refine xF (.pointer (some ⟨b5, 4, none⟩)) rfl (s1fa53_4 _ _ _) ?_
    simp only [zP, po]
    refine xL _ rfl (run_load1 s1na51 (hv.load 0 4 rfl rfl)) (xG (.int .i64 (v.zset.length : Int)) rfl (ex_len0 Tryz.underlying51 rfl rfl) ?_)
    refine xG (.int .i64 ((0 + (v.texts.length : Int)) + (v.zset.length : Int))) rfl (ex_add rfl rfl rfl (i64_in (by omega))) ?_
    simp only [zP, po]
    by_cases hb34 : ((0 + (v.texts.length : Int)) + (v.zset.length : Int)) = 0
    ·refine xG (.bool true) rfl (ex_eql rfl rfl rfl (decide_eq_true hb34)) (xK true (.bool true) rfl ?_)
     refine xA (.bool true) rfl ?_
     simp only [zP, po]
     refine wK k32 (rR ?_)
     refine bR rfl rfl (⟨true, rfl, ⟨fun _ => by first | exact .inl ⟨by omega, by omega, by omega, by omega, by omega⟩ | exact .inr (.inl ⟨by omega, by omega, hbl27.1 rfl, by assumption, by omega, by omega⟩) | exact .inr (.inr (.inl ⟨by omega, by omega, hbl27.1 rfl, by assumption, by omega, by omega⟩)) | exact .inr (.inr (.inr (.inl ⟨by omega, by omega, hbl27.1 rfl, by assumption, by omega, by omega⟩))) | exact .inr (.inr (.inr (.inr (⟨by omega, by omega, hbl27.1 rfl, by assumption, by omega, by omega⟩)))), fun _ => rfl⟩, (hv.sub (List.Sublist.cons _ (List.Sublist.cons _ (List.Sublist.refl _))))⟩)
    refine xG (.bool false) rfl (ex_eql rfl rfl rfl (decide_eq_false hb34)) (xK true (.bool false) rfl ?_)
    refine xA (.bool false) rfl ?_
    simp only [zP, po]
    refine wK k32 (rR ?_)
    refine bR rfl rfl (⟨false, rfl, ⟨fun h => (by cases h), fun h => by rcases h with ⟨h1, h2, h3, h4, h5⟩ | ⟨h1, h2, h3, h4, h5, h6⟩ | ⟨h1, h2, h3, h4, h5, h6⟩ | ⟨h1, h2, h3, h4, h5, h6⟩ | ⟨h1, h2, h3, h4, h5, h6⟩ <;> first | omega | contradiction | (have h9 := hbl27.2 h3; cases h9)⟩, (hv.sub (List.Sublist.cons _ (List.Sublist.cons _ (List.Sublist.refl _))))⟩)
   refine xG (.bool false) rfl (ex_seql rfl rfl rfl (decide_eq_false hb33)) (xK true (.bool false) rfl ?_)
   simp only [zP, po]
   refine xM (.bool false) rfl ?_
   iterate 12 refine yN rfl ?_
   refine xK false (.bool false) rfl (xA (.bool false) rfl ?_)
   simp only [zP, po]
   refine wK k32 (rR ?_)
   refine bR rfl rfl (⟨false, rfl, ⟨fun h => (by cases h), fun h => by rcases h with ⟨h1, h2, h3, h4, h5⟩ | ⟨h1, h2, h3, h4, h5, h6⟩ | ⟨h1, h2, h3, h4, h5, h6⟩ | ⟨h1, h2, h3, h4, h5, h6⟩ | ⟨h1, h2, h3, h4, h5, h6⟩ <;> first | omega | contradiction | (have h9 := hbl27.2 h3; cases h9)⟩, (hv.sub (List.Sublist.cons _ (List.Sublist.cons _ (List.Sublist.refl _))))⟩)
  refine xG (.bool false) rfl (ex_gtr rfl rfl rfl (decide_eq_false hb26)) (xM (.bool false) rfl ?_)
  iterate 3 refine yN rfl ?_
  refine xK false (.bool false) rfl ?_
  simp only [zP, po]
  refine xF (.pointer (some ⟨b5, 2, none⟩)) rfl (s1fa53_2 _ _ _) (xV 0 (.slice none 0 0) rfl hv s1sz50 rfl rfl (fun w35 hv => ?_))
  simp only [zO, sp] at hv
  refine xA (.bool false) rfl (wL ?_)
  simp only [zP, po]
  refine bN (tK k8 ?_)
  refine sK fun _ k36 => rL (xM (.bool false) rfl ?_)
  refine xM (.bool false) rfl ?_
  iterate 3 refine yN rfl ?_
  refine xK false (.bool false) rfl ?_
  simp only [zP, po]
  refine xM (.bool false) rfl ?_
  iterate 12 refine yN rfl ?_
  refine xK false (.bool false) rfl (xA (.bool false) rfl ?_)
  simp only [zP, po]
  refine wK k36 (rR ?_)
  refine bR rfl rfl (⟨false, rfl, ⟨fun h => (by cases h), fun h => by rcases h with ⟨h1, h2, h3, h4, h5⟩ | ⟨h1, h2, h3, h4, h5, h6⟩ | ⟨h1, h2, h3, h4, h5, h6⟩ | ⟨h1, h2, h3, h4, h5, h6⟩ | ⟨h1, h2, h3, h4, h5, h6⟩ <;> first | omega | contradiction⟩, (hv.sub (List.Sublist.cons _ (List.Sublist.cons _ (List.Sublist.refl _))))⟩)
 refine xG (.bool false) rfl (ex_eql rfl rfl rfl (decide_eq_false hb25)) (xA (.bool false) rfl ?_)
 simp only [zP, po]
 refine wK k24 (cF rfl ?_)
 refine sK fun _ k37 => rL ?_
 by_cases hb38 : v.kind = 3
 ·refine xG (.bool true) rfl (ex_eql rfl rfl rfl (decide_eq_true hb38)) (xA (.bool true) rfl ?_)
  simp only [zP, po]
  refine wK k37 (cT rfl ?_)
  refine rL (xF (.pointer (some ⟨b2, 3, none⟩)) rfl (s1fa53_3 _ _ _) ?_)
  refine xL _ rfl (run_load1 s1na27 (hv.load 1 3 rfl rfl)) (xG (.int .i64 (v.texts.length : Int)) rfl (ex_len0 Tryz.underlying27 rfl rfl) ?_)
  simp only [zP, po]
  by_cases hb39 : (v.texts.length : Int) > 0
  ·refine xG (.bool true) rfl (ex_gtr rfl rfl rfl (decide_eq_true hb39)) (xM (.bool true) rfl ?_)
   refine xF (.pointer (some ⟨b2, 3, none⟩)) rfl (s1fa53_3 _ _ _) ?_
   simp only [zP, po]
   refine xL _ rfl (run_load1 s1na27 (hv.load 1 3 rfl rfl)) (xC s12callable106 rfl ((listRightX B _ _ _ _ _ hrt (by omega) hv).mono ?_) rfl)
   rintro e w41 ⟨bl40, rfl, hbl40, hv⟩
   refine ⟨_, rfl, ?_⟩
   cases bl40
   ·refine xK true (.bool false) rfl ?_
    simp only [zP, po]
    refine xF (.pointer (some ⟨b5, 3, none⟩)) rfl (s1fa53_3 _ _ _) (xV 0 (.slice none 0 0) rfl hv s1sz27 rfl rfl (fun w42 hv => ?_))
    simp only [zO, sp] at hv
    refine xA (.bool false) rfl (wL ?_)
    simp only [zP, po]
    refine bN (tK k8 ?_)
    refine sK fun _ k43 => rL (xM (.bool false) rfl ?_)
    refine xM (.bool false) rfl ?_
    iterate 3 refine yN rfl ?_
    refine xK false (.bool false) rfl ?_
    simp only [zP, po]
    refine xM (.bool false) rfl ?_
    iterate 12 refine yN rfl ?_
    refine xK false (.bool false) rfl (xA (.bool false) rfl ?_)
    simp only [zP, po]
    refine wK k43 (rR ?_)
    refine bR rfl rfl (⟨false, rfl, ⟨fun h => (by cases h), fun h => by rcases h with ⟨h1, h2, h3, h4, h5⟩ | ⟨h1, h2, h3, h4, h5, h6⟩ | ⟨h1, h2, h3, h4, h5, h6⟩ | ⟨h1, h2, h3, h4, h5, h6⟩ | ⟨h1, h2, h3, h4, h5, h6⟩ <;> first | omega | contradiction | (have h9 := hbl40.2 h3; cases h9)⟩, (hv.sub (List.Sublist.cons _ (List.Sublist.cons _ (List.Sublist.refl _))))⟩)
   refine xK true (.bool true) rfl ?_
   simp only [zP, po]
   refine xF (.pointer (some ⟨b5, 3, none⟩)) rfl (s1fa53_3 _ _ _) (xV 0 (.slice none 0 0) rfl hv s1sz27 rfl rfl (fun w44 hv => ?_))
   simp only [zO, sp] at hv
   refine xA (.bool true) rfl (wL ?_)
   simp only [zP, po]
   refine bN (tK k8 ?_)
   refine sK fun _ k45 => rL (xM (.bool true) rfl ?_)
   refine xM (.bool true) rfl (xF (.pointer (some ⟨b5, 1, none⟩)) rfl (s12fa53_1 _ _ _) ?_)
   simp only [zP, po]
   refine xL _ rfl (run_load1 s3na9 (hv.load 0 1 rfl rfl)) ?_
   by_cases hb46 : v.text = ([] : List UInt8)
   ·refine xG (.bool true) rfl (ex_seql rfl rfl rfl (decide_eq_true hb46)) (xK true (.bool true) rfl ?_)
    simp only [zP, po]
    refine xM (.bool true) rfl (xF (.pointer (some ⟨b5, 2, none⟩)) rfl (s1fa53_2 _ _ _) ?_)
    refine xL _ rfl (run_load1 s1na50 (hv.load 0 2 rfl rfl)) ?_
    simp only [zP, po]
    refine xG (.int .i64 (v.pairs.length : Int)) rfl (ex_len0 Tryz.underlying50 rfl rfl) (xF (.pointer (some ⟨b5, 3, none⟩)) rfl (s1fa53_3 _ _ _) ?_)
    refine xL _ rfl (run_load1 s1na27 (hv.load 0 3 rfl rfl)) ?_
    simp only [zP, po]
    refine xG (.int .i64 0) rfl (ex_len0 Tryz.underlying27 rfl rfl) (xG (.int .i64 ((v.pairs.length : Int) + 0)) rfl (ex_add rfl rfl rfl (i64_in (by omega))) ?_)
    refine xF (.pointer (some ⟨b5, 4, none⟩)) rfl (s1fa53_4 _ _ _) ?_
    simp only [zP, po]
    refine xL _ rfl (run_load1 s1na51 (hv.load 0 4 rfl rfl)) (xG (.int .i64 (v.zset.length : Int)) rfl (ex_len0 Tryz.underlying51 rfl rfl) ?_)
    refine xG (.int .i64 (((v.pairs.length : Int) + 0) + (v.zset.length : Int))) rfl (ex_add rfl rfl rfl (i64_in (by omega))) ?_
    simp only [zP, po]
    by_cases hb47 : (((v.pairs.length : Int) + 0) + (v.zset.length : Int)) = 0
    ·refine xG (.bool true) rfl (ex_eql rfl rfl rfl (decide_eq_true hb47)) (xK true (.bool true) rfl ?_)
     refine xA (.bool true) rfl ?_
     simp only [zP, po]
     refine wK k45 (rR ?_)
     refine bR rfl rfl (⟨true, rfl, ⟨fun _ => by first | exact .inl ⟨by omega, by omega, by omega, by omega, by omega⟩ | exact .inr (.inl ⟨by omega, by omega, hbl40.1 rfl, by assumption, by omega, by omega⟩) | exact .inr (.inr (.inl ⟨by omega, by omega, hbl40.1 rfl, by assumption, by omega, by omega⟩)) | exact .inr (.inr (.inr (.inl ⟨by omega, by omega, hbl40.1 rfl, by assumption, by omega, by omega⟩))) | exact .inr (.inr (.inr (.inr (⟨by omega, by omega, hbl40.1 rfl, by assumption, by omega, by omega⟩)))), fun _ => rfl⟩, (hv.sub (List.Sublist.cons _ (List.Sublist.cons _ (List.Sublist.refl _))))⟩)
    refine xG (.bool false) rfl (ex_eql rfl rfl rfl (decide_eq_false hb47)) (xK true (.bool false) rfl ?_)
    refine xA (.bool false) rfl ?_
    simp only [zP, po]
    refine wK k45 (rR ?_)
    refine bR rfl rfl (⟨false, rfl, ⟨fun h => (by cases h), fun h => by rcases h with ⟨h1, h2, h3, h4, h5⟩ | ⟨h1, h2, h3, h4, h5, h6⟩ | ⟨h1, h2, h3, h4, h5, h6⟩ | ⟨h1, h2, h3, h4, h5, h6⟩ | ⟨h1, h2, h3, h4, h5, h6⟩ <;> first | omega | contradiction | (have h9 := hbl40.2 h3; cases h9)⟩, (hv.sub (List.Sublist.cons _ (List.Sublist.cons _ (List.Sublist.refl _))))⟩)
   refine xG (.bool false) rfl (ex_seql rfl rfl rfl (decide_eq_false hb46)) (xK true (.bool false) rfl ?_)
   simp only [zP, po]
   refine xM (.bool false) rfl ?_
   iterate 12 refine yN rfl ?_
   refine xK false (.bool false) rfl (xA (.bool false) rfl ?_)
   simp only [zP, po]
   refine wK k45 (rR ?_)
   refine bR rfl rfl (⟨false, rfl, ⟨fun h => (by cases h), fun h => by rcases h with ⟨h1, h2, h3, h4, h5⟩ | ⟨h1, h2, h3, h4, h5, h6⟩ | ⟨h1, h2, h3, h4, h5, h6⟩ | ⟨h1, h2, h3, h4, h5, h6⟩ | ⟨h1, h2, h3, h4, h5, h6⟩ <;> first | omega | contradiction | (have h9 := hbl40.2 h3; cases h9)⟩, (hv.sub (List.Sublist.cons _ (List.Sublist.cons _ (List.Sublist.refl _))))⟩)
  refine xG (.bool false) rfl (ex_gtr rfl rfl rfl (decide_eq_false hb39)) (xM (.bool false) rfl ?_)
  iterate 3 refine yN rfl ?_
  refine xK false (.bool false) rfl ?_
  simp only [zP, po]
  refine xF (.pointer (some ⟨b5, 3, none⟩)) rfl (s1fa53_3 _ _ _) (xV 0 (.slice none 0 0) rfl hv s1sz27 rfl rfl (fun w48 hv => ?_))
  simp only [zO, sp] at hv
  refine xA (.bool false) rfl (wL ?_)
  simp only [zP, po]
  refine bN (tK k8 ?_)
  refine sK fun _ k49 => rL (xM (.bool false) rfl ?_)
  refine xM (.bool false) rfl ?_
  iterate 3 refine yN rfl ?_
  refine xK false (.bool false) rfl ?_
  simp only [zP, po]
  refine xM (.bool false) rfl ?_
  iterate 12 refine yN rfl ?_
  refine xK false (.bool false) rfl (xA (.bool false) rfl ?_)
  simp only [zP, po]
  refine wK k49 (rR ?_)
  refine bR rfl rfl (⟨false, rfl, ⟨fun h => (by cases h), fun h => by rcases h with ⟨h1, h2, h3, h4, h5⟩ | ⟨h1, h2, h3, h4, h5, h6⟩ | ⟨h1, h2, h3, h4, h5, h6⟩ | ⟨h1, h2, h3, h4, h5, h6⟩ | ⟨h1, h2, h3, h4, h5, h6⟩ <;> first | omega | contradiction⟩, (hv.sub (List.Sublist.cons _ (List.Sublist.cons _ (List.Sublist.refl _))))⟩)
 refine xG (.bool false) rfl (ex_eql rfl rfl rfl (decide_eq_false hb38)) (xA (.bool false) rfl ?_)
 simp only [zP, po]
 refine wK k37 (cF rfl ?_)
 refine sK fun _ k50 => rL ?_
 by_cases hb51 : v.kind = 4
 ·refine xG (.bool true) rfl (ex_eql rfl rfl rfl (decide_eq_true hb51)) (xA (.bool true) rfl ?_)
  simp only [zP, po]
  refine wK k50 (cT rfl ?_)
  refine rL (xF (.pointer (some ⟨b2, 3, none⟩)) rfl (s1fa53_3 _ _ _) ?_)
  refine xL _ rfl (run_load1 s1na27 (hv.load 1 3 rfl rfl)) (xG (.int .i64 (v.texts.length : Int)) rfl (ex_len0 Tryz.underlying27 rfl rfl) ?_)
  simp only [zP, po]
  by_cases hb52 : (v.texts.length : Int) > 0
  ·refine xG (.bool true) rfl (ex_gtr rfl rfl rfl (decide_eq_true hb52)) (xM (.bool true) rfl ?_)
   refine xF (.pointer (some ⟨b2, 3, none⟩)) rfl (s1fa53_3 _ _ _) ?_
   simp only [zP, po]
   refine xL _ rfl (run_load1 s1na27 (hv.load 1 3 rfl rfl)) (xC s12callable107 rfl ((setRightC B _ _ _ _ _ hrt (by omega) hv).mono ?_) rfl)
   rintro e w54 ⟨bl53, rfl, hbl53, hv⟩
   refine ⟨_, rfl, ?_⟩
   cases bl53
   ·refine xK true (.bool false) rfl ?_
    simp only [zP, po]
    refine xF (.pointer (some ⟨b5, 3, none⟩)) rfl (s1fa53_3 _ _ _) (xV 0 (.slice none 0 0) rfl hv s1sz27 rfl rfl (fun w55 hv => ?_))
    simp only [zO, sp] at hv
    refine xA (.bool false) rfl (wL ?_)
    simp only [zP, po]
    refine bN (tK k8 ?_)
    refine sK fun _ k56 => rL (xM (.bool false) rfl ?_)
    refine xM (.bool false) rfl ?_
    iterate 3 refine yN rfl ?_
    refine xK false (.bool false) rfl ?_
    simp only [zP, po]
    refine xM (.bool false) rfl ?_
    iterate 12 refine yN rfl ?_
    refine xK false (.bool false) rfl (xA (.bool false) rfl ?_)
    simp only [zP, po]
    refine wK k56 (rR ?_)
    refine bR rfl rfl (⟨false, rfl, ⟨fun h => (by cases h), fun h => by rcases h with ⟨h1, h2, h3, h4, h5⟩ | ⟨h1, h2, h3, h4, h5, h6⟩ | ⟨h1, h2, h3, h4, h5, h6⟩ | ⟨h1, h2, h3, h4, h5, h6⟩ | ⟨h1, h2, h3, h4, h5, h6⟩ <;> first | omega | contradiction | (have h9 := hbl53.2 h3; cases h9)⟩, (hv.sub (List.Sublist.cons _ (List.Sublist.cons _ (List.Sublist.refl _))))⟩)
   refine xK true (.bool true) rfl ?_
   simp only [zP, po]
   refine xF (.pointer (some ⟨b5, 3, none⟩)) rfl (s1fa53_3 _ _ _) (xV 0 (.slice none 0 0) rfl hv s1sz27 rfl rfl (fun w57 hv => ?_))
   simp only [zO, sp] at hv
   refine xA (.bool true) rfl (wL ?_)
   simp only [zP, po]
   refine bN (tK k8 ?_)
   refine sK fun _ k58 => rL (xM (.bool true) rfl ?_)
   refine xM (.bool true) rfl (xF (.pointer (some ⟨b5, 1, none⟩)) rfl (s12fa53_1 _ _ _) ?_)
   simp only [zP, po]
   refine xL _ rfl (run_load1 s3na9 (hv.load 0 1 rfl rfl)) ?_
   by_cases hb59 : v.text = ([] : List UInt8)
   ·refine xG (.bool true) rfl (ex_seql rfl rfl rfl (decide_eq_true hb59)) (xK true (.bool true) rfl ?_)
    simp only [zP, po]
    refine xM (.bool true) rfl (xF (.pointer (some ⟨b5, 2, none⟩)) rfl (s1fa53_2 _ _ _) ?_)
    refine xL _ rfl (run_load1 s1na50 (hv.load 0 2 rfl rfl)) ?_
    simp only [zP, po]
    refine xG (.int .i64 (v.pairs.length : Int)) rfl (ex_len0 Tryz.underlying50 rfl rfl) (xF (.pointer (some ⟨b5, 3, none⟩)) rfl (s1fa53_3 _ _ _) ?_)
    refine xL _ rfl (run_load1 s1na27 (hv.load 0 3 rfl rfl)) ?_
    simp only [zP, po]
    refine xG (.int .i64 0) rfl (ex_len0 Tryz.underlying27 rfl rfl) (xG (.int .i64 ((v.pairs.length : Int) + 0)) rfl (ex_add rfl rfl rfl (i64_in (by omega))) ?_)
    refine xF (.pointer (some ⟨b5, 4, none⟩)) rfl (s1fa53_4 _ _ _) ?_
    simp only [zP, po]
    refine xL _ rfl (run_load1 s1na51 (hv.load 0 4 rfl rfl)) (xG (.int .i64 (v.zset.length : Int)) rfl (ex_len0 Tryz.underlying51 rfl rfl) ?_)
    refine xG (.int .i64 (((v.pairs.length : Int) + 0) + (v.zset.length : Int))) rfl (ex_add rfl rfl rfl (i64_in (by omega))) ?_
    simp only [zP, po]
    by_cases hb60 : (((v.pairs.length : Int) + 0) + (v.zset.length : Int)) = 0
    ·refine xG (.bool true) rfl (ex_eql rfl rfl rfl (decide_eq_true hb60)) (xK true (.bool true) rfl ?_)
     refine xA (.bool true) rfl ?_
     simp only [zP, po]
     refine wK k58 (rR ?_)
     refine bR rfl rfl (⟨true, rfl, ⟨fun _ => by first | exact .inl ⟨by omega, by omega, by omega, by omega, by omega⟩ | exact .inr (.inl ⟨by omega, by omega, hbl53.1 rfl, by assumption, by omega, by omega⟩) | exact .inr (.inr (.inl ⟨by omega, by omega, hbl53.1 rfl, by assumption, by omega, by omega⟩)) | exact .inr (.inr (.inr (.inl ⟨by omega, by omega, hbl53.1 rfl, by assumption, by omega, by omega⟩))) | exact .inr (.inr (.inr (.inr (⟨by omega, by omega, hbl53.1 rfl, by assumption, by omega, by omega⟩)))), fun _ => rfl⟩, (hv.sub (List.Sublist.cons _ (List.Sublist.cons _ (List.Sublist.refl _))))⟩)
    refine xG (.bool false) rfl (ex_eql rfl rfl rfl (decide_eq_false hb60)) (xK true (.bool false) rfl ?_)
    refine xA (.bool false) rfl ?_
    simp only [zP, po]
    refine wK k58 (rR ?_)
    refine bR rfl rfl (⟨false, rfl, ⟨fun h => (by cases h), fun h => by rcases h with ⟨h1, h2, h3, h4, h5⟩ | ⟨h1, h2, h3, h4, h5, h6⟩ | ⟨h1, h2, h3, h4, h5, h6⟩ | ⟨h1, h2, h3, h4, h5, h6⟩ | ⟨h1, h2, h3, h4, h5, h6⟩ <;> first | omega | contradiction | (have h9 := hbl53.2 h3; cases h9)⟩, (hv.sub (List.Sublist.cons _ (List.Sublist.cons _ (List.Sublist.refl _))))⟩)
   refine xG (.bool false) rfl (ex_seql rfl rfl rfl (decide_eq_false hb59)) (xK true (.bool false) rfl ?_)
   simp only [zP, po]
   refine xM (.bool false) rfl ?_
   iterate 12 refine yN rfl ?_
   refine xK false (.bool false) rfl (xA (.bool false) rfl ?_)
   simp only [zP, po]
   refine wK k58 (rR ?_)
   refine bR rfl rfl (⟨false, rfl, ⟨fun h => (by cases h), fun h => by rcases h with ⟨h1, h2, h3, h4, h5⟩ | ⟨h1, h2, h3, h4, h5, h6⟩ | ⟨h1, h2, h3, h4, h5, h6⟩ | ⟨h1, h2, h3, h4, h5, h6⟩ | ⟨h1, h2, h3, h4, h5, h6⟩ <;> first | omega | contradiction | (have h9 := hbl53.2 h3; cases h9)⟩, (hv.sub (List.Sublist.cons _ (List.Sublist.cons _ (List.Sublist.refl _))))⟩)
  refine xG (.bool false) rfl (ex_gtr rfl rfl rfl (decide_eq_false hb52)) (xM (.bool false) rfl ?_)
  iterate 3 refine yN rfl ?_
  refine xK false (.bool false) rfl ?_
  simp only [zP, po]
  refine xF (.pointer (some ⟨b5, 3, none⟩)) rfl (s1fa53_3 _ _ _) (xV 0 (.slice none 0 0) rfl hv s1sz27 rfl rfl (fun w61 hv => ?_))
  simp only [zO, sp] at hv
  refine xA (.bool false) rfl (wL ?_)
  simp only [zP, po]
  refine bN (tK k8 ?_)
  refine sK fun _ k62 => rL (xM (.bool false) rfl ?_)
  refine xM (.bool false) rfl ?_
  iterate 3 refine yN rfl ?_
  refine xK false (.bool false) rfl ?_
  simp only [zP, po]
  refine xM (.bool false) rfl ?_
  iterate 12 refine yN rfl ?_
  refine xK false (.bool false) rfl (xA (.bool false) rfl ?_)
  simp only [zP, po]
  refine wK k62 (rR ?_)
  refine bR rfl rfl (⟨false, rfl, ⟨fun h => (by cases h), fun h => by rcases h with ⟨h1, h2, h3, h4, h5⟩ | ⟨h1, h2, h3, h4, h5, h6⟩ | ⟨h1, h2, h3, h4, h5, h6⟩ | ⟨h1, h2, h3, h4, h5, h6⟩ | ⟨h1, h2, h3, h4, h5, h6⟩ <;> first | omega | contradiction⟩, (hv.sub (List.Sublist.cons _ (List.Sublist.cons _ (List.Sublist.refl _))))⟩)
 refine xG (.bool false) rfl (ex_eql rfl rfl rfl (decide_eq_false hb51)) (xA (.bool false) rfl ?_)
 simp only [zP, po]
 refine wK k50 (cF rfl ?_)
 refine sK fun _ k63 => rL ?_
 by_cases hb64 : v.kind = 5
 ·refine xG (.bool true) rfl (ex_eql rfl rfl rfl (decide_eq_true hb64)) (xA (.bool true) rfl ?_)
  simp only [zP, po]
  refine wK k63 (cT rfl ?_)
  refine rL (xF (.pointer (some ⟨b2, 4, none⟩)) rfl (s1fa53_4 _ _ _) ?_)
  refine xL _ rfl (run_load1 s1na51 (hv.load 1 4 rfl rfl)) (xG (.int .i64 (v.zset.length : Int)) rfl (ex_len0 Tryz.underlying51 rfl rfl) ?_)
  simp only [zP, po]
  by_cases hb65 : (v.zset.length : Int) > 0
  ·refine xG (.bool true) rfl (ex_gtr rfl rfl rfl (decide_eq_true hb65)) (xM (.bool true) rfl ?_)
   refine xF (.pointer (some ⟨b2, 4, none⟩)) rfl (s1fa53_4 _ _ _) ?_
   simp only [zP, po]
   refine xL _ rfl (run_load1 s1na51 (hv.load 1 4 rfl rfl)) (xC s12callable108 rfl ((zsetRightC B _ _ _ _ _ hrz (by omega) hv).mono ?_) rfl)
   rintro e w67 ⟨bl66, rfl, hbl66, hv⟩
   refine ⟨_, rfl, ?_⟩
   cases bl66
   ·refine xK true (.bool false) rfl ?_
    simp only [zP, po]
    refine xF (.pointer (some ⟨b5, 4, none⟩)) rfl (s1fa53_4 _ _ _) (xV 0 (.slice none 0 0) rfl hv s1sz51 rfl rfl (fun w68 hv => ?_))
    simp only [zO, sp] at hv
    refine xA (.bool false) rfl (wL ?_)
    simp only [zP, po]
    refine bN (tK k8 ?_)
    refine sK fun _ k69 => rL (xM (.bool false) rfl ?_)
    refine xM (.bool false) rfl ?_
    iterate 3 refine yN rfl ?_
    refine xK false (.bool false) rfl ?_
    simp only [zP, po]
    refine xM (.bool false) rfl ?_
    iterate 12 refine yN rfl ?_
    refine xK false (.bool false) rfl (xA (.bool false) rfl ?_)
    simp only [zP, po]
    refine wK k69 (rR ?_)
    refine bR rfl rfl (⟨false, rfl, ⟨fun h => (by cases h), fun h => by rcases h with ⟨h1, h2, h3, h4, h5⟩ | ⟨h1, h2, h3, h4, h5, h6⟩ | ⟨h1, h2, h3, h4, h5, h6⟩ | ⟨h1, h2, h3, h4, h5, h6⟩ | ⟨h1, h2, h3, h4, h5, h6⟩ <;> first | omega | contradiction | (have h9 := hbl66.2 h3; cases h9)⟩, (hv.sub (List.Sublist.cons _ (List.Sublist.cons _ (List.Sublist.refl _))))⟩)
   refine xK true (.bool true) rfl ?_
   simp only [zP, po]
   refine xF (.pointer (some ⟨b5, 4, none⟩)) rfl (s1fa53_4 _ _ _) (xV 0 (.slice none 0 0) rfl hv s1sz51 rfl rfl (fun w70 hv => ?_))
   simp only [zO, sp] at hv
   refine xA (.bool true) rfl (wL ?_)
   simp only [zP, po]
   refine bN (tK k8 ?_)
   refine sK fun _ k71 => rL (xM (.bool true) rfl ?_)
   refine xM (.bool true) rfl (xF (.pointer (some ⟨b5, 1, none⟩)) rfl (s12fa53_1 _ _ _) ?_)
   simp only [zP, po]
   refine xL _ rfl (run_load1 s3na9 (hv.load 0 1 rfl rfl)) ?_
   by_cases hb72 : v.text = ([] : List UInt8)
   ·refine xG (.bool true) rfl (ex_seql rfl rfl rfl (decide_eq_true hb72)) (xK true (.bool true) rfl ?_)
    simp only [zP, po]
    refine xM (.bool true) rfl (xF (.pointer (some ⟨b5, 2, none⟩)) rfl (s1fa53_2 _ _ _) ?_)
    refine xL _ rfl (run_load1 s1na50 (hv.load 0 2 rfl rfl)) ?_
    simp only [zP, po]
    refine xG (.int .i64 (v.pairs.length : Int)) rfl (ex_len0 Tryz.underlying50 rfl rfl) (xF (.pointer (some ⟨b5, 3, none⟩)) rfl (s1fa53_3 _ _ _) ?_)
    refine xL _ rfl (run_load1 s1na27 (hv.load 0 3 rfl rfl)) ?_
    simp only [zP, po]
    refine xG (.int .i64 (v.texts.length : Int)) rfl (ex_len0 Tryz.underlying27 rfl rfl) (xG (.int .i64 ((v.pairs.length : Int) + (v.texts.length : Int))) rfl (ex_add rfl rfl rfl (i64_in (by omega))) ?_)
    refine xF (.pointer (some ⟨b5, 4, none⟩)) rfl (s1fa53_4 _ _ _) ?_
    simp only [zP, po]
    refine xL _ rfl (run_load1 s1na51 (hv.load 0 4 rfl rfl)) (xG (.int .i64 0) rfl (ex_len0 Tryz.underlying51 rfl rfl) ?_)
    refine xG (.int .i64 (((v.pairs.length : Int) + (v.texts.length : Int)) + 0)) rfl (ex_add rfl rfl rfl (i64_in (by omega))) ?_
    simp only [zP, po]
    by_cases hb73 : (((v.pairs.length : Int) + (v.texts.length : Int)) + 0) = 0
    ·refine xG (.bool true) rfl (ex_eql rfl rfl rfl (decide_eq_true hb73)) (xK true (.bool true) rfl ?_)
     refine xA (.bool true) rfl ?_
     simp only [zP, po]
     refine wK k71 (rR ?_)
     refine bR rfl rfl (⟨true, rfl, ⟨fun _ => by first | exact .inl ⟨by omega, by omega, by omega, by omega, by omega⟩ | exact .inr (.inl ⟨by omega, by omega, hbl66.1 rfl, by assumption, by omega, by omega⟩) | exact .inr (.inr (.inl ⟨by omega, by omega, hbl66.1 rfl, by assumption, by omega, by omega⟩)) | exact .inr (.inr (.inr (.inl ⟨by omega, by omega, hbl66.1 rfl, by assumption, by omega, by omega⟩))) | exact .inr (.inr (.inr (.inr (⟨by omega, by omega, hbl66.1 rfl, by assumption, by omega, by omega⟩)))), fun _ => rfl⟩, (hv.sub (List.Sublist.cons _ (List.Sublist.cons _ (List.Sublist.refl _))))⟩)
    refine xG (.bool false) rfl (ex_eql rfl rfl rfl (decide_eq_false hb73)) (xK true (.bool false) rfl ?_)
    refine xA (.bool false) rfl ?_
    simp only [zP, po]
    refine wK k71 (rR ?_)
    refine bR rfl rfl (⟨false, rfl, ⟨fun h => (by cases h), fun h => by rcases h with ⟨h1, h2, h3, h4, h5⟩ | ⟨h1, h2, h3, h4, h5, h6⟩ | ⟨h1, h2, h3, h4, h5, h6⟩ | ⟨h1, h2, h3, h4, h5, h6⟩ | ⟨h1, h2, h3, h4, h5, h6⟩ <;> first | omega | contradiction | (have h9 := hbl66.2 h3; cases h9)⟩, (hv.sub (List.Sublist.cons _ (List.Sublist.cons _ (List.Sublist.refl _))))⟩)
   refine xG (.bool false) rfl (ex_seql rfl rfl rfl (decide_eq_false hb72)) (xK true (.bool false) rfl ?_)
   simp only [zP, po]
   refine xM (.bool false) rfl ?_
   iterate 12 refine yN rfl ?_
   refine xK false (.bool false) rfl (xA (.bool false) rfl ?_)
   simp only [zP, po]
   refine wK k71 (rR ?_)
   refine bR rfl rfl (⟨false, rfl, ⟨fun h => (by cases h), fun h => by rcases h with ⟨h1, h2, h3, h4, h5⟩ | ⟨h1, h2, h3, h4, h5, h6⟩ | ⟨h1, h2, h3, h4, h5, h6⟩ | ⟨h1, h2, h3, h4, h5, h6⟩ | ⟨h1, h2, h3, h4, h5, h6⟩ <;> first | omega | contradiction | (have h9 := hbl66.2 h3; cases h9)⟩, (hv.sub (List.Sublist.cons _ (List.Sublist.cons _ (List.Sublist.refl _))))⟩)
  refine xG (.bool false) rfl (ex_gtr rfl rfl rfl (decide_eq_false hb65)) (xM (.bool false) rfl ?_)
  iterate 3 refine yN rfl ?_
  refine xK false (.bool false) rfl ?_
  simp only [zP, po]
  refine xF (.pointer (some ⟨b5, 4, none⟩)) rfl (s1fa53_4 _ _ _) (xV 0 (.slice none 0 0) rfl hv s1sz51 rfl rfl (fun w74 hv => ?_))
  simp only [zO, sp] at hv
  refine xA (.bool false) rfl (wL ?_)
  simp only [zP, po]
  refine bN (tK k8 ?_)
  refine sK fun _ k75 => rL (xM (.bool false) rfl ?_)
  refine xM (.bool false) rfl ?_
  iterate 3 refine yN rfl ?_
  refine xK false (.bool false) rfl ?_
  simp only [zP, po]
  refine xM (.bool false) rfl ?_
  iterate 12 refine yN rfl ?_
  refine xK false (.bool false) rfl (xA (.bool false) rfl ?_)
  simp only [zP, po]
  refine wK k75 (rR ?_)
  refine bR rfl rfl (⟨false, rfl, ⟨fun h => (by cases h), fun h => by rcases h with ⟨h1, h2, h3, h4, h5⟩ | ⟨h1, h2, h3, h4, h5, h6⟩ | ⟨h1, h2, h3, h4, h5, h6⟩ | ⟨h1, h2, h3, h4, h5, h6⟩ | ⟨h1, h2, h3, h4, h5, h6⟩ <;> first | omega | contradiction⟩, (hv.sub (List.Sublist.cons _ (List.Sublist.cons _ (List.Sublist.refl _))))⟩)
 refine xG (.bool false) rfl (ex_eql rfl rfl rfl (decide_eq_false hb64)) (xA (.bool false) rfl ?_)
 simp only [zP, po]
 refine wK k63 (cF rfl ?_)
 refine kS (bN ?_)
 refine tK k8 (sK fun _ k76 => ?_)
 refine rL (xM (.bool false) rfl ?_)
 refine xM (.bool false) rfl ?_
 iterate 3 refine yN rfl ?_
 refine xK false (.bool false) rfl ?_
 simp only [zP, po]
 refine xM (.bool false) rfl ?_
 iterate 12 refine yN rfl ?_
 refine xK false (.bool false) rfl (xA (.bool false) rfl ?_)
 simp only [zP, po]
 refine wK k76 (rR ?_)
 refine bR rfl rfl (⟨false, rfl, ⟨fun h => (by cases h), fun h => by rcases h with ⟨h1, h2, h3, h4, h5⟩ | ⟨h1, h2, h3, h4, h5, h6⟩ | ⟨h1, h2, h3, h4, h5, h6⟩ | ⟨h1, h2, h3, h4, h5, h6⟩ | ⟨h1, h2, h3, h4, h5, h6⟩ <;> first | omega | contradiction⟩, (hv.sub (List.Sublist.cons _ (List.Sublist.cons _ (List.Sublist.refl _))))⟩)
theorem valueRight (B : Base) (H : List Res) (w : World) (v : Val) (p t z : Value) (h : ValAt B v p t z) (hv : Inv B H w) : Calls Tryz.prog 97 #[.agg (valCells v p t z).toArray] w fun e w' => ∃ b, e = .returned (.bool b) ∧ (b = true ↔ ValOk v) ∧ Inv B H w' := by
 obtain ⟨⟨ap, cp, rfl, -, hrp⟩, ⟨at2, ct, rfl, -, hrt⟩, ⟨az, cz, rfl, -, hrz⟩, hpm, htm, hzm⟩ := h
 exact valueRight0 B H w v ap at2 az cp ct cz hrp hrt hrz hpm htm hzm hv
theorem valueSameZ (B : Base) (H : List Res) (w : World) (v : Val) (p t z : Value) (h : ValAt B v p t z) (hv : Inv B H w) : Calls Tryz.prog 96 #[.agg (valCells v p t z).toArray, .agg #[.int .i64 0, .string ⟨([] : List UInt8).toArray⟩, .slice none 0 0, .slice none 0 0, .slice none 0 0]] w fun e w' => e = .returned (.bool (decide (ZeroVal v))) ∧ Inv B H w' := by
 obtain ⟨⟨ap, cp, rfl, -, -⟩, ⟨at2, ct, rfl, -, -⟩, ⟨az, cz, rfl, -, -⟩, -, -, -⟩ := h
 exact valueSame0 B H w v ap at2 az cp ct cz hv
def VerOk (v : Ver) : Prop := (v.gone = true ∧ v.expire = 0 ∧ ZeroVal v.val) ∨ (v.gone = false ∧ 0 ≤ v.expire ∧ v.expire ≤ 1099511627776 ∧ ValOk v.val)
end Go.Proofs.YtffmbdagjpdieaaGreat
/- Which versions and chains are right. -/
namespace Go.Proofs.YtffmbdagjpdieaaGreat
open Go.RowKit Go.Pm
theorem s13callable96 : Callable Tryz.prog 96 := ⟨_, Tryz.func96, by kernel_rfl, by kernel_rfl⟩
theorem s13callable97 : Callable Tryz.prog 97 := ⟨_, Tryz.func97, by kernel_rfl, by kernel_rfl⟩
set_option maxHeartbeats 2000000 in
theorem chainContent (B : Base) (H : List Res) (w : World) (v : Ver) (p t z : Value) (h : ValAt B v.val p t z) (hv : Inv B H w) :
  Calls Tryz.prog 85 #[.agg #[.int .i64 v.stamp, .bool v.gone, .int .i64 v.expire, .int .i64 v.val.kind, .string ⟨v.val.text.toArray⟩, p, t, z]] w fun e w' => ∃ b, e = .returned (.bool b) ∧ (b = true ↔ VerOk v) ∧ Inv B H w' := by
 refine cW Tryz.func85 rfl Tryz.ntmps85 ?_
 simp only [al]
 refine sK fun _ k1 => rL (sl_box (L := [.int .i64 v.stamp, .bool v.gone, .int .i64 v.expire, .int .i64 v.val.kind, .string ⟨v.val.text.toArray⟩, p, t, z]) tV (wn rfl) rfl rfl hv (fun w => by kernel_rfl) (fun b2 w3 hv => ?_))
 refine xA (.bool false) rfl ?_
 simp only [zP, po]
 refine wK k1 (sK fun _ k4 => ?_)
 refine sK fun _ k5 => rL (xF (.pointer (some ⟨b2, 1, none⟩)) rfl (s2fa55_1 _ _ _) ?_)
 refine xL _ rfl (run_load1 s2na4 (hv.load 0 1 rfl rfl)) ?_
 simp only [zP, po]
 refine wK k5 (wpIn_cond_split (t := v.gone) rfl (fun hc6 => ?_) (fun hc6 => ?_))
 ·refine sK fun _ k7 => rL (xF (.pointer (some ⟨b2, 2, none⟩)) rfl (s2fa55_2 _ _ _) ?_)
  refine xL _ rfl (run_load1 s2na3 (hv.load 0 2 rfl rfl)) ?_
  by_cases hb8 : v.expire = 0
  ·refine xG (.bool true) rfl (ex_eql rfl rfl rfl (decide_eq_true hb8)) ?_
   simp only [zP, po]
   refine xM (.bool true) rfl (xF (.pointer (some ⟨b2, 3, none⟩)) rfl (s1fa55_3 _ _ _) ?_)
   refine xL (.agg #[.int .i64 v.val.kind, .string ⟨v.val.text.toArray⟩, p, t, z]) rfl (run_load_mid (pre := [.int .i64 v.stamp, .bool v.gone, .int .i64 v.expire]) (mid := [.int .i64 v.val.kind, .string ⟨v.val.text.toArray⟩, p, t, z]) (post := []) s1wd53 (show Blk _ b2 ([.int .i64 v.stamp, .bool v.gone, .int .i64 v.expire] ++ [.int .i64 v.val.kind, .string ⟨v.val.text.toArray⟩, p, t, z] ++ []) _ from hv.get 0 rfl) rfl) ?_
   simp only [zP, po]
   refine xG (.agg #[.int .i64 0, .string ⟨([] : List UInt8).toArray⟩, .slice none 0 0, .slice none 0 0, .slice none 0 0]) rfl (ex_buildN (vs := #[]) rfl (by simp only [List.map_toArray, List.map_nil]) (by kernel_rfl)) ?_
   by_cases hq9 : ZeroVal v.val
   ·refine xC s13callable96 rfl ((calls_bool (valueSameZ B _ _ v.val p t z h hv) (decide_eq_true hq9)).mono ?_) rfl
    rintro e w10 ⟨rfl, hv⟩
    refine ⟨_, rfl, ?_⟩
    refine xK true (.bool true) rfl ?_
    simp only [zP, po]
    refine xA (.bool true) rfl ?_
    simp only [zP, po]
    refine wK k7 (rR ?_)
    refine tR (bR rfl rfl ?_)
    exact ⟨true, rfl, ⟨fun _ => by first | exact .inl ⟨by simpa using hc6, by omega, by assumption⟩ | exact .inr ⟨by simpa using hc6, by omega, by omega, hv.1 rfl⟩, fun _ => rfl⟩, (hv.sub (List.Sublist.cons _ (List.Sublist.refl _)))⟩
   refine xC s13callable96 rfl ((calls_bool (valueSameZ B _ _ v.val p t z h hv) (decide_eq_false hq9)).mono ?_) rfl
   rintro e w11 ⟨rfl, hv⟩
   refine ⟨_, rfl, ?_⟩
   refine xK true (.bool false) rfl ?_
   simp only [zP, po]
   refine xA (.bool false) rfl ?_
   simp only [zP, po]
   refine wK k7 (rR ?_)
   refine tR (bR rfl rfl ?_)
   refine ⟨false, rfl, ⟨fun h => (by cases h), fun h => ?_⟩, (hv.sub (List.Sublist.cons _ (List.Sublist.refl _)))⟩
   rcases h with ⟨h1, h2, h3⟩ | ⟨h1, h2, h3, h4⟩
   ·first | omega | exact absurd h3 (by assumption)
   rw [h1] at hc6; cases hc6
  refine xG (.bool false) rfl (ex_eql rfl rfl rfl (decide_eq_false hb8)) ?_
  simp only [zP, po]
  refine xM (.bool false) rfl ?_
  iterate 4 refine yN rfl ?_
  refine xK false (.bool false) rfl (xA (.bool false) rfl ?_)
  simp only [zP, po]
  refine wK k7 (rR ?_)
  refine tR (bR rfl rfl ?_)
  refine ⟨false, rfl, ⟨fun h => (by cases h), fun h => ?_⟩, (hv.sub (List.Sublist.cons _ (List.Sublist.refl _)))⟩
  rcases h with ⟨h1, h2, h3⟩ | ⟨h1, h2, h3, h4⟩
  ·first | omega | exact absurd h3 (by assumption)
  rw [h1] at hc6; cases hc6
 refine kS (tK k4 ?_)
 refine sK fun _ k12 => rL (xF (.pointer (some ⟨b2, 2, none⟩)) rfl (s2fa55_2 _ _ _) ?_)
 refine xL _ rfl (run_load1 s2na3 (hv.load 0 2 rfl rfl)) ?_
 by_cases hb13 : v.expire ≥ 0
 ·refine xG (.bool true) rfl (ex_geq rfl rfl rfl (decide_eq_true hb13)) ?_
  simp only [zP, po]
  refine xM (.bool true) rfl (xF (.pointer (some ⟨b2, 2, none⟩)) rfl (s2fa55_2 _ _ _) ?_)
  refine xL _ rfl (run_load1 s2na3 (hv.load 0 2 rfl rfl)) ?_
  simp only [zP, po]
  by_cases hb14 : v.expire ≤ 1099511627776
  ·refine xG (.bool true) rfl (ex_leq rfl rfl rfl (decide_eq_true hb14)) (xK true (.bool true) rfl ?_)
   refine xM (.bool true) rfl ?_
   simp only [zP, po]
   refine xF (.pointer (some ⟨b2, 3, none⟩)) rfl (s1fa55_3 _ _ _) (xL (.agg #[.int .i64 v.val.kind, .string ⟨v.val.text.toArray⟩, p, t, z]) rfl (run_load_mid (pre := [.int .i64 v.stamp, .bool v.gone, .int .i64 v.expire]) (mid := [.int .i64 v.val.kind, .string ⟨v.val.text.toArray⟩, p, t, z]) (post := []) s1wd53 (show Blk _ b2 ([.int .i64 v.stamp, .bool v.gone, .int .i64 v.expire] ++ [.int .i64 v.val.kind, .string ⟨v.val.text.toArray⟩, p, t, z] ++ []) _ from hv.get 0 rfl) rfl) ?_)
   refine xC s13callable97 rfl ((valueRight B _ _ v.val p t z h hv).mono ?_) rfl
   rintro e w16 ⟨bl15, rfl, hbl15, hv⟩
   refine ⟨_, rfl, ?_⟩
   cases bl15
   ·simp only [zP, po]
    refine xK true (.bool false) rfl (xA (.bool false) rfl ?_)
    simp only [zP, po]
    refine wK k12 (rR ?_)
    refine bR rfl rfl (⟨false, rfl, ⟨fun h => (by cases h), fun h => ?_⟩, (hv.sub (List.Sublist.cons _ (List.Sublist.refl _)))⟩)
    rcases h with ⟨h1, h2, h3⟩ | ⟨h1, h2, h3, h4⟩
    ·rw [h1] at hc6; cases hc6
    first | omega | (have h9 := hbl15.2 h4; cases h9)
   simp only [zP, po]
   refine xK true (.bool true) rfl (xA (.bool true) rfl ?_)
   simp only [zP, po]
   refine wK k12 (rR ?_)
   refine bR rfl rfl (⟨true, rfl, ⟨fun _ => by first | exact .inl ⟨by simpa using hc6, by omega, by assumption⟩ | exact .inr ⟨by simpa using hc6, by omega, by omega, hbl15.1 rfl⟩, fun _ => rfl⟩, (hv.sub (List.Sublist.cons _ (List.Sublist.refl _)))⟩)
  refine xG (.bool false) rfl (ex_leq rfl rfl rfl (decide_eq_false hb14)) (xK true (.bool false) rfl ?_)
  refine xM (.bool false) rfl ?_
  simp only [zP, po]
  iterate 3 refine yN rfl ?_
  refine xK false (.bool false) rfl (xA (.bool false) rfl ?_)
  simp only [zP, po]
  refine wK k12 (rR ?_)
  refine bR rfl rfl (⟨false, rfl, ⟨fun h => (by cases h), fun h => ?_⟩, (hv.sub (List.Sublist.cons _ (List.Sublist.refl _)))⟩)
  rcases h with ⟨h1, h2, h3⟩ | ⟨h1, h2, h3, h4⟩
  ·rw [h1] at hc6; cases hc6
  first | omega
 refine xG (.bool false) rfl (ex_geq rfl rfl rfl (decide_eq_false hb13)) ?_
 simp only [zP, po]
 refine xM (.bool false) rfl ?_
 iterate 3 refine yN rfl ?_
 refine xK false (.bool false) rfl (xM (.bool false) rfl ?_)
 simp only [zP, po]
 iterate 3 refine yN rfl ?_
 refine xK false (.bool false) rfl (xA (.bool false) rfl ?_)
 simp only [zP, po]
 refine wK k12 (rR ?_)
 refine bR rfl rfl (⟨false, rfl, ⟨fun h => (by cases h), fun h => ?_⟩, (hv.sub (List.Sublist.cons _ (List.Sublist.refl _)))⟩)
 rcases h with ⟨h1, h2, h3⟩ | ⟨h1, h2, h3, h4⟩
 ·rw [h1] at hc6; cases hc6
 first | omega
def ChainAt1 (l : List Ver) (i : Nat) : Prop := ∀ x, l[i]? = some x → VerOk x ∧ 0 < x.stamp ∧ x.stamp ≤ 1152921504606846975 ∧ ∀ (j : Nat) y, i = j + 1 → l[j]? = some y → y.stamp < x.stamp
def ChainOk (l : List Ver) : Prop := ∀ i, ChainAt1 l i
theorem s13al55 (w : World) : (Instr.alloc 55 true (.tuple #[])).run Tryz.prog w = .ok (.pointer (some ⟨w.heap.size, 0, none⟩)) (w.alloc (.cells ([.int .i64 0, .bool false, .int .i64 0, .int .i64 0, .string ⟨([] : List UInt8).toArray⟩, .slice none 0 0, .slice none 0 0, .slice none 0 0] : List Value).toArray 55)) := by kernel_rfl
theorem s13callable85 : Callable Tryz.prog 85 := ⟨_, Tryz.func85, by kernel_rfl, by kernel_rfl⟩
set_option maxHeartbeats 2000000 in
theorem chainRight0 (B : Base) (H : List Res) (w : World) (ad : Option Addr) (c : Nat) (xs : List Value) (l : List Ver) (hr : RdV B [] ad xs) (hxs : VersAt B l xs) (hm : l.length ≤ 1000000) (hv : Inv B H w) :
  Calls Tryz.prog 68 #[.slice ad l.length c] w fun e w' => ∃ b, e = .returned (.bool b) ∧ (b = true ↔ ChainOk l) ∧ Inv B H w' := by
 refine cW Tryz.func68 rfl Tryz.ntmps68 ?_
 simp only [al]
 refine sK fun _ k1 => rL (xA (.bool false) rfl ?_)
 simp only [zP, po]
 refine wK k1 (sK fun _ k2 => ?_)
 refine rL (xA (.int .i64 0) rfl ?_)
 simp only [zP, po]
 refine wK k2 (sK fun _ k3 => ?_)
 refine sK fun _ k4 => rL (xM (.slice ad l.length c) rfl ?_)
 refine xG (.int .i64 (l.length : Int)) rfl (ex_len0 Tryz.underlying70 rfl rfl) (xM (.int .i64 0) rfl ?_)
 simp only [zP, po]
 refine wK k4 (bB ?_)
 gi_loopw [3, 8] (fun x3 x8 wr => ∃ (i : Nat) (last : Int), x3 = .int .i64 last ∧ x8 = .int .i64 (i : Int) ∧ i ≤ l.length ∧ (i = 0 → last = 0) ∧ (∀ (j : Nat) y, i = j + 1 → l[j]? = some y → last = y.stamp) ∧ (∀ k, k < i → ChainAt1 l k) ∧ 0 ≤ last ∧ Inv B H wr) (fun x3 x8 _ => l.length - (intOf x8).toNat)
 case atStart => exact ⟨0, 0, rfl, rfl, Nat.zero_le _, fun _ => rfl, fun j y h => by omega, fun k h => by omega, Int.le_refl _, hv⟩
 case round =>
  obtain ⟨i, last, rfl, rfl, hi, hl0, hl1, hall, hlp, hv⟩ := hrel
  refine sK fun _ k6 => rL ?_
  by_cases hb7 : (i : Int) < (l.length : Int)
  ·refine xG (.bool true) rfl (ex_lss rfl rfl rfl (decide_eq_true hb7)) ?_
   simp only [zP, po]
   refine wK k6 (sK fun _ k8 => ?_)
   refine cT rfl (kS ?_)
   refine tK k8 (sK fun _ k9 => ?_)
   refine bB (sK fun _ k10 => ?_)
   obtain ⟨x, hx⟩ : ∃ x, l[i]? = some x := ⟨_, List.getElem?_eq_getElem (show i < l.length by omega)⟩
   obtain ⟨bb, bo, xp, xt, xz, had, hvalx, hrdx⟩ := VersAt.reads hxs hr hx
   subst had
   refine rL (xG (.pointer (some ⟨bb, bo + i * 8, none⟩)) rfl (ex_index rfl rfl rfl (run_idx (k := i) Tryz.underlying70 s1es70 (by omega))) ?_)
   refine xL (.agg #[.int .i64 x.stamp, .bool x.gone, .int .i64 x.expire, .int .i64 x.val.kind, .string ⟨x.val.text.toArray⟩, xp, xt, xz]) rfl (run_loadR (cs := [.int .i64 x.stamp, .bool x.gone, .int .i64 x.expire, .int .i64 x.val.kind, .string ⟨x.val.text.toArray⟩, xp, xt, xz]) s1wd55 (Reads.mid (pre := []) (mid := [.int .i64 x.stamp, .bool x.gone, .int .i64 x.expire, .int .i64 x.val.kind, .string ⟨x.val.text.toArray⟩, xp, xt, xz]) (post := []) hrdx _ _ _ (Base.Le.refl _) no_res hv)) (sl_alloc tV (wn rfl) rfl hv s13al55 (fun b11 w12 hv => ?_))
   simp only [zP, po]
   refine xS 0 rfl hv s1sz55 rfl (by exact ⟨rfl, rfl, rfl, rfl, rfl, hvalx.p.one, hvalx.t.one, hvalx.z.one, trivial⟩) (fun w13 hv => ?_)
   simp only [zO, sp] at hv
   simp only [zP, po]
   refine wK k10 (sK fun _ k14 => ?_)
   refine sK fun _ k15 => rL (xF (.pointer (some ⟨b11, 0, none⟩)) rfl (s2fa55_0 _ _ _) ?_)
   refine xL _ rfl (run_load1 s2na3 (hv.load 0 0 rfl rfl)) (xM (.int .i64 last) rfl ?_)
   simp only [zP, po]
   by_cases hb16 : x.stamp ≤ last
   ·refine xG (.bool true) rfl (ex_leq rfl rfl rfl (decide_eq_true hb16)) (xM (.bool true) rfl ?_)
    refine yP rfl ?_
    simp only [zP, po]
    refine yP rfl (yP rfl ?_)
    refine xK true (.bool true) rfl ?_
    simp only [zP, po]
    refine xM (.bool true) rfl (yP rfl ?_)
    refine yP rfl ?_
    simp only [zP, po]
    refine yP rfl (xK true (.bool true) rfl ?_)
    simp only [zP, po]
    refine wK k15 (cT rfl ?_)
    refine sK fun _ k17 => rL (xA (.bool false) rfl ?_)
    simp only [zP, po]
    refine wK k17 (rR ?_)
    refine tR (bE ?_)
    refine tR (tR ?_)
    refine bE (tR ?_)
    refine bR rfl rfl ?_
    exact ⟨false, rfl, ⟨fun h => (by cases h), fun h => by
     obtain ⟨-, h1, h2, h3⟩ := h i x hx
     rcases Nat.eq_zero_or_pos i with h0 | h0
     ·have := hl0 h0; omega
     obtain ⟨j, hj⟩ : ∃ j, i = j + 1 := ⟨i - 1, by omega⟩
     obtain ⟨y, hy⟩ : ∃ y, l[j]? = some y := ⟨_, List.getElem?_eq_getElem (show j < l.length by omega)⟩
     have h4 := h3 j y hj hy
     have h5 := hl1 j y hj hy
     omega⟩, (hv.sub (List.Sublist.cons _ (List.Sublist.refl _)))⟩
   refine xG (.bool false) rfl (ex_leq rfl rfl rfl (decide_eq_false hb16)) (xM (.bool false) rfl ?_)
   refine xF (.pointer (some ⟨b11, 0, none⟩)) rfl (s2fa55_0 _ _ _) ?_
   simp only [zP, po]
   refine xL _ rfl (run_load1 s2na3 (hv.load 0 0 rfl rfl)) ?_
   by_cases hb18 : x.stamp > 1152921504606846975
   ·refine xG (.bool true) rfl (ex_gtr rfl rfl rfl (decide_eq_true hb18)) (xK false (.bool true) rfl ?_)
    simp only [zP, po]
    refine xM (.bool true) rfl (yP rfl ?_)
    refine yP rfl ?_
    simp only [zP, po]
    refine yP rfl (xK true (.bool true) rfl ?_)
    simp only [zP, po]
    refine wK k15 (cT rfl ?_)
    refine sK fun _ k19 => rL (xA (.bool false) rfl ?_)
    simp only [zP, po]
    refine wK k19 (rR ?_)
    refine tR (bE ?_)
    refine tR (tR ?_)
    refine bE (tR ?_)
    refine bR rfl rfl ?_
    exact ⟨false, rfl, ⟨fun h => (by cases h), fun h => by
     obtain ⟨-, h1, h2, h3⟩ := h i x hx
     rcases Nat.eq_zero_or_pos i with h0 | h0
     ·have := hl0 h0; omega
     obtain ⟨j, hj⟩ : ∃ j, i = j + 1 := ⟨i - 1, by omega⟩
     obtain ⟨y, hy⟩ : ∃ y, l[j]? = some y := ⟨_, List.getElem?_eq_getElem (show j < l.length by omega)⟩
     have h4 := h3 j y hj hy
     have h5 := hl1 j y hj hy
     omega⟩, (hv.sub (List.Sublist.cons _ (List.Sublist.refl _)))⟩
   refine xG (.bool false) rfl (ex_gtr rfl rfl rfl (decide_eq_false hb18)) (xK false (.bool false) rfl ?_)
   simp only [zP, po]
   refine xM (.bool false) rfl (xL (.agg #[.int .i64 x.stamp, .bool x.gone, .int .i64 x.expire, .int .i64 x.val.kind, .string ⟨x.val.text.toArray⟩, xp, xt, xz]) rfl (run_load_mid (pre := []) (mid := [.int .i64 x.stamp, .bool x.gone, .int .i64 x.expire, .int .i64 x.val.kind, .string ⟨x.val.text.toArray⟩, xp, xt, xz]) (post := []) s1wd55 (show Blk _ b11 ([] ++ [.int .i64 x.stamp, .bool x.gone, .int .i64 x.expire, .int .i64 x.val.kind, .string ⟨x.val.text.toArray⟩, xp, xt, xz] ++ []) _ from hv.get 0 rfl) rfl) ?_)
   refine xC s13callable85 rfl ((chainContent B _ _ x xp xt xz hvalx hv).mono ?_) rfl
   rintro e w21 ⟨bl20, rfl, hbl20, hv⟩
   refine ⟨_, rfl, ?_⟩
   cases bl20
   ·simp only [zP, po]
    refine xG (.bool true) rfl (ex_not rfl rfl rfl) (xK false (.bool true) rfl ?_)
    simp only [zP, po]
    refine wK k15 (cT rfl ?_)
    refine sK fun _ k22 => rL (xA (.bool false) rfl ?_)
    simp only [zP, po]
    refine wK k22 (rR ?_)
    refine tR (bE ?_)
    refine tR (tR ?_)
    refine bE (tR ?_)
    refine bR rfl rfl (⟨false, rfl, ⟨fun h => (by cases h), fun h => by have h9 := hbl20.2 (h i x hx).1; cases h9⟩, (hv.sub (List.Sublist.cons _ (List.Sublist.refl _)))⟩)
   simp only [zP, po]
   refine xG (.bool false) rfl (ex_not rfl rfl rfl) (xK false (.bool false) rfl ?_)
   simp only [zP, po]
   refine wK k15 (cF rfl ?_)
   refine kS (tK k14 ?_)
   refine rL (xF (.pointer (some ⟨b11, 0, none⟩)) rfl (s2fa55_0 _ _ _) ?_)
   refine xL _ rfl (run_load1 s2na3 (hv.load 0 0 rfl rfl)) (xA (.int .i64 x.stamp) rfl ?_)
   refine wL ?_
   simp only [zP, po]
   refine bN (tK k9 ?_)
   refine rL (xG (.int .i64 ((i + 1 : Nat) : Int)) rfl (ex_add rfl rfl rfl (by rw [i64_in (by omega)]; omega)) ?_)
   refine xM (.int .i64 ((i + 1 : Nat) : Int)) rfl (wL ?_)
   simp only [zP, po]
   refine then_normal ?_
   go_roundw
   case rel => exact ⟨i + 1, x.stamp, rfl, rfl, by omega, fun h => by omega, fun j y hj hy => (by rw [show j = i by omega, hx] at hy; cases hy; rfl), fun k hk => (by
      rcases Nat.lt_or_ge k i with h | h
      ·exact hall k h
      obtain rfl : k = i := by omega
      intro x' hx'
      rw [hx] at hx'; cases hx'
      exact ⟨hbl20.1 rfl, by omega, by omega, fun j y hj hy => by have := hl1 j y hj hy; omega⟩), by omega, (hv.sub (List.Sublist.cons _ (List.Sublist.refl _)))⟩
   case measure => show l.length - (((i + 1 : Nat) : Int)).toNat < l.length - ((i : Int)).toNat; omega
  refine xG (.bool false) rfl (ex_lss rfl rfl rfl (decide_eq_false hb7)) ?_
  simp only [zP, po]
  refine wK k6 (sK fun _ k23 => ?_)
  refine cF rfl (xE ?_)
  refine tX (tX ?_)
  refine bH (tK k3 ?_)
  refine sK fun _ k24 => rL (xA (.bool true) rfl ?_)
  simp only [zP, po]
  refine wK k24 (rR ?_)
  refine bR rfl rfl ?_
  obtain rfl : i = l.length := by omega
  exact ⟨true, rfl, ⟨fun _ => fun k x hx => hall k (List.getElem?_eq_some_iff.1 hx).1 x hx, fun _ => rfl⟩, hv⟩
theorem s13callable68 : Callable Tryz.prog 68 := ⟨_, Tryz.func68, by kernel_rfl, by kernel_rfl⟩
set_option maxHeartbeats 2000000 in
theorem chainRight (B : Base) (H : List Res) (w : World) (ad : Option Addr) (c : Nat) (xs : List Value) (l : List Ver) (hr : RdV B [] ad xs) (hxs : VersAt B l xs) (hm : l.length ≤ 1000000) (hv : Inv B H w) :
  Calls Tryz.prog 60 #[.slice ad l.length c] w fun e w' => ∃ b, e = .returned (.bool b) ∧ (b = true ↔ l.length ≤ 64 ∧ ChainOk l) ∧ Inv B H w' := by
 refine cW Tryz.func60 rfl Tryz.ntmps60 ?_
 simp only [al]
 refine sK fun _ k1 => rL (xA (.bool false) rfl ?_)
 simp only [zP, po]
 refine wK k1 (sK fun _ k2 => ?_)
 refine rL (xM (.slice ad l.length c) rfl ?_)
 refine xG (.int .i64 (l.length : Int)) rfl (ex_len0 Tryz.underlying70 rfl rfl) ?_
 by_cases hb3 : (l.length : Int) ≤ 64
 ·refine xG (.bool true) rfl (ex_leq rfl rfl rfl (decide_eq_true hb3)) ?_
  simp only [zP, po]
  refine xM (.bool true) rfl (xM (.slice ad l.length c) rfl ?_)
  refine xC s13callable68 rfl ((chainRight0 B _ _ ad c xs l hr hxs hm hv).mono ?_) rfl
  rintro e w5 ⟨bl4, rfl, hbl4, hv⟩
  refine ⟨_, rfl, ?_⟩
  cases bl4
  ·simp only [zP, po]
   refine xK true (.bool false) rfl (xA (.bool false) rfl ?_)
   simp only [zP, po]
   refine wK k2 (rR ?_)
   refine bR rfl rfl (⟨false, rfl, ⟨fun h => (by cases h), fun ⟨h1, h2⟩ => by first | omega | (have h9 := hbl4.2 h2; cases h9)⟩, hv⟩)
  simp only [zP, po]
  refine xK true (.bool true) rfl (xA (.bool true) rfl ?_)
  simp only [zP, po]
  refine wK k2 (rR ?_)
  refine bR rfl rfl (⟨true, rfl, ⟨fun _ => ⟨by omega, hbl4.1 rfl⟩, fun _ => rfl⟩, hv⟩)
 refine xG (.bool false) rfl (ex_leq rfl rfl rfl (decide_eq_false hb3)) ?_
 simp only [zP, po]
 refine xM (.bool false) rfl ?_
 iterate 2 refine yN rfl ?_
 refine xK false (.bool false) rfl (xA (.bool false) rfl ?_)
 simp only [zP, po]
 refine wK k2 (rR ?_)
 refine bR rfl rfl (⟨false, rfl, ⟨fun h => (by cases h), fun ⟨h1, h2⟩ => by first | omega⟩, hv⟩)
end Go.Proofs.YtffmbdagjpdieaaGreat
/- chain.Put; store.valid, store.all. -/
namespace Go.Proofs.YtffmbdagjpdieaaGreat
open Go.RowKit Go.Pm
theorem chainRightN (B : Base) (H : List Res) (w : World) (ad : Option Addr) (n c : Nat) (xs : List Value) (l : List Ver) (hn : n = l.length) (hr : RdV B [] ad xs) (hxs : VersAt B l xs) (hm : l.length ≤ 1000000) (hv : Inv B H w) :
  Calls Tryz.prog 68 #[.slice ad n c] w fun e w' => ∃ b, e = .returned (.bool b) ∧ (b = true ↔ ChainOk l) ∧ Inv B H w' := by
 subst hn; exact chainRight0 B H w ad c xs l hr hxs hm hv
theorem s14mk55 : (Tryz.prog.info? 55).map (fun i => (i.zero, i.size, i.bytes)) = some (some (.agg #[.int .i64 0, .bool false, .int .i64 0, .int .i64 0, .string ⟨([] : List UInt8).toArray⟩, .slice none 0 0, .slice none 0 0, .slice none 0 0]), 8, 120) := by kernel_rfl
theorem s14el70 : Elem Tryz.prog 70 55 (.agg #[.int .i64 0, .bool false, .int .i64 0, .int .i64 0, .string ⟨([] : List UInt8).toArray⟩, .slice none 0 0, .slice none 0 0, .slice none 0 0]) 8 120 := elem_of Tryz.underlying70 s14mk55 (by rfl) (by decide)
theorem s14al55 (w : World) : (Instr.alloc 55 true (.tuple #[])).run Tryz.prog w = .ok (.pointer (some ⟨w.heap.size, 0, none⟩)) (w.alloc (.cells ([.int .i64 0, .bool false, .int .i64 0, .int .i64 0, .string ⟨([] : List UInt8).toArray⟩, .slice none 0 0, .slice none 0 0, .slice none 0 0] : List Value).toArray 55)) := by kernel_rfl
set_option maxHeartbeats 4000000 in
theorem chainPut0 (B : Base) (H : List Res) (w : World) (ad ad2 : Option Addr) (c c2 : Nat) (xs xs2 : List Value) (l l2 : List Ver) (hr : RdV B [] ad xs) (hxs : VersAt B l xs) (hr2 : RdV B [] ad2 xs2) (hxs2 : VersAt B l2 xs2) (hm : l.length ≤ 100000) (hm2 : l2.length ≤ 100000) (hv : Inv B H w) :
  Calls Tryz.prog 50 #[.slice ad l.length c, .slice ad2 l2.length c2] w fun e w' => ∃ C v' ec, B.Le C ∧ e = .returned (.tuple #[v', .int .i64 ec]) ∧ Inv C H w' ∧ ((¬ ChainOk (l ++ l2) ∧ ec = 2 ∧ v' = .slice none 0 0) ∨ (ChainOk (l ++ l2) ∧ 64 < (l ++ l2).length ∧ ec = 22 ∧ v' = .slice none 0 0) ∨ (ChainOk (l ++ l2) ∧ (l ++ l2).length ≤ 64 ∧ ec = 0 ∧ ChainB C v' (l ++ l2))) := by
 refine cW Tryz.func50 rfl Tryz.ntmps50 ?_
 simp only [al]
 refine sK fun _ k1 => rL (xA (.slice none 0 0) rfl ?_)
 refine xA (.int .i64 0) rfl ?_
 simp only [zP, po]
 refine wK k1 (sK fun _ k2 => ?_)
 refine rL (xM (.slice ad l.length c) rfl ?_)
 refine xG (.int .i64 (l.length : Int)) rfl (ex_len0 Tryz.underlying70 rfl rfl) (xM (.slice ad2 l2.length c2) rfl ?_)
 simp only [zP, po]
 refine xG (.int .i64 (l2.length : Int)) rfl (ex_len0 Tryz.underlying70 rfl rfl) (xG (.int .i64 ((l.length + l2.length : Nat) : Int)) rfl (ex_add rfl rfl rfl (by rw [i64_in (by omega)]; omega)) ?_)
 refine sl_makeRow (cap := (l.length + l2.length : Nat)) tV (wn rfl) rfl rfl rfl s14el70 (by unfold maxLen; omega) (by omega) hv (fun b3 w4 hv => ?_)
 simp only [zP, po]
 refine xA (.slice (some ⟨b3, 0, none⟩) 0 (l.length + l2.length : Nat)) rfl ?_
 simp only [zP, po]
 refine wK k2 (sK fun _ k5 => ?_)
 refine sK fun _ k6 => rL (xM (.slice ad l.length c) rfl ?_)
 refine xG (.int .i64 (l.length : Int)) rfl (ex_len0 Tryz.underlying70 rfl rfl) (xM (.int .i64 0) rfl ?_)
 simp only [zP, po]
 refine wK k6 (bB ?_)
 gi_loopw [6, 19] (fun x6 x19 wr => ∃ (i : Nat) (C : Base) (ra : Option Addr) (rc : Nat) (ys : List Value), x6 = .slice ra i rc ∧ x19 = .int .i64 (i : Int) ∧ B.Le C ∧ i ≤ l.length ∧ VersAt C (l.take i) ys ∧ Inv C (Res.row 55 8 (.slice ra i rc) i ys :: H) wr) (fun x6 x19 _ => l.length - (intOf x19).toNat)
 case atStart => exact ⟨0, B, _, _, [], rfl, rfl, Base.Le.refl _, Nat.zero_le _, rfl, hv⟩
 case round =>
  obtain ⟨i, C, ra, rc, ys, rfl, rfl, hBC, hi, hys, hv⟩ := hrel
  refine sK fun _ k8 => rL ?_
  by_cases hb9 : (i : Int) < (l.length : Int)
  ·refine xG (.bool true) rfl (ex_lss rfl rfl rfl (decide_eq_true hb9)) ?_
   simp only [zP, po]
   refine wK k8 (sK fun _ k10 => ?_)
   refine cT rfl (kS ?_)
   refine tK k10 (sK fun _ k11 => ?_)
   refine bB (sK fun _ k12 => ?_)
   obtain ⟨x, hx⟩ : ∃ x, l[i]? = some x := ⟨_, List.getElem?_eq_getElem (show i < l.length by omega)⟩
   obtain ⟨bb, bo, xp, xt, xz, had, hvalx, hrdx⟩ := VersAt.reads hxs hr hx
   subst had
   refine rL (xG (.pointer (some ⟨bb, bo + i * 8, none⟩)) rfl (ex_index rfl rfl rfl (run_idx (k := i) Tryz.underlying70 s1es70 (by omega))) ?_)
   refine xL (.agg #[.int .i64 x.stamp, .bool x.gone, .int .i64 x.expire, .int .i64 x.val.kind, .string ⟨x.val.text.toArray⟩, xp, xt, xz]) rfl (run_loadR (cs := [.int .i64 x.stamp, .bool x.gone, .int .i64 x.expire, .int .i64 x.val.kind, .string ⟨x.val.text.toArray⟩, xp, xt, xz]) s1wd55 (Reads.mid (pre := []) (mid := [.int .i64 x.stamp, .bool x.gone, .int .i64 x.expire, .int .i64 x.val.kind, .string ⟨x.val.text.toArray⟩, xp, xt, xz]) (post := []) hrdx _ _ _ hBC no_res hv)) (sl_alloc tV (wn rfl) rfl hv s14al55 (fun b13 w14 hv => ?_))
   simp only [zP, po]
   refine xS 0 rfl hv s1sz55 rfl (by exact ⟨rfl, rfl, rfl, rfl, rfl, hvalx.p.one, hvalx.t.one, hvalx.z.one, trivial⟩) (fun w15 hv => ?_)
   simp only [zO, sp] at hv
   simp only [zP, po]
   refine wK k12 (rL ?_)
   refine xM (.slice ra i rc) rfl (xL (.agg #[.int .i64 x.stamp, .bool x.gone, .int .i64 x.expire, .int .i64 x.val.kind, .string ⟨x.val.text.toArray⟩, xp, xt, xz]) rfl (run_load_mid (pre := []) (mid := [.int .i64 x.stamp, .bool x.gone, .int .i64 x.expire, .int .i64 x.val.kind, .string ⟨x.val.text.toArray⟩, xp, xt, xz]) (post := []) s1wd55 (show Blk _ b13 ([] ++ [.int .i64 x.stamp, .bool x.gone, .int .i64 x.expire, .int .i64 x.val.kind, .string ⟨x.val.text.toArray⟩, xp, xt, xz] ++ []) _ from hv.get 0 rfl) rfl) ?_)
   refine xC s2callable58 rfl ((chainClone _ _ _ x xp xt xz (hvalx.more hBC) hv).mono ?_) rfl
   rintro e w20 ⟨C16, p17, t18, z19, hC16, rfl, hp17, hv⟩
   refine ⟨_, rfl, ?_⟩
   simp only [zP, po]
   refine sl_rowAgg (L := [.int .i64 x.stamp, .bool x.gone, .int .i64 x.expire, .int .i64 x.val.kind, .string ⟨x.val.text.toArray⟩, p17, t18, z19]) tV (wn rfl) rfl rfl hv s14el70 rfl (by decide) (fun b21 w22 hv => ?_)
   replace hv := hv.front 2 rfl
   simp only [List.eraseIdx_cons_succ, List.eraseIdx_cons_zero] at hv
   refine sl_append (news := [.int .i64 x.stamp, .bool x.gone, .int .i64 x.expire, .int .i64 x.val.kind, .string ⟨x.val.text.toArray⟩, p17, t18, z19]) tV (wn rfl) rfl rfl rfl s14el70 hv (ok_full (by omega)) rfl (rd_all (hv.get 1 rfl)) (verCells_one (v := x) hp17) (by unfold maxLen; omega) (by omega) (fun rv23 w26 hv => ?_)
   obtain ⟨ra24, rc25, rfl⟩ := row_slice hv.head
   refine xA (.slice ra24 (i + 1) rc25) rfl (wL ?_)
   simp only [zP, po]
   refine bN (tK k11 ?_)
   refine rL (xG (.int .i64 ((i + 1 : Nat) : Int)) rfl (ex_add rfl rfl rfl (by rw [i64_in (by omega)]; omega)) ?_)
   refine xM (.int .i64 ((i + 1 : Nat) : Int)) rfl (wL ?_)
   simp only [zP, po]
   refine then_normal ?_
   go_roundw
   case rel => exact ⟨i + 1, _, _, _, _, rfl, rfl, (hBC.trans hC16), by omega, (hys.more hC16).next hx hp17, (hv.sub (List.Sublist.cons_cons _ (List.Sublist.cons _ (List.Sublist.cons _ (List.Sublist.refl _)))))⟩
   case measure => show l.length - (((i + 1 : Nat) : Int)).toNat < l.length - ((i : Int)).toNat; omega
  refine xG (.bool false) rfl (ex_lss rfl rfl rfl (decide_eq_false hb9)) ?_
  simp only [zP, po]
  refine wK k8 (sK fun _ k27 => ?_)
  refine cF rfl (xE ?_)
  refine tX (tX ?_)
  refine bH (tK k5 ?_)
  refine sK fun _ k28 => sK fun _ k29 => ?_
  obtain rfl : i = l.length := by omega
  refine rL (xM (.slice ad2 l2.length c2) rfl ?_)
  refine xG (.int .i64 (l2.length : Int)) rfl (ex_len0 Tryz.underlying70 rfl rfl) (xM (.int .i64 0) rfl ?_)
  simp only [zP, po]
  refine wK k29 (bB ?_)
  gi_loopw [6, 31] (fun x6 x31 wr => ∃ (i2 : Nat) (C2 : Base) (ra2 : Option Addr) (rc2 : Nat) (ys2 : List Value), x6 = .slice ra2 (l.length + i2) rc2 ∧ x31 = .int .i64 (i2 : Int) ∧ B.Le C2 ∧ i2 ≤ l2.length ∧ VersAt C2 (l ++ l2.take i2) ys2 ∧ Inv C2 (Res.row 55 8 (.slice ra2 (l.length + i2) rc2) (l.length + i2) ys2 :: H) wr) (fun x6 x31 _ => l2.length - (intOf x31).toNat)
  case atStart => exact ⟨0, C, _, _, ys, rfl, rfl, hBC, Nat.zero_le _, by rw [List.take_zero, List.append_nil]; rw [List.take_length] at hys; exact hys, hv⟩
  case round =>
   obtain ⟨i2, C2, ra2, rc2, ys2, rfl, rfl, hBC2, hi2, hys2, hv⟩ := hrel
   refine sK fun _ k31 => rL ?_
   by_cases hb32 : (i2 : Int) < (l2.length : Int)
   ·refine xG (.bool true) rfl (ex_lss rfl rfl rfl (decide_eq_true hb32)) ?_
    simp only [zP, po]
    refine wK k31 (sK fun _ k33 => ?_)
    refine cT rfl (kS ?_)
    refine tK k33 (sK fun _ k34 => ?_)
    refine bB (sK fun _ k35 => ?_)
    obtain ⟨x2, hx2⟩ : ∃ x, l2[i2]? = some x := ⟨_, List.getElem?_eq_getElem (show i2 < l2.length by omega)⟩
    obtain ⟨bb2, bo2, x2p, x2t, x2z, had, hvalx2, hrdx2⟩ := VersAt.reads hxs2 hr2 hx2
    subst had
    refine rL (xG (.pointer (some ⟨bb2, bo2 + i2 * 8, none⟩)) rfl (ex_index rfl rfl rfl (run_idx (k := i2) Tryz.underlying70 s1es70 (by omega))) ?_)
    refine xL (.agg #[.int .i64 x2.stamp, .bool x2.gone, .int .i64 x2.expire, .int .i64 x2.val.kind, .string ⟨x2.val.text.toArray⟩, x2p, x2t, x2z]) rfl (run_loadR (cs := [.int .i64 x2.stamp, .bool x2.gone, .int .i64 x2.expire, .int .i64 x2.val.kind, .string ⟨x2.val.text.toArray⟩, x2p, x2t, x2z]) s1wd55 (Reads.mid (pre := []) (mid := [.int .i64 x2.stamp, .bool x2.gone, .int .i64 x2.expire, .int .i64 x2.val.kind, .string ⟨x2.val.text.toArray⟩, x2p, x2t, x2z]) (post := []) hrdx2 _ _ _ hBC2 no_res hv)) (sl_alloc tV (wn rfl) rfl hv s14al55 (fun b36 w37 hv => ?_))
    simp only [zP, po]
    refine xS 0 rfl hv s1sz55 rfl (by exact ⟨rfl, rfl, rfl, rfl, rfl, hvalx2.p.one, hvalx2.t.one, hvalx2.z.one, trivial⟩) (fun w38 hv => ?_)
    simp only [zO, sp] at hv
    simp only [zP, po]
    refine wK k35 (rL ?_)
    refine xM (.slice ra2 (l.length + i2) rc2) rfl (xL (.agg #[.int .i64 x2.stamp, .bool x2.gone, .int .i64 x2.expire, .int .i64 x2.val.kind, .string ⟨x2.val.text.toArray⟩, x2p, x2t, x2z]) rfl (run_load_mid (pre := []) (mid := [.int .i64 x2.stamp, .bool x2.gone, .int .i64 x2.expire, .int .i64 x2.val.kind, .string ⟨x2.val.text.toArray⟩, x2p, x2t, x2z]) (post := []) s1wd55 (show Blk _ b36 ([] ++ [.int .i64 x2.stamp, .bool x2.gone, .int .i64 x2.expire, .int .i64 x2.val.kind, .string ⟨x2.val.text.toArray⟩, x2p, x2t, x2z] ++ []) _ from hv.get 0 rfl) rfl) ?_)
    refine xC s2callable58 rfl ((chainClone _ _ _ x2 x2p x2t x2z (hvalx2.more hBC2) hv).mono ?_) rfl
    rintro e w43 ⟨C39, p40, t41, z42, hC39, rfl, hp40, hv⟩
    refine ⟨_, rfl, ?_⟩
    simp only [zP, po]
    refine sl_rowAgg (L := [.int .i64 x2.stamp, .bool x2.gone, .int .i64 x2.expire, .int .i64 x2.val.kind, .string ⟨x2.val.text.toArray⟩, p40, t41, z42]) tV (wn rfl) rfl rfl hv s14el70 rfl (by decide) (fun b44 w45 hv => ?_)
    replace hv := hv.front 2 rfl
    simp only [List.eraseIdx_cons_succ, List.eraseIdx_cons_zero] at hv
    refine sl_append (news := [.int .i64 x2.stamp, .bool x2.gone, .int .i64 x2.expire, .int .i64 x2.val.kind, .string ⟨x2.val.text.toArray⟩, p40, t41, z42]) tV (wn rfl) rfl rfl rfl s14el70 hv (ok_full (by omega)) rfl (rd_all (hv.get 1 rfl)) (verCells_one (v := x2) hp40) (by unfold maxLen; omega) (by omega) (fun rv46 w49 hv => ?_)
    obtain ⟨ra47, rc48, rfl⟩ := row_slice hv.head
    refine xA (.slice ra47 ((l.length + i2) + 1) rc48) rfl (wL ?_)
    simp only [zP, po]
    refine bN (tK k34 ?_)
    refine rL (xG (.int .i64 ((i2 + 1 : Nat) : Int)) rfl (ex_add rfl rfl rfl (by rw [i64_in (by omega)]; omega)) ?_)
    refine xM (.int .i64 ((i2 + 1 : Nat) : Int)) rfl (wL ?_)
    simp only [zP, po]
    refine then_normal ?_
    go_roundw
    case rel => exact ⟨i2 + 1, _, _, _, _, rfl, rfl, (hBC2.trans hC39), by omega, by rw [take_next hx2, ← List.append_assoc]; exact VersAt.append (VersAt.single hp40) (hys2.more hC39), (hv.sub (List.Sublist.cons_cons _ (List.Sublist.cons _ (List.Sublist.cons _ (List.Sublist.refl _)))))⟩
    case measure => show l2.length - (((i2 + 1 : Nat) : Int)).toNat < l2.length - ((i2 : Int)).toNat; omega
   refine xG (.bool false) rfl (ex_lss rfl rfl rfl (decide_eq_false hb32)) ?_
   simp only [zP, po]
   refine wK k31 (sK fun _ k50 => ?_)
   refine cF rfl (xE ?_)
   refine tX (tX ?_)
   refine bH (tK k28 ?_)
   refine sK fun _ k51 => sK fun _ k52 => ?_
   obtain rfl : i2 = l2.length := by omega
   rw [List.take_length] at hys2
   obtain ⟨D, hCD, hv, hrD, hokD, -⟩ := hv.rowBy
   have hbd := hBC2.trans hCD
   refine rL (xM (.slice ra2 (l.length + l2.length) rc2) rfl ?_)
   refine xC s13callable68 rfl ((chainRightN D _ _ ra2 (l.length + l2.length) rc2 ys2 (l ++ l2) (by rw [List.length_append]) hrD (hys2.more hCD) (by rw [List.length_append]; omega) hv).mono ?_) rfl
   rintro e w54 ⟨bl53, rfl, hbl53, hv⟩
   refine ⟨_, rfl, ?_⟩
   cases bl53
   ·refine xG (.bool true) rfl (ex_not rfl rfl rfl) ?_
    simp only [zP, po]
    refine wK k52 (cT rfl ?_)
    refine sK fun _ k55 => rL (xA (.slice none 0 0) rfl ?_)
    refine xA (.int .i64 2) rfl ?_
    simp only [zP, po]
    refine wK k55 (rR ?_)
    refine tR (bodyPost_ret (results_tmp2 rfl _ _ _) rfl ?_)
    exact ⟨D, _, 2, hbd, rfl, hv, .inl ⟨fun h => (by have h9 := hbl53.2 h; cases h9), rfl, rfl⟩⟩
   refine xG (.bool false) rfl (ex_not rfl rfl rfl) ?_
   simp only [zP, po]
   refine wK k52 (cF rfl ?_)
   refine kS (tK k51 ?_)
   refine sK fun _ k56 => sK fun _ k57 => rL (xM (.slice ra2 (l.length + l2.length) rc2) rfl ?_)
   refine xG (.int .i64 ((l.length + l2.length) : Int)) rfl (ex_len0 Tryz.underlying70 rfl rfl) ?_
   by_cases hb58 : ((l.length + l2.length) : Int) > 64
   ·refine xG (.bool true) rfl (ex_gtr rfl rfl rfl (decide_eq_true hb58)) ?_
    simp only [zP, po]
    refine wK k57 (cT rfl ?_)
    refine sK fun _ k59 => rL (xA (.slice none 0 0) rfl ?_)
    refine xA (.int .i64 22) rfl ?_
    simp only [zP, po]
    refine wK k59 (rR ?_)
    refine tR (bodyPost_ret (results_tmp2 rfl _ _ _) rfl ?_)
    exact ⟨D, _, 22, hbd, rfl, hv, .inr (.inl ⟨hbl53.1 rfl, by rw [List.length_append]; omega, rfl, rfl⟩)⟩
   refine xG (.bool false) rfl (ex_gtr rfl rfl rfl (decide_eq_false hb58)) ?_
   simp only [zP, po]
   refine wK k57 (cF rfl ?_)
   refine kS (tK k56 ?_)
   refine sK fun _ k60 => rL (xM (.slice ra2 (l.length + l2.length) rc2) rfl ?_)
   refine xA (.slice ra2 (l.length + l2.length) rc2) rfl (xA (.int .i64 0) rfl ?_)
   simp only [zP, po]
   refine wK k60 (rR ?_)
   refine bodyPost_ret (results_tmp2 rfl _ _ _) rfl (⟨D, _, 0, hbd, rfl, hv, .inr (.inr ⟨hbl53.1 rfl, by rw [List.length_append]; omega, rfl, ⟨ra2, rc2, ys2, (by rw [List.length_append]; rfl), by rw [List.length_append]; exact hokD, hrD, hys2.more hCD⟩⟩)⟩)
def WrOk (x : Wr) : Prop := x.key.length ≤ 256 ∧ ChainOk [{ x.ver with stamp := 1 }]
theorem s14fa57_1 (w : World) (b o : Nat) : (Instr.fieldAt 57 (.pointer (some ⟨b, o, none⟩)) 1).run Tryz.prog w = .ok (.pointer (some ⟨b, o + 1, none⟩)) w := by kernel_rfl
theorem s14callable60 : Callable Tryz.prog 60 := ⟨_, Tryz.func60, by kernel_rfl, by kernel_rfl⟩
set_option maxHeartbeats 2000000 in
theorem storeValid0 (B : Base) (H : List Res) (w : World) (x : Wr) (p t z : Value) (h : ValAt B x.ver.val p t z) (hv : Inv B H w) :
  Calls Tryz.prog 32 #[.agg #[.string ⟨x.key.toArray⟩, .int .i64 x.ver.stamp, .bool x.ver.gone, .int .i64 x.ver.expire, .int .i64 x.ver.val.kind, .string ⟨x.ver.val.text.toArray⟩, p, t, z]] w fun e w' => ∃ b, e = .returned (.bool b) ∧ (b = true ↔ WrOk x) ∧ Inv B H w' := by
 refine cW Tryz.func32 rfl Tryz.ntmps32 ?_
 simp only [al]
 refine sK fun _ k1 => rL (sl_box (L := [.string ⟨x.key.toArray⟩, .int .i64 x.ver.stamp, .bool x.ver.gone, .int .i64 x.ver.expire, .int .i64 x.ver.val.kind, .string ⟨x.ver.val.text.toArray⟩, p, t, z]) tV (wn rfl) rfl rfl hv (fun w => by kernel_rfl) (fun b2 w3 hv => ?_))
 refine xA (.bool false) rfl ?_
 simp only [zP, po]
 refine wK k1 (sK fun _ k4 => ?_)
 refine rL (xF (.pointer (some ⟨b2, 1, none⟩)) rfl (s14fa57_1 _ _ _) ?_)
 refine xF (.pointer (some ⟨b2, 1, none⟩)) rfl (s2fa55_0 _ _ _) (xV 0 (.int .i64 1) rfl hv s5sz3 rfl rfl (fun w5 hv => ?_))
 simp only [zO, sp] at hv
 simp only [zP, po]
 refine wK k4 (sK fun _ k6 => ?_)
 refine rL (xF (.pointer (some ⟨b2, 0, none⟩)) rfl (s8fa57_0 _ _ _) ?_)
 refine xL _ rfl (run_load1 s3na9 (hv.load 0 0 rfl rfl)) (xG (.int .i64 (x.key.length : Int)) rfl (ex_lenStr Tryz.underlying9 rfl rfl) ?_)
 simp only [zP, po]
 by_cases hb7 : (x.key.length : Int) ≤ 256
 ·refine xG (.bool true) rfl (ex_leq rfl rfl rfl (decide_eq_true hb7)) (xM (.bool true) rfl ?_)
  refine xF (.pointer (some ⟨b2, 1, none⟩)) rfl (s14fa57_1 _ _ _) ?_
  simp only [zP, po]
  refine xL (.agg #[.int .i64 1, .bool x.ver.gone, .int .i64 x.ver.expire, .int .i64 x.ver.val.kind, .string ⟨x.ver.val.text.toArray⟩, p, t, z]) rfl (run_load_mid (pre := [.string ⟨x.key.toArray⟩]) (mid := [.int .i64 1, .bool x.ver.gone, .int .i64 x.ver.expire, .int .i64 x.ver.val.kind, .string ⟨x.ver.val.text.toArray⟩, p, t, z]) (post := []) s1wd55 (show Blk _ b2 ([.string ⟨x.key.toArray⟩] ++ [.int .i64 1, .bool x.ver.gone, .int .i64 x.ver.expire, .int .i64 x.ver.val.kind, .string ⟨x.ver.val.text.toArray⟩, p, t, z] ++ []) _ from hv.get 0 rfl) rfl) (sl_rowAgg (L := [.int .i64 1, .bool x.ver.gone, .int .i64 x.ver.expire, .int .i64 x.ver.val.kind, .string ⟨x.ver.val.text.toArray⟩, p, t, z]) tV (wanted_of (j := 4) (d := 9) (b := true) rfl rfl rfl) rfl rfl hv s14el70 rfl (by decide) (fun b8 w9 hv => ?_))
  obtain ⟨D, hBD, hv, hrD, -, -⟩ := (hv.cellRow (n := 1) (c := 1) (size := 8) rfl (by decide) (by decide)).rowBy
  refine xC s14callable60 rfl ((chainRight D _ _ _ _ _ [{ x.ver with stamp := 1 }] hrD (VersAt.single (v := { x.ver with stamp := 1 }) (h.more hBD)) (by simp) hv).mono ?_) rfl
  rintro e w11 ⟨bl10, rfl, hbl10, hv⟩
  refine ⟨_, rfl, ?_⟩
  cases bl10
  ·simp only [zP, po]
   refine xK true (.bool false) rfl (xA (.bool false) rfl ?_)
   simp only [zP, po]
   refine wK k6 (rR ?_)
   refine bR rfl rfl (⟨false, rfl, ⟨fun h => (by cases h), fun ⟨h1, h2⟩ => by first | omega | (have h9 := hbl10.2 ⟨by simp, h2⟩; cases h9)⟩, ((hv.sub (List.Sublist.cons _ (List.Sublist.refl _))).weak hBD)⟩)
  simp only [zP, po]
  refine xK true (.bool true) rfl (xA (.bool true) rfl ?_)
  simp only [zP, po]
  refine wK k6 (rR ?_)
  refine bR rfl rfl (⟨true, rfl, ⟨fun _ => ⟨by omega, (hbl10.1 rfl).2⟩, fun _ => rfl⟩, ((hv.sub (List.Sublist.cons _ (List.Sublist.refl _))).weak hBD)⟩)
 refine xG (.bool false) rfl (ex_leq rfl rfl rfl (decide_eq_false hb7)) (xM (.bool false) rfl ?_)
 iterate 4 refine yN rfl ?_
 refine xK false (.bool false) rfl ?_
 simp only [zP, po]
 refine xA (.bool false) rfl ?_
 simp only [zP, po]
 refine wK k6 (rR ?_)
 refine bR rfl rfl (⟨false, rfl, ⟨fun h => (by cases h), fun ⟨h1, h2⟩ => by first | omega⟩, (hv.sub (List.Sublist.cons _ (List.Sublist.refl _)))⟩)
noncomputable def wrOkB (x : Wr) : Bool := @decide (WrOk x) (Classical.propDecidable _)
theorem wrOkB_iff (x : Wr) : wrOkB x = true ↔ WrOk x := by unfold wrOkB; exact @decide_eq_true_iff (WrOk x) (Classical.propDecidable _)
theorem storeValid (B : Base) (H : List Res) (w : World) (x : Wr) (p t z : Value) (h : ValAt B x.ver.val p t z) (hv : Inv B H w) : Calls Tryz.prog 32 #[.agg (wrCells x p t z).toArray] w fun e w' => e = .returned (.bool (wrOkB x)) ∧ Inv B H w' :=
 (storeValid0 B H w x p t z h hv).mono fun e w' ⟨b, h1, h2, h3⟩ => ⟨by rw [h1, show b = wrOkB x from Bool.eq_iff_iff.2 (h2.trans (wrOkB_iff x).symm)], h3⟩
theorem s14na75 (w : World) : (isAgg 75).run Tryz.prog w = .ok false w := by kernel_rfl
theorem s14callable32 : Callable Tryz.prog 32 := ⟨_, Tryz.func32, by kernel_rfl, by kernel_rfl⟩
set_option maxHeartbeats 2000000 in
theorem storeAllFn (B : Base) (H : List Res) (w : World) (b1 : Nat) (x : Wr) (p t z : Value) (h : ValAt B x.ver.val p t z) (hv : Inv B (Res.cell b1 [.func (.func 32) #[] #[]] 75 :: H) w) :
  Calls Tryz.prog 62 #[.agg #[.string ⟨x.key.toArray⟩, .int .i64 x.ver.stamp, .bool x.ver.gone, .int .i64 x.ver.expire, .int .i64 x.ver.val.kind, .string ⟨x.ver.val.text.toArray⟩, p, t, z], .pointer (some ⟨b1, 0, none⟩)] w fun e w' => e = .returned (.bool (!wrOkB x)) ∧ Inv B (Res.cell b1 [.func (.func 32) #[] #[]] 75 :: H) w' := by
 refine cW Tryz.func62 rfl Tryz.ntmps62 ?_
 simp only [al]
 refine sK fun _ k1 => rL (sl_box (L := [.string ⟨x.key.toArray⟩, .int .i64 x.ver.stamp, .bool x.ver.gone, .int .i64 x.ver.expire, .int .i64 x.ver.val.kind, .string ⟨x.ver.val.text.toArray⟩, p, t, z]) tV (wn rfl) rfl rfl hv (fun w => by kernel_rfl) (fun b2 w3 hv => ?_))
 refine xA (.bool false) rfl ?_
 simp only [zP, po]
 refine wK k1 (sK fun _ k4 => ?_)
 refine rL (xL _ rfl (run_load1 s14na75 (hv.load 1 0 rfl rfl)) ?_)
 refine xL (.agg #[.string ⟨x.key.toArray⟩, .int .i64 x.ver.stamp, .bool x.ver.gone, .int .i64 x.ver.expire, .int .i64 x.ver.val.kind, .string ⟨x.ver.val.text.toArray⟩, p, t, z]) rfl (run_load_mid (pre := []) (mid := [.string ⟨x.key.toArray⟩, .int .i64 x.ver.stamp, .bool x.ver.gone, .int .i64 x.ver.expire, .int .i64 x.ver.val.kind, .string ⟨x.ver.val.text.toArray⟩, p, t, z]) (post := []) s8wd57 (show Blk _ b2 ([] ++ [.string ⟨x.key.toArray⟩, .int .i64 x.ver.stamp, .bool x.ver.gone, .int .i64 x.ver.expire, .int .i64 x.ver.val.kind, .string ⟨x.ver.val.text.toArray⟩, p, t, z] ++ []) _ from hv.get 0 rfl) rfl) (wpi_callV s14callable32 tV wideC rfl (wn rfl) rfl rfl (args := #[.agg #[.string ⟨x.key.toArray⟩, .int .i64 x.ver.stamp, .bool x.ver.gone, .int .i64 x.ver.expire, .int .i64 x.ver.val.kind, .string ⟨x.ver.val.text.toArray⟩, p, t, z]]) (by simp only [List.map_toArray, List.map_cons, List.map_nil]; rfl) ((storeValid B _ _ x p t z h hv).mono ?_))
 rintro e w5 ⟨rfl, hv⟩
 refine ⟨_, rfl, ?_⟩
 simp only [zP, po]
 refine xG (.bool (!(wrOkB x))) rfl (ex_not rfl rfl rfl) (xA (.bool (!(wrOkB x))) rfl ?_)
 simp only [zP, po]
 refine wK k4 (rR ?_)
 refine bR rfl rfl (⟨rfl, ((hv.front 1 rfl).sub (List.Sublist.cons_cons _ (List.Sublist.cons _ (List.Sublist.refl _))))⟩)
theorem s14callable62 : Callable Tryz.prog 62 := ⟨_, Tryz.func62, by kernel_rfl, by kernel_rfl⟩
theorem s14callable61 : Callable Tryz.prog 61 := ⟨_, Tryz.func61, by kernel_rfl, by kernel_rfl⟩
set_option maxHeartbeats 2000000 in
theorem storeAll (B : Base) (H : List Res) (w : World) (ad : Option Addr) (c : Nat) (xs : List Value) (l : List Wr) (hr : RdV B [] ad xs) (hxs : WrsAt B l xs) (hm : l.length ≤ 1000000) (hv : Inv B H w) :
  Calls Tryz.prog 34 #[.slice ad l.length c, .func (.func 32) #[] #[]] w fun e w' => e = .returned (.bool (!l.any (fun x => !wrOkB x))) ∧ Inv B H w' := by
 refine cW Tryz.func34 rfl Tryz.ntmps34 ?_
 simp only [al]
 refine sK fun _ k1 => rL (sl_box (L := [.func (.func 32) #[] #[]]) tV (wn rfl) rfl rfl hv (fun w => by kernel_rfl) (fun b2 w3 hv => ?_))
 refine xA (.bool false) rfl ?_
 simp only [zP, po]
 refine wK k1 (sK fun _ k4 => ?_)
 refine rL (xM (.slice ad l.length c) rfl ?_)
 refine xG (.func (.func 62) #[] #[.pointer (some ⟨b2, 0, none⟩)]) rfl (ex_makeFunc (c' := #[.pointer (some ⟨b2, 0, none⟩)]) rfl (by simp only [List.map_toArray, List.map_nil]) (by simp only [List.map_toArray, List.map_cons, List.map_nil]; rfl)) (xC s14callable61 rfl ((containsFuncWr B _ _ 62 #[.pointer (some ⟨b2, 0, none⟩)] ad c l (fun x => !wrOkB x) xs hr hxs hm s14callable62 (fun x _ p t z h w hv => storeAllFn B H w _ x p t z h hv) hv).mono ?_) rfl)
 rintro e w5 ⟨rfl, hv⟩
 refine ⟨_, rfl, ?_⟩
 simp only [zP, po]
 refine xG (.bool (!(l.any (fun x => !wrOkB x)))) rfl (ex_not rfl rfl rfl) (xA (.bool (!(l.any (fun x => !wrOkB x)))) rfl ?_)
 simp only [zP, po]
 refine wK k4 (rR ?_)
 refine bR rfl rfl (⟨rfl, (hv.sub (List.Sublist.cons _ (List.Sublist.refl _)))⟩)
end Go.Proofs.YtffmbdagjpdieaaGreat
/- store.New, Last, Read. -/
namespace Go.Proofs.YtffmbdagjpdieaaGreat
open Go.RowKit Go.Pm
set_option maxHeartbeats 2000000 in
theorem ixNew (B : Base) (H : List Res) (w : World) (hv : Inv B H w) :
  Calls Tryz.prog 20 #[] w fun e w' => ∃ p, e = .returned (.pointer (some ⟨p, 0, none⟩)) ∧ Inv B (Res.cell p [.slice none 0 0, .int .i64 0] 89 :: H) w' := by
 refine cW Tryz.func20 rfl Tryz.ntmps20 ?_
 simp only [al]
 refine sK fun _ k1 => rL (xA (.pointer none) rfl ?_)
 simp only [zP, po]
 refine wK k1 (sK fun _ k2 => ?_)
 refine rL (xG (.agg #[.slice none 0 0, .int .i64 0]) rfl (ex_buildN (vs := #[]) rfl (by simp only [List.map_toArray, List.map_nil]) (by kernel_rfl)) ?_)
 refine sl_box (L := [.slice none 0 0, .int .i64 0]) tV (wn rfl) rfl rfl hv (fun w => by kernel_rfl) (fun b3 w4 hv => ?_)
 refine xA (.pointer (some ⟨b3, 0, none⟩)) rfl ?_
 simp only [zP, po]
 refine wK k2 (rR ?_)
 refine bR rfl rfl (⟨_, rfl, hv⟩)
theorem ixNewS (B : Base) (H : List Res) (w : World) (hv : Inv B H w) : Calls Tryz.prog 20 #[] w fun e w' => ∃ p, e = .returned (.pointer (some ⟨p, 0, none⟩)) ∧ Inv B (ixS 89 101 100 p (.slice none 0 0) 0 [] [] :: H) w' := by
 refine (ixNew B H w hv).mono ?_
 rintro e w' ⟨p, rfl, hv⟩
 exact ⟨p, rfl, Inv.star ((hv.rowNil 101 1).front 1 rfl)⟩
theorem ixm_nil (B : Base) : IxM B [] [] := ⟨fun es h => (by cases h), List.Pairwise.nil, trivial, fun m h => (by cases h), by simp⟩
theorem s15callable20 : Callable Tryz.prog 20 := ⟨_, Tryz.func20, by kernel_rfl, by kernel_rfl⟩
set_option maxHeartbeats 2000000 in
theorem storeNew (B : Base) (H : List Res) (w : World) (hv : Inv B H w) :
  Calls Tryz.prog 5 #[] w fun e w' => ∃ s p, e = .returned (.pointer (some ⟨s, 0, none⟩)) ∧ Inv B (Res.cell s [.pointer (some ⟨p, 0, none⟩), .int .i64 0, .int .i64 0] 65 :: ixS 89 101 100 p (.slice none 0 0) 0 [] [] :: H) w' := by
 refine cW Tryz.func5 rfl Tryz.ntmps5 ?_
 simp only [al]
 refine sK fun _ k1 => rL (xA (.pointer none) rfl ?_)
 simp only [zP, po]
 refine wK k1 (sK fun _ k2 => ?_)
 refine rL (xC s15callable20 rfl ((ixNewS B _ _ hv).mono ?_) rfl)
 rintro e w3 ⟨p, rfl, hv⟩
 refine ⟨_, rfl, ?_⟩
 refine xG (.agg #[.pointer (some ⟨p, 0, none⟩), .int .i64 0, .int .i64 0]) rfl (ex_buildN (vs := #[(0, .pointer (some ⟨p, 0, none⟩))]) rfl (by simp only [List.map_toArray, List.map_cons, List.map_nil]; rfl) (by kernel_rfl)) (sl_box (L := [.pointer (some ⟨p, 0, none⟩), .int .i64 0, .int .i64 0]) tV (wn rfl) rfl rfl hv (fun w => by kernel_rfl) (fun b4 w5 hv => ?_))
 simp only [zP, po]
 refine xA (.pointer (some ⟨b4, 0, none⟩)) rfl ?_
 simp only [zP, po]
 refine wK k2 (rR ?_)
 refine bR rfl rfl (⟨_, p, rfl, hv⟩)
theorem s15fa65_1 (w : World) (b o : Nat) : (Instr.fieldAt 65 (.pointer (some ⟨b, o, none⟩)) 1).run Tryz.prog w = .ok (.pointer (some ⟨b, o + 1, none⟩)) w := by kernel_rfl
set_option maxHeartbeats 2000000 in
theorem storeLast (B : Base) (H : List Res) (w : World) (s p : Nat) (last mark : Int) (hv : Inv B (Res.cell s [.pointer (some ⟨p, 0, none⟩), .int .i64 last, .int .i64 mark] 65 :: H) w) :
  Calls Tryz.prog 44 #[.pointer (some ⟨s, 0, none⟩)] w fun e w' => e = .returned (.int .i64 last) ∧ Inv B (Res.cell s [.pointer (some ⟨p, 0, none⟩), .int .i64 last, .int .i64 mark] 65 :: H) w' := by
 refine cW Tryz.func44 rfl Tryz.ntmps44 ?_
 simp only [al]
 refine sK fun _ k1 => rL (xA (.int .i64 0) rfl ?_)
 simp only [zP, po]
 refine wK k1 (sK fun _ k2 => ?_)
 refine rL (xM (.pointer (some ⟨s, 0, none⟩)) rfl ?_)
 refine xG (.pointer (some ⟨s, 0, none⟩)) rfl (ex_nil rfl rfl) (xF (.pointer (some ⟨s, 1, none⟩)) rfl (s15fa65_1 _ _ _) ?_)
 simp only [zP, po]
 refine xL _ rfl (run_load1 s2na3 (hv.load 0 1 rfl rfl)) (xA (.int .i64 last) rfl ?_)
 simp only [zP, po]
 refine wK k2 (rR ?_)
 refine bR rfl rfl (⟨rfl, hv⟩)
def zver : Ver := ⟨0, false, 0, ⟨0, [], [], [], []⟩⟩
theorem row_nil (B : Base) : RowB B (.slice none 0 0) 0 [] := ⟨none, 0, rfl, ⟨Nat.le_refl _, Nat.zero_le _, fun _ => rfl⟩, rdV_nil⟩
theorem zver_at (B : Base) : ValAt B zver.val (.slice none 0 0) (.slice none 0 0) (.slice none 0 0) := ⟨row_nil B, row_nil B, row_nil B, by decide, by decide, by decide⟩
def AtI (l : List Ver) (s : Int) (x : Ver) (ok : Bool) : Prop := (ok = false ∧ x = zver ∧ UptoI l s 0) ∨ (ok = true ∧ ∃ j, l[j]? = some x ∧ UptoI l s (j + 1))
theorem chainAtX (B : Base) (H : List Res) (w : World) (v : Value) (l : List Ver) (s : Int) (h : ChainB B v l) (hm : l.length ≤ 1000000) (hv : Inv B H w) : Calls Tryz.prog 47 #[v, .int .i64 s] w fun e w' => ∃ C x p t z ok, B.Le C ∧ e = .returned (.tuple #[.agg (verCells x p t z).toArray, .bool ok]) ∧ AtI l s x ok ∧ ValAt C x.val p t z ∧ Inv C H w' := by
 obtain ⟨ad, c, xs, rfl, hok, hr, hxs⟩ := h
 refine (chainAt B H w ad c s xs l hr hxs hm hv).mono ?_
 rintro e w' ⟨i, hu, ⟨rfl, rfl, hv⟩ | ⟨j, x, C, p, t, z, rfl, hx, hB, rfl, hva, hv⟩⟩
 ·exact ⟨B, zver, _, _, _, false, Base.Le.refl _, rfl, .inl ⟨rfl, rfl, hu⟩, zver_at B, hv⟩
 exact ⟨C, x, p, t, z, true, hB, rfl, .inr ⟨rfl, j, hx, hu⟩, hva, hv⟩
def ReadI (l : List Ver) (s clock : Int) (x : Ver) (ok : Bool) : Prop := (ok = true ∧ aliveB x clock = true ∧ AtI l s x true) ∨ (ok = false ∧ x = zver ∧ ∃ y b, AtI l s y b ∧ (b = true → aliveB y clock = false))
theorem s15al55 (w : World) : (Instr.alloc 55 true (.tuple #[])).run Tryz.prog w = .ok (.pointer (some ⟨w.heap.size, 0, none⟩)) (w.alloc (.cells ([.int .i64 0, .bool false, .int .i64 0, .int .i64 0, .string ⟨([] : List UInt8).toArray⟩, .slice none 0 0, .slice none 0 0, .slice none 0 0] : List Value).toArray 55)) := by kernel_rfl
theorem s15fa65_0 (w : World) (b o : Nat) : (Instr.fieldAt 65 (.pointer (some ⟨b, o, none⟩)) 0).run Tryz.prog w = .ok (.pointer (some ⟨b, o + 0, none⟩)) w := by kernel_rfl
theorem s15callable28 : Callable Tryz.prog 28 := ⟨_, Tryz.func28, by kernel_rfl, by kernel_rfl⟩
theorem s15callable47 : Callable Tryz.prog 47 := ⟨_, Tryz.func47, by kernel_rfl, by kernel_rfl⟩
theorem s15callable48 : Callable Tryz.prog 48 := ⟨_, Tryz.func48, by kernel_rfl, by kernel_rfl⟩
set_option maxHeartbeats 2000000 in
theorem storeRead (B : Base) (H : List Res) (w : World) (s p : Nat) (v : Value) (X : List (List Ent)) (bvs : List Value) (M : Model) (last mark stamp clock : Int) (key : List UInt8) (hx : IxM B X M) (hv : Inv B (Res.cell s [.pointer (some ⟨p, 0, none⟩), .int .i64 last, .int .i64 mark] 65 :: ixS 89 101 100 p v (M.length : Int) X bvs :: H) w) :
  Calls Tryz.prog 19 #[.pointer (some ⟨s, 0, none⟩), .string ⟨key.toArray⟩, .int .i64 stamp, .int .i64 clock] w fun e w' => ∃ C x p' t' z' ok, B.Le C ∧ e = .returned (.tuple #[.agg (verCells x p' t' z').toArray, .bool ok]) ∧ ReadI (getM M key) stamp clock x ok ∧ ValAt C x.val p' t' z' ∧ Inv C (Res.cell s [.pointer (some ⟨p, 0, none⟩), .int .i64 last, .int .i64 mark] 65 :: ixS 89 101 100 p v (M.length : Int) X bvs :: H) w' := by
 refine cW Tryz.func19 rfl Tryz.ntmps19 ?_
 simp only [al]
 refine sK fun _ k1 => rL (sl_alloc tV (wn rfl) rfl hv s15al55 (fun b2 w3 hv => ?_))
 refine xA (.bool false) rfl ?_
 simp only [zP, po]
 refine wK k1 (sK fun _ k4 => ?_)
 refine rL (xM (.pointer (some ⟨s, 0, none⟩)) rfl ?_)
 refine xG (.pointer (some ⟨s, 0, none⟩)) rfl (ex_nil rfl rfl) (xF (.pointer (some ⟨s, 0, none⟩)) rfl (s15fa65_0 _ _ _) ?_)
 simp only [zP, po]
 refine xL _ rfl (run_load1 s3na62 (hv.load 1 0 rfl rfl)) (xM (.string ⟨key.toArray⟩) rfl ?_)
 replace hv := hv.front 2 rfl
 simp only [List.eraseIdx_cons_succ, List.eraseIdx_cons_zero] at hv
 refine xC s15callable28 rfl ((ixGetS B _ _ p v X bvs M key (hx.more (Base.Le.refl _)) hv).mono ?_) rfl
 rintro e w7 ⟨C5, q6, hC5, rfl, hq6, hv⟩
 refine ⟨_, rfl, ?_⟩
 simp only [zP, po]
 refine xM (.int .i64 stamp) rfl (xC s15callable47 rfl ((chainAtX C5 _ _ q6 (getM M key) _ hq6 (by have := hx.glen key; omega) hv).mono ?_) rfl)
 rintro e w9 ⟨D8, x, p2, t2, z2, ok, hD8, rfl, hat, hva, hv⟩
 refine ⟨_, rfl, ?_⟩
 cases ok
 ·refine xM (.tuple #[.agg #[.int .i64 x.stamp, .bool x.gone, .int .i64 x.expire, .int .i64 x.val.kind, .string ⟨x.val.text.toArray⟩, p2, t2, z2], .bool false]) rfl ?_
  simp only [zP, po]
  refine xG (.agg #[.int .i64 x.stamp, .bool x.gone, .int .i64 x.expire, .int .i64 x.val.kind, .string ⟨x.val.text.toArray⟩, p2, t2, z2]) rfl (ex_extract rfl rfl rfl) (xG (.bool false) rfl (ex_extract rfl rfl rfl) ?_)
  refine sl_alloc tV (wn rfl) rfl hv s15al55 (fun b10 w11 hv => ?_)
  simp only [zP, po]
  refine xS 0 rfl hv s1sz55 rfl (by exact ⟨rfl, rfl, rfl, rfl, rfl, hva.p.one, hva.t.one, hva.z.one, trivial⟩) (fun w12 hv => ?_)
  simp only [zO, sp] at hv
  refine xA (.bool false) rfl ?_
  simp only [zP, po]
  refine wK k4 (sK fun _ k13 => ?_)
  refine sK fun _ k14 => rL (xM (.bool false) rfl ?_)
  refine xG (.bool true) rfl (ex_not rfl rfl rfl) (xM (.bool true) rfl ?_)
  simp only [zP, po]
  iterate 4 refine yN rfl ?_
  refine xK true (.bool true) rfl ?_
  simp only [zP, po]
  refine wK k14 (cT rfl ?_)
  refine sK fun _ k15 => rL (xG (.agg #[.int .i64 0, .bool false, .int .i64 0, .int .i64 0, .string ⟨([] : List UInt8).toArray⟩, .slice none 0 0, .slice none 0 0, .slice none 0 0]) rfl (ex_buildN (vs := #[]) rfl (by simp only [List.map_toArray, List.map_nil]) (by kernel_rfl)) ?_)
  refine xS 2 rfl hv s1sz55 rfl (by exact ⟨rfl, rfl, rfl, rfl, rfl, rfl, rfl, rfl, trivial⟩) (fun w16 hv => ?_)
  simp only [zS, zO, sp] at hv
  refine xA (.bool false) rfl ?_
  simp only [zP, po]
  refine wK k15 (rR ?_)
  refine tR (bodyPost_ret (res_cell2 rfl rfl (run_load_mid (pre := []) (mid := [.int .i64 0, .bool false, .int .i64 0, .int .i64 0, .string ⟨([] : List UInt8).toArray⟩, .slice none 0 0, .slice none 0 0, .slice none 0 0]) (post := []) s1wd55 (show Blk _ b2 ([] ++ [.int .i64 0, .bool false, .int .i64 0, .int .i64 0, .string ⟨([] : List UInt8).toArray⟩, .slice none 0 0, .slice none 0 0, .slice none 0 0] ++ []) _ from hv.get 2 rfl) rfl)) rfl ?_)
  exact ⟨_, zver, _, _, _, false, (hC5.trans hD8), rfl, .inr ⟨rfl, rfl, x, false, hat, fun h => (by cases h)⟩, zver_at _, (((hv.front 1 rfl).front 3 rfl).sub (List.Sublist.cons_cons _ (List.Sublist.cons_cons _ (List.Sublist.cons _ (List.Sublist.cons _ (List.Sublist.refl _))))))⟩
 refine xM (.tuple #[.agg #[.int .i64 x.stamp, .bool x.gone, .int .i64 x.expire, .int .i64 x.val.kind, .string ⟨x.val.text.toArray⟩, p2, t2, z2], .bool true]) rfl ?_
 simp only [zP, po]
 refine xG (.agg #[.int .i64 x.stamp, .bool x.gone, .int .i64 x.expire, .int .i64 x.val.kind, .string ⟨x.val.text.toArray⟩, p2, t2, z2]) rfl (ex_extract rfl rfl rfl) (xG (.bool true) rfl (ex_extract rfl rfl rfl) ?_)
 refine sl_alloc tV (wn rfl) rfl hv s15al55 (fun b17 w18 hv => ?_)
 simp only [zP, po]
 refine xS 0 rfl hv s1sz55 rfl (by exact ⟨rfl, rfl, rfl, rfl, rfl, hva.p.one, hva.t.one, hva.z.one, trivial⟩) (fun w19 hv => ?_)
 simp only [zO, sp] at hv
 refine xA (.bool true) rfl ?_
 simp only [zP, po]
 refine wK k4 (sK fun _ k20 => ?_)
 refine sK fun _ k21 => rL (xM (.bool true) rfl ?_)
 refine xG (.bool false) rfl (ex_not rfl rfl rfl) (xM (.bool false) rfl ?_)
 simp only [zP, po]
 refine xL (.agg #[.int .i64 x.stamp, .bool x.gone, .int .i64 x.expire, .int .i64 x.val.kind, .string ⟨x.val.text.toArray⟩, p2, t2, z2]) rfl (run_load_mid (pre := []) (mid := [.int .i64 x.stamp, .bool x.gone, .int .i64 x.expire, .int .i64 x.val.kind, .string ⟨x.val.text.toArray⟩, p2, t2, z2]) (post := []) s1wd55 (show Blk _ b17 ([] ++ [.int .i64 x.stamp, .bool x.gone, .int .i64 x.expire, .int .i64 x.val.kind, .string ⟨x.val.text.toArray⟩, p2, t2, z2] ++ []) _ from hv.get 0 rfl) rfl) (xM (.int .i64 clock) rfl ?_)
 refine xC s15callable48 rfl ((chainAlive D8 _ _ x p2 t2 z2 clock hv).mono ?_) rfl
 rintro e w22 ⟨rfl, hv⟩
 refine ⟨_, rfl, ?_⟩
 simp only [zP, po]
 refine xG (.bool (!(aliveB x clock))) rfl (ex_not rfl rfl rfl) (xK false (.bool (!(aliveB x clock))) rfl ?_)
 simp only [zP, po]
 refine wK k21 (wpIn_cond_split (t := !(aliveB x clock)) rfl (fun hc23 => ?_) (fun hc23 => ?_))
 ·refine sK fun _ k24 => rL (xG (.agg #[.int .i64 0, .bool false, .int .i64 0, .int .i64 0, .string ⟨([] : List UInt8).toArray⟩, .slice none 0 0, .slice none 0 0, .slice none 0 0]) rfl (ex_buildN (vs := #[]) rfl (by simp only [List.map_toArray, List.map_nil]) (by kernel_rfl)) ?_)
  refine xS 2 rfl hv s1sz55 rfl (by exact ⟨rfl, rfl, rfl, rfl, rfl, rfl, rfl, rfl, trivial⟩) (fun w25 hv => ?_)
  simp only [zS, zO, sp] at hv
  refine xA (.bool false) rfl ?_
  simp only [zP, po]
  refine wK k24 (rR ?_)
  refine tR (bodyPost_ret (res_cell2 rfl rfl (run_load_mid (pre := []) (mid := [.int .i64 0, .bool false, .int .i64 0, .int .i64 0, .string ⟨([] : List UInt8).toArray⟩, .slice none 0 0, .slice none 0 0, .slice none 0 0]) (post := []) s1wd55 (show Blk _ b2 ([] ++ [.int .i64 0, .bool false, .int .i64 0, .int .i64 0, .string ⟨([] : List UInt8).toArray⟩, .slice none 0 0, .slice none 0 0, .slice none 0 0] ++ []) _ from hv.get 2 rfl) rfl)) rfl ?_)
  exact ⟨_, zver, _, _, _, false, (hC5.trans hD8), rfl, .inr ⟨rfl, rfl, x, true, hat, fun _ => by simpa using hc23⟩, zver_at _, (((hv.front 1 rfl).front 3 rfl).sub (List.Sublist.cons_cons _ (List.Sublist.cons_cons _ (List.Sublist.cons _ (List.Sublist.cons _ (List.Sublist.refl _))))))⟩
 refine kS (tK k20 ?_)
 refine sK fun _ k26 => rL (xL (.agg #[.int .i64 x.stamp, .bool x.gone, .int .i64 x.expire, .int .i64 x.val.kind, .string ⟨x.val.text.toArray⟩, p2, t2, z2]) rfl (run_load_mid (pre := []) (mid := [.int .i64 x.stamp, .bool x.gone, .int .i64 x.expire, .int .i64 x.val.kind, .string ⟨x.val.text.toArray⟩, p2, t2, z2]) (post := []) s1wd55 (show Blk _ b17 ([] ++ [.int .i64 x.stamp, .bool x.gone, .int .i64 x.expire, .int .i64 x.val.kind, .string ⟨x.val.text.toArray⟩, p2, t2, z2] ++ []) _ from hv.get 0 rfl) rfl) ?_)
 refine xS 2 rfl hv s1sz55 rfl (by exact ⟨rfl, rfl, rfl, rfl, rfl, hva.p.one, hva.t.one, hva.z.one, trivial⟩) (fun w27 hv => ?_)
 simp only [zS, zO, sp] at hv
 refine xA (.bool true) rfl ?_
 simp only [zP, po]
 refine wK k26 (rR ?_)
 refine bodyPost_ret (res_cell2 rfl rfl (run_load_mid (pre := []) (mid := [.int .i64 x.stamp, .bool x.gone, .int .i64 x.expire, .int .i64 x.val.kind, .string ⟨x.val.text.toArray⟩, p2, t2, z2]) (post := []) s1wd55 (show Blk _ b2 ([] ++ [.int .i64 x.stamp, .bool x.gone, .int .i64 x.expire, .int .i64 x.val.kind, .string ⟨x.val.text.toArray⟩, p2, t2, z2] ++ []) _ from hv.get 2 rfl) rfl)) rfl (⟨_, x, p2, t2, z2, true, (hC5.trans hD8), rfl, .inl ⟨rfl, by simpa using hc23, hat⟩, hva, (((hv.front 1 rfl).front 3 rfl).sub (List.Sublist.cons_cons _ (List.Sublist.cons_cons _ (List.Sublist.cons _ (List.Sublist.cons _ (List.Sublist.refl _))))))⟩)
end Go.Proofs.YtffmbdagjpdieaaGreat
