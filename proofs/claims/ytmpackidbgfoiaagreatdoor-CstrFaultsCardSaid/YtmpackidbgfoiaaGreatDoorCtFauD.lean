/- Which values, versions and chains are right. -/
import Derived.Test.YtmpackidbgfoiaaGreatDoorCtFauC
import Derived.Test.YtmpackidbgfoiaaGreatDoorCtFauB
import Derived.Test.YtmpackidbgfoiaaGreatDoorRows
import Derived.Scope
import Derived.RecoverIn
import Derived.RegionIn
import Derived.Laws.Pointers
import Derived.TacticsInMore
import Derived.Test.YtmpackidbgfoiaaGreatDoorCtFauA
set_option maxRecDepth 100000
set_option maxHeartbeats 16000000
set_option synthInstance.maxSize 4096
set_option synthInstance.maxHeartbeats 400000
namespace Go.Proofs.YtmpackidbgfoiaaGreatDoor
open Go.RowKit Go.Pm
def ZeroVal (v : Val) : Prop := v.kind = 0 ∧ v.text = [] ∧ v.pairs.length = 0 ∧ v.texts.length = 0 ∧ v.zset.length = 0
instance (v : Val) : Decidable (ZeroVal v) := inferInstanceAs (Decidable (_ ∧ _))
def ValOk (v : Val) : Prop := (v.kind = 1 ∧ v.text.length ≤ 4096 ∧ v.pairs.length = 0 ∧ v.texts.length = 0 ∧ v.zset.length = 0) ∨ (v.kind = 2 ∧ 0 < v.pairs.length ∧ HashOk v.pairs ∧ v.text = [] ∧ v.texts.length = 0 ∧ v.zset.length = 0) ∨
 (v.kind = 3 ∧ 0 < v.texts.length ∧ listRight v.texts = true ∧ v.text = [] ∧ v.pairs.length = 0 ∧ v.zset.length = 0) ∨ (v.kind = 4 ∧ 0 < v.texts.length ∧ SetOk v.texts ∧ v.text = [] ∧ v.pairs.length = 0 ∧ v.zset.length = 0) ∨
 (v.kind = 5 ∧ 0 < v.zset.length ∧ ZsetOk v.zset ∧ v.text = [] ∧ v.pairs.length = 0 ∧ v.texts.length = 0)
theorem listRightX (B : Base) (H : List Res) (w : World) (ad : Option Addr) (c : Nat) (l : List (List UInt8)) (hr : RdV B [] ad (textCells l)) (hm : l.length ≤ 1000000) (hv : Inv B H w) : Calls Tryz.prog 189 #[.slice ad l.length c] w fun e w' => ∃ b, e = .returned (.bool b) ∧ (b = true ↔ listRight l = true) ∧ Inv B H w' :=
 (listRightC B H w ad c l hr hm hv).mono fun _ _ ⟨h1, h2⟩ => ⟨_, h1, Iff.rfl, h2⟩
theorem s12al60 : AL Tryz.prog 60 [vI 0, vS [], vN, vN, vN] := fun w => by kernel_rfl
theorem s12fa60_0 : FA Tryz.prog 60 0 0 := fun w b o => by kernel_rfl
theorem s12fa60_1 : FA Tryz.prog 60 1 1 := fun w b o => by kernel_rfl
theorem s12sz9 : (Tryz.prog.info? 9).map (·.size) = some 1 := by kernel_rfl
theorem s12callable188 : Callable Tryz.prog 188 := cb Tryz.func188 (by kernel_rfl)
theorem s12callable189 : Callable Tryz.prog 189 := cb Tryz.func189 (by kernel_rfl)
theorem s12callable190 : Callable Tryz.prog 190 := cb Tryz.func190 (by kernel_rfl)
theorem s12callable191 : Callable Tryz.prog 191 := cb Tryz.func191 (by kernel_rfl)
theorem valueRight0 (B : Base) (H : List Res) (w : World) (v : Val) (ap at2 az : Option Addr) (cp ct cz : Nat) (hrp : RdV B [] ap (pairCells v.pairs)) (hrt : RdV B [] at2 (textCells v.texts)) (hrz : RdV B [] az (memCells v.zset)) (hpm : v.pairs.length ≤ 1000000) (htm : v.texts.length ≤ 1000000) (hzm : v.zset.length ≤ 1000000) (hv : Inv B H w) :
  Calls Tryz.prog 181 #[.agg #[vI v.kind, vS v.text, .slice ap v.pairs.length cp, .slice at2 v.texts.length ct, .slice az v.zset.length cz]] w fun e w' => ∃ b, e = .returned (.bool b) ∧ (b = true ↔ ValOk v) ∧ Inv B H w' := by
 refine cW Tryz.func181 rfl Tryz.ntmps181 ?_
 simp only [al]
 refine sK fun _ k1 => rL (sl_box (L := [vI v.kind, vS v.text, .slice ap v.pairs.length cp, .slice at2 v.texts.length ct, .slice az v.zset.length cz]) tV (wn rfl) rfl rfl hv (fun w => by kernel_rfl) (fun b2 w3 hv => ?_))
 refine uA rfl (uW k1 ?_)
 refine sK fun _ k4 => rL (uL (.agg #[vI v.kind, vS v.text, .slice ap v.pairs.length cp, .slice at2 v.texts.length ct, .slice az v.zset.length cz]) rfl (lM 0 s1wd60 hv rfl rfl rfl rfl) ?_)
 refine sl_alloc tV (wn rfl) rfl hv s12al60 (fun b5 w6 hv => ?_)
 simp only [zP, po]
 refine xS 0 rfl hv s1sz60 rfl (by exact ⟨rfl, rfl, rfl, rfl, rfl, trivial⟩) (fun w7 hv => ?_)
 simp only [zO, sp] at hv
 refine uA rfl (uW k4 ?_)
 refine sK fun _ k8 => sK fun _ k9 => rL (uF (vP b2) rfl (s12fa60_0 _ _ _) ?_)
 refine uL _ rfl (run_load1 s2na3 (hv.load 1 0 rfl rfl)) (uW k9 ?_)
 refine bB (sK fun _ k10 => ?_)
 refine rL ?_
 by_cases hb11 : v.kind = 1
 ·refine uG (.bool true) rfl (ex_eql rfl rfl rfl (qT hb11)) (uA rfl ?_)
  refine uW k10 (cT rfl ?_)
  refine rW mixed [5] [0,1,2,3,4,5,6] 83 rfl (by kernel_rfl) hv ?_
  simp only [qm, opAt]
  refine dG (.pointer (some ⟨b2, 1, none⟩)) rfl (ex_field rfl rfl (s12fa60_1 _ _ _)) (dF _ rfl (fun hv => ex_load rfl rfl (run_load1 s9na9 (hv.load 1 1 rfl rfl))) fun f12 hf12 => ?_)
  refine dG (vI (v.text.length : Int)) rfl (ex_lenStr Tryz.underlying9 rfl rfl) ?_
  simp only [zP, po]
  by_cases hb13 : (v.text.length : Int) ≤ 4096
  ·refine dG (.bool true) rfl (ex_leq rfl rfl rfl (qT hb13)) (dG (.pointer (some ⟨b5, 1, none⟩)) rfl (ex_field rfl rfl (s12fa60_1 _ _ _)) ?_)
   refine dS rfl fun w14 hv => mV 0 (vS []) rfl hv s12sz9 rfl rfl (fun w15 hv => ?_)
   simp only [zO, sp] at hv
   refine dV hv (fC (fun ww hv => hf12 ww (ex_load rfl rfl (run_load1 s9na9 (hv.load 1 1 rfl rfl)))) fN) ?_
   simp only [zP, po]
   refine dA (.bool true) rfl (dE fun w16 hv => ?_)
   simp only [zP, po]
   refine bN (tK k8 ?_)
   refine sK fun _ k17 => rL (uM rfl ?_)
   refine uM rfl ?_
   refine uF (.pointer (some ⟨b5, 1, none⟩)) rfl (s12fa60_1 _ _ _) ?_
   refine uL _ rfl (run_load1 s9na9 (hv.load 0 1 rfl rfl)) ?_
   refine uG (.bool true) rfl (ex_seql rfl rfl rfl (qT (by decide))) (uK rfl ?_)
   refine uM rfl ?_
   refine uF (.pointer (some ⟨b5, 2, none⟩)) rfl (s1fa60_2 _ _ _) ?_
   refine uL _ rfl (run_load1 s1na57 (hv.load 0 2 rfl rfl)) ?_
   refine uG (vI (v.pairs.length : Int)) rfl (ex_len0 Tryz.underlying57 rfl rfl) ?_
   refine uF (.pointer (some ⟨b5, 3, none⟩)) rfl (s1fa60_3 _ _ _) ?_
   refine uL _ rfl (run_load1 s1na23 (hv.load 0 3 rfl rfl)) ?_
   refine uG (vI (v.texts.length : Int)) rfl (ex_len0 Tryz.underlying23 rfl rfl) ?_
   refine uG (vI ((v.pairs.length : Int) + (v.texts.length : Int))) rfl (ex_add rfl rfl rfl (i64_in (by omega))) ?_
   refine uF (.pointer (some ⟨b5, 4, none⟩)) rfl (s1fa60_4 _ _ _) ?_
   refine uL _ rfl (run_load1 s1na58 (hv.load 0 4 rfl rfl)) ?_
   refine uG (vI (v.zset.length : Int)) rfl (ex_len0 Tryz.underlying58 rfl rfl) ?_
   refine uG (vI (((v.pairs.length : Int) + (v.texts.length : Int)) + (v.zset.length : Int))) rfl (ex_add rfl rfl rfl (i64_in (by omega))) ?_
   by_cases hb18 : (((v.pairs.length : Int) + (v.texts.length : Int)) + (v.zset.length : Int)) = 0
   ·refine uG (.bool true) rfl (ex_eql rfl rfl rfl (qT hb18)) (uK rfl ?_)
    refine uA rfl (uW k17 ?_)
    refine rR (bR rfl rfl ?_)
    exact ⟨true, rfl, ⟨fun _ => by first | exact .inl ⟨by omega, by omega, by omega, by omega, by omega⟩ | exact .inr (.inl ⟨by omega, by omega, hv.1 rfl, by assumption, by omega, by omega⟩) | exact .inr (.inr (.inl ⟨by omega, by omega, hv.1 rfl, by assumption, by omega, by omega⟩)) | exact .inr (.inr (.inr (.inl ⟨by omega, by omega, hv.1 rfl, by assumption, by omega, by omega⟩))) | exact .inr (.inr (.inr (.inr (⟨by omega, by omega, hv.1 rfl, by assumption, by omega, by omega⟩)))), fun _ => rfl⟩, (hv.kp [] 0 2)⟩
   refine uG (.bool false) rfl (ex_eql rfl rfl rfl (qF hb18)) (uK rfl ?_)
   refine uA rfl (uW k17 ?_)
   refine rR (bR rfl rfl ?_)
   exact ⟨false, rfl, ⟨fun h => (by cases h), fun h => by rcases h with ⟨h1, h2, h3, h4, h5⟩ | ⟨h1, h2, h3, h4, h5, h6⟩ | ⟨h1, h2, h3, h4, h5, h6⟩ | ⟨h1, h2, h3, h4, h5, h6⟩ | ⟨h1, h2, h3, h4, h5, h6⟩ <;> first | omega | contradiction⟩, (hv.kp [] 0 2)⟩
  refine dG (.bool false) rfl (ex_leq rfl rfl rfl (qF hb13)) (dG (.pointer (some ⟨b5, 1, none⟩)) rfl (ex_field rfl rfl (s12fa60_1 _ _ _)) ?_)
  refine dS rfl fun w19 hv => mV 0 (vS []) rfl hv s12sz9 rfl rfl (fun w20 hv => ?_)
  simp only [zO, sp] at hv
  refine dV hv (fC (fun ww hv => hf12 ww (ex_load rfl rfl (run_load1 s9na9 (hv.load 1 1 rfl rfl)))) fN) ?_
  simp only [zP, po]
  refine dA (.bool false) rfl (dE fun w21 hv => ?_)
  simp only [zP, po]
  refine bN (tK k8 ?_)
  refine sK fun _ k22 => rL (uM rfl ?_)
  refine uM rfl ?_
  iterate 3 refine uP rfl ?_
  refine uK rfl (uM rfl ?_)
  iterate 12 refine uP rfl ?_
  refine uK rfl (uA rfl ?_)
  refine uW k22 (rR ?_)
  refine bR rfl rfl (⟨false, rfl, ⟨fun h => (by cases h), fun h => by rcases h with ⟨h1, h2, h3, h4, h5⟩ | ⟨h1, h2, h3, h4, h5, h6⟩ | ⟨h1, h2, h3, h4, h5, h6⟩ | ⟨h1, h2, h3, h4, h5, h6⟩ | ⟨h1, h2, h3, h4, h5, h6⟩ <;> first | omega | contradiction⟩, (hv.kp [] 0 2)⟩)
 refine uG (.bool false) rfl (ex_eql rfl rfl rfl (qF hb11)) (uA rfl ?_)
 refine uW k10 (cF rfl ?_)
 refine sK fun _ k23 => rL ?_
 by_cases hb24 : v.kind = 2
 ·refine uG (.bool true) rfl (ex_eql rfl rfl rfl (qT hb24)) (uA rfl ?_)
  refine uW k23 (cT rfl ?_)
  refine rL (uF (.pointer (some ⟨b2, 2, none⟩)) rfl (s1fa60_2 _ _ _) ?_)
  refine uL _ rfl (run_load1 s1na57 (hv.load 1 2 rfl rfl)) ?_
  refine uG (vI (v.pairs.length : Int)) rfl (ex_len0 Tryz.underlying57 rfl rfl) ?_
  by_cases hb25 : (v.pairs.length : Int) > 0
  ·refine uG (.bool true) rfl (ex_gtr rfl rfl rfl (qT hb25)) (uM rfl ?_)
   refine uF (.pointer (some ⟨b2, 2, none⟩)) rfl (s1fa60_2 _ _ _) ?_
   refine uL _ rfl (run_load1 s1na57 (hv.load 1 2 rfl rfl)) ?_
   refine xC s12callable188 rfl ((hashRightC B _ _ _ _ _ hrp (by omega) hv).mono ?_) rfl
   rintro e w27 ⟨bl26, rfl, hbl26, hv⟩
   refine ⟨_, rfl, ?_⟩
   cases bl26
   ·refine uK rfl ?_
    refine uF (.pointer (some ⟨b5, 2, none⟩)) rfl (s1fa60_2 _ _ _) ?_
    refine xV 0 (vN) rfl hv s1sz57 rfl rfl (fun w28 hv => ?_)
    simp only [zO, sp] at hv
    refine uA rfl (uZ ?_)
    refine bN (tK k8 ?_)
    refine sK fun _ k29 => rL (uM rfl ?_)
    refine uM rfl ?_
    iterate 3 refine uP rfl ?_
    refine uK rfl (uM rfl ?_)
    iterate 12 refine uP rfl ?_
    refine uK rfl (uA rfl ?_)
    refine uW k29 (rR ?_)
    refine bR rfl rfl (⟨false, rfl, ⟨fun h => (by cases h), fun h => by rcases h with ⟨h1, h2, h3, h4, h5⟩ | ⟨h1, h2, h3, h4, h5, h6⟩ | ⟨h1, h2, h3, h4, h5, h6⟩ | ⟨h1, h2, h3, h4, h5, h6⟩ | ⟨h1, h2, h3, h4, h5, h6⟩ <;> first | omega | contradiction | (have h9 := hbl26.2 h3; cases h9)⟩, (hv.kp [] 0 2)⟩)
   refine uK rfl ?_
   refine uF (.pointer (some ⟨b5, 2, none⟩)) rfl (s1fa60_2 _ _ _) ?_
   refine xV 0 (vN) rfl hv s1sz57 rfl rfl (fun w30 hv => ?_)
   simp only [zO, sp] at hv
   refine uA rfl (uZ ?_)
   refine bN (tK k8 ?_)
   refine sK fun _ k31 => rL (uM rfl ?_)
   refine uM rfl ?_
   refine uF (.pointer (some ⟨b5, 1, none⟩)) rfl (s12fa60_1 _ _ _) ?_
   refine uL _ rfl (run_load1 s9na9 (hv.load 0 1 rfl rfl)) ?_
   by_cases hb32 : v.text = ([] : List UInt8)
   ·refine uG (.bool true) rfl (ex_seql rfl rfl rfl (qT hb32)) (uK rfl ?_)
    refine uM rfl ?_
    refine uF (.pointer (some ⟨b5, 2, none⟩)) rfl (s1fa60_2 _ _ _) ?_
    refine uL _ rfl (run_load1 s1na57 (hv.load 0 2 rfl rfl)) ?_
    refine uG (vI 0) rfl (ex_len0 Tryz.underlying57 rfl rfl) ?_
    refine uF (.pointer (some ⟨b5, 3, none⟩)) rfl (s1fa60_3 _ _ _) ?_
    refine uL _ rfl (run_load1 s1na23 (hv.load 0 3 rfl rfl)) ?_
    refine uG (vI (v.texts.length : Int)) rfl (ex_len0 Tryz.underlying23 rfl rfl) ?_
    refine uG (vI (0 + (v.texts.length : Int))) rfl (ex_add rfl rfl rfl (i64_in (by omega))) ?_
    refine uF (.pointer (some ⟨b5, 4, none⟩)) rfl (s1fa60_4 _ _ _) ?_
    refine uL _ rfl (run_load1 s1na58 (hv.load 0 4 rfl rfl)) ?_
    refine uG (vI (v.zset.length : Int)) rfl (ex_len0 Tryz.underlying58 rfl rfl) ?_
    refine uG (vI ((0 + (v.texts.length : Int)) + (v.zset.length : Int))) rfl (ex_add rfl rfl rfl (i64_in (by omega))) ?_
    by_cases hb33 : ((0 + (v.texts.length : Int)) + (v.zset.length : Int)) = 0
    ·refine uG (.bool true) rfl (ex_eql rfl rfl rfl (qT hb33)) (uK rfl ?_)
     refine uA rfl (uW k31 ?_)
     refine rR (bR rfl rfl ?_)
     exact ⟨true, rfl, ⟨fun _ => by first | exact .inl ⟨by omega, by omega, by omega, by omega, by omega⟩ | exact .inr (.inl ⟨by omega, by omega, hbl26.1 rfl, by assumption, by omega, by omega⟩) | exact .inr (.inr (.inl ⟨by omega, by omega, hbl26.1 rfl, by assumption, by omega, by omega⟩)) | exact .inr (.inr (.inr (.inl ⟨by omega, by omega, hbl26.1 rfl, by assumption, by omega, by omega⟩))) | exact .inr (.inr (.inr (.inr (⟨by omega, by omega, hbl26.1 rfl, by assumption, by omega, by omega⟩)))), fun _ => rfl⟩, (hv.kp [] 0 2)⟩
    refine uG (.bool false) rfl (ex_eql rfl rfl rfl (qF hb33)) (uK rfl ?_)
    refine uA rfl (uW k31 ?_)
    refine rR (bR rfl rfl ?_)
    exact ⟨false, rfl, ⟨fun h => (by cases h), fun h => by rcases h with ⟨h1, h2, h3, h4, h5⟩ | ⟨h1, h2, h3, h4, h5, h6⟩ | ⟨h1, h2, h3, h4, h5, h6⟩ | ⟨h1, h2, h3, h4, h5, h6⟩ | ⟨h1, h2, h3, h4, h5, h6⟩ <;> first | omega | contradiction | (have h9 := hbl26.2 h3; cases h9)⟩, (hv.kp [] 0 2)⟩
   refine uG (.bool false) rfl (ex_seql rfl rfl rfl (qF hb32)) (uK rfl ?_)
   refine uM rfl ?_
   iterate 12 refine uP rfl ?_
   refine uK rfl (uA rfl ?_)
   refine uW k31 (rR ?_)
   refine bR rfl rfl (⟨false, rfl, ⟨fun h => (by cases h), fun h => by rcases h with ⟨h1, h2, h3, h4, h5⟩ | ⟨h1, h2, h3, h4, h5, h6⟩ | ⟨h1, h2, h3, h4, h5, h6⟩ | ⟨h1, h2, h3, h4, h5, h6⟩ | ⟨h1, h2, h3, h4, h5, h6⟩ <;> first | omega | contradiction | (have h9 := hbl26.2 h3; cases h9)⟩, (hv.kp [] 0 2)⟩)
  refine uG (.bool false) rfl (ex_gtr rfl rfl rfl (qF hb25)) (uM rfl ?_)
  iterate 3 refine uP rfl ?_
  refine uK rfl ?_
  refine uF (.pointer (some ⟨b5, 2, none⟩)) rfl (s1fa60_2 _ _ _) ?_
  refine xV 0 (vN) rfl hv s1sz57 rfl rfl (fun w34 hv => ?_)
  simp only [zO, sp] at hv
  refine uA rfl (uZ ?_)
  refine bN (tK k8 ?_)
  refine sK fun _ k35 => rL (uM rfl ?_)
  refine uM rfl ?_
  iterate 3 refine uP rfl ?_
  refine uK rfl (uM rfl ?_)
  iterate 12 refine uP rfl ?_
  refine uK rfl (uA rfl ?_)
  refine uW k35 (rR ?_)
  refine bR rfl rfl (⟨false, rfl, ⟨fun h => (by cases h), fun h => by rcases h with ⟨h1, h2, h3, h4, h5⟩ | ⟨h1, h2, h3, h4, h5, h6⟩ | ⟨h1, h2, h3, h4, h5, h6⟩ | ⟨h1, h2, h3, h4, h5, h6⟩ | ⟨h1, h2, h3, h4, h5, h6⟩ <;> first | omega | contradiction⟩, (hv.kp [] 0 2)⟩)
 refine uG (.bool false) rfl (ex_eql rfl rfl rfl (qF hb24)) (uA rfl ?_)
 refine uW k23 (cF rfl ?_)
 refine sK fun _ k36 => rL ?_
 by_cases hb37 : v.kind = 3
 ·refine uG (.bool true) rfl (ex_eql rfl rfl rfl (qT hb37)) (uA rfl ?_)
  refine uW k36 (cT rfl ?_)
  refine rL (uF (.pointer (some ⟨b2, 3, none⟩)) rfl (s1fa60_3 _ _ _) ?_)
  refine uL _ rfl (run_load1 s1na23 (hv.load 1 3 rfl rfl)) ?_
  refine uG (vI (v.texts.length : Int)) rfl (ex_len0 Tryz.underlying23 rfl rfl) ?_
  by_cases hb38 : (v.texts.length : Int) > 0
  ·refine uG (.bool true) rfl (ex_gtr rfl rfl rfl (qT hb38)) (uM rfl ?_)
   refine uF (.pointer (some ⟨b2, 3, none⟩)) rfl (s1fa60_3 _ _ _) ?_
   refine uL _ rfl (run_load1 s1na23 (hv.load 1 3 rfl rfl)) ?_
   refine xC s12callable189 rfl ((listRightX B _ _ _ _ _ hrt (by omega) hv).mono ?_) rfl
   rintro e w40 ⟨bl39, rfl, hbl39, hv⟩
   refine ⟨_, rfl, ?_⟩
   cases bl39
   ·refine uK rfl ?_
    refine uF (.pointer (some ⟨b5, 3, none⟩)) rfl (s1fa60_3 _ _ _) ?_
    refine xV 0 (vN) rfl hv s1sz23 rfl rfl (fun w41 hv => ?_)
    simp only [zO, sp] at hv
    refine uA rfl (uZ ?_)
    refine bN (tK k8 ?_)
    refine sK fun _ k42 => rL (uM rfl ?_)
    refine uM rfl ?_
    iterate 3 refine uP rfl ?_
    refine uK rfl (uM rfl ?_)
    iterate 12 refine uP rfl ?_
    refine uK rfl (uA rfl ?_)
    refine uW k42 (rR ?_)
    refine bR rfl rfl (⟨false, rfl, ⟨fun h => (by cases h), fun h => by rcases h with ⟨h1, h2, h3, h4, h5⟩ | ⟨h1, h2, h3, h4, h5, h6⟩ | ⟨h1, h2, h3, h4, h5, h6⟩ | ⟨h1, h2, h3, h4, h5, h6⟩ | ⟨h1, h2, h3, h4, h5, h6⟩ <;> first | omega | contradiction | (have h9 := hbl39.2 h3; cases h9)⟩, (hv.kp [] 0 2)⟩)
   refine uK rfl ?_
   refine uF (.pointer (some ⟨b5, 3, none⟩)) rfl (s1fa60_3 _ _ _) ?_
   refine xV 0 (vN) rfl hv s1sz23 rfl rfl (fun w43 hv => ?_)
   simp only [zO, sp] at hv
   refine uA rfl (uZ ?_)
   refine bN (tK k8 ?_)
   refine sK fun _ k44 => rL (uM rfl ?_)
   refine uM rfl ?_
   refine uF (.pointer (some ⟨b5, 1, none⟩)) rfl (s12fa60_1 _ _ _) ?_
   refine uL _ rfl (run_load1 s9na9 (hv.load 0 1 rfl rfl)) ?_
   by_cases hb45 : v.text = ([] : List UInt8)
   ·refine uG (.bool true) rfl (ex_seql rfl rfl rfl (qT hb45)) (uK rfl ?_)
    refine uM rfl ?_
    refine uF (.pointer (some ⟨b5, 2, none⟩)) rfl (s1fa60_2 _ _ _) ?_
    refine uL _ rfl (run_load1 s1na57 (hv.load 0 2 rfl rfl)) ?_
    refine uG (vI (v.pairs.length : Int)) rfl (ex_len0 Tryz.underlying57 rfl rfl) ?_
    refine uF (.pointer (some ⟨b5, 3, none⟩)) rfl (s1fa60_3 _ _ _) ?_
    refine uL _ rfl (run_load1 s1na23 (hv.load 0 3 rfl rfl)) ?_
    refine uG (vI 0) rfl (ex_len0 Tryz.underlying23 rfl rfl) ?_
    refine uG (vI ((v.pairs.length : Int) + 0)) rfl (ex_add rfl rfl rfl (i64_in (by omega))) ?_
    refine uF (.pointer (some ⟨b5, 4, none⟩)) rfl (s1fa60_4 _ _ _) ?_
    refine uL _ rfl (run_load1 s1na58 (hv.load 0 4 rfl rfl)) ?_
    refine uG (vI (v.zset.length : Int)) rfl (ex_len0 Tryz.underlying58 rfl rfl) ?_
    refine uG (vI (((v.pairs.length : Int) + 0) + (v.zset.length : Int))) rfl (ex_add rfl rfl rfl (i64_in (by omega))) ?_
    by_cases hb46 : (((v.pairs.length : Int) + 0) + (v.zset.length : Int)) = 0
    ·refine uG (.bool true) rfl (ex_eql rfl rfl rfl (qT hb46)) (uK rfl ?_)
     refine uA rfl (uW k44 ?_)
     refine rR (bR rfl rfl ?_)
     exact ⟨true, rfl, ⟨fun _ => by first | exact .inl ⟨by omega, by omega, by omega, by omega, by omega⟩ | exact .inr (.inl ⟨by omega, by omega, hbl39.1 rfl, by assumption, by omega, by omega⟩) | exact .inr (.inr (.inl ⟨by omega, by omega, hbl39.1 rfl, by assumption, by omega, by omega⟩)) | exact .inr (.inr (.inr (.inl ⟨by omega, by omega, hbl39.1 rfl, by assumption, by omega, by omega⟩))) | exact .inr (.inr (.inr (.inr (⟨by omega, by omega, hbl39.1 rfl, by assumption, by omega, by omega⟩)))), fun _ => rfl⟩, (hv.kp [] 0 2)⟩
    refine uG (.bool false) rfl (ex_eql rfl rfl rfl (qF hb46)) (uK rfl ?_)
    refine uA rfl (uW k44 ?_)
    refine rR (bR rfl rfl ?_)
    exact ⟨false, rfl, ⟨fun h => (by cases h), fun h => by rcases h with ⟨h1, h2, h3, h4, h5⟩ | ⟨h1, h2, h3, h4, h5, h6⟩ | ⟨h1, h2, h3, h4, h5, h6⟩ | ⟨h1, h2, h3, h4, h5, h6⟩ | ⟨h1, h2, h3, h4, h5, h6⟩ <;> first | omega | contradiction | (have h9 := hbl39.2 h3; cases h9)⟩, (hv.kp [] 0 2)⟩
   refine uG (.bool false) rfl (ex_seql rfl rfl rfl (qF hb45)) (uK rfl ?_)
   refine uM rfl ?_
   iterate 12 refine uP rfl ?_
   refine uK rfl (uA rfl ?_)
   refine uW k44 (rR ?_)
   refine bR rfl rfl (⟨false, rfl, ⟨fun h => (by cases h), fun h => by rcases h with ⟨h1, h2, h3, h4, h5⟩ | ⟨h1, h2, h3, h4, h5, h6⟩ | ⟨h1, h2, h3, h4, h5, h6⟩ | ⟨h1, h2, h3, h4, h5, h6⟩ | ⟨h1, h2, h3, h4, h5, h6⟩ <;> first | omega | contradiction | (have h9 := hbl39.2 h3; cases h9)⟩, (hv.kp [] 0 2)⟩)
  refine uG (.bool false) rfl (ex_gtr rfl rfl rfl (qF hb38)) (uM rfl ?_)
  iterate 3 refine uP rfl ?_
  refine uK rfl ?_
  refine uF (.pointer (some ⟨b5, 3, none⟩)) rfl (s1fa60_3 _ _ _) ?_
  refine xV 0 (vN) rfl hv s1sz23 rfl rfl (fun w47 hv => ?_)
  simp only [zO, sp] at hv
  refine uA rfl (uZ ?_)
  refine bN (tK k8 ?_)
  refine sK fun _ k48 => rL (uM rfl ?_)
  refine uM rfl ?_
  iterate 3 refine uP rfl ?_
  refine uK rfl (uM rfl ?_)
  iterate 12 refine uP rfl ?_
  refine uK rfl (uA rfl ?_)
  refine uW k48 (rR ?_)
  refine bR rfl rfl (⟨false, rfl, ⟨fun h => (by cases h), fun h => by rcases h with ⟨h1, h2, h3, h4, h5⟩ | ⟨h1, h2, h3, h4, h5, h6⟩ | ⟨h1, h2, h3, h4, h5, h6⟩ | ⟨h1, h2, h3, h4, h5, h6⟩ | ⟨h1, h2, h3, h4, h5, h6⟩ <;> first | omega | contradiction⟩, (hv.kp [] 0 2)⟩)
 refine uG (.bool false) rfl (ex_eql rfl rfl rfl (qF hb37)) (uA rfl ?_)
 refine uW k36 (cF rfl ?_)
 refine sK fun _ k49 => rL ?_
 by_cases hb50 : v.kind = 4
 ·refine uG (.bool true) rfl (ex_eql rfl rfl rfl (qT hb50)) (uA rfl ?_)
  refine uW k49 (cT rfl ?_)
  refine rL (uF (.pointer (some ⟨b2, 3, none⟩)) rfl (s1fa60_3 _ _ _) ?_)
  refine uL _ rfl (run_load1 s1na23 (hv.load 1 3 rfl rfl)) ?_
  refine uG (vI (v.texts.length : Int)) rfl (ex_len0 Tryz.underlying23 rfl rfl) ?_
  by_cases hb51 : (v.texts.length : Int) > 0
  ·refine uG (.bool true) rfl (ex_gtr rfl rfl rfl (qT hb51)) (uM rfl ?_)
   refine uF (.pointer (some ⟨b2, 3, none⟩)) rfl (s1fa60_3 _ _ _) ?_
   refine uL _ rfl (run_load1 s1na23 (hv.load 1 3 rfl rfl)) ?_
   refine xC s12callable190 rfl ((setRightC B _ _ _ _ _ hrt (by omega) hv).mono ?_) rfl
   rintro e w53 ⟨bl52, rfl, hbl52, hv⟩
   refine ⟨_, rfl, ?_⟩
   cases bl52
   ·refine uK rfl ?_
    refine uF (.pointer (some ⟨b5, 3, none⟩)) rfl (s1fa60_3 _ _ _) ?_
    refine xV 0 (vN) rfl hv s1sz23 rfl rfl (fun w54 hv => ?_)
    simp only [zO, sp] at hv
    refine uA rfl (uZ ?_)
    refine bN (tK k8 ?_)
    refine sK fun _ k55 => rL (uM rfl ?_)
    refine uM rfl ?_
    iterate 3 refine uP rfl ?_
    refine uK rfl (uM rfl ?_)
    iterate 12 refine uP rfl ?_
    refine uK rfl (uA rfl ?_)
    refine uW k55 (rR ?_)
    refine bR rfl rfl (⟨false, rfl, ⟨fun h => (by cases h), fun h => by rcases h with ⟨h1, h2, h3, h4, h5⟩ | ⟨h1, h2, h3, h4, h5, h6⟩ | ⟨h1, h2, h3, h4, h5, h6⟩ | ⟨h1, h2, h3, h4, h5, h6⟩ | ⟨h1, h2, h3, h4, h5, h6⟩ <;> first | omega | contradiction | (have h9 := hbl52.2 h3; cases h9)⟩, (hv.kp [] 0 2)⟩)
   refine uK rfl ?_
   refine uF (.pointer (some ⟨b5, 3, none⟩)) rfl (s1fa60_3 _ _ _) ?_
   refine xV 0 (vN) rfl hv s1sz23 rfl rfl (fun w56 hv => ?_)
   simp only [zO, sp] at hv
   refine uA rfl (uZ ?_)
   refine bN (tK k8 ?_)
   refine sK fun _ k57 => rL (uM rfl ?_)
   refine uM rfl ?_
   refine uF (.pointer (some ⟨b5, 1, none⟩)) rfl (s12fa60_1 _ _ _) ?_
   refine uL _ rfl (run_load1 s9na9 (hv.load 0 1 rfl rfl)) ?_
   by_cases hb58 : v.text = ([] : List UInt8)
   ·refine uG (.bool true) rfl (ex_seql rfl rfl rfl (qT hb58)) (uK rfl ?_)
    refine uM rfl ?_
    refine uF (.pointer (some ⟨b5, 2, none⟩)) rfl (s1fa60_2 _ _ _) ?_
    refine uL _ rfl (run_load1 s1na57 (hv.load 0 2 rfl rfl)) ?_
    refine uG (vI (v.pairs.length : Int)) rfl (ex_len0 Tryz.underlying57 rfl rfl) ?_
    refine uF (.pointer (some ⟨b5, 3, none⟩)) rfl (s1fa60_3 _ _ _) ?_
    refine uL _ rfl (run_load1 s1na23 (hv.load 0 3 rfl rfl)) ?_
    refine uG (vI 0) rfl (ex_len0 Tryz.underlying23 rfl rfl) ?_
    refine uG (vI ((v.pairs.length : Int) + 0)) rfl (ex_add rfl rfl rfl (i64_in (by omega))) ?_
    refine uF (.pointer (some ⟨b5, 4, none⟩)) rfl (s1fa60_4 _ _ _) ?_
    refine uL _ rfl (run_load1 s1na58 (hv.load 0 4 rfl rfl)) ?_
    refine uG (vI (v.zset.length : Int)) rfl (ex_len0 Tryz.underlying58 rfl rfl) ?_
    refine uG (vI (((v.pairs.length : Int) + 0) + (v.zset.length : Int))) rfl (ex_add rfl rfl rfl (i64_in (by omega))) ?_
    by_cases hb59 : (((v.pairs.length : Int) + 0) + (v.zset.length : Int)) = 0
    ·refine uG (.bool true) rfl (ex_eql rfl rfl rfl (qT hb59)) (uK rfl ?_)
     refine uA rfl (uW k57 ?_)
     refine rR (bR rfl rfl ?_)
     exact ⟨true, rfl, ⟨fun _ => by first | exact .inl ⟨by omega, by omega, by omega, by omega, by omega⟩ | exact .inr (.inl ⟨by omega, by omega, hbl52.1 rfl, by assumption, by omega, by omega⟩) | exact .inr (.inr (.inl ⟨by omega, by omega, hbl52.1 rfl, by assumption, by omega, by omega⟩)) | exact .inr (.inr (.inr (.inl ⟨by omega, by omega, hbl52.1 rfl, by assumption, by omega, by omega⟩))) | exact .inr (.inr (.inr (.inr (⟨by omega, by omega, hbl52.1 rfl, by assumption, by omega, by omega⟩)))), fun _ => rfl⟩, (hv.kp [] 0 2)⟩
    refine uG (.bool false) rfl (ex_eql rfl rfl rfl (qF hb59)) (uK rfl ?_)
    refine uA rfl (uW k57 ?_)
    refine rR (bR rfl rfl ?_)
    exact ⟨false, rfl, ⟨fun h => (by cases h), fun h => by rcases h with ⟨h1, h2, h3, h4, h5⟩ | ⟨h1, h2, h3, h4, h5, h6⟩ | ⟨h1, h2, h3, h4, h5, h6⟩ | ⟨h1, h2, h3, h4, h5, h6⟩ | ⟨h1, h2, h3, h4, h5, h6⟩ <;> first | omega | contradiction | (have h9 := hbl52.2 h3; cases h9)⟩, (hv.kp [] 0 2)⟩
   refine uG (.bool false) rfl (ex_seql rfl rfl rfl (qF hb58)) (uK rfl ?_)
   refine uM rfl ?_
   iterate 12 refine uP rfl ?_
   refine uK rfl (uA rfl ?_)
   refine uW k57 (rR ?_)
   refine bR rfl rfl (⟨false, rfl, ⟨fun h => (by cases h), fun h => by rcases h with ⟨h1, h2, h3, h4, h5⟩ | ⟨h1, h2, h3, h4, h5, h6⟩ | ⟨h1, h2, h3, h4, h5, h6⟩ | ⟨h1, h2, h3, h4, h5, h6⟩ | ⟨h1, h2, h3, h4, h5, h6⟩ <;> first | omega | contradiction | (have h9 := hbl52.2 h3; cases h9)⟩, (hv.kp [] 0 2)⟩)
  refine uG (.bool false) rfl (ex_gtr rfl rfl rfl (qF hb51)) (uM rfl ?_)
  iterate 3 refine uP rfl ?_
  refine uK rfl ?_
  refine uF (.pointer (some ⟨b5, 3, none⟩)) rfl (s1fa60_3 _ _ _) ?_
  refine xV 0 (vN) rfl hv s1sz23 rfl rfl (fun w60 hv => ?_)
  simp only [zO, sp] at hv
  refine uA rfl (uZ ?_)
  refine bN (tK k8 ?_)
  refine sK fun _ k61 => rL (uM rfl ?_)
  refine uM rfl ?_
  iterate 3 refine uP rfl ?_
  refine uK rfl (uM rfl ?_)
  iterate 12 refine uP rfl ?_
  refine uK rfl (uA rfl ?_)
  refine uW k61 (rR ?_)
  refine bR rfl rfl (⟨false, rfl, ⟨fun h => (by cases h), fun h => by rcases h with ⟨h1, h2, h3, h4, h5⟩ | ⟨h1, h2, h3, h4, h5, h6⟩ | ⟨h1, h2, h3, h4, h5, h6⟩ | ⟨h1, h2, h3, h4, h5, h6⟩ | ⟨h1, h2, h3, h4, h5, h6⟩ <;> first | omega | contradiction⟩, (hv.kp [] 0 2)⟩)
 refine uG (.bool false) rfl (ex_eql rfl rfl rfl (qF hb50)) (uA rfl ?_)
 refine uW k49 (cF rfl ?_)
 refine sK fun _ k62 => rL ?_
 by_cases hb63 : v.kind = 5
 ·refine uG (.bool true) rfl (ex_eql rfl rfl rfl (qT hb63)) (uA rfl ?_)
  refine uW k62 (cT rfl ?_)
  refine rL (uF (.pointer (some ⟨b2, 4, none⟩)) rfl (s1fa60_4 _ _ _) ?_)
  refine uL _ rfl (run_load1 s1na58 (hv.load 1 4 rfl rfl)) ?_
  refine uG (vI (v.zset.length : Int)) rfl (ex_len0 Tryz.underlying58 rfl rfl) ?_
  by_cases hb64 : (v.zset.length : Int) > 0
  ·refine uG (.bool true) rfl (ex_gtr rfl rfl rfl (qT hb64)) (uM rfl ?_)
   refine uF (.pointer (some ⟨b2, 4, none⟩)) rfl (s1fa60_4 _ _ _) ?_
   refine uL _ rfl (run_load1 s1na58 (hv.load 1 4 rfl rfl)) ?_
   refine xC s12callable191 rfl ((zsetRightC B _ _ _ _ _ hrz (by omega) hv).mono ?_) rfl
   rintro e w66 ⟨bl65, rfl, hbl65, hv⟩
   refine ⟨_, rfl, ?_⟩
   cases bl65
   ·refine uK rfl ?_
    refine uF (.pointer (some ⟨b5, 4, none⟩)) rfl (s1fa60_4 _ _ _) ?_
    refine xV 0 (vN) rfl hv s1sz58 rfl rfl (fun w67 hv => ?_)
    simp only [zO, sp] at hv
    refine uA rfl (uZ ?_)
    refine bN (tK k8 ?_)
    refine sK fun _ k68 => rL (uM rfl ?_)
    refine uM rfl ?_
    iterate 3 refine uP rfl ?_
    refine uK rfl (uM rfl ?_)
    iterate 12 refine uP rfl ?_
    refine uK rfl (uA rfl ?_)
    refine uW k68 (rR ?_)
    refine bR rfl rfl (⟨false, rfl, ⟨fun h => (by cases h), fun h => by rcases h with ⟨h1, h2, h3, h4, h5⟩ | ⟨h1, h2, h3, h4, h5, h6⟩ | ⟨h1, h2, h3, h4, h5, h6⟩ | ⟨h1, h2, h3, h4, h5, h6⟩ | ⟨h1, h2, h3, h4, h5, h6⟩ <;> first | omega | contradiction | (have h9 := hbl65.2 h3; cases h9)⟩, (hv.kp [] 0 2)⟩)
   refine uK rfl ?_
   refine uF (.pointer (some ⟨b5, 4, none⟩)) rfl (s1fa60_4 _ _ _) ?_
   refine xV 0 (vN) rfl hv s1sz58 rfl rfl (fun w69 hv => ?_)
   simp only [zO, sp] at hv
   refine uA rfl (uZ ?_)
   refine bN (tK k8 ?_)
   refine sK fun _ k70 => rL (uM rfl ?_)
   refine uM rfl ?_
   refine uF (.pointer (some ⟨b5, 1, none⟩)) rfl (s12fa60_1 _ _ _) ?_
   refine uL _ rfl (run_load1 s9na9 (hv.load 0 1 rfl rfl)) ?_
   by_cases hb71 : v.text = ([] : List UInt8)
   ·refine uG (.bool true) rfl (ex_seql rfl rfl rfl (qT hb71)) (uK rfl ?_)
    refine uM rfl ?_
    refine uF (.pointer (some ⟨b5, 2, none⟩)) rfl (s1fa60_2 _ _ _) ?_
    refine uL _ rfl (run_load1 s1na57 (hv.load 0 2 rfl rfl)) ?_
    refine uG (vI (v.pairs.length : Int)) rfl (ex_len0 Tryz.underlying57 rfl rfl) ?_
    refine uF (.pointer (some ⟨b5, 3, none⟩)) rfl (s1fa60_3 _ _ _) ?_
    refine uL _ rfl (run_load1 s1na23 (hv.load 0 3 rfl rfl)) ?_
    refine uG (vI (v.texts.length : Int)) rfl (ex_len0 Tryz.underlying23 rfl rfl) ?_
    refine uG (vI ((v.pairs.length : Int) + (v.texts.length : Int))) rfl (ex_add rfl rfl rfl (i64_in (by omega))) ?_
    refine uF (.pointer (some ⟨b5, 4, none⟩)) rfl (s1fa60_4 _ _ _) ?_
    refine uL _ rfl (run_load1 s1na58 (hv.load 0 4 rfl rfl)) ?_
    refine uG (vI 0) rfl (ex_len0 Tryz.underlying58 rfl rfl) ?_
    refine uG (vI (((v.pairs.length : Int) + (v.texts.length : Int)) + 0)) rfl (ex_add rfl rfl rfl (i64_in (by omega))) ?_
    by_cases hb72 : (((v.pairs.length : Int) + (v.texts.length : Int)) + 0) = 0
    ·refine uG (.bool true) rfl (ex_eql rfl rfl rfl (qT hb72)) (uK rfl ?_)
     refine uA rfl (uW k70 ?_)
     refine rR (bR rfl rfl ?_)
     exact ⟨true, rfl, ⟨fun _ => by first | exact .inl ⟨by omega, by omega, by omega, by omega, by omega⟩ | exact .inr (.inl ⟨by omega, by omega, hbl65.1 rfl, by assumption, by omega, by omega⟩) | exact .inr (.inr (.inl ⟨by omega, by omega, hbl65.1 rfl, by assumption, by omega, by omega⟩)) | exact .inr (.inr (.inr (.inl ⟨by omega, by omega, hbl65.1 rfl, by assumption, by omega, by omega⟩))) | exact .inr (.inr (.inr (.inr (⟨by omega, by omega, hbl65.1 rfl, by assumption, by omega, by omega⟩)))), fun _ => rfl⟩, (hv.kp [] 0 2)⟩
    refine uG (.bool false) rfl (ex_eql rfl rfl rfl (qF hb72)) (uK rfl ?_)
    refine uA rfl (uW k70 ?_)
    refine rR (bR rfl rfl ?_)
    exact ⟨false, rfl, ⟨fun h => (by cases h), fun h => by rcases h with ⟨h1, h2, h3, h4, h5⟩ | ⟨h1, h2, h3, h4, h5, h6⟩ | ⟨h1, h2, h3, h4, h5, h6⟩ | ⟨h1, h2, h3, h4, h5, h6⟩ | ⟨h1, h2, h3, h4, h5, h6⟩ <;> first | omega | contradiction | (have h9 := hbl65.2 h3; cases h9)⟩, (hv.kp [] 0 2)⟩
   refine uG (.bool false) rfl (ex_seql rfl rfl rfl (qF hb71)) (uK rfl ?_)
   refine uM rfl ?_
   iterate 12 refine uP rfl ?_
   refine uK rfl (uA rfl ?_)
   refine uW k70 (rR ?_)
   refine bR rfl rfl (⟨false, rfl, ⟨fun h => (by cases h), fun h => by rcases h with ⟨h1, h2, h3, h4, h5⟩ | ⟨h1, h2, h3, h4, h5, h6⟩ | ⟨h1, h2, h3, h4, h5, h6⟩ | ⟨h1, h2, h3, h4, h5, h6⟩ | ⟨h1, h2, h3, h4, h5, h6⟩ <;> first | omega | contradiction | (have h9 := hbl65.2 h3; cases h9)⟩, (hv.kp [] 0 2)⟩)
  refine uG (.bool false) rfl (ex_gtr rfl rfl rfl (qF hb64)) (uM rfl ?_)
  iterate 3 refine uP rfl ?_
  refine uK rfl ?_
  refine uF (.pointer (some ⟨b5, 4, none⟩)) rfl (s1fa60_4 _ _ _) ?_
  refine xV 0 (vN) rfl hv s1sz58 rfl rfl (fun w73 hv => ?_)
  simp only [zO, sp] at hv
  refine uA rfl (uZ ?_)
  refine bN (tK k8 ?_)
  refine sK fun _ k74 => rL (uM rfl ?_)
  refine uM rfl ?_
  iterate 3 refine uP rfl ?_
  refine uK rfl (uM rfl ?_)
  iterate 12 refine uP rfl ?_
  refine uK rfl (uA rfl ?_)
  refine uW k74 (rR ?_)
  refine bR rfl rfl (⟨false, rfl, ⟨fun h => (by cases h), fun h => by rcases h with ⟨h1, h2, h3, h4, h5⟩ | ⟨h1, h2, h3, h4, h5, h6⟩ | ⟨h1, h2, h3, h4, h5, h6⟩ | ⟨h1, h2, h3, h4, h5, h6⟩ | ⟨h1, h2, h3, h4, h5, h6⟩ <;> first | omega | contradiction⟩, (hv.kp [] 0 2)⟩)
 refine uG (.bool false) rfl (ex_eql rfl rfl rfl (qF hb63)) (uA rfl ?_)
 refine uW k62 (cF rfl ?_)
 refine kS (bN ?_)
 refine tK k8 (sK fun _ k75 => ?_)
 refine rL (uM rfl ?_)
 refine uM rfl ?_
 iterate 3 refine uP rfl ?_
 refine uK rfl (uM rfl ?_)
 iterate 12 refine uP rfl ?_
 refine uK rfl (uA rfl ?_)
 refine uW k75 (rR ?_)
 refine bR rfl rfl (⟨false, rfl, ⟨fun h => (by cases h), fun h => by rcases h with ⟨h1, h2, h3, h4, h5⟩ | ⟨h1, h2, h3, h4, h5, h6⟩ | ⟨h1, h2, h3, h4, h5, h6⟩ | ⟨h1, h2, h3, h4, h5, h6⟩ | ⟨h1, h2, h3, h4, h5, h6⟩ <;> first | omega | contradiction⟩, (hv.kp [] 0 2)⟩)
theorem valueRight (B : Base) (H : List Res) (w : World) (v : Val) (p t z : Value) (h : ValAt B v p t z) (hv : Inv B H w) : Calls Tryz.prog 181 #[.agg (valCells v p t z).toArray] w fun e w' => ∃ b, e = .returned (.bool b) ∧ (b = true ↔ ValOk v) ∧ Inv B H w' := by
 obtain ⟨⟨ap, cp, rfl, -, hrp⟩, ⟨at2, ct, rfl, -, hrt⟩, ⟨az, cz, rfl, -, hrz⟩, hpm, htm, hzm⟩ := h
 exact valueRight0 B H w v ap at2 az cp ct cz hrp hrt hrz hpm htm hzm hv
end Go.Proofs.YtmpackidbgfoiaaGreatDoor
namespace Go.Pm
section
variable {P : Program} {Q : Exit → Act → World → Prop} {a : Act} {w : World} {n : Nat} {c : Code}
theorem wpIn_scopeW (h : c.wpIn Fence.wide n P (Exit.noGoto Q) a w) : (Code.scope c).wpIn Fence.wide n P Q a w := wpIn_wide.2 (wp_scope_straight (wpIn_wide.1 h))
theorem scope_ret (h : Q .ret a w) : Exit.noGoto Q .ret a w := h
end
section
variable {P : Program} {a : Act} {w : World} {o : Oper} {t u : TypeId} {x y : Operand}
end
end Go.Pm
namespace Go.Proofs.YtmpackidbgfoiaaGreatDoor
open Go.RowKit Go.Pm
theorem row_nil0 (B : Base) : RowB B (vN) 0 [] := ⟨none, 0, rfl, ⟨Nat.le_refl _, Nat.zero_le _, fun _ => rfl⟩, rdV_nil⟩
def zver0 : Ver := ⟨0, false, 0, ⟨0, [], [], [], []⟩⟩
theorem zver0_at (B : Base) : ValAt B zver0.val (vN) (vN) (vN) := ⟨row_nil0 B, row_nil0 B, row_nil0 B, by decide, by decide, by decide⟩
theorem gver_at (B : Base) : ValAt B gver.val (vN) (vN) (vN) := ⟨row_nil0 B, row_nil0 B, row_nil0 B, by decide, by decide, by decide⟩
theorem search0 (B : Base) (H : List Res) (w : World) (fv : Value) (hv : Inv B H w) :
  Calls Tryz.prog 159 #[vI 0, fv] w fun e w' => e = .returned (vI 0) ∧ Inv B H w' := by
 refine cW Tryz.func159 rfl Tryz.ntmps159 ?_
 simp only [al]
 refine sK fun _ k1 => rL (uA rfl ?_)
 refine uW k1 (sK fun _ k2 => ?_)
 refine rL (uM rfl ?_)
 refine uA rfl (uA rfl ?_)
 refine uW k2 (sK fun _ k3 => ?_)
 refine bB ?_
 gi_loopw [5, 6] (fun x5 x6 wr => x5 = vI 0 ∧ x6 = vI 0 ∧ Inv B H wr) (fun x5 x6 _ => 0)
 case atStart => exact ⟨rfl, rfl, hv⟩
 case round =>
  obtain ⟨rfl, rfl, hv⟩ := hrel
  refine sK fun _ k5 => sK fun _ k6 => rL (uM rfl ?_)
  refine uM rfl ?_
  refine uG (.bool false) rfl (ex_lss rfl rfl rfl (by decide)) (uW k6 ?_)
  refine cF rfl (xE ?_)
  refine tX (tX ?_)
  refine bH (tK k3 ?_)
  refine sK fun _ k7 => rL (uM rfl ?_)
  refine uA rfl (uW k7 ?_)
  refine rR (bR rfl rfl ?_)
  exact ⟨rfl, hv⟩
theorem x0na93 (w : World) : (isAgg 93).run Tryz.prog w = .ok false w := by kernel_rfl
theorem x0fa138_0 : FA Tryz.prog 138 0 0 := fun w b o => by kernel_rfl
theorem x0na136 (w : World) : (isAgg 136).run Tryz.prog w = .ok false w := by kernel_rfl
theorem x0callable159 : Callable Tryz.prog 159 := cb Tryz.func159 (by kernel_rfl)
theorem ixFind0 (B : Base) (H : List Res) (w : World) (p : Nat) (key : List UInt8) (hv : Inv B (Res.cell p [vN, vI 0] 138 :: H) w) :
  Calls Tryz.prog 153 #[vP p, vS key] w fun e w' => e = .returned (.tuple #[vI 0, vI 0, .bool false]) ∧ Inv B (Res.cell p [vN, vI 0] 138 :: H) w' := by
 refine cW Tryz.func153 rfl Tryz.ntmps153 ?_
 simp only [al]
 refine sK fun _ k1 => rL (sl_box (L := [vP p]) tV (wn rfl) rfl rfl hv (fun w => by kernel_rfl) (fun b2 w3 hv => ?_))
 refine sl_box (L := [vS key]) tV (wn rfl) rfl rfl hv (fun w => by kernel_rfl) (fun b4 w5 hv => ?_)
 refine uA rfl (uA rfl ?_)
 refine uA rfl (uW k1 ?_)
 refine sK fun _ k6 => rL (uL _ rfl (run_load1 x0na93 (hv.load 1 0 rfl rfl)) ?_)
 refine uG (vP p) rfl (ex_nil rfl rfl) ?_
 refine uF (vP p) rfl (x0fa138_0 _ _ _) ?_
 refine uL _ rfl (run_load1 x0na136 (hv.load 2 0 rfl rfl)) ?_
 refine uG (vI 0) rfl (ex_len0 Tryz.underlying136 rfl rfl) ?_
 refine uG (.func (.func 160) #[] #[vP b2, vP b4]) rfl (ex_makeFunc (c' := #[vP b2, vP b4]) rfl (by simp only [List.map_toArray, List.map_nil]) (by simp only [List.map_toArray, List.map_cons, List.map_nil]; rfl)) ?_
 refine xC x0callable159 rfl ((search0 B _ _ _ hv).mono ?_) rfl
 rintro e w7 ⟨rfl, hv⟩
 refine ⟨_, rfl, uA rfl ?_⟩
 refine uW k6 (sK fun _ k8 => ?_)
 refine sK fun _ k9 => rL (uM rfl ?_)
 refine uL _ rfl (run_load1 x0na93 (hv.load 1 0 rfl rfl)) ?_
 refine uG (vP p) rfl (ex_nil rfl rfl) ?_
 refine uF (vP p) rfl (x0fa138_0 _ _ _) ?_
 refine uL _ rfl (run_load1 x0na136 (hv.load 2 0 rfl rfl)) ?_
 refine uG (vI 0) rfl (ex_len0 Tryz.underlying136 rfl rfl) ?_
 refine uG (.bool true) rfl (ex_eql rfl rfl rfl (by decide)) (uW k9 ?_)
 refine cT rfl (sK fun _ k10 => ?_)
 refine rL (uM rfl ?_)
 refine uA rfl (uA rfl ?_)
 refine uA rfl (uW k10 ?_)
 refine rR (tR ?_)
 refine bodyPost_ret (results_tmp3 rfl _ _ _) rfl (⟨rfl, (hv.kp [2] 1 2)⟩)
theorem x0callable153 : Callable Tryz.prog 153 := cb Tryz.func153 (by kernel_rfl)
theorem ixGet0 (B : Base) (H : List Res) (w : World) (p : Nat) (key : List UInt8) (hv : Inv B (Res.cell p [vN, vI 0] 138 :: H) w) :
  Calls Tryz.prog 151 #[vP p, vS key] w fun e w' => e = .returned (vN) ∧ Inv B (Res.cell p [vN, vI 0] 138 :: H) w' := by
 refine cW Tryz.func151 rfl Tryz.ntmps151 ?_
 simp only [al]
 refine sK fun _ k1 => rL (uA rfl ?_)
 refine uW k1 (sK fun _ k2 => ?_)
 refine rL (uM rfl ?_)
 refine uM rfl ?_
 refine xC x0callable153 rfl ((ixFind0 B _ _ p key hv).mono ?_) rfl
 rintro e w3 ⟨rfl, hv⟩
 refine ⟨_, rfl, uM rfl ?_⟩
 refine uE rfl (uE rfl ?_)
 refine uE rfl (uA rfl ?_)
 refine uA rfl (uA rfl ?_)
 refine uW k2 (sK fun _ k4 => ?_)
 refine sK fun _ k5 => rL (uM rfl ?_)
 refine uG (.bool true) rfl (ex_not rfl rfl rfl) (uW k5 ?_)
 refine cT rfl (sK fun _ k6 => ?_)
 refine rL (uA rfl ?_)
 refine uW k6 (rR ?_)
 refine tR (bR rfl rfl ?_)
 exact ⟨rfl, hv⟩
theorem x0na241 (w : World) : (isAgg 241).run Tryz.prog w = .ok false w := by kernel_rfl
theorem chainUpto0 (B : Base) (H : List Res) (w : World) (s : Int) (hv : Inv B H w) :
  Calls Tryz.prog 165 #[vN, vI s] w fun e w' => e = .returned (vI 0) ∧ Inv B H w' := by
 refine cW Tryz.func165 rfl Tryz.ntmps165 ?_
 simp only [al]
 refine sK fun _ k1 => rL (sl_box (L := [vN]) tV (wn rfl) rfl rfl hv (fun w => by kernel_rfl) (fun b2 w3 hv => ?_))
 refine sl_box (L := [vI s]) tV (wn rfl) rfl rfl hv (fun w => by kernel_rfl) (fun b4 w5 hv => ?_)
 refine uA rfl (uW k1 ?_)
 refine sK fun _ k6 => rL (uL _ rfl (run_load1 x0na241 (hv.load 1 0 rfl rfl)) ?_)
 refine uG (vI 0) rfl (ex_len0 Tryz.underlying241 rfl rfl) ?_
 refine uG (.func (.func 167) #[] #[vP b2, vP b4]) rfl (ex_makeFunc (c' := #[vP b2, vP b4]) rfl (by simp only [List.map_toArray, List.map_nil]) (by simp only [List.map_toArray, List.map_cons, List.map_nil]; rfl)) ?_
 refine xC x0callable159 rfl ((search0 B _ _ _ hv).mono ?_) rfl
 rintro e w7 ⟨rfl, hv⟩
 refine ⟨_, rfl, uA rfl ?_⟩
 refine uW k6 (rR ?_)
 refine bR rfl rfl (⟨rfl, (hv.kp [] 0 2)⟩)
theorem x0al81 : AL Tryz.prog 81 [vI 0, .bool false, vI 0, vI 0, vS [], vN, vN, vN] := fun w => by kernel_rfl
theorem x0callable165 : Callable Tryz.prog 165 := cb Tryz.func165 (by kernel_rfl)
theorem x0sz81 : (Tryz.prog.info? 81).map (·.size) = some 8 := by kernel_rfl
theorem x0wd81 : Wide Tryz.prog 81 8 := wide_of (fun w => by kernel_rfl) (by kernel_rfl)
theorem chainAt0 (B : Base) (H : List Res) (w : World) (s : Int) (hv : Inv B H w) :
  Calls Tryz.prog 163 #[vN, vI s] w fun e w' => e = .returned (.tuple #[.agg #[vI 0, .bool false, vI 0, vI 0, vS [], vN, vN, vN], .bool false]) ∧ Inv B H w' := by
 refine cW Tryz.func163 rfl Tryz.ntmps163 ?_
 simp only [al]
 refine sK fun _ k1 => rL (sl_alloc tV (wn rfl) rfl hv x0al81 (fun b2 w3 hv => ?_))
 refine uA rfl (uW k1 ?_)
 refine sK fun _ k4 => rL (uM rfl ?_)
 refine uM rfl ?_
 refine xC x0callable165 rfl ((chainUpto0 B _ _ s hv).mono ?_) rfl
 rintro e w5 ⟨rfl, hv⟩
 refine ⟨_, rfl, uA rfl ?_⟩
 refine uW k4 (sK fun _ k6 => ?_)
 refine sK fun _ k7 => rL (uM rfl ?_)
 refine uG (.bool true) rfl (ex_eql rfl rfl rfl (by decide)) (uW k7 ?_)
 refine cT rfl (sK fun _ k8 => ?_)
 refine rL (uG (.agg #[vI 0, .bool false, vI 0, vI 0, vS [], vN, vN, vN]) rfl (ex_buildN (vs := #[]) rfl (by simp only [List.map_toArray, List.map_nil]) (by kernel_rfl)) ?_)
 refine xS 0 rfl hv x0sz81 rfl (by exact ⟨rfl, rfl, rfl, rfl, rfl, rfl, rfl, rfl, trivial⟩) (fun w9 hv => ?_)
 simp only [zO, sp] at hv
 refine uA rfl (uW k8 ?_)
 refine rR (tR ?_)
 refine bodyPost_ret (res_cell2 rfl rfl (lM 0 x0wd81 hv rfl rfl rfl rfl)) rfl (⟨rfl, (hv.kp [] 0 1)⟩)
theorem x0fa96_0 : FA Tryz.prog 96 0 0 := fun w b o => by kernel_rfl
theorem x0callable151 : Callable Tryz.prog 151 := cb Tryz.func151 (by kernel_rfl)
theorem x0callable163 : Callable Tryz.prog 163 := cb Tryz.func163 (by kernel_rfl)
theorem storeRead0 (B : Base) (H : List Res) (w : World) (s p : Nat) (stamp clock : Int) (key : List UInt8) (hv : Inv B (Res.cell s [vP p, vI 0, vI 0] 96 :: Res.cell p [vN, vI 0] 138 :: H) w) :
  Calls Tryz.prog 158 #[vP s, vS key, vI stamp, vI clock] w fun e w' => e = .returned (.tuple #[.agg #[vI 0, .bool false, vI 0, vI 0, vS [], vN, vN, vN], .bool false]) ∧ Inv B (Res.cell s [vP p, vI 0, vI 0] 96 :: Res.cell p [vN, vI 0] 138 :: H) w' := by
 refine cW Tryz.func158 rfl Tryz.ntmps158 ?_
 simp only [al]
 refine sK fun _ k1 => rL (sl_alloc tV (wn rfl) rfl hv x0al81 (fun b2 w3 hv => ?_))
 refine uA rfl (uW k1 ?_)
 refine sK fun _ k4 => rL (uM rfl ?_)
 refine uG (vP s) rfl (ex_nil rfl rfl) ?_
 refine uF (vP s) rfl (x0fa96_0 _ _ _) ?_
 refine uL _ rfl (run_load1 x0na93 (hv.load 1 0 rfl rfl)) (uM rfl ?_)
 replace hv := hv.front 2 rfl
 simp only [eS, eZ] at hv
 refine xC x0callable151 rfl ((ixGet0 B _ _ p key hv).mono ?_) rfl
 rintro e w5 ⟨rfl, hv⟩
 refine ⟨_, rfl, uM rfl ?_⟩
 refine xC x0callable163 rfl ((chainAt0 B _ _ stamp hv).mono ?_) rfl
 rintro e w6 ⟨rfl, hv⟩
 refine ⟨_, rfl, uM rfl ?_⟩
 refine uE rfl (uE rfl ?_)
 refine sl_alloc tV (wn rfl) rfl hv x0al81 (fun b7 w8 hv => ?_)
 simp only [zP, po]
 refine xS 0 rfl hv x0sz81 rfl (by exact ⟨rfl, rfl, rfl, rfl, rfl, rfl, rfl, rfl, trivial⟩) (fun w9 hv => ?_)
 simp only [zO, sp] at hv
 refine uA rfl (uW k4 ?_)
 refine sK fun _ k10 => sK fun _ k11 => rL (uM rfl ?_)
 refine uG (.bool true) rfl (ex_not rfl rfl rfl) (uM rfl ?_)
 iterate 4 refine uP rfl ?_
 refine uK rfl (uW k11 ?_)
 refine cT rfl (sK fun _ k12 => ?_)
 refine rL (uG (.agg #[vI 0, .bool false, vI 0, vI 0, vS [], vN, vN, vN]) rfl (ex_buildN (vs := #[]) rfl (by simp only [List.map_toArray, List.map_nil]) (by kernel_rfl)) ?_)
 refine xS 2 rfl hv x0sz81 rfl (by exact ⟨rfl, rfl, rfl, rfl, rfl, rfl, rfl, rfl, trivial⟩) (fun w13 hv => ?_)
 simp only [zS, zO, sp] at hv
 refine uA rfl (uW k12 ?_)
 refine rR (tR ?_)
 refine bodyPost_ret (res_cell2 rfl rfl (lM 2 x0wd81 hv rfl rfl rfl rfl)) rfl (⟨rfl, (hv.kp [1, 3] 2 2)⟩)
theorem ixKeys0 (B : Base) (H : List Res) (w : World) (p : Nat) (hv : Inv B (Res.cell p [vN, vI 0] 138 :: H) w) :
  Calls Tryz.prog 156 #[vP p, vS [], vI 0] w fun e w' => e = .returned (vN) ∧ Inv B (Res.cell p [vN, vI 0] 138 :: H) w' := by
 refine cW Tryz.func156 rfl Tryz.ntmps156 ?_
 simp only [al]
 refine sK fun _ k1 => rL (uA rfl ?_)
 refine uW k1 (wpIn_scopeW ?_)
 refine sK fun _ k2 => rL (uM rfl ?_)
 refine uM rfl ?_
 refine xC x0callable153 rfl ((ixFind0 B _ _ p ([] : List UInt8) hv).mono ?_) rfl
 rintro e w3 ⟨rfl, hv⟩
 refine ⟨_, rfl, uM rfl ?_⟩
 refine uE rfl (uE rfl ?_)
 refine uE rfl (uA rfl ?_)
 refine uA rfl (uA rfl ?_)
 refine uW k2 (sK fun _ k4 => ?_)
 refine rL (uA rfl ?_)
 refine uW k4 (sK fun _ k5 => ?_)
 refine wpIn_label (tK k5 ?_)
 refine sK fun _ k6 => bB ?_
 gi_loopw [7, 8, 10] (fun x7 x8 x10 wr => x7 = vI 0 ∧ x8 = vI 0 ∧ x10 = vN ∧ Inv B (Res.cell p [vN, vI 0] 138 :: H) wr) (fun x7 x8 x10 _ => 0)
 case atStart => exact ⟨rfl, rfl, rfl, hv⟩
 case round =>
  obtain ⟨rfl, rfl, rfl, hv⟩ := hrel
  refine sK fun _ k8 => sK fun _ k9 => rL (uM rfl ?_)
  refine uM rfl ?_
  refine uG (vP p) rfl (ex_nil rfl rfl) ?_
  refine uF (vP p) rfl (x0fa138_0 _ _ _) ?_
  refine uL _ rfl (run_load1 x0na136 (hv.load 0 0 rfl rfl)) ?_
  refine uG (vI 0) rfl (ex_len0 Tryz.underlying136 rfl rfl) ?_
  refine uG (.bool false) rfl (ex_lss rfl rfl rfl (by decide)) (uW k9 ?_)
  refine cF rfl (xE ?_)
  refine tX (tX ?_)
  refine bH (tK k6 ?_)
  refine sK fun _ k10 => rL (uM rfl ?_)
  refine uA rfl (uW k10 ?_)
  refine rR (scope_ret ?_)
  refine bR rfl rfl (⟨rfl, hv⟩)
theorem indexFunc0 (B : Base) (H : List Res) (w : World) (fv : Value) (hv : Inv B H w) :
  Calls Tryz.prog 162 #[vN, fv] w fun e w' => e = .returned (vI (-1)) ∧ Inv B H w' := by
 refine cW Tryz.func162 rfl Tryz.ntmps162 ?_
 simp only [al]
 refine sK fun _ k1 => rL (uA rfl ?_)
 refine uW k1 (sK fun _ k2 => ?_)
 refine sK fun _ k3 => rL (uM rfl ?_)
 refine uG (vI 0) rfl (ex_len0 Tryz.underlying23 rfl rfl) (uM rfl ?_)
 refine uW k3 (bB ?_)
 gi_loopw [8] (fun x8 wr => x8 = vI 0 ∧ Inv B H wr) (fun x8 _ => 0)
 case atStart => exact ⟨rfl, hv⟩
 case round =>
  obtain ⟨rfl, hv⟩ := hrel
  refine sK fun _ k5 => rL (uG (.bool false) rfl (ex_lss rfl rfl rfl (by decide)) ?_)
  refine uW k5 (sK fun _ k6 => ?_)
  refine cF rfl (xE ?_)
  refine tX (tX ?_)
  refine bH (tK k2 ?_)
  refine sK fun _ k7 => rL (uA rfl ?_)
  refine uW k7 (rR ?_)
  refine bR rfl rfl (⟨rfl, hv⟩)
theorem x0callable162 : Callable Tryz.prog 162 := cb Tryz.func162 (by kernel_rfl)
theorem deleteFunc0 (B : Base) (H : List Res) (w : World) (fv : Value) (hv : Inv B H w) :
  Calls Tryz.prog 155 #[vN, fv] w fun e w' => e = .returned (vN) ∧ Inv B H w' := by
 refine cW Tryz.func155 rfl Tryz.ntmps155 ?_
 simp only [al]
 refine sK fun _ k1 => rL (uA rfl ?_)
 refine uW k1 (sK fun _ k2 => ?_)
 refine rL (uM rfl ?_)
 refine uM rfl ?_
 refine xC x0callable162 rfl ((indexFunc0 B _ _ fv hv).mono ?_) rfl
 rintro e w3 ⟨rfl, hv⟩
 refine ⟨_, rfl, uA rfl ?_⟩
 refine uW k2 (sK fun _ k4 => ?_)
 refine sK fun _ k5 => rL (uM rfl ?_)
 refine uG (.bool true) rfl (ex_eql rfl rfl rfl (by decide)) (uW k5 ?_)
 refine cT rfl (sK fun _ k6 => ?_)
 refine rL (uM rfl ?_)
 refine uA rfl (uW k6 ?_)
 refine rR (tR ?_)
 refine bR rfl rfl (⟨rfl, hv⟩)
theorem x0na47 (w : World) : (isAgg 47).run Tryz.prog w = .ok false w := by kernel_rfl
theorem x0callable156 : Callable Tryz.prog 156 := cb Tryz.func156 (by kernel_rfl)
theorem x0callable155 : Callable Tryz.prog 155 := cb Tryz.func155 (by kernel_rfl)
theorem storeNames0 (B : Base) (H : List Res) (w : World) (s p : Nat) (stamp clock : Int) (hv : Inv B (Res.cell s [vP p, vI 0, vI 0] 96 :: Res.cell p [vN, vI 0] 138 :: H) w) :
  Calls Tryz.prog 152 #[vP s, vI stamp, vI clock] w fun e w' => e = .returned (vN) ∧ Inv B (Res.cell s [vP p, vI 0, vI 0] 96 :: Res.cell p [vN, vI 0] 138 :: H) w' := by
 refine cW Tryz.func152 rfl Tryz.ntmps152 ?_
 simp only [al]
 refine sK fun _ k1 => rL (sl_box (L := [vP s]) tV (wn rfl) rfl rfl hv (fun w => by kernel_rfl) (fun b2 w3 hv => ?_))
 refine sl_box (L := [vI stamp]) tV (wn rfl) rfl rfl hv (fun w => by kernel_rfl) (fun b4 w5 hv => ?_)
 refine sl_box (L := [vI clock]) tV (wn rfl) rfl rfl hv (fun w => by kernel_rfl) (fun b6 w7 hv => ?_)
 refine uA rfl (uW k1 ?_)
 refine sK fun _ k8 => rL (uL _ rfl (run_load1 x0na47 (hv.load 2 0 rfl rfl)) ?_)
 refine uG (vP s) rfl (ex_nil rfl rfl) ?_
 refine uF (vP s) rfl (x0fa96_0 _ _ _) ?_
 refine uL _ rfl (run_load1 x0na93 (hv.load 3 0 rfl rfl)) ?_
 replace hv := hv.front 4 rfl
 simp only [eS, eZ] at hv
 refine xC x0callable156 rfl ((ixKeys0 B _ _ p hv).mono ?_) rfl
 rintro e w9 ⟨rfl, hv⟩
 refine ⟨_, rfl, uG (.func (.func 157) #[] #[vP b2, vP b4, vP b6]) rfl (ex_makeFunc (c' := #[vP b2, vP b4, vP b6]) rfl (by simp only [List.map_toArray, List.map_nil]) (by simp only [List.map_toArray, List.map_cons, List.map_nil]; rfl)) ?_⟩
 refine xC x0callable155 rfl ((deleteFunc0 B _ _ _ hv).mono ?_) rfl
 rintro e w10 ⟨rfl, hv⟩
 refine ⟨_, rfl, uA rfl ?_⟩
 refine uW k8 (rR ?_)
 refine bR rfl rfl (⟨rfl, (hv.kp [4] 2 3)⟩)
def PutOk (k : List UInt8) (v : Val) (e : Int) : Prop := k.length ≤ 256 ∧ ValOk v ∧ 0 ≤ e ∧ e ≤ 1099511627776
theorem x2mk9 : (Tryz.prog.info? 9).map (fun i => (i.zero, i.size, i.bytes)) = some (some (vS []), 1, 16) := by kernel_rfl
theorem x2el23 : Elem Tryz.prog 23 9 (vS []) 1 16 := elem_of Tryz.underlying23 x2mk9 (by rfl) (by decide)
theorem x2callable175 : Callable Tryz.prog 175 := cb Tryz.func175 (by kernel_rfl)
theorem x2callable181 : Callable Tryz.prog 181 := cb Tryz.func181 (by kernel_rfl)
theorem x2fa141_4 : FA Tryz.prog 141 4 4 := fun w b o => by kernel_rfl
theorem x2na139 (w : World) : (isAgg 139).run Tryz.prog w = .ok false w := by kernel_rfl
theorem x2callable37 : Callable Tryz.prog 37 := cb Tryz.func37 (by kernel_rfl)
theorem txnPut (B : Base) (H : List Res) (w : World) (t m s p wb : Nat) (va : Option Addr) (vc : Nat) (sv : Value) (clk : Int) (es : List (List UInt8 × Value)) (M : List (List UInt8 × Ver)) (key : List UInt8) (v : Val) (pp pt pz : Value) (exp : Int) (hM : VM B es M) (hval : ValAt B v pp pt pz) (hv : Inv B (txR t m s p wb va vc sv clk es :: H) w) :
  Calls Tryz.prog 174 #[vP t, vS key, .agg #[vI v.kind, vS v.text, pp, pt, pz], vI exp] w fun e w' => ∃ C es' ec, B.Le C ∧ e = .returned (vI ec) ∧ ((ec = 0 ∧ PutOk key v exp ∧ VM C es' (updA M key ⟨0, false, exp, v⟩)) ∨ (ec = 2 ∧ ¬ PutOk key v exp ∧ es' = es)) ∧ Inv C (txR t m s p wb va vc sv clk es' :: H) w' := by
 refine cW Tryz.func174 rfl Tryz.ntmps174 ?_
 simp only [al]
 refine sK fun _ k1 => ?_
 replace hv := Inv.unstar hv
 simp only [txL, List.cons_append, List.nil_append] at hv
 refine rL (sl_box (L := [vI v.kind, vS v.text, pp, pt, pz]) tV (wn rfl) rfl rfl hv (fun w => by kernel_rfl) (fun b2 w3 hv => ?_))
 refine uA rfl (uW k1 ?_)
 refine sK fun _ k4 => sK fun _ k5 => rL (uM rfl ?_)
 refine uM rfl ?_
 refine sl_rowOne (v := vS key) tV (wn rfl) rfl rfl hv x2el23 rfl (fun b6 w7 hv => ?_)
 simp only [zP, po]
 obtain ⟨C, hBC, hv, hrk, -, -⟩ := (hv.cellRow (n := 1) (c := 1) (size := 1) rfl (by decide) (by decide)).rowBy
 replace hv := hv.front 3 rfl
 simp only [eS, eZ] at hv
 replace hv := hv.front 3 rfl
 simp only [eS, eZ] at hv
 replace hv := hv.front 3 rfl
 simp only [eS, eZ] at hv
 refine xC x2callable175 rfl ((txnMay C _ _ t m s wb va vc sv clk _ 1 [key] hrk (by simp) hv).mono ?_) rfl
 rintro e w8 ⟨ec, rfl, hmay, hv⟩
 refine ⟨_, rfl, ?_⟩
 rcases hmay with ⟨rfl, hk⟩ | ⟨rfl, hk⟩
 ·replace hk : key.length ≤ 256 := by simpa using hk
  refine uA rfl (uW k5 ?_)
  refine sK fun _ k9 => rL (uM rfl ?_)
  refine uG (.bool false) rfl (ex_neq rfl rfl rfl (by decide)) (uW k9 ?_)
  refine cF rfl (kS ?_)
  refine tK k4 (sK fun _ k10 => ?_)
  refine sK fun _ k11 => rL (uL (.agg #[vI v.kind, vS v.text, pp, pt, pz]) rfl (lM 3 s1wd60 hv rfl rfl rfl rfl) ?_)
  refine xC x2callable181 rfl ((valueRight C _ _ v pp pt pz (hval.more hBC) hv).mono ?_) rfl
  rintro e w13 ⟨bl12, rfl, hbl12, hv⟩
  refine ⟨_, rfl, ?_⟩
  cases bl12
  ·refine uG (.bool true) rfl (ex_not rfl rfl rfl) (uM rfl ?_)
   refine uP rfl ?_
   refine uP rfl (uK rfl ?_)
   refine uM rfl ?_
   refine uP rfl ?_
   refine uP rfl (uK rfl ?_)
   refine uW k11 (cT rfl ?_)
   refine sK fun _ k14 => rL (uA rfl ?_)
   refine uW k14 (rR ?_)
   refine tR (bR rfl rfl ?_)
   exact ⟨_, _, 2, hBC, rfl, .inr ⟨rfl, fun h => (by have h9 := hbl12.2 h.2.1; cases h9), rfl⟩, Inv.star (K := txL _ _ _ _ _ _ _ _ _ _) ((hv.kp [6, 6, 6, 5, 5, 5] 6 1))⟩
  refine uG (.bool false) rfl (ex_not rfl rfl rfl) (uM rfl ?_)
  refine uM rfl ?_
  by_cases hb15 : exp < 0
  ·refine uG (.bool true) rfl (ex_lss rfl rfl rfl (qT hb15)) (uK rfl ?_)
   refine uM rfl ?_
   refine uP rfl ?_
   refine uP rfl (uK rfl ?_)
   refine uW k11 (cT rfl ?_)
   refine sK fun _ k16 => rL (uA rfl ?_)
   refine uW k16 (rR ?_)
   refine tR (bR rfl rfl ?_)
   exact ⟨_, _, 2, hBC, rfl, .inr ⟨rfl, fun h => (by have h9 := h.2.2; omega), rfl⟩, Inv.star (K := txL _ _ _ _ _ _ _ _ _ _) ((hv.kp [6, 6, 6, 5, 5, 5] 6 1))⟩
  refine uG (.bool false) rfl (ex_lss rfl rfl rfl (qF hb15)) (uK rfl ?_)
  refine uM rfl ?_
  refine uM rfl ?_
  by_cases hb17 : exp > 1099511627776
  ·refine uG (.bool true) rfl (ex_gtr rfl rfl rfl (qT hb17)) (uK rfl ?_)
   refine uW k11 (cT rfl ?_)
   refine sK fun _ k18 => rL (uA rfl ?_)
   refine uW k18 (rR ?_)
   refine tR (bR rfl rfl ?_)
   exact ⟨_, _, 2, hBC, rfl, .inr ⟨rfl, fun h => (by have h9 := h.2.2; omega), rfl⟩, Inv.star (K := txL _ _ _ _ _ _ _ _ _ _) ((hv.kp [6, 6, 6, 5, 5, 5] 6 1))⟩
  refine uG (.bool false) rfl (ex_gtr rfl rfl rfl (qF hb17)) (uK rfl ?_)
  refine uW k11 (cF rfl ?_)
  refine kS (tK k10 ?_)
  refine sK fun _ k19 => rW mixed [7, 9] [0,1,2,3,4,5,6,7,8,9] 37 rfl (by kernel_rfl) hv ?_
  simp only [qm, opAt]
  refine dM (vP t) rfl (dG (vP t) rfl (ex_nil rfl rfl) ?_)
  refine dG (.pointer (some ⟨t, 4, none⟩)) rfl (ex_field rfl rfl (x2fa141_4 _ _ _)) ?_
  simp only [zP, po]
  refine dF _ rfl (fun hv => ex_load rfl rfl (run_load1 x2na139 (hv.load 0 4 rfl rfl))) fun f20 hf20 => dM (vS key) rfl (dM (vI exp) rfl ?_)
  simp only [zP, po]
  refine dL (.agg #[vI v.kind, vS v.text, pp, pt, pz]) rfl (fun hv => ex_load rfl rfl (lM 3 s1wd60 hv rfl rfl rfl rfl)) (dS rfl fun w21 hv => ?_)
  refine mC x2callable37 rfl ((valueClone _ _ _ v pp pt pz (hval.more hBC) hv).mono ?_) rfl
  rintro e w26 ⟨C22, p23, t24, z25, hC22, rfl, hp23, hv⟩
  refine ⟨_, rfl, dV hv (fC (fun ww hv => hf20 ww (ex_load rfl rfl (run_load1 x2na139 (hv.load 0 4 rfl rfl)))) fN) ?_⟩
  refine dG (.agg #[vI 0, .bool false, vI exp, vI v.kind, vS v.text, p23, t24, z25]) rfl (ex_buildN (vs := #[(2, vI exp), (3, .agg #[vI v.kind, vS v.text, p23, t24, z25])]) rfl (by simp only [List.map_toArray, List.map_cons, List.map_nil]; rfl) (by kernel_rfl)) ?_
  simp only [zP, po]
  refine dS rfl fun w27 hv => mem_updV 4 (k := key) (v := .agg #[vI 0, .bool false, vI exp, vI v.kind, vS v.text, p23, t24, z25]) rfl rfl rfl rfl rfl Tryz.underlying139 Tryz.underlying9 hv rfl (fun w28 hv => ?_)
  simp only [zS, zO] at hv
  refine dV hv (fK rfl fN) (dE fun w29 hv => ?_)
  simp only [zP, po]
  refine tK k19 (sK fun _ k30 => ?_)
  refine rL (uA rfl ?_)
  refine uW k30 (rR ?_)
  refine bR rfl rfl (⟨_, _, 0, (hBC.trans hC22), rfl, .inl ⟨rfl, ⟨hk, hbl12.1 rfl, by omega, by omega⟩, VM.upd (x := ⟨0, false, exp, v⟩) hp23 (VM.more (hBC.trans hC22) hM)⟩, Inv.star (K := txL _ _ _ _ _ _ _ _ _ _) ((hv.kp [6, 6, 6, 5, 5, 5] 6 1))⟩)
 replace hk : ¬ key.length ≤ 256 := by simpa using hk
 refine uA rfl (uW k5 ?_)
 refine sK fun _ k31 => rL (uM rfl ?_)
 refine uG (.bool true) rfl (ex_neq rfl rfl rfl (by decide)) (uW k31 ?_)
 refine cT rfl (sK fun _ k32 => ?_)
 refine rL (uM rfl ?_)
 refine uA rfl (uW k32 ?_)
 refine rR (tR ?_)
 refine bR rfl rfl (⟨_, _, 2, hBC, rfl, .inr ⟨rfl, fun h => hk h.1, rfl⟩, Inv.star (K := txL _ _ _ _ _ _ _ _ _ _) ((hv.kp [6, 6, 6, 5, 5, 5] 6 1))⟩)
theorem x2al81 : AL Tryz.prog 81 [vI 0, .bool false, vI 0, vI 0, vS [], vN, vN, vN] := fun w => by kernel_rfl
theorem x2fa92_0 : FA Tryz.prog 92 0 0 := fun w b o => by kernel_rfl
theorem x2fa141_1 : FA Tryz.prog 141 1 1 := fun w b o => by kernel_rfl
theorem x2fa141_2 : FA Tryz.prog 141 2 2 := fun w b o => by kernel_rfl
theorem x2callable158 : Callable Tryz.prog 158 := cb Tryz.func158 (by kernel_rfl)
theorem x2callable164 : Callable Tryz.prog 164 := cb Tryz.func164 (by kernel_rfl)
theorem x2fa81_3 : FA Tryz.prog 81 3 3 := fun w b o => by kernel_rfl
theorem txnGet (B : Base) (H : List Res) (w : World) (t m s p wb : Nat) (va : Option Addr) (vc : Nat) (sv : Value) (clk : Int) (es : List (List UInt8 × Value)) (M : List (List UInt8 × Ver)) (key : List UInt8) (hM : VM B es M) (hv : Inv B (txR t m s p wb va vc sv clk es :: H) w) :
  Calls Tryz.prog 172 #[vP t, vS key] w fun e w' => ∃ C x p' t' z' ok, B.Le C ∧ e = .returned (.tuple #[.agg (verCells x p' t' z').toArray, .bool ok]) ∧ ((ok = true ∧ lookA M key = some x ∧ aliveB x clk = true) ∨ (ok = false ∧ x = zver0 ∧ ∀ y, lookA M key = some y → aliveB y clk = false)) ∧ ValAt C x.val p' t' z' ∧ Inv C (txR t m s p wb va vc sv clk es :: H) w' := by
 refine cW Tryz.func172 rfl Tryz.ntmps172 ?_
 simp only [al]
 refine sK fun _ k1 => ?_
 replace hv := Inv.unstar hv
 simp only [txL, List.cons_append, List.nil_append] at hv
 refine rL (sl_alloc tV (wn rfl) rfl hv x2al81 (fun b2 w3 hv => ?_))
 refine uA rfl (uW k1 ?_)
 refine sK fun _ k4 => rL (uM rfl ?_)
 refine uG (vP t) rfl (ex_nil rfl rfl) ?_
 refine uF (.pointer (some ⟨t, 4, none⟩)) rfl (x2fa141_4 _ _ _) ?_
 refine uL _ rfl (run_load1 x2na139 (hv.load 1 4 rfl rfl)) (uM rfl ?_)
 rcases VM.look key hM with ⟨hl, hlM⟩ | ⟨x, xp, xt, xz, hl, hlM, hxv⟩
 ·refine uG (.tuple #[.agg #[vI 0, .bool false, vI 0, vI 0, vS [], vN, vN, vN], .bool false]) rfl (ex_lookN (z := .agg #[vI 0, .bool false, vI 0, vI 0, vS [], vN, vN, vN]) 4 rfl rfl rfl Tryz.underlying139 Tryz.underlying9 (fun w => by kernel_rfl) hv rfl hl) (uM rfl ?_)
  refine uE rfl (uE rfl ?_)
  refine sl_alloc tV (wn rfl) rfl hv x2al81 (fun b5 w6 hv => ?_)
  refine xS 0 rfl hv x0sz81 rfl (by exact ⟨rfl, rfl, rfl, rfl, rfl, rfl, rfl, rfl, trivial⟩) (fun w7 hv => ?_)
  simp only [zO, sp] at hv
  refine uA rfl (uW k4 ?_)
  refine sK fun _ k8 => sK fun _ k9 => rL (uM rfl ?_)
  refine uG (.bool true) rfl (ex_not rfl rfl rfl) (uW k9 ?_)
  refine cT rfl (sK fun _ k10 => ?_)
  refine rW mixed [16, 19] [0,1,2,3,4,5,6,7,8,9,10,11,12,13,14,15,16,17,18,19,20] 51 rfl (by kernel_rfl) hv ?_
  simp only [qm, opAt]
  refine dM (vP t) rfl (dG (vP t) rfl (ex_nil rfl rfl) ?_)
  refine dG (vP t) rfl (ex_field rfl rfl (x1fa141_0 _ _ _)) ?_
  simp only [zP, po]
  refine dL _ rfl (fun hv => ex_load rfl rfl (run_load1 x1na43 (hv.load 2 0 rfl rfl))) (dG (vP m) rfl (ex_nil rfl rfl) ?_)
  refine dG (vP m) rfl (ex_field rfl rfl (x2fa92_0 _ _ _)) ?_
  simp only [zP, po]
  refine dL _ rfl (fun hv => ex_load rfl rfl (run_load1 x0na47 (hv.load 3 0 rfl rfl))) (dM (vS key) rfl ?_)
  refine dM (vP t) rfl ?_
  simp only [zP, po]
  refine dG (vP t) rfl (ex_nil rfl rfl) (dG (.pointer (some ⟨t, 1, none⟩)) rfl (ex_field rfl rfl (x2fa141_1 _ _ _)) ?_)
  refine dL _ rfl (fun hv => ex_load rfl rfl (run_load1 s2na3 (hv.load 2 1 rfl rfl))) ?_
  simp only [zP, po]
  refine dM (vP t) rfl (dG (vP t) rfl (ex_nil rfl rfl) ?_)
  refine dG (.pointer (some ⟨t, 2, none⟩)) rfl (ex_field rfl rfl (x2fa141_2 _ _ _)) ?_
  simp only [zP, po]
  refine dL _ rfl (fun hv => ex_load rfl rfl (run_load1 s2na3 (hv.load 2 2 rfl rfl))) (dS rfl fun w11 hv => ?_)
  replace hv := hv.front 7 rfl
  simp only [eS, eZ] at hv
  replace hv := hv.front 7 rfl
  simp only [eS, eZ] at hv
  refine mC x2callable158 rfl ((storeRead0 B _ _ s p 0 clk key hv).mono ?_) rfl
  rintro e w12 ⟨rfl, hv⟩
  refine ⟨_, rfl, dW hv ?_⟩
  refine dG (.agg #[vI 0, .bool false, vI 0, vI 0, vS [], vN, vN, vN]) rfl (ex_extract rfl rfl rfl) ?_
  simp only [zP, po]
  refine dG (.bool false) rfl (ex_extract rfl rfl rfl) (dS rfl fun w13 hv => ?_)
  refine mS 3 rfl hv x0sz81 rfl (by exact ⟨rfl, rfl, rfl, rfl, rfl, rfl, rfl, rfl, trivial⟩) (fun w14 hv => ?_)
  simp only [zS, zO, sp] at hv
  refine dW hv (dA (.bool false) rfl ?_)
  refine dE fun w15 hv => ?_
  simp only [zP, po]
  refine tK k10 (rR ?_)
  refine tR (bodyPost_ret (res_cell2 rfl rfl (lM 3 x0wd81 hv rfl rfl rfl rfl)) rfl ?_)
  exact ⟨_, zver0, _, _, _, false, (Base.Le.refl _), rfl, .inr ⟨rfl, rfl, fun y hy => (by rw [hlM] at hy; cases hy)⟩, zver0_at _, Inv.star (K := txL _ _ _ _ _ _ _ _ _ _) ((hv.kp [1, 1, 7, 7, 7, 7] 6 2))⟩
 refine uG (.tuple #[.agg #[vI x.stamp, .bool x.gone, vI x.expire, vI x.val.kind, vS x.val.text, xp, xt, xz], .bool true]) rfl (ex_lookS (z := .agg #[vI 0, .bool false, vI 0, vI 0, vS [], vN, vN, vN]) 4 rfl rfl rfl Tryz.underlying139 Tryz.underlying9 (fun w => by kernel_rfl) hv rfl hl) (uM rfl ?_)
 refine uE rfl (uE rfl ?_)
 refine sl_alloc tV (wn rfl) rfl hv x2al81 (fun b16 w17 hv => ?_)
 refine xS 0 rfl hv x0sz81 rfl (by exact ⟨rfl, rfl, rfl, rfl, rfl, hxv.p.one, hxv.t.one, hxv.z.one, trivial⟩) (fun w18 hv => ?_)
 simp only [zO, sp] at hv
 refine uA rfl (uW k4 ?_)
 refine sK fun _ k19 => sK fun _ k20 => rL (uM rfl ?_)
 refine uG (.bool false) rfl (ex_not rfl rfl rfl) (uW k20 ?_)
 refine cF rfl (kS ?_)
 refine tK k19 (sK fun _ k21 => ?_)
 refine sK fun _ k22 => rW mixed [5] [0,1,2,3,4,5,6] 51 rfl (by kernel_rfl) hv ?_
 simp only [qm, opAt]
 refine dL (.agg #[vI x.stamp, .bool x.gone, vI x.expire, vI x.val.kind, vS x.val.text, xp, xt, xz]) rfl (fun hv => ex_load rfl rfl (lM 0 x0wd81 hv rfl rfl rfl rfl)) (dM (vP t) rfl ?_)
 refine dG (vP t) rfl (ex_nil rfl rfl) ?_
 simp only [zP, po]
 refine dG (.pointer (some ⟨t, 2, none⟩)) rfl (ex_field rfl rfl (x2fa141_2 _ _ _)) (dL _ rfl (fun hv => ex_load rfl rfl (run_load1 s2na3 (hv.load 2 2 rfl rfl))) ?_)
 refine dS rfl fun w23 hv => mC x2callable164 rfl ((chainAlive B _ _ x xp xt xz clk hv).mono ?_) rfl
 rintro e w24 ⟨rfl, hv⟩
 refine ⟨_, rfl, dW hv ?_⟩
 simp only [zP, po]
 refine dG (.bool (!(aliveB x clk))) rfl (ex_not rfl rfl rfl) (dE fun w25 hv => ?_)
 simp only [zP, po]
 refine tK k22 (wpIn_cond_split (t := !(aliveB x clk)) rfl (fun hc26 => ?_) (fun hc26 => ?_))
 ·refine sK fun _ k27 => rL (uG (.agg #[vI 0, .bool false, vI 0, vI 0, vS [], vN, vN, vN]) rfl (ex_buildN (vs := #[]) rfl (by simp only [List.map_toArray, List.map_nil]) (by kernel_rfl)) ?_)
  refine xS 1 rfl hv x0sz81 rfl (by exact ⟨rfl, rfl, rfl, rfl, rfl, rfl, rfl, rfl, trivial⟩) (fun w28 hv => ?_)
  simp only [zS, zO, sp] at hv
  refine uA rfl (uW k27 ?_)
  refine rR (tR ?_)
  refine bodyPost_ret (res_cell2 rfl rfl (lM 1 x0wd81 hv rfl rfl rfl rfl)) rfl (⟨_, zver0, _, _, _, false, (Base.Le.refl _), rfl, .inr ⟨rfl, rfl, fun y hy => (by rw [hlM] at hy; cases hy; simpa using hc26)⟩, zver0_at _, Inv.star (K := txL _ _ _ _ _ _ _ _ _ _) ((hv.kp [7, 7, 7, 7, 7, 7] 6 2))⟩)
 refine kS (tK k21 ?_)
 refine sK fun _ k29 => rL (uF (.pointer (some ⟨b16, 3, none⟩)) rfl (x2fa81_3 _ _ _) ?_)
 refine uL (.agg #[vI x.val.kind, vS x.val.text, xp, xt, xz]) rfl (lM 0 s1wd60 hv rfl rfl rfl rfl) ?_
 refine xC x2callable37 rfl ((valueClone _ _ _ x.val xp xt xz (hxv.more (Base.Le.refl _)) hv).mono ?_) rfl
 rintro e w34 ⟨C30, p31, t32, z33, hC30, rfl, hp31, hv⟩
 refine ⟨_, rfl, uF (.pointer (some ⟨b16, 3, none⟩)) rfl (x2fa81_3 _ _ _) ?_⟩
 refine xS 0 rfl hv s1sz60 rfl (by exact ⟨rfl, rfl, hp31.p.one, hp31.t.one, hp31.z.one, trivial⟩) (fun w35 hv => ?_)
 simp only [zO, sp] at hv
 refine uW k29 (sK fun _ k36 => ?_)
 refine rL (uL (.agg #[vI x.stamp, .bool x.gone, vI x.expire, vI x.val.kind, vS x.val.text, p31, t32, z33]) rfl (lM 0 x0wd81 hv rfl rfl rfl rfl) ?_)
 refine xS 1 rfl hv x0sz81 rfl (by exact ⟨rfl, rfl, rfl, rfl, rfl, hp31.p.one, hp31.t.one, hp31.z.one, trivial⟩) (fun w37 hv => ?_)
 simp only [zS, zO, sp] at hv
 refine uA rfl (uW k36 ?_)
 refine rR (bodyPost_ret (res_cell2 rfl rfl (lM 1 x0wd81 hv rfl rfl rfl rfl)) rfl ?_)
 exact ⟨_, x, _, _, _, true, hC30, rfl, .inl ⟨rfl, hlM, by simpa using hc26⟩, hp31, Inv.star (K := txL _ _ _ _ _ _ _ _ _ _) ((hv.kp [7, 7, 7, 7, 7, 7] 6 2))⟩
end Go.Proofs.YtmpackidbgfoiaaGreatDoor
namespace Go.Pm
open Go.RowKit
section
variable {F : Fence} {n : Nat} {P : Program} {ops : Array Oper} {Q : Exit → Act → World → Prop} {a : Act} {w : World} {rest : List Oper} {o : Oper} {x : Operand}
theorem ex_iface {t : TypeId} {v : Value} {y : Operand} {d : TypeDesc} (ht : P.underlying t = some d) (hd : ∀ m, d ≠ .interface m) (ho : o.op = .makeInterface t y) (hy : a.eval y = v) : Ex P a o w (.iface t v) w := by
 unfold Ex
 cases d <;> first | exact absurd rfl (hd _) | simp [execOp, ho, hy, Instr.makeInterface, run_underlying ht]
theorem ex_ifnil {t u d : TypeId} {v : Value} {ms : Array (String × TypeId)} {y : Operand} (ht : P.underlying t = some (.interface ms)) (ho : o.op = .binOp .eql t x y u) (hx : a.eval x = .iface d v) (hy : a.eval y = .nilIface) : Ex P a o w (.bool false) w := by
 have hg : (eqGuard .eql t x y (.iface d v) .nilIface).run P w = .ok () w := by simp [eqGuard]
 have h : ∀ k : Nat, (Op.equalIn (k + 1) t (.iface d v) .nilIface).run P w = .ok false w := fun k => by simp [Op.equalIn, run_underlying ht]
 have hr : (binOp .eql t (.iface d v) .nilIface).run P w = .ok (.bool false) w := by
  simp only [binOp]; simp [Op.equal, Op.maxDepth, h 9999]
 unfold Ex; simp [execOp, ho, hx, hy, hg, hr]
theorem sl_rowN {B : Base} {H : List Res} {t e : TypeId} {k : Nat} {parts : Array (Nat × Operand)} {pv : Array (Nat × Value)} {L : List Value} (hF : ∀ f, F.fn f) (hg : Region.wanted o (yielded ops a.tmps) = true) (ho : o.op = .buildSlice t k parts) (hx : (parts.map fun (i, x) => (i, a.eval x)) = pv) (hv : Inv B H w)
  (hr : ∀ w, (Instr.buildSlice t k pv).run P w = .ok (.slice (some ⟨w.heap.size, 0, none⟩) k k) (w.alloc (.cells L.toArray e))) (h : ∀ b w', Inv B (Res.cell b L e :: H) w' → wpListIn F n P ops Q rest (a.put o.dst (.slice (some ⟨b, 0, none⟩) k k)) w') : wpListIn F n P ops Q (o :: rest) a w :=
 wpi_exG hF hg (by unfold isDefer; rw [ho]) (by unfold Ex; simp only [execOp, ho, hx]; simp [hr]) (h _ _ (hv.alloc L e))
theorem ex_nilI {t : TypeId} {v : Value} (ho : o.op = .nilCheck x) (hx : a.eval x = .iface t v) : Ex P a o w (.iface t v) w := by unfold Ex; simp [execOp, ho, hx]
theorem run_callI {f : FuncId} {name : String} {xs : Array Operand} {ts : Array TypeId} {args : Array Value} {t : TypeId} {r r' : Value} (hf : Callable P f) (ho : o.op = .call { callee := .invoke x name, args := xs, argTypes := ts }) (hfx : a.eval x = .iface t r)
  (hm : ∀ w, (method (P.types.size + Made.depth) t r name).run P w = .ok (f, r') w) (hx : xs.map a.eval = args) (w : World) : (execOp a.eval o).run P w = .ok (.enter f (#[r'] ++ args)) w := by
 obtain ⟨fn, h1, h2, h3⟩ := hf
 have hb : ¬ fn.body = none := by intro h; rw [h] at h3; cases h3
 have hn : ¬ fn.name = "runtime.NumGoroutine" := by simpa using h2
 have hget : (#[Value.iface t r] ++ xs.map a.eval)[0]? = some (.iface t r) := by
  rw [← Array.getElem?_toList, Array.toList_append]; rfl
 have hext : (#[Value.iface t r] ++ xs.map a.eval).extract 1 (#[Value.iface t r] ++ xs.map a.eval).size = xs.map a.eval := by
  apply Array.ext'; simp
  exact List.take_of_length_le (by simp)
 obtain ⟨d, op, ty, pos, af, gd⟩ := o
 simp only at ho
 subst ho
 simp only [execOp, resolve, Sem.run_bind, Sem.run_pure, Result.andThen_ok, invoke, hfx, hget, hext, callMethod]
 simp only [program, Sem.run, Result.andThen_ok, hm, hx]
 simp [callFunc, h1, hn, hb]
theorem wpi_callI {f : FuncId} {name : String} {xs : Array Operand} {ts : Array TypeId} {args : Array Value} {t : TypeId} {r r' : Value} (hf : Callable P f) (hF : ∀ f, F.fn f) (hC : ∀ (f : FuncId) (args : Array Value) (w : World) (R : Ending → World → Prop), Calls P f args w R → CallsIn F (n - 1) P f args w R) (hdp : F.depth = none) (hg : Region.wanted o (yielded ops a.tmps) = true)
  (ho : o.op = .call { callee := .invoke x name, args := xs, argTypes := ts }) (hfx : a.eval x = .iface t r) (hm : ∀ w, (method (P.types.size + Made.depth) t r name).run P w = .ok (f, r') w) (hx : xs.map a.eval = args) (hc : Calls P f (#[r'] ++ args) w fun e w' => ∃ v, e = .returned v ∧ wpListIn F n P ops Q rest (a.put o.dst v) w') : wpListIn F n P ops Q (o :: rest) a w := by
 refine wpListIn_step fun K hK => ?_
 rw [if_pos hg]
 refine ⟨fun f _ => hF f, ?_⟩
 have hd : isDefer o = false := by unfold isDefer; rw [ho]
 rw [Oper.semAt_eq _ _ _ (not_defer hd), run_callI hf ho hfx hm hx w, Oper.uponIn_enter]
 refine ⟨fun e => by simp [hdp] at e, hC _ _ _ _ (hc.mono ?_)⟩
 rintro e w' ⟨v, rfl, hh⟩
 exact hK _ _ hh
theorem stepMem_callI {J : List Value → World → Prop} {vals : List Value} {f : FuncId} {name : String} {xs : Array Operand} {ts : Array TypeId} {args : Array Value} {t : TypeId} {r r' : Value} (hf : Callable P f) (hg : Region.wanted o (yielded ops a.tmps) = true)
  (ho : o.op = .call { callee := .invoke x name, args := xs, argTypes := ts }) (hfx : a.eval x = .iface t r) (hm : ∀ w, (method (P.types.size + Made.depth) t r name).run P w = .ok (f, r') w) (hx : xs.map a.eval = args) (hc : Calls P f (#[r'] ++ args) w fun e w' => ∃ v, e = .returned v ∧ J (vals ++ [v]) w') : StepMem P ops J Q o a w vals := by
 unfold StepMem
 rw [if_pos hg]
 unfold Oper.wp
 rw [run_callI hf ho hfx hm hx w]
 exact hc.mono fun e w' ⟨v, he, h1⟩ => by subst he; exact ⟨v, rfl, h1⟩
end
section
variable {F : Fence} {n : Nat} {P : Program} {ops : Array Oper} {Q : Exit → Act → World → Prop} {a : Act} {w : World} {rest : List Oper} {o : Oper} {x : Operand}
theorem wpi_defer {f : FuncId} {cb : Array Value} (hF : ∀ f, F.fn f) (hro : F.round = none) (hg : Region.wanted o (yielded ops a.tmps) = true) (ho : o.op = .defer { callee := .value x, args := #[], argTypes := #[] }) (hx : a.eval x = .func (.func f) #[] cb)
  (h : wpListIn F n P ops Q rest (({ a with defers := { target := .fn (.func f) cb, args := #[] } :: a.defers } : Act).put o.dst undef) w) : wpListIn F n P ops Q (o :: rest) a w := by
 refine wpListIn_step fun K hK => ?_
 rw [if_pos hg]
 refine ⟨fun f _ => hF f, ?_⟩
 have hr : (execOp a.eval o).run P w = .ok (.defer { target := .fn (.func f) cb, args := #[] }) w := by
  obtain ⟨d, op, ty, pos, af, gd⟩ := o
  simp only at ho
  subst ho
  simp [execOp, resolve, hx, Deferred.ofValue]
 rw [hro, Oper.semAt_none, hr, Oper.uponIn_defer]
 exact hK _ _ h
end
theorem res_cells2 {P : Program} {fn : Func} {w : World} {t u : TypeId} {v v' : Value} {r i : Nat} (h : fn.results = #[.cell r t, .cell i u]) {tmps : Array Value} {ad ad' : Addr} (hr : tmps.getD r undef = .pointer (some ad)) (hl : (Instr.loadAt t (.pointer (some ad))).run P w = .ok v w)
  (hr2 : tmps.getD i undef = .pointer (some ad')) (hl2 : (Instr.loadAt u (.pointer (some ad'))).run P w = .ok v' w) : (results fn tmps).run P w = .ok (.tuple #[v, v']) w := by
 have hl' : (loadVar t ad).run P w = .ok v w := by simpa [Instr.loadAt, Instr.sureAddr] using hl
 have hr' : tmps[r]?.getD undef = .pointer (some ad) := by rw [← hr, Array.getD_eq_getD_getElem?]
 have hl2' : (loadVar u ad').run P w = .ok v' w := by simpa [Instr.loadAt, Instr.sureAddr] using hl2
 have hr2' : tmps[i]?.getD undef = .pointer (some ad') := by rw [← hr2, Array.getD_eq_getD_getElem?]
 simp [results, h, hr', hr2', asAddr, hl', hl2']
theorem leave_rec {P : Program} {fn : Func} {n : Nat} {tmps cb : Array Value} {R : Ending → World → Prop} {w : World} {v : Value} {f : FuncId} (hf : Callable P f) (hrec : CallsDIn Fence.wide (n - 1) P f cb .returning w fun e u' w' => e = .returned (.tuple #[]) ∧ u' = .returning ∧ w' = w)
  (hres : (results fn tmps).run P w = .ok v w) (hR : R (.returned v) w) : bodyPostDIn Fence.wide n P fn R .ret ⟨tmps, [{ target := .fn (.func f) cb, args := #[] }]⟩ w := by
 obtain ⟨fn', h1, h2, h3⟩ := hf
 have hb : ¬ fn'.body = none := by intro h; rw [h] at h3; cases h3
 have hn : ¬ fn'.name = "runtime.NumGoroutine" := by simpa using h2
 refine leavesIn_cons (f := f) (args := cb) (by simp) (by simp [Fence.wide]) (by simp [invoke, callFunc, h1, hn, hb]) (fun _ _ => trivial) ?_
 refine hrec.mono ?_
 rintro e u' w'' ⟨rfl, rfl, rfl⟩
 exact ⟨v, by simpa [settle] using hres, hR⟩
end Go.Pm
namespace Go.Proofs.YtmpackidbgfoiaaGreatDoor
open Go.RowKit Go.Pm
theorem ixNew0 (B : Base) (H : List Res) (w : World) (hv : Inv B H w) :
  Calls Tryz.prog 29 #[] w fun e w' => ∃ p, e = .returned (vP p) ∧ Inv B (Res.cell p [vN, vI 0] 138 :: H) w' := by
 refine cW Tryz.func29 rfl Tryz.ntmps29 ?_
 simp only [al]
 refine sK fun _ k1 => rL (uA rfl ?_)
 refine uW k1 (sK fun _ k2 => ?_)
 refine rL (uG (.agg #[vN, vI 0]) rfl (ex_buildN (vs := #[]) rfl (by simp only [List.map_toArray, List.map_nil]) (by kernel_rfl)) ?_)
 refine sl_box (L := [vN, vI 0]) tV (wn rfl) rfl rfl hv (fun w => by kernel_rfl) (fun b3 w4 hv => ?_)
 refine uA rfl (uW k2 ?_)
 refine rR (bR rfl rfl ?_)
 exact ⟨_, rfl, hv⟩
theorem x3callable29 : Callable Tryz.prog 29 := cb Tryz.func29 (by kernel_rfl)
theorem storeNew0 (B : Base) (H : List Res) (w : World) (hv : Inv B H w) :
  Calls Tryz.prog 12 #[] w fun e w' => ∃ s p, e = .returned (vP s) ∧ Inv B (Res.cell s [vP p, vI 0, vI 0] 96 :: Res.cell p [vN, vI 0] 138 :: H) w' := by
 refine cW Tryz.func12 rfl Tryz.ntmps12 ?_
 simp only [al]
 refine sK fun _ k1 => rL (uA rfl ?_)
 refine uW k1 (sK fun _ k2 => ?_)
 refine rL (xC x3callable29 rfl ((ixNew0 B _ _ hv).mono ?_) rfl)
 rintro e w3 ⟨p, rfl, hv⟩
 refine ⟨_, rfl, uG (.agg #[vP p, vI 0, vI 0]) rfl (ex_buildN (vs := #[(0, vP p)]) rfl (by simp only [List.map_toArray, List.map_cons, List.map_nil]; rfl) (by kernel_rfl)) ?_⟩
 refine sl_box (L := [vP p, vI 0, vI 0]) tV (wn rfl) rfl rfl hv (fun w => by kernel_rfl) (fun b4 w5 hv => ?_)
 refine uA rfl (uW k2 ?_)
 refine rR (bR rfl rfl ?_)
 exact ⟨_, p, rfl, hv⟩
theorem txnNew0 (B : Base) (H : List Res) (w : World) (s : Nat) (tt : TypeId) (sq : Value) (hv : Inv B H w) :
  Calls Tryz.prog 11 #[vP s, (.iface tt sq)] w fun e w' => ∃ m, e = .returned (.tuple #[vP m, vI 0]) ∧ Inv B (Res.cell m [vP s, .iface tt sq, vI 0, vN] 92 :: H) w' := by
 refine cW Tryz.func11 rfl Tryz.ntmps11 ?_
 simp only [al]
 refine sK fun _ k1 => rL (uA rfl ?_)
 refine uA rfl (uW k1 ?_)
 refine sK fun _ k2 => sK fun _ k3 => rL (uM rfl ?_)
 refine uG (.bool false) rfl (ex_pisnil Tryz.underlying47 rfl rfl rfl rfl) (uM rfl ?_)
 refine uM rfl ?_
 refine uG (.bool false) rfl (ex_ifnil Tryz.underlying89 rfl rfl rfl) (uK rfl ?_)
 refine uW k3 (cF rfl ?_)
 refine kS (tK k2 ?_)
 refine sK fun _ k4 => rL (uM rfl ?_)
 refine uM rfl ?_
 refine uG (.agg #[vP s, (.iface tt sq), vI 0, vN]) rfl (ex_buildN (vs := #[(0, vP s), (1, (.iface tt sq))]) rfl (by simp only [List.map_toArray, List.map_cons, List.map_nil]; rfl) (by kernel_rfl)) ?_
 refine sl_box (L := [vP s, (.iface tt sq), vI 0, vN]) tV (wn rfl) rfl rfl hv (fun w => by kernel_rfl) (fun b5 w6 hv => ?_)
 refine uA rfl (uA rfl ?_)
 refine uW k4 (rR ?_)
 refine bodyPost_ret (results_tmp2 rfl _ _ _) rfl (⟨_, rfl, hv⟩)
theorem x3fa96_1 : FA Tryz.prog 96 1 1 := fun w b o => by kernel_rfl
theorem x3na3 (w : World) : (isAgg 3).run Tryz.prog w = .ok false w := by kernel_rfl
theorem storeLast0 (B : Base) (H : List Res) (w : World) (s p : Nat) (hv : Inv B (Res.cell s [vP p, vI 0, vI 0] 96 :: H) w) :
  Calls Tryz.prog 31 #[vP s] w fun e w' => e = .returned (vI 0) ∧ Inv B (Res.cell s [vP p, vI 0, vI 0] 96 :: H) w' := by
 refine cW Tryz.func31 rfl Tryz.ntmps31 ?_
 simp only [al]
 refine sK fun _ k1 => rL (uA rfl ?_)
 refine uW k1 (sK fun _ k2 => ?_)
 refine rL (uM rfl ?_)
 refine uG (vP s) rfl (ex_nil rfl rfl) ?_
 refine uF (.pointer (some ⟨s, 1, none⟩)) rfl (x3fa96_1 _ _ _) ?_
 refine uL _ rfl (run_load1 x3na3 (hv.load 0 1 rfl rfl)) (uA rfl ?_)
 refine uW k2 (rR ?_)
 refine bR rfl rfl (⟨rfl, hv⟩)
theorem x3fa92_3 : FA Tryz.prog 92 3 3 := fun w b o => by kernel_rfl
theorem x3na90 (w : World) : (isAgg 90).run Tryz.prog w = .ok false w := by kernel_rfl
theorem x3fa92_2 : FA Tryz.prog 92 2 2 := fun w b o => by kernel_rfl
theorem x3mk52 : (Tryz.prog.info? 52).map (fun i => (i.zero, i.size, i.bytes)) = some (some (.pointer none), 1, 8) := by kernel_rfl
theorem x3el90 : Elem Tryz.prog 90 52 (.pointer none) 1 8 := elem_of Tryz.underlying90 x3mk52 (by rfl) (by decide)
theorem x3sz90 : (Tryz.prog.info? 90).map (·.size) = some 1 := by kernel_rfl
theorem txnBegin0 (B : Base) (H : List Res) (w : World) (m s : Nat) (sv : Value) (clk : Int) (hv : Inv B (Res.cell m [vP s, sv, vI clk, vN] 92 :: H) w) :
  Calls Tryz.prog 30 #[vP m, vI 0, .bool false] w fun e w' => ∃ t wb va vc, e = .returned (.tuple #[vP t, vI 0]) ∧ Inv B (Res.cell t [vP m, vI 0, vI clk, .bool false, .map (some wb)] 141 :: Res.cell m [vP s, sv, vI clk, .slice va 1 vc] 92 :: Res.row 52 1 (.slice va 1 vc) 1 [vP t] :: Res.vmap wb [] :: H) w' := by
 refine cW Tryz.func30 rfl Tryz.ntmps30 ?_
 simp only [al]
 refine sK fun _ k1 => rL (uA rfl ?_)
 refine uA rfl (uW k1 ?_)
 refine sK fun _ k2 => sK fun _ k3 => rL (uM rfl ?_)
 refine uG (vP m) rfl (ex_nil rfl rfl) ?_
 refine uF (.pointer (some ⟨m, 3, none⟩)) rfl (x3fa92_3 _ _ _) ?_
 refine uL _ rfl (run_load1 x3na90 (hv.load 0 3 rfl rfl)) ?_
 refine uG (vI 0) rfl (ex_len0 Tryz.underlying90 rfl rfl) ?_
 refine uG (.bool false) rfl (ex_geq rfl rfl rfl (by decide)) (uW k3 ?_)
 refine cF rfl (kS ?_)
 refine tK k2 (sK fun _ k4 => ?_)
 refine rL (uM rfl ?_)
 refine uM rfl (uM rfl ?_)
 refine uG (vP m) rfl (ex_nil rfl rfl) ?_
 refine uF (.pointer (some ⟨m, 2, none⟩)) rfl (x3fa92_2 _ _ _) ?_
 refine uL _ rfl (run_load1 x3na3 (hv.load 0 2 rfl rfl)) (uM rfl ?_)
 refine sl_newMapV tV (wn rfl) rfl hv (fun mp5 w6 hv => ?_)
 refine uG (.agg #[vP m, vI 0, vI clk, .bool false, .map (some mp5)]) rfl (ex_buildN (vs := #[(0, vP m), (1, vI 0), (2, vI clk), (3, .bool false), (4, .map (some mp5))]) rfl (by simp only [List.map_toArray, List.map_cons, List.map_nil]; rfl) (by kernel_rfl)) ?_
 refine sl_box (L := [vP m, vI 0, vI clk, .bool false, .map (some mp5)]) tV (wn rfl) rfl rfl hv (fun w => by kernel_rfl) (fun b7 w8 hv => ?_)
 refine uA rfl (uW k4 ?_)
 refine sK fun _ k9 => ?_
 replace hv := hv.rowNil 52 1
 refine rL (uM rfl ?_)
 refine uM rfl ?_
 refine uG (vP m) rfl (ex_nil rfl rfl) ?_
 refine uF (.pointer (some ⟨m, 3, none⟩)) rfl (x3fa92_3 _ _ _) ?_
 refine uL _ rfl (run_load1 x3na90 (hv.load 3 3 rfl rfl)) (uM rfl ?_)
 refine sl_rowOne (v := vP b7) tV (wn rfl) rfl rfl hv x3el90 rfl (fun b10 w11 hv => ?_)
 replace hv := hv.front 1 rfl
 simp only [eS, eZ] at hv
 refine sl_append (news := [vP b7]) tV (wn rfl) rfl rfl rfl x3el90 hv (ok_full (by omega)) rfl (rd_all (hv.get 1 rfl)) (by intro u hu; simp only [List.mem_cons, List.not_mem_nil, or_false] at hu; rcases hu with rfl <;> rfl) (by unfold maxLen; omega) (by omega) (fun rv12 w15 hv => ?_)
 obtain ⟨ra13, rc14, rfl⟩ := row_slice hv.head
 refine uG (vP m) rfl (ex_nil rfl rfl) ?_
 refine uF (.pointer (some ⟨m, 3, none⟩)) rfl (x3fa92_3 _ _ _) ?_
 refine xV 4 (.slice ra13 (0 + 1) rc14) rfl hv x3sz90 rfl rfl (fun w16 hv => ?_)
 simp only [zS, zO, sp] at hv
 refine uW k9 (sK fun _ k17 => ?_)
 refine rL (uM rfl ?_)
 refine uA rfl (uA rfl ?_)
 refine uW k17 (rR ?_)
 refine bodyPost_ret (results_tmp2 rfl _ _ _) rfl (⟨_, _, _, _, rfl, (hv.kp [3, 1, 4, 4] 4 1)⟩)
theorem x3fa92_0 : FA Tryz.prog 92 0 0 := fun w b o => by kernel_rfl
theorem x3callable31 : Callable Tryz.prog 31 := cb Tryz.func31 (by kernel_rfl)
theorem x3callable30 : Callable Tryz.prog 30 := cb Tryz.func30 (by kernel_rfl)
theorem txnBegin (B : Base) (H : List Res) (w : World) (m s p : Nat) (sv : Value) (clk : Int) (hv : Inv B (Res.cell m [vP s, sv, vI clk, vN] 92 :: Res.cell s [vP p, vI 0, vI 0] 96 :: Res.cell p [vN, vI 0] 138 :: H) w) :
  Calls Tryz.prog 14 #[vP m] w fun e w' => ∃ t wb va vc, e = .returned (.tuple #[vP t, vI 0]) ∧ Inv B (txR t m s p wb va vc sv clk [] :: H) w' := by
 refine cW Tryz.func14 rfl Tryz.ntmps14 ?_
 simp only [al]
 refine sK fun _ k1 => rL (uA rfl ?_)
 refine uA rfl (uW k1 ?_)
 refine sK fun _ k2 => rL (uM rfl ?_)
 refine uM rfl ?_
 refine uG (vP m) rfl (ex_nil rfl rfl) ?_
 refine uF (vP m) rfl (x3fa92_0 _ _ _) ?_
 refine uL _ rfl (run_load1 x0na47 (hv.load 0 0 rfl rfl)) ?_
 replace hv := hv.front 1 rfl
 simp only [eS, eZ] at hv
 refine xC x3callable31 rfl ((storeLast0 B _ _ s p hv).mono ?_) rfl
 rintro e w3 ⟨rfl, hv⟩
 refine ⟨_, rfl, ?_⟩
 simp only [zP, po]
 replace hv := hv.front 1 rfl
 simp only [eS, eZ] at hv
 refine xC x3callable30 rfl ((txnBegin0 B _ _ m s sv clk hv).mono ?_) rfl
 rintro e w4 ⟨t, wb, va, vc, rfl, hv⟩
 refine ⟨_, rfl, uE rfl ?_⟩
 refine uE rfl (uA rfl ?_)
 refine uA rfl (uW k2 ?_)
 refine rR (bodyPost_ret (results_tmp2 rfl _ _ _) rfl ?_)
 exact ⟨t, wb, va, vc, rfl, Inv.star (K := txL _ _ _ _ _ _ _ _ _ _) (((((((hv.front 5 rfl).front 5 rfl).front 5 rfl).front 5 rfl).front 5 rfl).front 5 rfl))⟩
theorem x3sz3 : (Tryz.prog.info? 3).map (·.size) = some 1 := by kernel_rfl
theorem txnTick0 (B : Base) (H : List Res) (w : World) (m s : Nat) (sv : Value) (n : Int) (h0 : 0 ≤ n) (h1 : n ≤ 1099511627776) (hv : Inv B (Res.cell m [vP s, sv, vI 0, vN] 92 :: H) w) :
  Calls Tryz.prog 13 #[vP m, vI n] w fun e w' => ∃ r : Int, e = .returned (vI r) ∧ Inv B (Res.cell m [vP s, sv, vI n, vN] 92 :: H) w' := by
 refine cW Tryz.func13 rfl Tryz.ntmps13 ?_
 simp only [al]
 refine sK fun _ k1 => rL (uA rfl ?_)
 refine uW k1 (sK fun _ k2 => ?_)
 refine sK fun _ k3 => rL (uM rfl ?_)
 by_cases hb4 : n > 0
 ·refine uG (.bool true) rfl (ex_gtr rfl rfl rfl (qT hb4)) (uW k3 ?_)
  refine cT rfl (rW mixed [14] [0,1,2,3,4,5,6,7,8,9,10,11,12,13,14] 25 rfl (by kernel_rfl) hv ?_)
  simp only [qm, opAt]
  refine dM (vP m) rfl (dG (vP m) rfl (ex_nil rfl rfl) ?_)
  refine dG (.pointer (some ⟨m, 2, none⟩)) rfl (ex_field rfl rfl (x3fa92_2 _ _ _)) ?_
  simp only [zP, po]
  refine dL _ rfl (fun hv => ex_load rfl rfl (run_load1 x3na3 (hv.load 0 2 rfl rfl))) (dM (vI n) rfl ?_)
  refine dM (vP m) rfl ?_
  simp only [zP, po]
  refine dG (vP m) rfl (ex_nil rfl rfl) (dG (.pointer (some ⟨m, 2, none⟩)) rfl (ex_field rfl rfl (x3fa92_2 _ _ _)) ?_)
  refine dL _ rfl (fun hv => ex_load rfl rfl (run_load1 x3na3 (hv.load 0 2 rfl rfl))) ?_
  simp only [zP, po]
  refine dG (vI 1099511627776) rfl (ex_sub rfl rfl rfl (i64_in (by omega))) (dG (vI n) rfl (ex_min2 (m := n) (n := 1099511627776) rfl rfl rfl (if_neg (by omega))) ?_)
  refine dG (vI n) rfl (ex_add rfl rfl rfl (by rw [i64_in (by omega)]; omega)) ?_
  simp only [zP, po]
  refine dG (vP m) rfl (ex_nil rfl rfl) (dG (.pointer (some ⟨m, 2, none⟩)) rfl (ex_field rfl rfl (x3fa92_2 _ _ _)) ?_)
  refine dS rfl fun w5 hv => mV 0 (vI n) rfl hv x3sz3 rfl rfl (fun w6 hv => ?_)
  simp only [zO, sp] at hv
  refine dW hv (dE fun w7 hv => ?_)
  simp only [zP, po]
  refine tK k2 (sK fun _ k8 => ?_)
  refine rL (uM rfl ?_)
  refine uG (vP m) rfl (ex_nil rfl rfl) ?_
  refine uF (.pointer (some ⟨m, 2, none⟩)) rfl (x3fa92_2 _ _ _) ?_
  refine uL _ rfl (run_load1 x3na3 (hv.load 0 2 rfl rfl)) (uA rfl ?_)
  refine uW k8 (rR ?_)
  refine bR rfl rfl (⟨_, rfl, hv⟩)
 refine uG (.bool false) rfl (ex_gtr rfl rfl rfl (qF hb4)) (uW k3 ?_)
 refine cF rfl (kS ?_)
 refine tK k2 (sK fun _ k9 => ?_)
 refine rL (uM rfl ?_)
 refine uG (vP m) rfl (ex_nil rfl rfl) ?_
 refine uF (.pointer (some ⟨m, 2, none⟩)) rfl (x3fa92_2 _ _ _) ?_
 refine uL _ rfl (run_load1 x3na3 (hv.load 0 2 rfl rfl)) (uA rfl ?_)
 refine uW k9 (rR ?_)
 refine bR rfl rfl ?_
 obtain rfl : n = 0 := by omega
 exact ⟨_, rfl, hv⟩
def delM (M : List (List UInt8 × Ver)) (ks : List (List UInt8)) : List (List UInt8 × Ver) := ks.foldl (fun M k => updA M k gver) M
theorem delM_next {M : List (List UInt8 × Ver)} {ks : List (List UInt8)} {i : Nat} {x : List UInt8} (hx : ks[i]? = some x) : delM M (ks.take (i + 1)) = updA (delM M (ks.take i)) x gver := by
 unfold delM
 rw [take_next hx, List.foldl_append]; rfl
theorem txnDel (B : Base) (H : List Res) (w : World) (t m s p wb : Nat) (va : Option Addr) (vc : Nat) (sv : Value) (clk : Int) (es : List (List UInt8 × Value)) (M : List (List UInt8 × Ver)) (ka : Option Addr) (kc : Nat) (ks : List (List UInt8)) (hr : RdV B [] ka (textCells ks)) (hm : ks.length ≤ 1000000) (hM : VM B es M) (hv : Inv B (txR t m s p wb va vc sv clk es :: H) w) :
  Calls Tryz.prog 171 #[vP t, .slice ka ks.length kc] w fun e w' => ∃ es' ec, e = .returned (vI ec) ∧ ((ec = 0 ∧ ks.any (fun s : List UInt8 => decide (s.length > 256)) = false ∧ VM B es' (delM M ks)) ∨ (ec = 2 ∧ ks.any (fun s : List UInt8 => decide (s.length > 256)) = true ∧ es' = es)) ∧ Inv B (txR t m s p wb va vc sv clk es' :: H) w' := by
 refine cW Tryz.func171 rfl Tryz.ntmps171 ?_
 simp only [al]
 refine sK fun _ k1 => ?_
 replace hv := Inv.unstar hv
 simp only [txL, List.cons_append, List.nil_append] at hv
 refine rL (uA rfl ?_)
 refine uW k1 (sK fun _ k2 => ?_)
 refine sK fun _ k3 => rL (uM rfl ?_)
 refine uM rfl ?_
 replace hv := hv.front 2 rfl
 simp only [eS, eZ] at hv
 replace hv := hv.front 2 rfl
 simp only [eS, eZ] at hv
 replace hv := hv.front 2 rfl
 simp only [eS, eZ] at hv
 refine xC x2callable175 rfl ((txnMay B _ _ t m s wb va vc sv clk ka kc ks hr hm hv).mono ?_) rfl
 rintro e w4 ⟨ec, rfl, hmay, hv⟩
 refine ⟨_, rfl, ?_⟩
 rcases hmay with ⟨rfl, hk⟩ | ⟨rfl, hk⟩
 ·refine uA rfl (uW k3 ?_)
  refine sK fun _ k5 => rL (uM rfl ?_)
  refine uG (.bool false) rfl (ex_neq rfl rfl rfl (by decide)) (uW k5 ?_)
  refine cF rfl (kS ?_)
  refine tK k2 (sK fun _ k6 => ?_)
  refine sK fun _ k7 => rL (uM rfl ?_)
  refine uG (vI (ks.length : Int)) rfl (ex_len0 Tryz.underlying23 rfl rfl) (uM rfl ?_)
  refine uW k7 (bB ?_)
  gi_loopw [16] (fun x16 wr => ∃ (i : Nat) (es1 : List (List UInt8 × Value)), x16 = vI i ∧ i ≤ ks.length ∧ VM B es1 (delM M (ks.take i)) ∧ Inv B (Res.cell t [vP m, vI 0, vI clk, .bool false, .map (some wb)] 141 :: Res.cell m [vP s, sv, vI clk, .slice va 1 vc] 92 :: Res.row 52 1 (.slice va 1 vc) 1 [vP t] :: Res.vmap wb es1 :: Res.cell s [vP p, vI 0, vI 0] 96 :: Res.cell p [vN, vI 0] 138 :: H) wr) (fun x16 _ => ks.length - (intOf x16).toNat)
  case atStart => exact ⟨0, es, rfl, Nat.zero_le _, hM, ((((((hv.front 5 rfl).front 5 rfl).front 5 rfl).front 5 rfl).front 5 rfl).front 5 rfl)⟩
  case round =>
   obtain ⟨i, es1, rfl, hi, hM1, hv⟩ := hrel
   refine sK fun _ k9 => rL ?_
   by_cases hb10 : (i : Int) < (ks.length : Int)
   ·refine uG (.bool true) rfl (ex_lss rfl rfl rfl (qT hb10)) (uW k9 ?_)
    refine sK fun _ k11 => cT rfl (kS ?_)
    refine tK k11 (sK fun _ k12 => ?_)
    refine bB (sK fun _ k13 => ?_)
    obtain ⟨x, hx⟩ : ∃ x, ks[i]? = some x := ⟨_, List.getElem?_eq_getElem (show i < ks.length by omega)⟩
    obtain ⟨bb, bo, had, hrdx⟩ := text_reads hr hx
    subst had
    refine rL (uG (.pointer (some ⟨bb, bo + i, none⟩)) rfl (ex_index rfl rfl rfl (run_idx1 (k := i) Tryz.underlying23 s9es23 (by omega))) ?_)
    refine uL _ rfl (run_load1 s9na9 (hrdx _ _ _ (Base.Le.refl _) no_res hv 0 _ rfl)) (uA rfl ?_)
    refine uW k13 (rL ?_)
    refine uM rfl ?_
    refine uG (vP t) rfl (ex_nil rfl rfl) ?_
    refine uF (.pointer (some ⟨t, 4, none⟩)) rfl (x2fa141_4 _ _ _) ?_
    refine uL _ rfl (run_load1 x2na139 (hv.load 0 4 rfl rfl)) (uM rfl ?_)
    refine uG (.agg #[vI 0, .bool true, vI 0, vI 0, vS [], vN, vN, vN]) rfl (ex_buildN (vs := #[(1, .bool true)]) rfl (by simp only [List.map_toArray, List.map_cons, List.map_nil]; rfl) (by kernel_rfl)) ?_
    replace hv := hv.front 3 rfl
    simp only [eS, eZ] at hv
    refine sl_updV (k := x) (v := .agg #[vI 0, .bool true, vI 0, vI 0, vS [], vN, vN, vN]) tV (wn rfl) rfl rfl rfl rfl Tryz.underlying139 Tryz.underlying9 hv (fun w14 hv => ?_)
    refine uZ (bN ?_)
    refine tK k12 (rL ?_)
    refine uG (vI ((i + 1 : Nat) : Int)) rfl (ex_add rfl rfl rfl (by rw [i64_in (by omega)]; omega)) (uM rfl ?_)
    refine uZ (then_normal ?_)
    go_roundw
    case rel => exact ⟨i + 1, _, rfl, by omega, by rw [delM_next hx]; exact VM.upd (x := gver) (gver_at _) hM1, ((((((hv.front 5 rfl).front 5 rfl).front 2 rfl).front 5 rfl).front 5 rfl).front 5 rfl)⟩
    case measure => show ks.length - (((i + 1 : Nat) : Int)).toNat < ks.length - ((i : Int)).toNat; omega
   refine uG (.bool false) rfl (ex_lss rfl rfl rfl (qF hb10)) (uW k9 ?_)
   refine sK fun _ k15 => cF rfl (xE ?_)
   refine tX (tX ?_)
   refine bH (tK k6 ?_)
   refine sK fun _ k16 => rL (uA rfl ?_)
   refine uW k16 (rR ?_)
   refine bR rfl rfl ?_
   obtain rfl : i = ks.length := by omega
   rw [List.take_length] at hM1
   exact ⟨_, 0, rfl, .inl ⟨rfl, hk, hM1⟩, Inv.star (K := txL _ _ _ _ _ _ _ _ _ _) (((((((hv.front 5 rfl).front 5 rfl).front 5 rfl).front 5 rfl).front 5 rfl).front 5 rfl))⟩
 refine uA rfl (uW k3 ?_)
 refine sK fun _ k17 => rL (uM rfl ?_)
 refine uG (.bool true) rfl (ex_neq rfl rfl rfl (by decide)) (uW k17 ?_)
 refine cT rfl (sK fun _ k18 => ?_)
 refine rL (uM rfl ?_)
 refine uA rfl (uW k18 ?_)
 refine rR (tR ?_)
 refine bR rfl rfl (⟨_, 2, rfl, .inr ⟨rfl, hk, rfl⟩, Inv.star (K := txL _ _ _ _ _ _ _ _ _ _) (((((((hv.front 5 rfl).front 5 rfl).front 5 rfl).front 5 rfl).front 5 rfl).front 5 rfl))⟩)
end Go.Proofs.YtmpackidbgfoiaaGreatDoor
