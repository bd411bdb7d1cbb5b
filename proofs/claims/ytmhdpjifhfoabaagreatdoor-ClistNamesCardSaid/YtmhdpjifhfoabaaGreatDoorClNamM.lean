/- ClistNames: the law's walk. -/
import Derived.Test.YtmhdpjifhfoabaaGreatDoorClNamB
import Derived.Test.YtmhdpjifhfoabaaGreatDoorClNamL
import Derived.Test.YtmhdpjifhfoabaaGreatDoorRows
import Derived.Test.YtmhdpjifhfoabaaGreatDoorClNamH
import Derived.Lib.LaidTab
import Derived.LaidSub
import Derived.Lib.ItoaNum
import Derived.Deep.LoopGhost
import Derived.Test.YtmhdpjifhfoabaaGreatDoorClNamE
import Derived.Lib.ParseIntBTie
set_option maxRecDepth 100000
set_option maxHeartbeats 16000000
set_option synthInstance.maxSize 4096
set_option synthInstance.maxHeartbeats 400000
namespace Go.Proofs.YtmhdpjifhfoabaaGreatDoor
open Go.RowKit Go.Pm
theorem gRefNames (B : Base) (H : List Res) (w : World) (hv : Inv B H w) :
  Calls Tryz.prog 11 #[] w fun e w' => ∃ C na nc, B.Le C ∧ e = .returned (.slice na gNames.length nc) ∧ RdV C [] na (textCells gNames) ∧ SliceOk na gNames.length nc ∧ Inv C H w' := by
 refine cW Tryz.func11 rfl Tryz.ntmps11 ?_
 simp only [al]
 refine sK fun _ k1 => rL (uA rfl ?_)
 refine uW k1 (sK fun _ k2 => ?_)
 refine rL (sl_rowN (pv := #[(0, vS [76, 73, 78, 68, 69, 88]), (1, vS [76, 73, 78, 83, 69, 82, 84]), (2, vS [76, 76, 69, 78]), (3, vS [76, 77, 79, 86, 69]), (4, vS [76, 77, 80, 79, 80]), (5, vS [76, 80, 79, 80]), (6, vS [76, 80, 79, 83]), (7, vS [76, 80, 85, 83, 72]), (8, vS [76, 80, 85, 83, 72, 88]), (9, vS [76, 82, 65, 78, 71, 69]), (10, vS [76, 82, 69, 77]), (11, vS [76, 83, 69, 84]), (12, vS [76, 84, 82, 73, 77]), (13, vS [82, 80, 79, 80]), (14, vS [82, 80, 79, 80, 76, 80, 85, 83, 72]), (15, vS [82, 80, 85, 83, 72]), (16, vS [82, 80, 85, 83, 72, 88])]) (L := [vS [76, 73, 78, 68, 69, 88], vS [76, 73, 78, 83, 69, 82, 84], vS [76, 76, 69, 78], vS [76, 77, 79, 86, 69], vS [76, 77, 80, 79, 80], vS [76, 80, 79, 80], vS [76, 80, 79, 83], vS [76, 80, 85, 83, 72], vS [76, 80, 85, 83, 72, 88], vS [76, 82, 65, 78, 71, 69], vS [76, 82, 69, 77], vS [76, 83, 69, 84], vS [76, 84, 82, 73, 77], vS [82, 80, 79, 80], vS [82, 80, 79, 80, 76, 80, 85, 83, 72], vS [82, 80, 85, 83, 72], vS [82, 80, 85, 83, 72, 88]]) (e := 9) tV (wn rfl) rfl (by simp only [List.map_toArray, List.map_cons, List.map_nil]; rfl) hv (fun w => by kernel_rfl) (fun b3 w4 hv => ?_))
 refine uA rfl (uW k2 ?_)
 refine rR (bR rfl rfl ?_)
 obtain ⟨C, hC, hv, hr, hok, -⟩ := (hv.cellRow (n := 17) (c := 17) (size := 1) rfl (by decide) (by decide)).rowBy
 exact ⟨C, _, _, hC, rfl, hr, hok, hv⟩
theorem jDcallable6 : Callable Tryz.prog 6 := cb Tryz.func6 (by kernel_rfl)
theorem jDcallable11 : Callable Tryz.prog 11 := cb Tryz.func11 (by kernel_rfl)
theorem jDal28 : AL Tryz.prog 28 [vI 0, vS [], vI 0, vN] := fun w => by kernel_rfl
theorem jDcallable14 : Callable Tryz.prog 14 := cb Tryz.func14 (by kernel_rfl)
theorem jDcallable13 : Callable Tryz.prog 13 := cb Tryz.func13 (by kernel_rfl)
theorem jDcallable193 : Callable Tryz.prog 193 := cb Tryz.func193 (by kernel_rfl)
theorem lawNamesMain (B : Base) (H : List Res) (w : World) (name : List UInt8) (aa : Option Addr) (ac : Nat) (args : List (List UInt8)) (hra : RdV B [] aa (textCells args)) (hoka : SliceOk aa args.length ac) (hxl : ∀ x ∈ args, x.length ≤ 9223372036854775807) (hN : NumB B) (hv : Inv B H w) :
  Calls Tryz.prog 4 #[vS name, .slice aa args.length ac] w fun e w' => e = .returned (.bool true) ∧ Inv B H w' := by
 refine cW Tryz.func4 rfl Tryz.ntmps4 ?_
 simp only [al]
 refine sK fun _ k1 => rL (uA rfl ?_)
 refine uW k1 (sK fun _ k2 => ?_)
 refine sK fun _ k3 => rL (xC jDcallable6 rfl ((gAwake B _ _ (hN.more (Base.Le.refl _)) hv).mono ?_) rfl)
 rintro e w4 ⟨rfl, hv⟩
 refine ⟨_, rfl, uG (.bool false) rfl (ex_not rfl rfl rfl) ?_⟩
 refine uM rfl ?_
 refine uM rfl ?_
 refine uG (vI (name.length : Int)) rfl (ex_lenStr Tryz.underlying9 rfl rfl) ?_
 by_cases hb5 : (name.length : Int) > 50
 ·refine uG (.bool true) rfl (ex_gtr rfl rfl rfl (qT hb5)) (uK rfl ?_)
  refine uM rfl ?_
  iterate 3 refine uP rfl ?_
  refine uK rfl (uW k3 ?_)
  refine cT rfl (sK fun _ k6 => ?_)
  refine rL (xC jDcallable6 rfl ((gAwake B _ _ (hN.more (Base.Le.refl _)) hv).mono ?_) rfl)
  rintro e w7 ⟨rfl, hv⟩
  refine ⟨_, rfl, uA rfl ?_⟩
  refine uW k6 (rR ?_)
  refine tR (bR rfl rfl ?_)
  exact ⟨rfl, (hv).weak (Base.Le.refl _)⟩
 refine uG (.bool false) rfl (ex_gtr rfl rfl rfl (qF hb5)) (uK rfl ?_)
 refine uM rfl ?_
 refine uM rfl ?_
 refine uG (vI (args.length : Int)) rfl (ex_len0 Tryz.underlying22 rfl rfl) ?_
 by_cases hb8 : (args.length : Int) > 10
 ·refine uG (.bool true) rfl (ex_gtr rfl rfl rfl (qT hb8)) (uK rfl ?_)
  refine uW k3 (cT rfl ?_)
  refine sK fun _ k9 => rL (xC jDcallable6 rfl ((gAwake B _ _ (hN.more (Base.Le.refl _)) hv).mono ?_) rfl)
  rintro e w10 ⟨rfl, hv⟩
  refine ⟨_, rfl, uA rfl ?_⟩
  refine uW k9 (rR ?_)
  refine tR (bR rfl rfl ?_)
  exact ⟨rfl, (hv).weak (Base.Le.refl _)⟩
 refine uG (.bool false) rfl (ex_gtr rfl rfl rfl (qF hb8)) (uK rfl ?_)
 refine uW k3 (cF rfl ?_)
 refine kS (tK k2 ?_)
 refine sK fun _ k11 => rL (xC jDcallable11 rfl ((gRefNames B _ _ hv).mono ?_) rfl)
 rintro e w12 ⟨C, na, nc, hC, rfl, hrn, hokn, hv⟩
 refine ⟨_, rfl, uA rfl ?_⟩
 refine uW k11 (sK fun _ k13 => ?_)
 refine rL (uA rfl ?_)
 refine uW k13 (sK fun _ k14 => ?_)
 refine sK fun _ k15 => rL (uA rfl ?_)
 refine uW k15 (bB ?_)
 gi_loopw [6, 7] (fun x6 x7 wr => ∃ (i : Nat) (b : Bool), x6 = .bool b ∧ x7 = vI i ∧ i ≤ gNames.length ∧ (b = true ↔ name ∈ gNames.take i) ∧ Inv C (H) wr) (fun x6 x7 _ => gNames.length - (intOf x7).toNat)
 case atStart => exact ⟨0, false, rfl, rfl, Nat.zero_le _, ⟨fun h => (by cases h), fun h => (by cases h)⟩, hv⟩
 case round =>
  obtain ⟨i, b, rfl, rfl, hi, hb, hv⟩ := hrel
  have hnl := gNames_len
  refine sK fun _ k17 => sK fun _ k18 => rL (uM rfl ?_)
  refine uM rfl ?_
  refine uG (vI (gNames.length : Int)) rfl (ex_len0 Tryz.underlying22 rfl rfl) ?_
  by_cases hb19 : (i : Int) < (gNames.length : Int)
  ·refine uG (.bool true) rfl (ex_lss rfl rfl rfl (qT hb19)) (uW k18 ?_)
   refine cT rfl (kS ?_)
   refine tK k17 (sK fun _ k20 => ?_)
   refine bB ?_
   obtain ⟨x, hx⟩ : ∃ x, gNames[i]? = some x := ⟨_, List.getElem?_eq_getElem (show i < gNames.length by omega)⟩
   obtain ⟨nb, no, had, hrdx⟩ := text_reads hrn hx
   subst had
   refine rL (uM rfl ?_)
   refine uM rfl ?_
   cases b
   ·refine uM rfl ?_
    refine uM rfl ?_
    refine uG (.pointer (some ⟨nb, no + i, none⟩)) rfl (ex_index rfl rfl rfl (run_idx1 (k := i) Tryz.underlying22 s9es22 (by omega))) ?_
    refine uL _ rfl (run_load1 s9na9 (hrdx _ _ _ (Base.Le.refl _) no_res hv 0 _ rfl)) ?_
    refine uM rfl ?_
    by_cases hb21 : x = name
    ·refine uG (.bool true) rfl (ex_seql rfl rfl rfl (qT hb21)) (uK rfl ?_)
     refine uA rfl (uZ ?_)
     refine bN (tK k20 ?_)
     refine rL (uM rfl ?_)
     refine uG (vI ((i + 1 : Nat) : Int)) rfl (ex_add rfl rfl rfl (by rw [i64_in (by omega)]; omega)) (uA rfl ?_)
     refine uZ (then_normal ?_)
     go_roundw
     case rel => exact ⟨i + 1, true, rfl, rfl, by omega, by rw [take_next hx, List.mem_append]; exact ⟨fun _ => .inr (by rw [List.mem_singleton]; exact hb21.symm), fun _ => rfl⟩, hv⟩
     case measure => show gNames.length - (((i + 1 : Nat) : Int)).toNat < gNames.length - ((i : Int)).toNat; omega
    refine uG (.bool false) rfl (ex_seql rfl rfl rfl (qF hb21)) (uK rfl ?_)
    refine uA rfl (uZ ?_)
    refine bN (tK k20 ?_)
    refine rL (uM rfl ?_)
    refine uG (vI ((i + 1 : Nat) : Int)) rfl (ex_add rfl rfl rfl (by rw [i64_in (by omega)]; omega)) (uA rfl ?_)
    refine uZ (then_normal ?_)
    go_roundw
    case rel => exact ⟨i + 1, false, rfl, rfl, by omega, by rw [take_next hx, List.mem_append]; exact ⟨fun h9 => (by cases h9), fun h9 => h9.elim (fun h8 => hb.2 h8) (fun h8 => absurd (List.mem_singleton.1 h8).symm hb21)⟩, hv⟩
    case measure => show gNames.length - (((i + 1 : Nat) : Int)).toNat < gNames.length - ((i : Int)).toNat; omega
   iterate 6 refine uP rfl ?_
   refine uK rfl (uA rfl ?_)
   refine uZ (bN ?_)
   refine tK k20 (rL ?_)
   refine uM rfl ?_
   refine uG (vI ((i + 1 : Nat) : Int)) rfl (ex_add rfl rfl rfl (by rw [i64_in (by omega)]; omega)) (uA rfl ?_)
   refine uZ (then_normal ?_)
   go_roundw
   case rel => exact ⟨i + 1, true, rfl, rfl, by omega, by rw [take_next hx, List.mem_append]; exact ⟨fun _ => .inl (hb.1 rfl), fun _ => rfl⟩, hv⟩
   case measure => show gNames.length - (((i + 1 : Nat) : Int)).toNat < gNames.length - ((i : Int)).toNat; omega
  refine uG (.bool false) rfl (ex_lss rfl rfl rfl (qF hb19)) (uW k18 ?_)
  refine cF rfl (xE ?_)
  refine tX (tX ?_)
  refine bH (tK k14 ?_)
  refine sK fun _ k22 => rL ?_
  obtain rfl : i = gNames.length := by omega
  rw [List.take_length] at hb
  refine xC jCcallable7 rfl ((lawOpened C _ _ 0 (by omega) (by omega) hv).mono ?_) rfl
  rintro e w23 ⟨v, t, m, s, p, wb, va, vc, sv, rfl, hv⟩
  refine ⟨_, rfl, uA rfl ?_⟩
  refine uW k22 (sK fun _ k24 => ?_)
  refine rL (uM rfl ?_)
  refine uM rfl (uM rfl ?_)
  replace hv := hv.front 1 rfl
  simp only [eS, eZ] at hv
  replace hv := hv.front 1 rfl
  simp only [eS, eZ] at hv
  refine xC jCcallable12 rfl ((gDo C _ _ v t m s p wb va vc sv 0 [] [] (show VM C [] [] from trivial) OkM.nil aa ac args (hra.more hC (fun _ h => h)) hoka (by omega) name hxl (.inr rfl) (hN.more hC) hv).mono ?_) rfl
  rintro e w25 ⟨D, es', M', r, cs, ok, hD, rfl, hrp, hM', hcmd, hok, hno, -, hv⟩
  refine ⟨_, rfl, ?_⟩
  obtain ⟨rk, rs, rn, rv, rfl⟩ := rp_parts hrp
  by_cases hnm : name ∈ gNames
  ·obtain rfl : ok = true := hok.2 hnm
   obtain rfl : b = true := hb.2 hnm
   refine uM rfl (uE rfl ?_)
   refine uE rfl ?_
   refine sl_alloc tV (wn rfl) rfl hv jDal28 (fun b26 w27 hv => ?_)
   simp only [zP, po]
   refine xS 0 rfl hv rssz28 rfl (by exact ⟨rfl, rfl, rfl, hrp.lv.2, trivial⟩) (fun w28 hv => ?_)
   simp only [zO, sp] at hv
   refine uA rfl (uW k24 ?_)
   refine sK fun _ k29 => sK fun _ k30 => rL (uM rfl ?_)
   refine uM rfl ?_
   iterate 4 refine uP rfl ?_
   refine uK rfl (uW k30 ?_)
   refine cT rfl (sK fun _ k31 => ?_)
   refine rL (uM rfl ?_)
   refine uM rfl ?_
   refine uM rfl (uK rfl ?_)
   refine uA rfl (uW k31 ?_)
   refine rR (tR ?_)
   refine bR rfl rfl (⟨rfl, ((hv.kp [] 0 3)).weak (hC.trans hD)⟩)
  obtain rfl : ok = false := Bool.eq_false_iff.2 fun h9 => hnm (hok.1 h9)
  obtain rfl : b = false := Bool.eq_false_iff.2 fun h9 => hnm (hb.1 h9)
  obtain ⟨rfl, rfl⟩ := hno rfl
  refine uM rfl (uE rfl ?_)
  refine uE rfl ?_
  refine sl_alloc tV (wn rfl) rfl hv jDal28 (fun b32 w33 hv => ?_)
  simp only [zP, po]
  refine xS 0 rfl hv rssz28 rfl (by exact ⟨rfl, rfl, rfl, hrp.lv.2, trivial⟩) (fun w34 hv => ?_)
  simp only [zO, sp] at hv
  refine uA rfl (uW k24 ?_)
  refine sK fun _ k35 => sK fun _ k36 => rL (uM rfl ?_)
  refine uM rfl ?_
  refine xC jDcallable14 rfl ((gNamesC D _ _ hv).mono ?_) rfl
  rintro e w37 ⟨E, pa, pc, hE, rfl, hrq, -, hv⟩
  refine ⟨_, rfl, ?_⟩
  refine uM rfl ?_
  refine xC jDcallable13 rfl ((refWords E _ _ pa na pc nc gNames hrq (hrn.more (hD.trans hE) (fun _ h => h)) (by decide) hv).mono ?_) rfl
  rintro e w38 ⟨rfl, hv⟩
  refine ⟨_, rfl, uG (.bool false) rfl (ex_not rfl rfl rfl) ?_⟩
  refine uK rfl (uW k36 ?_)
  refine cF rfl (kS ?_)
  refine tK k35 (sK fun _ k39 => ?_)
  refine rL (uM rfl ?_)
  refine uG (.bool true) rfl (ex_not rfl rfl rfl) (uM rfl ?_)
  refine uL (.agg #[vI rk, vS rs, vI rn, rv]) rfl (lM 0 rswd28 hv rfl rfl rfl rfl) ?_
  refine uG (.agg #[vI 0, vS [], vI 0, vN]) rfl (ex_buildN (vs := #[]) rfl (by simp only [List.map_toArray, List.map_nil]) (by kernel_rfl)) ?_
  refine xC l0callable9 rfl (((sameR_leaf (B := E) (k := 0) (s := []) (n := 0)) _ _ (rpCells rk rs rn rv) (rpCells 0 [] 0 (vN)) (hrp.more hE) rpAt_leaf hv).mono ?_) rfl
  rintro e w40 ⟨rfl, hv⟩
  refine ⟨_, rfl, uK rfl ?_⟩
  refine uM rfl ?_
  refine uM rfl ?_
  refine uG (vP v) rfl (ex_nil rfl rfl) ?_
  refine uF (vP v) rfl (v1fa36_0 _ _ _) ?_
  refine uL _ rfl (run_load1 v1na34 (hv.load 1 0 rfl rfl)) ?_
  replace hv := hv.front 2 rfl
  simp only [eS, eZ] at hv
  refine wpi_callI jDcallable193 tV wideC rfl (wanted_of (j := 7) (d := 66) (b := true) rfl rfl rfl) rfl rfl (r := vP t) (fun w => by kernel_rfl) (args := #[]) (by simp only [List.map_toArray, List.map_nil]) ((txnNamesB E _ _ t m s p wb va vc sv 0 es' [] (hM'.more hE) (fun k h => by cases h) (Nat.zero_le _) hv).mono ?_)
  rintro e w41 ⟨P, qa, qc, hP, rfl, -, hv⟩
  refine ⟨_, rfl, uG (vI (((namesT [] 0).length) : Int)) rfl (ex_len0 Tryz.underlying22 rfl rfl) ?_⟩
  refine uG (.bool true) rfl (ex_eql rfl rfl rfl (qT (by simp [namesT]))) (uK rfl ?_)
  refine uA rfl (uW k39 ?_)
  refine rR (bR rfl rfl ?_)
  exact ⟨rfl, ((hv.kp [] 0 3)).weak (((hC.trans hD).trans hE).trans hP)⟩
end Go.Proofs.YtmhdpjifhfoabaaGreatDoor
namespace Go.Pm
open Go.RowKit
def All2 {α β : Type} (R : α → β → Prop) : List α → List β → Prop
 | [], [] => True
 | a :: k, b :: l => R a b ∧ All2 R k l
 | _, _ => False
theorem rep_rowAux {W : World} {S : Nat → Prop} {t : Ty} {a : Option Addr} : ∀ (l : List t.den) (k : Nat), (∀ i (h : i < l.length), ∃ b off xs, a = some ⟨b, off, none⟩ ∧ S b ∧ xs.length = t.size ∧ (∀ j (h : j < xs.length), W.cell? ⟨b, off + (k + i) * t.size + j, none⟩ = some xs[j]) ∧ Rep W S t xs l[i]) →
  ∃ xss : List (List Value), All2 (fun xs d => xs.length = t.size ∧ Rep W S t xs d) xss l ∧ ∀ j (h : j < xss.flatten.length), ∃ b off, a = some ⟨b, off, none⟩ ∧ W.cell? ⟨b, off + k * t.size + j, none⟩ = some xss.flatten[j]
 | [], k, _ => ⟨[], trivial, fun j h => by simp at h⟩
 | d :: l, k, h => by
  obtain ⟨xss, h1, h2⟩ := rep_rowAux l (k + 1) (fun i hi => by
   obtain ⟨b, off, xs, e1, e2, e3, e4, e5⟩ := h (i + 1) (by simpa using hi)
   refine ⟨b, off, xs, e1, e2, e3, fun j hj => ?_, e5⟩
   rw [show k + 1 + i = k + (i + 1) by omega]
   exact e4 j hj)
  obtain ⟨b, off, xs, e1, e2, e3, e4, e5⟩ := h 0 (by simp)
  refine ⟨xs :: xss, ⟨⟨e3, e5⟩, h1⟩, fun j hj => ?_⟩
  rcases Nat.lt_or_ge j xs.length with hx | hx
  ·refine ⟨b, off, e1, ?_⟩
   have := e4 j hx
   rw [Nat.add_zero] at this
   rw [this]
   simp only [List.flatten_cons]
   rw [List.getElem_append_left hx]
  have hj' : j - xs.length < xss.flatten.length := by
   simp only [List.flatten_cons, List.length_append] at hj
   omega
  obtain ⟨b', off', f1, f2⟩ := h2 (j - xs.length) hj'
  refine ⟨b', off', f1, ?_⟩
  rw [show off' + k * t.size + j = off' + (k + 1) * t.size + (j - xs.length) by rw [Nat.succ_mul]; omega, f2]
  simp only [List.flatten_cons]
  rw [List.getElem_append_right hx]
theorem rep_row {W : World} {S : Nat → Prop} {t : Ty} {cs : List Value} {l : List t.den} (h : Rep W S (.slice t) cs l) :
  ∃ a cap xss, cs = [.slice a l.length cap] ∧ SliceOk a l.length cap ∧ RdV (Base.of W) [] a xss.flatten ∧ All2 (fun xs d => xs.length = t.size ∧ Rep W S t xs d) xss l := by
 obtain ⟨a, cap, h1, h2, h4⟩ := h
 obtain ⟨xss, h5, h6⟩ := rep_rowAux (t := t) l 0 (fun i hi => by
  obtain ⟨b, off, xs, e1, e2, e3, e4, e5⟩ := h4 i hi
  refine ⟨b, off, xs, e1, e2, e3, fun j hj => ?_, e5⟩
  rw [Nat.zero_add]
  exact e4 j hj)
 refine ⟨a, cap, xss, h1, h2, rdV_of W fun j hj => ?_, h5⟩
 obtain ⟨b, off, f1, f2⟩ := h6 j hj
 exact ⟨b, off, f1, by rw [← f2, Nat.zero_mul, Nat.add_zero]⟩
theorem rep_texts {W : World} {S : Nat → Prop} : ∀ {xss : List (List Value)} {l : List (List UInt8)}, All2 (fun xs (d : Ty.str.den) => xs.length = Ty.str.size ∧ Rep W S .str xs d) xss l → xss.flatten = textCells l
 | [], [], _ => rfl
 | xs :: xss, d :: l, ⟨⟨h1, h2⟩, h⟩ => by
  have := rep_texts h
  match xs, h1 with
  | [x0], _ =>
   obtain ⟨k1, _⟩ := h2
   have k1' : [x0] = _ := k1
   simp only [List.cons.injEq, and_true] at k1'
   subst k1'
   simp only [List.flatten_cons, this, textCells, List.map_cons]
   rfl
end Go.Pm
namespace Go.Proofs.YtmhdpjifhfoabaaGreatDoor
open Go
theorem tabOf {W : World} {l : List (String × DataW Unit)} (hl : l.filter (fun x => x.1 == "internal/strconv.uint64pow10") = [("internal/strconv.uint64pow10", Lib.tabData .u64 Lib.pow10Tab)]) (hL : laidMetH Tryz.prog l W) : Lib.TabIs Tryz.prog W "internal/strconv.uint64pow10" .u64 Lib.pow10Tab := by
 have h := hL.filter (fun x => x.1 == "internal/strconv.uint64pow10")
 rw [hl] at h
 have h2 := (laidMetH_iff.1 h).1
 have e : ([("internal/strconv.uint64pow10", (Lib.tabData .u64 Lib.pow10Tab : DataW Unit))].filter fun x => x.2.handleName?.isNone) = [("internal/strconv.uint64pow10", Lib.tabData .u64 Lib.pow10Tab)] := by kernel_rfl
 rw [e] at h2
 exact Lib.tabIs_of_head (g := 2) (t := 243) (e := 214) (n := 20) (by kernel_rfl) (by kernel_rfl) Tryz.underlying243 Tryz.underlying214 (by kernel_rfl) (by kernel_rfl) h2
open Go.RowKit Go.Pm
theorem parsesAny (B : Base) (H : List Res) (h1 : HasErr B 0) (h2 : HasErr B 1) : ParsesAny B H := fun w s hs hv => by
 obtain ⟨t1, v1, h1⟩ := h1
 obtain ⟨t2, v2, h2⟩ := h2
 have c1 := h1 B H w (Base.Le.refl _) hv
 have c2 := h2 B H w (Base.Le.refl _) hv
 have hmax : (ByteArray.mk s.toArray).size ≤ 20 := by show s.toArray.size ≤ 20; simpa using hs
 cases hp : Lib.parseIntB 64 s
 case ok n =>
  have hb := Lib.parseIntB_bounds hp
  have h : Calls Tryz.prog 107 #[vS s, vI 10, vI 64] w _ := Any.strconv_ParseInt_10_at64_ok Tryz.laysPI ⟨s.toArray⟩ (by omega) n hp w
  refine h.mono ?_
  rintro e w' ⟨rfl, hw⟩
  refine ⟨n, .nilIface, rfl, .inl rfl, by omega, fun m m0 m1 e9 => ⟨rfl, ?_⟩, ?_⟩
  ·rw [e9, parse_itoa m m0 m1] at hp
   cases hp; rfl
  rcases hw with rfl | ⟨t, rfl⟩
  ·exact hv
  exact hv.ext (bytesWorld_ext w _ t)
 ·skip
  have h : Calls Tryz.prog 107 #[vS s, vI 10, vI 64] w _ := Any.strconv_ParseInt_10_at64_syntax Tryz.laysPI ⟨s.toArray⟩ (by omega) hp _ w c1 (.inr ⟨_, _, rfl⟩)
  refine h.mono ?_
  rintro e w' ⟨N, rfl, -, -, hx⟩
  refine ⟨0, _, rfl, .inr ⟨_, _, rfl⟩, by omega, fun m m0 m1 e9 => ?_, hv.ext hx⟩
  rw [e9, parse_itoa m m0 m1] at hp
  cases hp
 case range =>
  have h : Calls Tryz.prog 107 #[vS s, vI 10, vI 64] w _ := Any.strconv_ParseInt_10_at64_range Tryz.laysPI ⟨s.toArray⟩ (by omega) hp _ w c2 (.inr ⟨_, _, rfl⟩)
  refine h.mono ?_
  rintro e w' ⟨N, rfl, -, -, hx⟩
  refine ⟨_, _, rfl, .inr ⟨_, _, rfl⟩, ?_, fun m m0 m1 e9 => ?_, hv.ext hx⟩
  ·unfold Lib.intSat
   split <;> decide
  rw [e9, parse_itoa m m0 m1] at hp
  cases hp
theorem numB {W : World} {l : List (String × DataW Unit)} (hl0 : l.filter (fun x => x.1 == "internal/strconv.uint64pow10") = [("internal/strconv.uint64pow10", Lib.tabData .u64 Lib.pow10Tab)])
  {n1 n2 : String} {d1 d2 : DataW Unit} (hl1 : l.filter (fun x => x.1 == "strconv.ErrSyntax") = [("strconv.ErrSyntax", .iface n1 d1)]) (he1 : ([("strconv.ErrSyntax", (DataW.iface n1 d1 : DataW Unit))].filter fun x => x.2.handleName?.isNone) = [("strconv.ErrSyntax", .iface n1 d1)])
  (hl2 : l.filter (fun x => x.1 == "strconv.ErrRange") = [("strconv.ErrRange", .iface n2 d2)]) (he2 : ([("strconv.ErrRange", (DataW.iface n2 d2 : DataW Unit))].filter fun x => x.2.handleName?.isNone) = [("strconv.ErrRange", .iface n2 d2)]) (hL : laidMetH Tryz.prog l W) : NumB (Base.of W) := by
 have ht := tabOf hl0 hL
 obtain ⟨u1, v1, h1⟩ := errOf hl1 he1 (g := 0) (t := 192) (by kernel_rfl) (by kernel_rfl) Tryz.underlying192 hL
 obtain ⟨u2, v2, h2⟩ := errOf hl2 he2 (g := 1) (t := 192) (by kernel_rfl) (by kernel_rfl) Tryz.underlying192 hL
 exact fun C H hC => ⟨formatsInt C H W hC ht, parsesAny C H ((hasErr_of h1).more hC) ((hasErr_of h2).more hC)⟩
end Go.Proofs.YtmhdpjifhfoabaaGreatDoor
namespace Go.Pm
open Go.RowKit
theorem rep_textsM {W : World} {S : Nat → Prop} {cs : List Value} {l : List (List UInt8)} (h : Rep W S (.slice .str) cs l) : ∃ a c, cs = [.slice a l.length c] ∧ SliceOk a l.length c ∧ RdV (Base.of W) [] a (textCells l) ∧ ∀ x ∈ l, x.length ≤ 9223372036854775807 := by
 have hb : ∀ x ∈ l, x.length ≤ 9223372036854775807 := by
  obtain ⟨a, cap, h1, h2, h4⟩ := h
  intro x hx
  obtain ⟨i, hi, rfl⟩ := List.getElem_of_mem hx
  obtain ⟨b, off, xs, e1, e2, e3, e4, e5⟩ := h4 i hi
  exact e5.2
 obtain ⟨a, c, xss, h1, h2, h3, h4⟩ := rep_row h
 rw [rep_texts h4] at h3
 exact ⟨a, c, h1, h2, h3, hb⟩
end Go.Pm
namespace Go.Proofs.YtmhdpjifhfoabaaGreatDoor
open Go.RowKit Go.Pm
def laidAll : List (String × DataW Unit) := [("math/bits.deBruijn32tab", Rows.laid_math_bits_deBruijn32tab), ("math/bits.deBruijn64tab", Rows.laid_math_bits_deBruijn64tab), ("internal/strconv.uint64pow10", Rows.laid_internal_strconv_uint64pow10), ("strconv.ErrRange", Rows.laid_strconv_ErrRange), ("strconv.ErrSyntax", Rows.laid_strconv_ErrSyntax)]
abbrev dSyn : DataW Unit := .ptr (.agg [.lit (.string [105, 110, 118, 97, 108, 105, 100, 32, 115, 121, 110, 116, 97, 120])])
abbrev dRan : DataW Unit := .ptr (.agg [.lit (.string [118, 97, 108, 117, 101, 32, 111, 117, 116, 32, 111, 102, 32, 114, 97, 110, 103, 101])])
theorem numAll {W : World} (hL : laidMetH Tryz.prog laidAll W) : NumB (Base.of W) :=
 numB (l := laidAll) (n1 := "*errors.errorString") (d1 := dSyn) (n2 := "*errors.errorString") (d2 := dRan) (by kernel_rfl) (by kernel_rfl) (by kernel_rfl) (by kernel_rfl) (by kernel_rfl) hL
end Go.Proofs.YtmhdpjifhfoabaaGreatDoor
