/- Law 24: awake. -/
import Derived.Test.YtoljdfjnannakaaGreatDoorCsNamB
import Derived.Test.YtoljdfjnannakaaGreatDoorCsNamM
import Derived.Test.YtoljdfjnannakaaGreatDoorRows
import Derived.Test.YtoljdfjnannakaaGreatDoorCsNamE
import Derived.Laws.StructEq
import Derived.Test.YtoljdfjnannakaaGreatDoorCsNamD
import Derived.Test.YtoljdfjnannakaaGreatDoorCsNamH
import Derived.Test.YtoljdfjnannakaaGreatDoorCsNamG
import Derived.Sort.Walk0
import Derived.Test.YtoljdfjnannakaaGreatDoorCsNamC
import Derived.Lib.LaidTab
import Derived.LaidSub
import Derived.Lib.ItoaNum
import Derived.Deep.LoopGhost
import Derived.Test.YtoljdfjnannakaaGreatDoorCsNamF
import Derived.Lib.ParseIntBTie
set_option maxRecDepth 100000
namespace Go.Proofs.YtoljdfjnannakaaGreatDoor
open Go.RowKit Go.Pm
theorem rp_int {B : Base} {n : Int} {cs : List Value} (h : RpAt B (rInt n) cs) : ∃ v, cs = rpCells 2 [] n v := by
 simp only [rInt, RpAt] at h
 obtain ⟨v, xs, h1, -⟩ := h
 exact ⟨v, h1⟩
theorem rp_strs {B : Base} {l : List (List UInt8)} {cs : List Value} (h : RpAt B (rStrs l) cs) : ∃ a c, cs = rpCells 5 [] 0 (.slice a l.length c) := by
 simp only [rStrs, rList, RpAt] at h
 obtain ⟨v, xs, h1, ⟨a, c, rfl, -⟩, -⟩ := h
 exact ⟨a, c, by rw [h1, List.length_map]⟩
theorem vmNil (B : Base) : VM B [] [] := trivial
theorem all0 {p : List UInt8 → Prop} : ∀ x ∈ ([] : List (List UInt8)), p x := fun _ h => by cases h
theorem all1 {p : List UInt8 → Prop} {a : List UInt8} {l : List (List UInt8)} (h : p a) (t : ∀ x ∈ l, p x) : ∀ x ∈ a :: l, p x := fun x hx => (List.mem_cons.1 hx).elim (fun e => e ▸ h) (t x)
section
variable {M M' : List (List UInt8 × Ver)} {f : List UInt8 → List (List UInt8)} {k a b : List UInt8} {r : Rp}
theorem add_new {L : List (List UInt8)} (hL : SortedT L) (h1 : L.length ≤ 100) (h2 : ∀ x ∈ L, x.length ≤ 300) (hf : f k = []) : ∀ out n e, AddR (f k) L out n e → e = 0 ∧ JoinS (f k) L out ∧ n = (out.length : Int) - (f k).length ∧ SetOk out ∧ (¬ 0 < n → out = f k) := fun out n e ha => by
 rw [hf] at ha ⊢
 have same : ∀ j, JoinS [] L j → j = L := fun j hj => sorted_ext hj.1 hL fun z => by rw [hj.2]; simp
 rcases ha with ⟨-, -, -, z, h3, h4⟩ | ⟨-, j, hj, ⟨-, -, -, h3⟩ | ⟨h3, -, rfl, h4⟩⟩
 ·have := h2 z h3; omega
 ·rw [same j hj] at h3; omega
 have e9 := same _ hj
 refine ⟨h3, hj, h4, by rw [e9]; exact ok_of_bnd hL (by omega) h2, fun h9 => List.eq_nil_of_length_eq_zero ?_⟩
 simp only [List.length_nil] at h4
 omega
theorem g_adds (h : SeesS M f) (hk : k.length ≤ 256) {L : List (List UInt8)} (hL : SortedT L) (h1 : L.length ≤ 100) (h2 : ∀ x ∈ L, x.length ≤ 300) (hf : f k = []) (hd : ∃ k', (k :: L)[0]? = some k' ∧ ChangeR M 0 k' true ((k :: L).drop 1) M' r) : SeesS M' (setF f k L) ∧ r = rInt (L.length : Int) := by
 obtain ⟨k', e1, h3⟩ := hd
 cases e1
 obtain ⟨s, h4, h5, h6⟩ := change_of h hk h3 (add_new hL h1 h2 hf)
 rw [hf] at h5 h6
 have e2 : s = L := sorted_ext h5.1 hL fun z => by rw [h5.2]; simp
 subst e2
 exact ⟨h4, by rw [h6]; congr 1⟩
theorem g_diff (h : SeesS M f) (hd : M' = M ∧ ∃ out ec, CombR M 0 nSDIFF [a, b] out ec ∧ DoneR ec (rStrs out) r) : M' = M ∧ r = rStrs (diffS (f a) [f b]) := by
 obtain ⟨hM, out, ec, ⟨ss, e1, hs, h2⟩, hd⟩ := hd
 obtain ⟨rfl, rfl⟩ := sets_two h hs
 rcases h2 with ⟨h2, -⟩ | ⟨-, ⟨-, rfl, q, hq, ho⟩ | ⟨h2, -⟩ | ⟨h2, -⟩⟩
 ·exact absurd rfl h2
 ·cases hq
  exact ⟨hM, by rw [doneR0 hd rfl, ho]; rfl⟩
 ·exact absurd rfl h2
 exact absurd rfl h2
end
def wAw : List (List UInt8) := [[120], [121], [122]]
theorem wAw_sorted : SortedT wAw := by unfold SortedT wAw; decide
theorem w1_sorted : SortedT [[121]] := by unfold SortedT; decide
theorem w_diff : diffS wAw [[[121]]] = [[120], [122]] := by decide
theorem gAcallable7 : Callable Tryz.prog 7 := ⟨_, Tryz.func7, by kernel_rfl, by kernel_rfl⟩
theorem gAcallable11 : Callable Tryz.prog 11 := ⟨_, Tryz.func11, by kernel_rfl, by kernel_rfl⟩
theorem gAal28 (w : World) : (Instr.alloc 28 true (.tuple #[])).run Tryz.prog w = .ok (.pointer (some ⟨w.heap.size, 0, none⟩)) (w.alloc (.cells ([vI 0, vS [], vI 0, vN] : List Value).toArray 28)) := by kernel_rfl
theorem gAcallable17 : Callable Tryz.prog 17 := ⟨_, Tryz.func17, by kernel_rfl, by kernel_rfl⟩
set_option maxHeartbeats 8000000 in
theorem gAwake (B : Base) (H : List Res) (w : World) (hN : NumB B) (hv : Inv B H w) :
  Calls Tryz.prog 6 #[] w fun e w' => e = .returned (.bool true) ∧ Inv B H w' := by
 refine cW Tryz.func6 rfl Tryz.ntmps6 ?_
 simp only [al]
 refine sK fun _ k1 => rL (xA (.bool false) rfl ?_)
 simp only [zP, po]
 refine wK k1 (sK fun _ k2 => ?_)
 refine rL (xC gAcallable7 rfl ((lawOpened24 B _ _ 0 (by omega) (by omega) hv).mono ?_) rfl)
 rintro e w3 ⟨v, t, m, s, p, wb, va, vc, sv, rfl, hv⟩
 refine ⟨_, rfl, ?_⟩
 refine xA (vP v) rfl ?_
 simp only [zP, po]
 refine wK k2 (sK fun _ k4 => ?_)
 refine sK fun _ k5 => rL (xM (vP v) rfl ?_)
 refine xG (.bool false) rfl (ex_pisnil Tryz.underlying24 rfl rfl rfl rfl) ?_
 simp only [zP, po]
 refine wK k5 (cF rfl ?_)
 refine kS (tK k4 ?_)
 refine sK fun _ k6 => rL (xM (vP v) rfl ?_)
 refine sl_rowN (pv := #[(0, vS [97]), (1, vS [120]), (2, vS [121]), (3, vS [122])]) (L := [vS [97], vS [120], vS [121], vS [122]]) (e := 9) tV (wn rfl) rfl (by simp only [List.map_toArray, List.map_cons, List.map_nil]; rfl) hv (fun w => by kernel_rfl) (fun b7 w8 hv => ?_)
 obtain ⟨D9, hD9, hv, hrD9, hoD9, -⟩ := (hv.cellRow (n := 4) (c := 4) (size := 1) rfl (by decide) (by decide)).rowBy
 replace hv := hv.front 1 rfl
 simp only [eS, eZ] at hv
 replace hv := hv.front 1 rfl
 simp only [eS, eZ] at hv
 refine xC gAcallable11 rfl ((gDo D9 _ _ v t m s p wb va vc sv 0 [] [] ((vmNil B).more hD9) OkM.nil _ _ [([97] : List UInt8), ([120] : List UInt8), ([121] : List UInt8), ([122] : List UInt8)] hrD9 hoD9 (by decide) nSADD (all1 (by decide) (all1 (by decide) (all1 (by decide) (all1 (by decide) all0)))) (.inl (all1 (by decide) (all1 (by decide) (all1 (by decide) (all1 (by decide) all0))))) (hN.more hD9) hv).mono ?_) rfl
 rintro e w10 ⟨C1, es1, M1, r1, cs1, ok1, hC1, rfl, hrp1, hM1, ⟨hO1, -⟩, hok1, -, hrel1, hv⟩
 refine ⟨_, rfl, ?_⟩
 obtain rfl : ok1 = true := hok1.2 (by decide)
 obtain ⟨hS1, rfl⟩ := g_adds (L := wAw) SeesS.nil (by decide) wAw_sorted (by decide) (all1 (by decide) (all1 (by decide) (all1 (by decide) all0))) rfl ((hrel1 (by unfold GArgs; decide)).1 rfl)
 obtain ⟨v1, rfl⟩ := rp_int hrp1
 simp only [zP, po]
 refine xM (.tuple #[.agg #[vI 2, vS [], vI 3, v1], .bool true]) rfl (xG (.agg #[vI 2, vS [], vI 3, v1]) rfl (ex_extract rfl rfl rfl) ?_)
 refine xG (.bool true) rfl (ex_extract rfl rfl rfl) ?_
 simp only [zP, po]
 refine sl_alloc tV (wn rfl) rfl hv gAal28 (fun b11 w12 hv => ?_)
 refine xS 0 rfl hv rssz28 rfl (by exact ⟨rfl, rfl, rfl, hrp1.lv.2, trivial⟩) (fun w13 hv => ?_)
 simp only [zO, sp] at hv
 refine xA (.bool true) rfl ?_
 simp only [zP, po]
 refine wK k6 (sK fun _ k14 => ?_)
 refine rL (xM (vP v) rfl ?_)
 refine sl_rowN (pv := #[(0, vS [98]), (1, vS [121])]) (L := [vS [98], vS [121]]) (e := 9) tV (wn rfl) rfl (by simp only [List.map_toArray, List.map_cons, List.map_nil]; rfl) hv (fun w => by kernel_rfl) (fun b15 w16 hv => ?_)
 obtain ⟨D17, hD17, hv, hrD17, hoD17, -⟩ := (hv.cellRow (n := 2) (c := 2) (size := 1) rfl (by decide) (by decide)).rowBy
 replace hv := hv.front 2 rfl
 simp only [eS, eZ] at hv
 replace hv := hv.front 2 rfl
 simp only [eS, eZ] at hv
 refine xC gAcallable11 rfl ((gDo D17 _ _ v t m s p wb va vc sv 0 es1 M1 (hM1.more hD17) hO1 _ _ [([98] : List UInt8), ([121] : List UInt8)] hrD17 hoD17 (by decide) nSADD (all1 (by decide) (all1 (by decide) all0)) (.inl (all1 (by decide) (all1 (by decide) all0))) (hN.more ((hD9.trans hC1).trans hD17)) hv).mono ?_) rfl
 rintro e w18 ⟨C2, es2, M2, r2, cs2, ok2, hC2, rfl, hrp2, hM2, ⟨hO2, -⟩, hok2, -, hrel2, hv⟩
 refine ⟨_, rfl, ?_⟩
 obtain rfl : ok2 = true := hok2.2 (by decide)
 obtain ⟨hS2, rfl⟩ := g_adds (L := [[121]]) hS1 (by decide) w1_sorted (by decide) (all1 (by decide) all0) rfl ((hrel2 (by unfold GArgs; decide)).1 rfl)
 obtain ⟨v2, rfl⟩ := rp_int hrp2
 simp only [zP, po]
 refine xM (.tuple #[.agg #[vI 2, vS [], vI 1, v2], .bool true]) rfl (xG (.agg #[vI 2, vS [], vI 1, v2]) rfl (ex_extract rfl rfl rfl) ?_)
 refine xG (.bool true) rfl (ex_extract rfl rfl rfl) ?_
 simp only [zP, po]
 refine sl_alloc tV (wn rfl) rfl hv gAal28 (fun b19 w20 hv => ?_)
 refine xS 0 rfl hv rssz28 rfl (by exact ⟨rfl, rfl, rfl, hrp2.lv.2, trivial⟩) (fun w21 hv => ?_)
 simp only [zO, sp] at hv
 refine xA (.bool true) rfl ?_
 simp only [zP, po]
 refine wK k14 (sK fun _ k22 => ?_)
 refine rL (xM (vP v) rfl ?_)
 refine sl_rowN (pv := #[(0, vS [97]), (1, vS [98])]) (L := [vS [97], vS [98]]) (e := 9) tV (wn rfl) rfl (by simp only [List.map_toArray, List.map_cons, List.map_nil]; rfl) hv (fun w => by kernel_rfl) (fun b23 w24 hv => ?_)
 obtain ⟨D25, hD25, hv, hrD25, hoD25, -⟩ := (hv.cellRow (n := 2) (c := 2) (size := 1) rfl (by decide) (by decide)).rowBy
 replace hv := hv.front 2 rfl
 simp only [eS, eZ] at hv
 replace hv := hv.front 2 rfl
 simp only [eS, eZ] at hv
 refine xC gAcallable11 rfl ((gDo D25 _ _ v t m s p wb va vc sv 0 es2 M2 (hM2.more hD25) hO2 _ _ [([97] : List UInt8), ([98] : List UInt8)] hrD25 hoD25 (by decide) nSDIFF (all1 (by decide) (all1 (by decide) all0)) (.inl (all1 (by decide) (all1 (by decide) all0))) (hN.more ((((hD9.trans hC1).trans hD17).trans hC2).trans hD25)) hv).mono ?_) rfl
 rintro e w26 ⟨C3, es3, M3, r3, cs3, ok3, hC3, rfl, hrp3, hM3, ⟨hO3, -⟩, hok3, -, hrel3, hv⟩
 refine ⟨_, rfl, ?_⟩
 obtain rfl : ok3 = true := hok3.2 (by decide)
 obtain ⟨-, rfl⟩ := g_diff hS2 ((hrel3 (by unfold GArgs; decide)).2 rfl)
 rw [show diffS (setF (setF (fun _ => []) [97] wAw) [98] [[121]] [97]) [setF (setF (fun _ => []) [97] wAw) [98] [[121]] [98]] = [[120], [122]] from w_diff] at hrp3
 obtain ⟨a3, c3, rfl⟩ := rp_strs hrp3
 simp only [zP, po]
 refine xM (.tuple #[.agg #[vI 5, vS [], vI 0, .slice a3 2 c3], .bool true]) rfl (xG (.agg #[vI 5, vS [], vI 0, .slice a3 2 c3]) rfl (ex_extract rfl rfl rfl) ?_)
 refine xG (.bool true) rfl (ex_extract rfl rfl rfl) ?_
 simp only [zP, po]
 refine sl_alloc tV (wn rfl) rfl hv gAal28 (fun b27 w28 hv => ?_)
 refine xS 0 rfl hv rssz28 rfl (by exact ⟨rfl, rfl, rfl, rfl, trivial⟩) (fun w29 hv => ?_)
 simp only [zO, sp] at hv
 refine xA (.bool true) rfl ?_
 simp only [zP, po]
 refine wK k22 (sK fun _ k30 => ?_)
 refine rW mixed [19, 20, 21] [0,1,2,3,4,5,6,7,8,9,10,11,12,13,14,15,16,17,18,19,20,21,22,23] 52 rfl (by kernel_rfl) hv ?_
 simp only [qm, opAt]
 refine dM (.bool true) rfl (dM (.bool true) rfl ?_)
 refine dM (.bool true) rfl ?_
 simp only [zP, po]
 refine dK true (.bool true) rfl (dM (.bool true) rfl ?_)
 refine dM (.bool true) rfl ?_
 simp only [zP, po]
 refine dK true (.bool true) rfl (dM (.bool true) rfl ?_)
 refine dG (.pointer (some ⟨b11, 2, none⟩)) rfl (ex_field rfl rfl (c7fa28_2 _ _ _)) ?_
 simp only [zP, po]
 refine dL _ rfl (fun hv => ex_load rfl rfl (run_load1 s2na3 (hv.load 4 2 rfl rfl))) (dG (.bool true) rfl (ex_eql rfl rfl rfl (by decide)) ?_)
 refine dK true (.bool true) rfl ?_
 simp only [zP, po]
 refine dM (.bool true) rfl (dG (.pointer (some ⟨b19, 2, none⟩)) rfl (ex_field rfl rfl (c7fa28_2 _ _ _)) ?_)
 refine dL _ rfl (fun hv => ex_load rfl rfl (run_load1 s2na3 (hv.load 3 2 rfl rfl))) ?_
 simp only [zP, po]
 refine dG (.bool true) rfl (ex_eql rfl rfl rfl (by decide)) (dK true (.bool true) rfl ?_)
 refine dM (.bool true) rfl ?_
 simp only [zP, po]
 refine dF (.agg #[vI 5, vS [], vI 0, .slice a3 2 c3]) rfl (fun hv => ex_load rfl rfl (lM 0 rswd28 hv rfl rfl rfl rfl)) fun f31 hf31 => dS rfl fun w32 hv => mem_row2 (v1 := vS [120]) (v2 := vS [122]) (e := 9) rfl rfl rfl rfl hv (fun w => by kernel_rfl) (fun b33 w34 hv => ?_)
 refine dV hv (fC (fun ww hv => hf31 ww ?_) fN) ?_
 ·exact ex_load rfl rfl (lM 1 rswd28 hv rfl rfl rfl rfl)
 refine dS rfl fun w35 hv => ?_
 obtain ⟨D36, hD36, hv, hrD36, hoD36, -⟩ := (hv.cellRow (n := 2) (c := 2) (size := 1) rfl (by decide) (by decide)).rowBy
 refine mC gAcallable17 rfl ((ref20Strs D36 _ _ _ _ [([120] : List UInt8), ([122] : List UInt8)] hrD36 (by decide) hv).mono ?_) rfl
 rintro e w37 ⟨E, ve, hE, rfl, hrpE, hv⟩
 refine ⟨_, rfl, dV hv (fC (fun ww hv => hf31 ww ?_) fN) ?_⟩
 ·exact ex_load rfl rfl (lM 0 rswd28 hv rfl rfl rfl rfl)
 simp only [zP, po]
 refine dS rfl fun w38 hv => mC c7callable9 rfl (((sameR_strs (B := E) (l := [[120], [122]]) (by decide)) _ _ (rpCells 5 [] 0 (.slice a3 2 c3)) (rpCells 5 [] 0 ve) (hrp3.more (hD36.trans hE)) (hrpE.more (Base.Le.refl _)) hv).mono ?_) rfl
 rintro e w39 ⟨rfl, hv⟩
 refine ⟨_, rfl, dV hv (fK rfl fN) ?_⟩
 refine dK true (.bool true) rfl (dA (.bool true) rfl ?_)
 refine dE fun w40 hv => ?_
 simp only [zP, po]
 refine tK k30 (rR ?_)
 refine bR rfl rfl (⟨rfl, ((hv.kp [] 0 5)).weak (((((((hD9.trans hC1).trans hD17).trans hC2).trans hD25).trans hC3).trans hD36).trans hE)⟩)
end Go.Proofs.YtoljdfjnannakaaGreatDoor
/- The reference's view: Get, without, wrote, Del, Put, Names. -/
namespace Go.Proofs.YtoljdfjnannakaaGreatDoor
open Go.RowKit Go.Pm
def others (K : List KeyR) (name : List UInt8) : List KeyR := K.filter fun x => !decide (x.name = name)
end Go.Proofs.YtoljdfjnannakaaGreatDoor
/- Writes as the law's arguments hold them: how long the rows are is not yet known. -/
namespace Go.Pm
open Go.RowKit
section
variable {P : Program} {a : Act} {w : World} {o : Oper} {t u : TypeId} {x y : Operand}
end
end Go.Pm
/- The reference's Same of texts, pairs, members, values; Small; small. -/
namespace Go.Proofs.YtoljdfjnannakaaGreatDoor
open Go.RowKit Go.Pm
set_option maxHeartbeats 2000000 in
theorem refWords (B : Base) (H : List Res) (w : World) (ad ad' : Option Addr) (c c' : Nat) (l : List (List UInt8)) (hr : RdV B [] ad (textCells l)) (hr' : RdV B [] ad' (textCells l)) (hm : l.length ≤ 1000000) (hv : Inv B H w) :
  Calls Tryz.prog 12 #[.slice ad l.length c, .slice ad' l.length c'] w fun e w' => e = .returned (.bool true) ∧ Inv B H w' := by
 refine cW Tryz.func12 rfl Tryz.ntmps12 ?_
 simp only [al]
 refine sK fun _ k1 => rL (xA (.bool false) rfl ?_)
 simp only [zP, po]
 refine wK k1 (sK fun _ k2 => ?_)
 refine sK fun _ k3 => rL (xM (.slice ad l.length c) rfl ?_)
 refine xG (vI (l.length : Int)) rfl (ex_len0 Tryz.underlying22 rfl rfl) (xM (.slice ad' l.length c') rfl ?_)
 simp only [zP, po]
 refine xG (vI (l.length : Int)) rfl (ex_len0 Tryz.underlying22 rfl rfl) (xG (.bool false) rfl (ex_neq rfl rfl rfl (qF (fun h => h rfl))) ?_)
 simp only [zP, po]
 refine wK k3 (cF rfl ?_)
 refine kS (tK k2 ?_)
 refine sK fun _ k4 => sK fun _ k5 => rL (xA (vI 0) rfl ?_)
 simp only [zP, po]
 refine wK k5 (bB ?_)
 gi_loopw [5] (fun x5 wr => ∃ (i : Nat), x5 = vI i ∧ i ≤ l.length ∧ Inv B H wr) (fun x5 _ => l.length - (intOf x5).toNat)
 case atStart => exact ⟨0, rfl, Nat.zero_le _, hv⟩
 case round =>
  obtain ⟨i, rfl, hi, hv⟩ := hrel
  refine sK fun _ k7 => sK fun _ k8 => rL (xM (vI i) rfl ?_)
  refine xM (.slice ad l.length c) rfl (xG (vI (l.length : Int)) rfl (ex_len0 Tryz.underlying22 rfl rfl) ?_)
  simp only [zP, po]
  by_cases hb9 : (i : Int) < (l.length : Int)
  ·refine xG (.bool true) rfl (ex_lss rfl rfl rfl (qT hb9)) ?_
   simp only [zP, po]
   refine wK k8 (cT rfl ?_)
   refine kS (tK k7 ?_)
   refine sK fun _ k10 => bB (sK fun _ k11 => ?_)
   obtain ⟨x, hx⟩ : ∃ x, l[i]? = some x := ⟨_, List.getElem?_eq_getElem (show i < l.length by omega)⟩
   obtain ⟨bb, bo, had, hrdx⟩ := text_reads hr hx
   subst had
   obtain ⟨b2, o2, hadb2, hrdb2⟩ := text_reads hr' hx
   subst hadb2
   refine rW mixed [] [0,1,2,3,4,5,6,7,8] 26 rfl (by kernel_rfl) hv ?_
   simp only [qm, opAt]
   refine dM (.slice (some ⟨bb, bo, none⟩) l.length c) rfl (dM (vI i) rfl ?_)
   refine dG (.pointer (some ⟨bb, bo + i, none⟩)) rfl (ex_index rfl rfl rfl (run_idx1 (k := i) Tryz.underlying22 s9es22 (by omega))) ?_
   simp only [zP, po]
   refine dL _ rfl (fun hv => ex_load rfl rfl (run_load1 s9na9 (hrdx _ _ _ (Base.Le.refl _) no_res hv 0 _ rfl))) (dM (.slice (some ⟨b2, o2, none⟩) l.length c') rfl ?_)
   refine dM (vI i) rfl ?_
   simp only [zP, po]
   refine dG (.pointer (some ⟨b2, o2 + i, none⟩)) rfl (ex_index rfl rfl rfl (run_idx1 (k := i) Tryz.underlying22 s9es22 (by omega))) (dL _ rfl (fun hv => ex_load rfl rfl (run_load1 s9na9 (hrdb2 _ _ _ (Base.Le.refl _) no_res hv 0 _ rfl))) ?_)
   refine dG (.bool false) rfl (ex_sneq rfl rfl rfl (qF (fun h => h rfl))) (dE fun w12 hv => ?_)
   simp only [zP, po]
   refine tK k11 (cF rfl ?_)
   refine kS (bN ?_)
   refine tK k10 (rL ?_)
   refine xM (vI i) rfl (xG (vI ((i + 1 : Nat) : Int)) rfl (ex_add rfl rfl rfl (by rw [i64_in (by omega)]; omega)) ?_)
   refine xA (vI ((i + 1 : Nat) : Int)) rfl (wL ?_)
   simp only [zP, po]
   refine then_normal ?_
   go_roundw
   case rel => exact ⟨i + 1, rfl, by omega, hv⟩
   case measure => show l.length - (((i + 1 : Nat) : Int)).toNat < l.length - ((i : Int)).toNat; omega
  refine xG (.bool false) rfl (ex_lss rfl rfl rfl (qF hb9)) ?_
  simp only [zP, po]
  refine wK k8 (cF rfl ?_)
  refine xE (tX ?_)
  refine tX (bH ?_)
  refine tK k4 (sK fun _ k13 => ?_)
  refine rL (xA (.bool true) rfl ?_)
  simp only [zP, po]
  refine wK k13 (rR ?_)
  refine bR rfl rfl (⟨rfl, hv⟩)
end Go.Proofs.YtoljdfjnannakaaGreatDoor
/- The reference's Less and Rises. -/
namespace Go.Proofs.YtoljdfjnannakaaGreatDoor
open Go.RowKit Go.Pm
end Go.Proofs.YtoljdfjnannakaaGreatDoor
/- The reference's view: Put, Names; Words. -/
namespace Go.Proofs.YtoljdfjnannakaaGreatDoor
open Go.RowKit Go.Pm
end Go.Proofs.YtoljdfjnannakaaGreatDoor
/- The reference's view: Names; Words; the names of a transaction that stay. -/
namespace Go.Proofs.YtoljdfjnannakaaGreatDoor
open Go.RowKit Go.Pm
theorem txnNamesB (B : Base) (H : List Res) (w : World) (t m s p wb : Nat) (va : Option Addr) (vc : Nat) (sv : Value) (clk : Int) (es : List (List UInt8 × Value)) (M : List (List UInt8 × Ver)) (hM : VM B es M) (hkl : ∀ k ∈ M.map (·.1), k.length ≤ 256) (hMl : M.length ≤ 1000000) (hv : Inv B (txR t m s p wb va vc sv clk es :: H) w) :
  Calls Tryz.prog 197 #[vP t] w fun e w' => ∃ C a c, B.Le C ∧ e = .returned (.slice a (namesT M clk).length c) ∧ RdV C [] a (textCells (namesT M clk)) ∧ Inv C (txR t m s p wb va vc sv clk es :: H) w' := by
 refine (txnNames B H w t m s p wb va vc sv clk es M hM hkl hMl hv).mono ?_
 rintro e w' ⟨ra, rc, rfl, hv⟩
 obtain ⟨C, hB, hv2, hr2, -, -⟩ := hv.rowBy
 exact ⟨C, ra, rc, hB, rfl, hr2, hv2⟩
end Go.Proofs.YtoljdfjnannakaaGreatDoor
/- The reference's view against what a transaction has written: plain law. -/
namespace Go.Proofs.YtoljdfjnannakaaGreatDoor
open Go.RowKit Go.Pm Go.Sort
section
variable {M : List (List UInt8 × Ver)} {K : List KeyR} {clk : Int} {name : List UInt8}
end
end Go.Proofs.YtoljdfjnannakaaGreatDoor
/- The reference's Right of sets, hashes, sorted sets. -/
namespace Go.Proofs.YtoljdfjnannakaaGreatDoor
open Go.RowKit Go.Pm
end Go.Proofs.YtoljdfjnannakaaGreatDoor
/- The reference's Right of values; One; Alive, At, Latest, Prune of chains. -/
namespace Go.Proofs.YtoljdfjnannakaaGreatDoor
open Go.RowKit Go.Pm
end Go.Proofs.YtoljdfjnannakaaGreatDoor
/- The reference's keys beside what is written: plain law. -/
namespace Go.Proofs.YtoljdfjnannakaaGreatDoor
open Go.RowKit Go.Pm
section
variable {M : List (List UInt8 × Ver)} {clk kd : Int} {key : List UInt8} {y : Ver} {ec : Int} {k : KeyR}
end
end Go.Proofs.YtoljdfjnannakaaGreatDoor
/- CsetNames: the law's walk. -/
namespace Go.Proofs.YtoljdfjnannakaaGreatDoor
open Go.RowKit Go.Pm
set_option maxHeartbeats 4000000 in
theorem gRefNames (B : Base) (H : List Res) (w : World) (hv : Inv B H w) :
  Calls Tryz.prog 10 #[] w fun e w' => ∃ C na nc, B.Le C ∧ e = .returned (.slice na gNames.length nc) ∧ RdV C [] na (textCells gNames) ∧ SliceOk na gNames.length nc ∧ Inv C H w' := by
 refine cW Tryz.func10 rfl Tryz.ntmps10 ?_
 simp only [al]
 refine sK fun _ k1 => rL (xA (vN) rfl ?_)
 simp only [zP, po]
 refine wK k1 (sK fun _ k2 => ?_)
 refine rL (sl_rowN (pv := #[(0, vS [83, 65, 68, 68]), (1, vS [83, 67, 65, 82, 68]), (2, vS [83, 68, 73, 70, 70]), (3, vS [83, 68, 73, 70, 70, 83, 84, 79, 82, 69]), (4, vS [83, 73, 78, 84, 69, 82]), (5, vS [83, 73, 78, 84, 69, 82, 67, 65, 82, 68]), (6, vS [83, 73, 78, 84, 69, 82, 83, 84, 79, 82, 69]), (7, vS [83, 73, 83, 77, 69, 77, 66, 69, 82]), (8, vS [83, 77, 69, 77, 66, 69, 82, 83]), (9, vS [83, 77, 73, 83, 77, 69, 77, 66, 69, 82]), (10, vS [83, 77, 79, 86, 69]), (11, vS [83, 80, 79, 80]), (12, vS [83, 82, 69, 77]), (13, vS [83, 83, 67, 65, 78]), (14, vS [83, 85, 78, 73, 79, 78]), (15, vS [83, 85, 78, 73, 79, 78, 83, 84, 79, 82, 69])]) (L := [vS [83, 65, 68, 68], vS [83, 67, 65, 82, 68], vS [83, 68, 73, 70, 70], vS [83, 68, 73, 70, 70, 83, 84, 79, 82, 69], vS [83, 73, 78, 84, 69, 82], vS [83, 73, 78, 84, 69, 82, 67, 65, 82, 68], vS [83, 73, 78, 84, 69, 82, 83, 84, 79, 82, 69], vS [83, 73, 83, 77, 69, 77, 66, 69, 82], vS [83, 77, 69, 77, 66, 69, 82, 83], vS [83, 77, 73, 83, 77, 69, 77, 66, 69, 82], vS [83, 77, 79, 86, 69], vS [83, 80, 79, 80], vS [83, 82, 69, 77], vS [83, 83, 67, 65, 78], vS [83, 85, 78, 73, 79, 78], vS [83, 85, 78, 73, 79, 78, 83, 84, 79, 82, 69]]) (e := 9) tV (wn rfl) rfl (by simp only [List.map_toArray, List.map_cons, List.map_nil]; rfl) hv (fun w => by kernel_rfl) (fun b3 w4 hv => ?_))
 refine xA (.slice (some ⟨b3, 0, none⟩) 16 16) rfl ?_
 simp only [zP, po]
 refine wK k2 (rR ?_)
 refine bR rfl rfl ?_
 obtain ⟨C, hC, hv, hr, hok, -⟩ := (hv.cellRow (n := 16) (c := 16) (size := 1) rfl (by decide) (by decide)).rowBy
 exact ⟨C, _, _, hC, rfl, hr, hok, hv⟩
theorem gCcallable6 : Callable Tryz.prog 6 := ⟨_, Tryz.func6, by kernel_rfl, by kernel_rfl⟩
theorem gCcallable10 : Callable Tryz.prog 10 := ⟨_, Tryz.func10, by kernel_rfl, by kernel_rfl⟩
theorem gCal28 (w : World) : (Instr.alloc 28 true (.tuple #[])).run Tryz.prog w = .ok (.pointer (some ⟨w.heap.size, 0, none⟩)) (w.alloc (.cells ([vI 0, vS [], vI 0, vN] : List Value).toArray 28)) := by kernel_rfl
theorem gCcallable13 : Callable Tryz.prog 13 := ⟨_, Tryz.func13, by kernel_rfl, by kernel_rfl⟩
theorem gCcallable12 : Callable Tryz.prog 12 := ⟨_, Tryz.func12, by kernel_rfl, by kernel_rfl⟩
theorem gCcallable197 : Callable Tryz.prog 197 := ⟨_, Tryz.func197, by kernel_rfl, by kernel_rfl⟩
set_option maxHeartbeats 16000000 in
theorem lawNamesMain (B : Base) (H : List Res) (w : World) (name : List UInt8) (aa : Option Addr) (ac : Nat) (args : List (List UInt8)) (hra : RdV B [] aa (textCells args)) (hoka : SliceOk aa args.length ac) (hxl : ∀ x ∈ args, x.length ≤ 9223372036854775807) (hN : NumB B) (hv : Inv B H w) :
  Calls Tryz.prog 4 #[vS name, .slice aa args.length ac] w fun e w' => e = .returned (.bool true) ∧ Inv B H w' := by
 refine cW Tryz.func4 rfl Tryz.ntmps4 ?_
 simp only [al]
 refine sK fun _ k1 => rL (xA (.bool false) rfl ?_)
 simp only [zP, po]
 refine wK k1 (sK fun _ k2 => ?_)
 refine sK fun _ k3 => rL (xC gCcallable6 rfl ((gAwake B _ _ (hN.more (Base.Le.refl _)) hv).mono ?_) rfl)
 rintro e w4 ⟨rfl, hv⟩
 refine ⟨_, rfl, ?_⟩
 refine xG (.bool false) rfl (ex_not rfl rfl rfl) (xM (.bool false) rfl ?_)
 simp only [zP, po]
 refine xM (vS name) rfl (xG (vI (name.length : Int)) rfl (ex_lenStr Tryz.underlying9 rfl rfl) ?_)
 by_cases hb5 : (name.length : Int) > 50
 ·refine xG (.bool true) rfl (ex_gtr rfl rfl rfl (qT hb5)) ?_
  simp only [zP, po]
  refine xK false (.bool true) rfl (xM (.bool true) rfl ?_)
  iterate 3 refine yN rfl ?_
  refine xK true (.bool true) rfl ?_
  simp only [zP, po]
  refine wK k3 (cT rfl ?_)
  refine sK fun _ k6 => rL (xC gCcallable6 rfl ((gAwake B _ _ (hN.more (Base.Le.refl _)) hv).mono ?_) rfl)
  rintro e w7 ⟨rfl, hv⟩
  refine ⟨_, rfl, ?_⟩
  refine xA (.bool true) rfl ?_
  simp only [zP, po]
  refine wK k6 (rR ?_)
  refine tR (bR rfl rfl ?_)
  exact ⟨rfl, (hv).weak (Base.Le.refl _)⟩
 refine xG (.bool false) rfl (ex_gtr rfl rfl rfl (qF hb5)) ?_
 simp only [zP, po]
 refine xK false (.bool false) rfl (xM (.bool false) rfl ?_)
 refine xM (.slice aa args.length ac) rfl ?_
 simp only [zP, po]
 refine xG (vI (args.length : Int)) rfl (ex_len0 Tryz.underlying22 rfl rfl) ?_
 by_cases hb8 : (args.length : Int) > 10
 ·refine xG (.bool true) rfl (ex_gtr rfl rfl rfl (qT hb8)) (xK false (.bool true) rfl ?_)
  simp only [zP, po]
  refine wK k3 (cT rfl ?_)
  refine sK fun _ k9 => rL (xC gCcallable6 rfl ((gAwake B _ _ (hN.more (Base.Le.refl _)) hv).mono ?_) rfl)
  rintro e w10 ⟨rfl, hv⟩
  refine ⟨_, rfl, ?_⟩
  refine xA (.bool true) rfl ?_
  simp only [zP, po]
  refine wK k9 (rR ?_)
  refine tR (bR rfl rfl ?_)
  exact ⟨rfl, (hv).weak (Base.Le.refl _)⟩
 refine xG (.bool false) rfl (ex_gtr rfl rfl rfl (qF hb8)) (xK false (.bool false) rfl ?_)
 simp only [zP, po]
 refine wK k3 (cF rfl ?_)
 refine kS (tK k2 ?_)
 refine sK fun _ k11 => rL (xC gCcallable10 rfl ((gRefNames B _ _ hv).mono ?_) rfl)
 rintro e w12 ⟨C, na, nc, hC, rfl, hrn, hokn, hv⟩
 refine ⟨_, rfl, ?_⟩
 refine xA (.slice na gNames.length nc) rfl ?_
 simp only [zP, po]
 refine wK k11 (sK fun _ k13 => ?_)
 refine rL (xA (.bool false) rfl ?_)
 simp only [zP, po]
 refine wK k13 (sK fun _ k14 => ?_)
 refine sK fun _ k15 => rL (xA (vI 0) rfl ?_)
 simp only [zP, po]
 refine wK k15 (bB ?_)
 gi_loopw [6, 7] (fun x6 x7 wr => ∃ (i : Nat) (b : Bool), x6 = .bool b ∧ x7 = vI i ∧ i ≤ gNames.length ∧ (b = true ↔ name ∈ gNames.take i) ∧ Inv C (H) wr) (fun x6 x7 _ => gNames.length - (intOf x7).toNat)
 case atStart => exact ⟨0, false, rfl, rfl, Nat.zero_le _, ⟨fun h => (by cases h), fun h => (by cases h)⟩, hv⟩
 case round =>
  obtain ⟨i, b, rfl, rfl, hi, hb, hv⟩ := hrel
  have hnl := gNames_len
  refine sK fun _ k17 => sK fun _ k18 => rL (xM (vI i) rfl ?_)
  refine xM (.slice na gNames.length nc) rfl (xG (vI (gNames.length : Int)) rfl (ex_len0 Tryz.underlying22 rfl rfl) ?_)
  simp only [zP, po]
  by_cases hb19 : (i : Int) < (gNames.length : Int)
  ·refine xG (.bool true) rfl (ex_lss rfl rfl rfl (qT hb19)) ?_
   simp only [zP, po]
   refine wK k18 (cT rfl ?_)
   refine kS (tK k17 ?_)
   refine sK fun _ k20 => bB ?_
   obtain ⟨x, hx⟩ : ∃ x, gNames[i]? = some x := ⟨_, List.getElem?_eq_getElem (show i < gNames.length by omega)⟩
   obtain ⟨nb, no, had, hrdx⟩ := text_reads hrn hx
   subst had
   refine rL (xM (.bool b) rfl ?_)
   refine xM (.bool b) rfl ?_
   cases b
   ·refine xM (.slice (some ⟨nb, no, none⟩) gNames.length nc) rfl ?_
    simp only [zP, po]
    refine xM (vI i) rfl (xG (.pointer (some ⟨nb, no + i, none⟩)) rfl (ex_index rfl rfl rfl (run_idx1 (k := i) Tryz.underlying22 s9es22 (by omega))) ?_)
    refine xL _ rfl (run_load1 s9na9 (hrdx _ _ _ (Base.Le.refl _) no_res hv 0 _ rfl)) ?_
    simp only [zP, po]
    refine xM (vS name) rfl ?_
    by_cases hb21 : x = name
    ·refine xG (.bool true) rfl (ex_seql rfl rfl rfl (qT hb21)) (xK false (.bool true) rfl ?_)
     simp only [zP, po]
     refine xA (.bool true) rfl (wL ?_)
     simp only [zP, po]
     refine bN (tK k20 ?_)
     refine rL (xM (vI i) rfl ?_)
     refine xG (vI ((i + 1 : Nat) : Int)) rfl (ex_add rfl rfl rfl (by rw [i64_in (by omega)]; omega)) (xA (vI ((i + 1 : Nat) : Int)) rfl ?_)
     refine wL ?_
     simp only [zP, po]
     refine then_normal ?_
     go_roundw
     case rel => exact ⟨i + 1, true, rfl, rfl, by omega, by rw [take_next hx, List.mem_append]; exact ⟨fun _ => .inr (by rw [List.mem_singleton]; exact hb21.symm), fun _ => rfl⟩, hv⟩
     case measure => show gNames.length - (((i + 1 : Nat) : Int)).toNat < gNames.length - ((i : Int)).toNat; omega
    refine xG (.bool false) rfl (ex_seql rfl rfl rfl (qF hb21)) (xK false (.bool false) rfl ?_)
    simp only [zP, po]
    refine xA (.bool false) rfl (wL ?_)
    simp only [zP, po]
    refine bN (tK k20 ?_)
    refine rL (xM (vI i) rfl ?_)
    refine xG (vI ((i + 1 : Nat) : Int)) rfl (ex_add rfl rfl rfl (by rw [i64_in (by omega)]; omega)) (xA (vI ((i + 1 : Nat) : Int)) rfl ?_)
    refine wL ?_
    simp only [zP, po]
    refine then_normal ?_
    go_roundw
    case rel => exact ⟨i + 1, false, rfl, rfl, by omega, by rw [take_next hx, List.mem_append]; exact ⟨fun h9 => (by cases h9), fun h9 => h9.elim (fun h8 => hb.2 h8) (fun h8 => absurd (List.mem_singleton.1 h8).symm hb21)⟩, hv⟩
    case measure => show gNames.length - (((i + 1 : Nat) : Int)).toNat < gNames.length - ((i : Int)).toNat; omega
   refine yP rfl ?_
   simp only [zP, po]
   refine yP rfl (yP rfl ?_)
   refine yP rfl ?_
   simp only [zP, po]
   refine yP rfl (yP rfl ?_)
   refine xK true (.bool true) rfl ?_
   simp only [zP, po]
   refine xA (.bool true) rfl (wL ?_)
   simp only [zP, po]
   refine bN (tK k20 ?_)
   refine rL (xM (vI i) rfl ?_)
   refine xG (vI ((i + 1 : Nat) : Int)) rfl (ex_add rfl rfl rfl (by rw [i64_in (by omega)]; omega)) (xA (vI ((i + 1 : Nat) : Int)) rfl ?_)
   refine wL ?_
   simp only [zP, po]
   refine then_normal ?_
   go_roundw
   case rel => exact ⟨i + 1, true, rfl, rfl, by omega, by rw [take_next hx, List.mem_append]; exact ⟨fun _ => .inl (hb.1 rfl), fun _ => rfl⟩, hv⟩
   case measure => show gNames.length - (((i + 1 : Nat) : Int)).toNat < gNames.length - ((i : Int)).toNat; omega
  refine xG (.bool false) rfl (ex_lss rfl rfl rfl (qF hb19)) ?_
  simp only [zP, po]
  refine wK k18 (cF rfl ?_)
  refine xE (tX ?_)
  refine tX (bH ?_)
  refine tK k14 (sK fun _ k22 => ?_)
  refine rL ?_
  obtain rfl : i = gNames.length := by omega
  rw [List.take_length] at hb
  refine xC gAcallable7 rfl ((lawOpened24 C _ _ 0 (by omega) (by omega) hv).mono ?_) rfl
  rintro e w23 ⟨v, t, m, s, p, wb, va, vc, sv, rfl, hv⟩
  refine ⟨_, rfl, ?_⟩
  refine xA (vP v) rfl ?_
  simp only [zP, po]
  refine wK k22 (sK fun _ k24 => ?_)
  refine rL (xM (vP v) rfl ?_)
  refine xM (vS name) rfl (xM (.slice aa args.length ac) rfl ?_)
  simp only [zP, po]
  replace hv := hv.front 1 rfl
  simp only [eS, eZ] at hv
  replace hv := hv.front 1 rfl
  simp only [eS, eZ] at hv
  refine xC gAcallable11 rfl ((gDo C _ _ v t m s p wb va vc sv 0 [] [] (show VM C [] [] from trivial) OkM.nil aa ac args (hra.more hC (fun _ h => h)) hoka (by omega) name hxl (.inr rfl) (hN.more hC) hv).mono ?_) rfl
  rintro e w25 ⟨D, es', M', r, cs, ok, hD, rfl, hrp, hM', hcmd, hok, hno, -, hv⟩
  refine ⟨_, rfl, ?_⟩
  obtain ⟨rk, rs, rn, rv, rfl⟩ := rp_parts hrp
  by_cases hnm : name ∈ gNames
  ·obtain rfl : ok = true := hok.2 hnm
   obtain rfl : b = true := hb.2 hnm
   refine xM (.tuple #[.agg #[vI rk, vS rs, vI rn, rv], .bool true]) rfl (xG (.agg #[vI rk, vS rs, vI rn, rv]) rfl (ex_extract rfl rfl rfl) ?_)
   simp only [zP, po]
   refine xG (.bool true) rfl (ex_extract rfl rfl rfl) (sl_alloc tV (wn rfl) rfl hv gCal28 (fun b26 w27 hv => ?_))
   refine xS 0 rfl hv rssz28 rfl (by exact ⟨rfl, rfl, rfl, hrp.lv.2, trivial⟩) (fun w28 hv => ?_)
   simp only [zO, sp] at hv
   simp only [zP, po]
   refine xA (.bool true) rfl ?_
   simp only [zP, po]
   refine wK k24 (sK fun _ k29 => ?_)
   refine sK fun _ k30 => rL (xM (.bool true) rfl ?_)
   refine xM (.bool true) rfl ?_
   iterate 4 refine yN rfl ?_
   refine xK true (.bool true) rfl ?_
   simp only [zP, po]
   refine wK k30 (cT rfl ?_)
   refine sK fun _ k31 => rL (xM (.bool true) rfl ?_)
   refine xM (.bool true) rfl (xM (.bool true) rfl ?_)
   simp only [zP, po]
   refine xK true (.bool true) rfl (xA (.bool true) rfl ?_)
   simp only [zP, po]
   refine wK k31 (rR ?_)
   refine tR (bR rfl rfl ?_)
   exact ⟨rfl, ((hv.kp [] 0 3)).weak (hC.trans hD)⟩
  obtain rfl : ok = false := Bool.eq_false_iff.2 fun h9 => hnm (hok.1 h9)
  obtain rfl : b = false := Bool.eq_false_iff.2 fun h9 => hnm (hb.1 h9)
  obtain ⟨rfl, rfl⟩ := hno rfl
  refine xM (.tuple #[.agg #[vI rk, vS rs, vI rn, rv], .bool false]) rfl (xG (.agg #[vI rk, vS rs, vI rn, rv]) rfl (ex_extract rfl rfl rfl) ?_)
  simp only [zP, po]
  refine xG (.bool false) rfl (ex_extract rfl rfl rfl) (sl_alloc tV (wn rfl) rfl hv gCal28 (fun b32 w33 hv => ?_))
  refine xS 0 rfl hv rssz28 rfl (by exact ⟨rfl, rfl, rfl, hrp.lv.2, trivial⟩) (fun w34 hv => ?_)
  simp only [zO, sp] at hv
  simp only [zP, po]
  refine xA (.bool false) rfl ?_
  simp only [zP, po]
  refine wK k24 (sK fun _ k35 => ?_)
  refine sK fun _ k36 => rL (xM (.bool false) rfl ?_)
  refine xM (.bool false) rfl (xC gCcallable13 rfl ((gNamesC D _ _ hv).mono ?_) rfl)
  rintro e w37 ⟨E, pa, pc, hE, rfl, hrq, -, hv⟩
  refine ⟨_, rfl, ?_⟩
  simp only [zP, po]
  refine xM (.slice na gNames.length nc) rfl (xC gCcallable12 rfl ((refWords E _ _ pa na pc nc gNames hrq (hrn.more (hD.trans hE) (fun _ h => h)) (by decide) hv).mono ?_) rfl)
  rintro e w38 ⟨rfl, hv⟩
  refine ⟨_, rfl, ?_⟩
  refine xG (.bool false) rfl (ex_not rfl rfl rfl) ?_
  simp only [zP, po]
  refine xK false (.bool false) rfl ?_
  simp only [zP, po]
  refine wK k36 (cF rfl ?_)
  refine kS (tK k35 ?_)
  refine sK fun _ k39 => rL (xM (.bool false) rfl ?_)
  refine xG (.bool true) rfl (ex_not rfl rfl rfl) (xM (.bool true) rfl ?_)
  simp only [zP, po]
  refine xL (.agg #[vI rk, vS rs, vI rn, rv]) rfl (lM 0 rswd28 hv rfl rfl rfl rfl) (xG (.agg #[vI 0, vS [], vI 0, vN]) rfl (ex_buildN (vs := #[]) rfl (by simp only [List.map_toArray, List.map_nil]) (by kernel_rfl)) ?_)
  refine xC c7callable9 rfl (((sameR_leaf (B := E) (k := 0) (s := []) (n := 0)) _ _ (rpCells rk rs rn rv) (rpCells 0 [] 0 (vN)) (hrp.more hE) rpAt_leaf hv).mono ?_) rfl
  rintro e w40 ⟨rfl, hv⟩
  refine ⟨_, rfl, ?_⟩
  simp only [zP, po]
  refine xK true (.bool true) rfl (xM (.bool true) rfl ?_)
  refine xM (vP v) rfl ?_
  simp only [zP, po]
  refine xG (vP v) rfl (ex_nil rfl rfl) (xF (vP v) rfl (v1fa39_0 _ _ _) ?_)
  refine xL _ rfl (run_load1 v1na37 (hv.load 1 0 rfl rfl)) ?_
  simp only [zP, po]
  replace hv := hv.front 2 rfl
  simp only [eS, eZ] at hv
  refine wpi_callI gCcallable197 tV wideC rfl (wanted_of (j := 7) (d := 66) (b := true) rfl rfl rfl) rfl rfl (r := vP t) (fun w => by kernel_rfl) (args := #[]) (by simp only [List.map_toArray, List.map_nil]) ((txnNamesB E _ _ t m s p wb va vc sv 0 es' [] (hM'.more hE) (fun k h => by cases h) (Nat.zero_le _) hv).mono ?_)
  rintro e w41 ⟨P, qa, qc, hP, rfl, -, hv⟩
  refine ⟨_, rfl, ?_⟩
  refine xG (vI (((namesT [] 0).length) : Int)) rfl (ex_len0 Tryz.underlying22 rfl rfl) (xG (.bool true) rfl (ex_eql rfl rfl rfl (qT (by simp [namesT]))) ?_)
  simp only [zP, po]
  refine xK true (.bool true) rfl (xA (.bool true) rfl ?_)
  simp only [zP, po]
  refine wK k39 (rR ?_)
  refine bR rfl rfl (⟨rfl, ((hv.kp [] 0 3)).weak (((hC.trans hD).trans hE).trans hP)⟩)
end Go.Proofs.YtoljdfjnannakaaGreatDoor
/- Arguments of the store's laws: rows of rows of writes. -/
namespace Go.Pm
open Go.RowKit
def All2 {α β : Type} (R : α → β → Prop) : List α → List β → Prop
 | [], [] => True
 | a :: k, b :: l => R a b ∧ All2 R k l
 | _, _ => False
theorem rep_rowAux {W : World} {S : Nat → Prop} {t : Ty} {a : Option Addr} : ∀ (l : List t.den) (k : Nat), (∀ i (h : i < l.length), ∃ b off xs, a = some ⟨b, off, none⟩ ∧ S b ∧ xs.length = t.size ∧ (∀ j (h : j < xs.length), W.cell? ⟨b, off + (k + i) * t.size + j, none⟩ = some xs[j]) ∧ Rep W S t xs l[i]) →
  ∃ xss : List (List Value), All2 (fun xs d => xs.length = t.size ∧ Rep W S t xs d) xss l ∧ ∀ j (h : j < xss.flatten.length), ∃ b off, a = some ⟨b, off, none⟩ ∧ W.cell? ⟨b, off + k * t.size + j, none⟩ = some xss.flatten[j]
 | [], k, _ => ⟨[], trivial, fun j h => by simp at h⟩
 | d :: l, k, h => by
  obtain ⟨xss, h1, h2⟩ := rep_rowAux l (k + 1) (fun i hi => by
   obtain ⟨b, off, xs, e1, e2, e3, e4, e5⟩ := h (i + 1) (by simpa using hi)
   refine ⟨b, off, xs, e1, e2, e3, fun j hj => ?_, e5⟩
   rw [show k + 1 + i = k + (i + 1) by omega]
   exact e4 j hj)
  obtain ⟨b, off, xs, e1, e2, e3, e4, e5⟩ := h 0 (by simp)
  refine ⟨xs :: xss, ⟨⟨e3, e5⟩, h1⟩, fun j hj => ?_⟩
  rcases Nat.lt_or_ge j xs.length with hx | hx
  ·refine ⟨b, off, e1, ?_⟩
   have := e4 j hx
   rw [Nat.add_zero] at this
   rw [this]
   simp only [List.flatten_cons]
   rw [List.getElem_append_left hx]
  have hj' : j - xs.length < xss.flatten.length := by
   simp only [List.flatten_cons, List.length_append] at hj
   omega
  obtain ⟨b', off', f1, f2⟩ := h2 (j - xs.length) hj'
  refine ⟨b', off', f1, ?_⟩
  rw [show off' + k * t.size + j = off' + (k + 1) * t.size + (j - xs.length) by rw [Nat.succ_mul]; omega, f2]
  simp only [List.flatten_cons]
  rw [List.getElem_append_right hx]
theorem rep_row {W : World} {S : Nat → Prop} {t : Ty} {cs : List Value} {l : List t.den} (h : Rep W S (.slice t) cs l) :
  ∃ a cap xss, cs = [.slice a l.length cap] ∧ SliceOk a l.length cap ∧ RdV (Base.of W) [] a xss.flatten ∧ All2 (fun xs d => xs.length = t.size ∧ Rep W S t xs d) xss l := by
 obtain ⟨a, cap, h1, h2, h4⟩ := h
 obtain ⟨xss, h5, h6⟩ := rep_rowAux (t := t) l 0 (fun i hi => by
  obtain ⟨b, off, xs, e1, e2, e3, e4, e5⟩ := h4 i hi
  refine ⟨b, off, xs, e1, e2, e3, fun j hj => ?_, e5⟩
  rw [Nat.zero_add]
  exact e4 j hj)
 refine ⟨a, cap, xss, h1, h2, rdV_of W fun j hj => ?_, h5⟩
 obtain ⟨b, off, f1, f2⟩ := h6 j hj
 exact ⟨b, off, f1, by rw [← f2, Nat.zero_mul, Nat.add_zero]⟩
theorem rep_texts {W : World} {S : Nat → Prop} : ∀ {xss : List (List Value)} {l : List (List UInt8)}, All2 (fun xs (d : Ty.str.den) => xs.length = Ty.str.size ∧ Rep W S .str xs d) xss l → xss.flatten = textCells l
 | [], [], _ => rfl
 | xs :: xss, d :: l, ⟨⟨h1, h2⟩, h⟩ => by
  have := rep_texts h
  match xs, h1 with
  | [x0], _ =>
   obtain ⟨k1, _⟩ := h2
   have k1' : [x0] = _ := k1
   simp only [List.cons.injEq, and_true] at k1'
   subst k1'
   simp only [List.flatten_cons, this, textCells, List.map_cons]
   rfl
end Go.Pm
/- The powers of ten, out of what the row's condition lays. -/
namespace Go.Proofs.YtoljdfjnannakaaGreatDoor
open Go
theorem tabOf {W : World} {l : List (String × DataW Unit)} (hl : l.filter (fun x => x.1 == "internal/strconv.uint64pow10") = [("internal/strconv.uint64pow10", Lib.tabData .u64 Lib.pow10Tab)]) (hL : laidMetH Tryz.prog l W) : Lib.TabIs Tryz.prog W "internal/strconv.uint64pow10" .u64 Lib.pow10Tab := by
 have h := hL.filter (fun x => x.1 == "internal/strconv.uint64pow10")
 rw [hl] at h
 have h2 := (laidMetH_iff.1 h).1
 have e : ([("internal/strconv.uint64pow10", (Lib.tabData .u64 Lib.pow10Tab : DataW Unit))].filter fun x => x.2.handleName?.isNone) = [("internal/strconv.uint64pow10", Lib.tabData .u64 Lib.pow10Tab)] := by kernel_rfl
 rw [e] at h2
 exact Lib.tabIs_of_head (g := 0) (t := 236) (e := 195) (n := 20) (by kernel_rfl) (by kernel_rfl) Tryz.underlying236 Tryz.underlying195 (by kernel_rfl) (by kernel_rfl) h2
end Go.Proofs.YtoljdfjnannakaaGreatDoor
/- strconv.ParseInt of any short text, from the shelf; the errors' variables out of what the row lays. -/
namespace Go.Proofs.YtoljdfjnannakaaGreatDoor
open Go.RowKit Go.Pm
theorem parsesAny (B : Base) (H : List Res) (h1 : HasErr B 1) (h2 : HasErr B 2) : ParsesAny B H := fun w s hs hv => by
 obtain ⟨t1, v1, h1⟩ := h1
 obtain ⟨t2, v2, h2⟩ := h2
 have c1 := h1 B H w (Base.Le.refl _) hv
 have c2 := h2 B H w (Base.Le.refl _) hv
 have hmax : (ByteArray.mk s.toArray).size ≤ 20 := by show s.toArray.size ≤ 20; simpa using hs
 cases hp : Lib.parseIntB 64 s
 case ok n =>
  have hb := Lib.parseIntB_bounds hp
  have h : Calls Tryz.prog 107 #[vS s, vI 10, vI 64] w _ := Any.strconv_ParseInt_10_at64_ok Tryz.laysPI ⟨s.toArray⟩ (by omega) n hp w
  refine h.mono ?_
  rintro e w' ⟨rfl, hw⟩
  refine ⟨n, .nilIface, rfl, .inl rfl, by omega, fun m m0 m1 e9 => ⟨rfl, ?_⟩, ?_⟩
  ·rw [e9, parse_itoa m m0 m1] at hp
   cases hp; rfl
  rcases hw with rfl | ⟨t, rfl⟩
  ·exact hv
  exact hv.ext (bytesWorld_ext w _ t)
 ·skip
  have h : Calls Tryz.prog 107 #[vS s, vI 10, vI 64] w _ := Any.strconv_ParseInt_10_at64_syntax Tryz.laysPI ⟨s.toArray⟩ (by omega) hp _ w c1 (.inr ⟨_, _, rfl⟩)
  refine h.mono ?_
  rintro e w' ⟨N, rfl, -, -, hx⟩
  refine ⟨0, _, rfl, .inr ⟨_, _, rfl⟩, by omega, fun m m0 m1 e9 => ?_, hv.ext hx⟩
  rw [e9, parse_itoa m m0 m1] at hp
  cases hp
 case range =>
  have h : Calls Tryz.prog 107 #[vS s, vI 10, vI 64] w _ := Any.strconv_ParseInt_10_at64_range Tryz.laysPI ⟨s.toArray⟩ (by omega) hp _ w c2 (.inr ⟨_, _, rfl⟩)
  refine h.mono ?_
  rintro e w' ⟨N, rfl, -, -, hx⟩
  refine ⟨_, _, rfl, .inr ⟨_, _, rfl⟩, ?_, fun m m0 m1 e9 => ?_, hv.ext hx⟩
  ·unfold Lib.intSat
   split <;> decide
  rw [e9, parse_itoa m m0 m1] at hp
  cases hp
theorem numB {W : World} {l : List (String × DataW Unit)} (hl0 : l.filter (fun x => x.1 == "internal/strconv.uint64pow10") = [("internal/strconv.uint64pow10", Lib.tabData .u64 Lib.pow10Tab)])
  {n1 n2 : String} {d1 d2 : DataW Unit} (hl1 : l.filter (fun x => x.1 == "strconv.ErrSyntax") = [("strconv.ErrSyntax", .iface n1 d1)]) (he1 : ([("strconv.ErrSyntax", (DataW.iface n1 d1 : DataW Unit))].filter fun x => x.2.handleName?.isNone) = [("strconv.ErrSyntax", .iface n1 d1)])
  (hl2 : l.filter (fun x => x.1 == "strconv.ErrRange") = [("strconv.ErrRange", .iface n2 d2)]) (he2 : ([("strconv.ErrRange", (DataW.iface n2 d2 : DataW Unit))].filter fun x => x.2.handleName?.isNone) = [("strconv.ErrRange", .iface n2 d2)]) (hL : laidMetH Tryz.prog l W) : NumB (Base.of W) := by
 have ht := tabOf hl0 hL
 obtain ⟨u1, v1, h1⟩ := errOf hl1 he1 (g := 1) (t := 190) (by kernel_rfl) (by kernel_rfl) Tryz.underlying190 hL
 obtain ⟨u2, v2, h2⟩ := errOf hl2 he2 (g := 2) (t := 190) (by kernel_rfl) (by kernel_rfl) Tryz.underlying190 hL
 exact fun C H hC => ⟨formatsInt C H W hC ht, parsesAny C H ((hasErr_of h1).more hC) ((hasErr_of h2).more hC)⟩
end Go.Proofs.YtoljdfjnannakaaGreatDoor
/- Arguments of the commands' laws: texts and their bounds, keys, a command; what the row lays. -/
namespace Go.Pm
open Go.RowKit
theorem rep_textsM {W : World} {S : Nat → Prop} {cs : List Value} {l : List (List UInt8)} (h : Rep W S (.slice .str) cs l) : ∃ a c, cs = [.slice a l.length c] ∧ SliceOk a l.length c ∧ RdV (Base.of W) [] a (textCells l) ∧ ∀ x ∈ l, x.length ≤ 9223372036854775807 := by
 have hb : ∀ x ∈ l, x.length ≤ 9223372036854775807 := by
  obtain ⟨a, cap, h1, h2, h4⟩ := h
  intro x hx
  obtain ⟨i, hi, rfl⟩ := List.getElem_of_mem hx
  obtain ⟨b, off, xs, e1, e2, e3, e4, e5⟩ := h4 i hi
  exact e5.2
 obtain ⟨a, c, xss, h1, h2, h3, h4⟩ := rep_row h
 rw [rep_texts h4] at h3
 exact ⟨a, c, h1, h2, h3, hb⟩
end Go.Pm
namespace Go.Proofs.YtoljdfjnannakaaGreatDoor
open Go.RowKit Go.Pm
def laidAll : List (String × DataW Unit) := [("math/bits.deBruijn32tab", Rows.laid_math_bits_deBruijn32tab), ("math/bits.deBruijn64tab", Rows.laid_math_bits_deBruijn64tab), ("internal/strconv.uint64pow10", Rows.laid_internal_strconv_uint64pow10), ("strconv.ErrRange", Rows.laid_strconv_ErrRange), ("strconv.ErrSyntax", Rows.laid_strconv_ErrSyntax)]
abbrev dSyn : DataW Unit := .ptr (.agg [.lit (.string [105, 110, 118, 97, 108, 105, 100, 32, 115, 121, 110, 116, 97, 120])])
abbrev dRan : DataW Unit := .ptr (.agg [.lit (.string [118, 97, 108, 117, 101, 32, 111, 117, 116, 32, 111, 102, 32, 114, 97, 110, 103, 101])])
theorem numAll {W : World} (hL : laidMetH Tryz.prog laidAll W) : NumB (Base.of W) :=
 numB (l := laidAll) (n1 := "*errors.errorString") (d1 := dSyn) (n2 := "*errors.errorString") (d2 := dRan) (by kernel_rfl) (by kernel_rfl) (by kernel_rfl) (by kernel_rfl) (by kernel_rfl) hL
end Go.Proofs.YtoljdfjnannakaaGreatDoor
