/- ckey: texts in order, as numbers. -/
import Derived.Test.YtngpmolbphinnaaGreatDoorCkNamB
import Derived.Test.YtngpmolbphinnaaGreatDoorCkNamK
import Derived.Test.YtngpmolbphinnaaGreatDoorCkNamI
import Derived.Sort.OwnSortedInts
import Derived.Test.YtngpmolbphinnaaGreatDoorRows
import Derived.Test.YtngpmolbphinnaaGreatDoorCkNamE
import Derived.Lib.LaidTab
import Derived.LaidSub
import Derived.Lib.ItoaNum
import Derived.Deep.LoopGhost
import Derived.Lib.ParseIntBTie
set_option maxRecDepth 100000
set_option maxHeartbeats 16000000
set_option synthInstance.maxSize 4096
set_option synthInstance.maxHeartbeats 400000
namespace Go.Proofs.YtngpmolbphinnaaGreatDoor
open Go.RowKit Go.Pm Go.Sort Go.Shelf
theorem cmpIntC (x y : Int) (w : World) : Calls Tryz.prog 107 #[vI x, vI y] w fun e w' => e = .returned (vI (Lib.compareInt x y)) ∧ w' = w := AnyG.cmp_Compare_int Tryz.laysCmp x y w
theorem cmpStrC (s t : List UInt8) (w : World) : Calls Tryz.prog 108 #[strV s, strV t] w fun e w' => e = .returned (vI (Lib.compareBytes s t)) ∧ w' = w := (Any.strings_Compare Tryz.laysCs ⟨s.toArray⟩ ⟨t.toArray⟩ w).mono fun e _ h => h
theorem cmpOrTwo (B : Base) (H : List Res) (w : World) (b : Nat) (x y : Int) (hv : Inv B (Res.cell b [vI x, vI y] 3 :: H) w) :
  Calls Tryz.prog 106 #[.slice (some ⟨b, 0, none⟩) 2 2] w fun e w' => e = .returned (vI (if x ≠ 0 then x else y)) ∧ w' = w := by
 refine cW Tryz.func106 rfl Tryz.ntmps106 ?_
 simp only [al]
 refine sK fun _ k1 => rL (uA rfl ?_)
 refine uW k1 (sK fun _ k2 => ?_)
 refine rL (uA rfl ?_)
 refine uW k2 (sK fun _ k3 => ?_)
 refine sK fun _ k4 => rL (uG (.slice (some ⟨b, 0, none⟩) 2 2) rfl (ex_move rfl rfl) ?_)
 refine uG (vI 2) rfl (ex_len0 Tryz.underlying145 rfl rfl) (uM rfl ?_)
 refine uW k4 (bB ?_)
 gi_loopw [8] (fun x8 wr => (x8 = vI 0 ∧ wr = w) ∨ (x8 = vI 1 ∧ x = 0 ∧ wr = w) ∨ (x8 = vI 2 ∧ x = 0 ∧ y = 0 ∧ wr = w)) (fun x8 _ => 2 - (intOf x8).toNat)
 case atStart => exact .inl ⟨rfl, rfl⟩
 case round =>
  rcases hrel with ⟨rfl, rfl⟩ | ⟨rfl, hx, rfl⟩ | ⟨rfl, hx, hy, rfl⟩
  ·refine sK fun _ k6 => rL (uG (.bool true) rfl (ex_lss rfl rfl rfl (by decide)) ?_)
   refine uW k6 (sK fun _ k7 => ?_)
   refine cT rfl (kS ?_)
   refine tK k7 (sK fun _ k8 => ?_)
   refine bB (sK fun _ k9 => ?_)
   refine rL (uG (vP b) rfl (ex_index rfl rfl rfl (run_idx1 (off := 0) (k := 0) Tryz.underlying145 s11es145 (by omega))) ?_)
   refine uL _ rfl (run_load1 s2na3 (hv.load 0 0 rfl rfl)) (uA rfl ?_)
   refine uW k9 (sK fun _ k10 => ?_)
   refine rL (uM rfl ?_)
   refine uM rfl ?_
   by_cases hb11 : x ≠ 0
   ·refine uG (.bool true) rfl (ex_neq rfl rfl rfl (qT hb11)) (uW k10 ?_)
    refine cT rfl (sK fun _ k12 => ?_)
    refine rL (uM rfl ?_)
    refine uA rfl (uW k12 ?_)
    refine rR (bZ ?_)
    refine tR (tR ?_)
    refine bZ (tR ?_)
    refine bR rfl rfl (⟨congrArg (fun n => Ending.returned (vI n)) (if_pos hb11).symm, rfl⟩)
   refine uG (.bool false) rfl (ex_neq rfl rfl rfl (qF hb11)) (uW k10 ?_)
   refine cF rfl (kS ?_)
   refine bN (tK k8 ?_)
   refine rL (uG (vI 1) rfl (ex_add rfl rfl rfl (i64_in (by omega))) ?_)
   refine uM rfl (uZ ?_)
   refine then_normal ?_
   go_roundw
   case rel => exact .inr (.inl ⟨rfl, Classical.not_not.1 hb11, rfl⟩)
   case measure => decide
  ·refine sK fun _ k13 => rL (uG (.bool true) rfl (ex_lss rfl rfl rfl (by decide)) ?_)
   refine uW k13 (sK fun _ k14 => ?_)
   refine cT rfl (kS ?_)
   refine tK k14 (sK fun _ k15 => ?_)
   refine bB (sK fun _ k16 => ?_)
   refine rL (uG (.pointer (some ⟨b, 1, none⟩)) rfl (ex_index rfl rfl rfl (run_idx1 (off := 0) (k := 1) Tryz.underlying145 s11es145 (by omega))) ?_)
   refine uL _ rfl (run_load1 s2na3 (hv.load 0 1 rfl rfl)) (uA rfl ?_)
   refine uW k16 (sK fun _ k17 => ?_)
   refine rL (uM rfl ?_)
   refine uM rfl ?_
   by_cases hb18 : y ≠ 0
   ·refine uG (.bool true) rfl (ex_neq rfl rfl rfl (qT hb18)) (uW k17 ?_)
    refine cT rfl (sK fun _ k19 => ?_)
    refine rL (uM rfl ?_)
    refine uA rfl (uW k19 ?_)
    refine rR (bZ ?_)
    refine tR (tR ?_)
    refine bZ (tR ?_)
    refine bR rfl rfl (⟨congrArg (fun n => Ending.returned (vI n)) (if_neg (fun h9 => h9 hx)).symm, rfl⟩)
   refine uG (.bool false) rfl (ex_neq rfl rfl rfl (qF hb18)) (uW k17 ?_)
   refine cF rfl (kS ?_)
   refine bN (tK k15 ?_)
   refine rL (uG (vI 2) rfl (ex_add rfl rfl rfl (i64_in (by omega))) ?_)
   refine uM rfl (uZ ?_)
   refine then_normal ?_
   go_roundw
   case rel => exact .inr (.inr ⟨rfl, hx, Classical.not_not.1 hb18, rfl⟩)
   case measure => decide
  refine sK fun _ k20 => rL (uG (.bool false) rfl (ex_lss rfl rfl rfl (by decide)) ?_)
  refine uW k20 (sK fun _ k21 => ?_)
  refine cF rfl (xE ?_)
  refine tX (tX ?_)
  refine bH (tK k3 ?_)
  refine sK fun _ k22 => rL (uM rfl ?_)
  refine uA rfl (uW k22 ?_)
  refine rR (bR rfl rfl ?_)
  exact ⟨congrArg (fun n => Ending.returned (vI n)) ((if_neg (fun h9 => h9 hx)).trans hy).symm, rfl⟩
theorem kWna145 (w : World) : (isAgg 145).run Tryz.prog w = .ok false w := by kernel_rfl
theorem kWcallable108 : Callable Tryz.prog 108 := cb Tryz.func108 (by kernel_rfl)
theorem ckLess (B : Base) (H : List Res) (w : World) (ib io kb ko oc tc nsb txb n a b : Nat) (x y : Int) (s t : List UInt8) (ha : a < n) (hb : b < n) (_ : n ≤ 1000000) (hrx : Reads B [] ib (io + a) [vI x]) (hry : Reads B [] ib (io + b) [vI y]) (hrs : Reads B [] kb (ko + a) [strV s]) (hrt : Reads B [] kb (ko + b) [strV t]) (hv : Inv B (Res.cell nsb [.slice (some ⟨ib, io, none⟩) n oc] 145 :: Res.cell txb [.slice (some ⟨kb, ko, none⟩) n tc] 26 :: H) w) :
  Calls Tryz.prog 105 #[vI a, vI b, vP nsb, vP txb] w fun e w' => e = .returned (vI (cmpNT x y s t)) ∧ GrowR w w' := by
 refine cW Tryz.func105 rfl Tryz.ntmps105 ?_
 simp only [al]
 refine sK fun _ k1 => rL (uA rfl ?_)
 refine uW k1 (sK fun _ k2 => ?_)
 refine rWG mixed [8, 17, 18, 19] [0,1,2,3,4,5,6,7,9,10,11,12,13,14,15,16,8,17,18,19,20] 27 rfl (by kernel_rfl) hv ?_
 simp only [qm, opAt]
 refine dL (.slice (some ⟨ib, io, none⟩) n oc) rfl (fun ⟨hv, _⟩ => ex_load rfl rfl (run_load1 kWna145 (hv.load 0 0 rfl rfl))) (dM (vI a) rfl ?_)
 refine dG (.pointer (some ⟨ib, io + a, none⟩)) rfl (ex_index rfl rfl rfl (run_idx1 (k := a) Tryz.underlying145 s11es145 (by omega))) ?_
 simp only [zP, po]
 refine dL (vI x) rfl (fun ⟨hv, _⟩ => ex_load rfl rfl (run_load1 s2na3 (hrx _ _ _ (Base.Le.refl _) no_res hv 0 _ rfl))) (dL (.slice (some ⟨ib, io, none⟩) n oc) rfl (fun ⟨hv, _⟩ => ex_load rfl rfl (run_load1 kWna145 (hv.load 0 0 rfl rfl))) ?_)
 refine dM (vI b) rfl ?_
 simp only [zP, po]
 refine dG (.pointer (some ⟨ib, io + b, none⟩)) rfl (ex_index rfl rfl rfl (run_idx1 (k := b) Tryz.underlying145 s11es145 (by omega))) (dL (vI y) rfl (fun ⟨hv, _⟩ => ex_load rfl rfl (run_load1 s2na3 (hry _ _ _ (Base.Le.refl _) no_res hv 0 _ rfl))) ?_)
 refine dF (.slice (some ⟨kb, ko, none⟩) n tc) rfl (fun ⟨hv, _⟩ => ex_load rfl rfl (run_load1 s1na26 (hv.load 1 0 rfl rfl))) fun f3 hf3 => ?_
 simp only [zP, po]
 refine dM (vI a) rfl (dG (.pointer (some ⟨kb, ko + a, none⟩)) rfl (ex_index rfl rfl rfl (run_idx1 (k := a) Tryz.underlying26 s9es26 (by omega))) ?_)
 refine dF (vS s) rfl (fun ⟨hv, _⟩ => ex_load rfl rfl (run_load1 s9na9 (hrs _ _ _ (Base.Le.refl _) no_res hv 0 _ rfl))) fun f4 hf4 => ?_
 simp only [zP, po]
 refine dF (.slice (some ⟨kb, ko, none⟩) n tc) rfl (fun ⟨hv, _⟩ => ex_load rfl rfl (run_load1 s1na26 (hv.load 1 0 rfl rfl))) fun f5 hf5 => dM (vI b) rfl (dG (.pointer (some ⟨kb, ko + b, none⟩)) rfl (ex_index rfl rfl rfl (run_idx1 (k := b) Tryz.underlying26 s9es26 (by omega))) ?_)
 simp only [zP, po]
 refine dF (vS t) rfl (fun ⟨hv, _⟩ => ex_load rfl rfl (run_load1 s9na9 (hrt _ _ _ (Base.Le.refl _) no_res hv 0 _ rfl))) fun f6 hf6 => dS rfl fun w7 ⟨hv, hgw⟩ => mC s11callable107 rfl ((cmpIntC x y _).mono ?_) rfl
 rintro e w8 ⟨rfl, rfl⟩
 refine ⟨_, rfl, dVG hv hgw (fC (fun ww ⟨hv, _⟩ => hf6 ww (ex_load rfl rfl (run_load1 s9na9 (hrt _ _ _ (Base.Le.refl _) no_res hv 0 _ rfl)))) (fC (fun ww ⟨hv, _⟩ => hf5 ww (ex_load rfl rfl (run_load1 s1na26 (hv.load 1 0 rfl rfl)))) (fC (fun ww ⟨hv, _⟩ => hf4 ww (ex_load rfl rfl (run_load1 s9na9 (hrs _ _ _ (Base.Le.refl _) no_res hv 0 _ rfl)))) (fC (fun ww ⟨hv, _⟩ => hf3 ww (ex_load rfl rfl (run_load1 s1na26 (hv.load 1 0 rfl rfl)))) fN)))) ?_⟩
 refine dS rfl fun w9 ⟨hv, hgw⟩ => mC kWcallable108 rfl ((cmpStrC s t _).mono ?_) rfl
 rintro e w10 ⟨rfl, rfl⟩
 refine ⟨_, rfl, dVG hv hgw (fK rfl (fK rfl (fK rfl (fK rfl fN)))) ?_⟩
 simp only [zP, po]
 refine dS rfl fun w11 ⟨hv, hgw⟩ => mem_row2E (v1 := vI (Lib.compareInt x y)) (v2 := vI (Lib.compareBytes s t)) (e := 3) rfl rfl rfl rfl hv (fun w => by kernel_rfl) (fun b12 w13 hv hg2 => ?_)
 replace hgw := hgw.trans hg2
 refine dVG hv hgw (fK rfl (fK rfl (fK rfl (fK rfl fN)))) (dS rfl fun w14 ⟨hv, hgw⟩ => ?_)
 refine mC s11callable106 rfl ((cmpOrTwo B _ _ _ (Lib.compareInt x y) (Lib.compareBytes s t) hv).mono ?_) rfl
 rintro e w15 ⟨rfl, rfl⟩
 refine ⟨_, rfl, dVG hv hgw (fK rfl (fK rfl (fK rfl (fK rfl fN)))) ?_⟩
 refine dA (vI (cmpNT x y s t)) rfl (dE fun w16 ⟨hv, hgw⟩ => ?_)
 simp only [zP, po]
 refine tK k2 (rR ?_)
 refine bR rfl rfl (⟨rfl, hgw⟩)
theorem intCells_map (l : List Int) : intCells l = l.map (Value.int .i64) := by
 induction l with
 | nil => rfl
 | cons x l ih => exact congrArg (vI x :: ·) ih
theorem sortIdx (B : Base) (H : List Res) (w : World) (v : Value) (ns : List Int) (ts : List (List UInt8)) (nsb txb oc tc : Nat) (oa ta : Option Addr) (hl : ns.length = ts.length) (hm : ts.length ≤ 1000000) (hrn : RdV B [] oa (intCells ns)) (hrt : RdV B [] ta (textCells ts))
  (hv : Pm.Inv B (Res.row 3 1 v ts.length (intCells ((List.range ts.length).map fun i : Nat => (i : Int))) :: Res.cell nsb [.slice oa ts.length oc] 145 :: Res.cell txb [.slice ta ts.length tc] 26 :: H) w) :
  Calls Tryz.prog 104 #[v, .func (.func 105) #[] #[vP nsb, vP txb]] w fun e w' => e = .returned (.tuple #[]) ∧ ∃ l : List Nat, l.length = ts.length ∧ (∀ i ∈ l, i < ts.length) ∧ Pm.Inv B (Res.row 3 1 v ts.length (intCells (l.map fun i : Nat => (i : Int))) :: Res.cell nsb [.slice oa ts.length oc] 145 :: Res.cell txb [.slice ta ts.length tc] 26 :: H) w' := by
 rw [intCells_map] at hv
 simp only [intCells_map]
 rcases (hv.head : w.ownsRow 0 3 1 v ts.length _).2 with ⟨rfl, hz⟩ | ⟨gb, cap, cur, rfl, h0, hgb, r1, r2, r3, r4⟩
 ·rw [hz] at hv ⊢
  refine (AnyF.slices_SortFunc_none { Tryz.laysSF with } none 0 _ w).mono ?_
  rintro e w' ⟨rfl, rfl⟩
  exact ⟨rfl, [], rfl, fun i h => (by cases h), hv⟩
 by_cases hz : ts.length = 0
 ·rw [hz] at hv ⊢
  refine (AnyF.slices_SortFunc_none { Tryz.laysSF with } (some ⟨gb, 0, none⟩) cap _ w).mono ?_
  rintro e w' ⟨rfl, rfl⟩
  exact ⟨rfl, [], rfl, fun i h => (by cases h), hv⟩
 obtain ⟨n, hn⟩ : ∃ n, n = ts.length := ⟨_, rfl⟩
 rw [← hn] at hv r1 r4 ⊢
 letI : Inhabited {i : Nat // i < n} := ⟨⟨0, by omega⟩⟩
 let f : {i : Nat // i < n} → Int := fun x => (x.1 : Int)
 obtain ⟨d, hd⟩ : ∃ d : Array {i : Nat // i < n}, d.map f = ((List.range n).map fun i : Nat => (i : Int)).toArray := ⟨((List.range n).attach.map fun x => ⟨x.1, List.mem_range.1 x.2⟩).toArray, by simp [f, List.map_attach_eq_pmap]⟩
 have hds : d.size = n := by have := congrArg Array.size hd; simpa using this
 let cf : {i : Nat // i < n} → {i : Nat // i < n} → Int := fun x y => cmpNT (ns.getD x.1 0) (ns.getD y.1 0) (ts.getD x.1 []) (ts.getD y.1 [])
 have hH : Holds (fun x => vI (f x)) w gb 0 d := holds_map f (by rw [hd]; exact holds_of_blockI hgb (by rw [Nat.mul_one] at r4; simpa using r4))
 have hup : ∀ (m : Nat) (os : Array Obj) (dk : Array {i : Nat // i < n}), dk.size = n → Pm.Inv B (Res.row 3 1 (.slice (some ⟨gb, 0, none⟩) n cap) n ((dk.toList.map f).map (Value.int .i64)) :: Res.cell nsb [.slice oa n oc] 145 :: Res.cell txb [.slice ta n tc] 26 :: H) (sortWorld (fun x => vI (f x)) w gb 0 m dk os) := by
  intro m os dk hk
  unfold sortWorld
  rw [putRow_map f, map_toL f dk]
  have hgr := grownBy_sortedI (w := w) (g := gb) (n := m) (os := os) (dk.toList.map f).toArray
  have hr := ownsRow_sortedI (n := m) (os := os) (ss := (List.range n).map fun i : Nat => (i : Int)) (ts := dk.toList.map f) (by simp [hk]) h0 hgb (by simpa using r1) r2 r3
  rw [show ((List.range n).map fun i : Nat => (i : Int)).length = n by simp] at hr
  exact hv.upd _ ⟨hgr.os, hgr.tape, hgr.output, hgr.size, fun k hk hn => hgr.block k hk (fun e => hn (by cases e; simp [Value.ownBlock]))⟩ hr (fun b hb => .inl hb) (fun b hb => Nat.lt_of_lt_of_le (hv.headLt b hb) hgr.size) (by simp [Value.ownBlock])
 have hcmp : CmpLays1 Tryz.prog 105 #[vP nsb, vP txb] (fun x => vI (f x)) cf gb 0 d.size w := by
  intro m os dk hk x y
  have hI := (hup m os dk (hk.trans hds)).drop
  have at_ : ∀ x : {i : Nat // i < n}, ns[x.1]? = some (ns.getD x.1 0) ∧ ts[x.1]? = some (ts.getD x.1 []) := fun x => by
   have h1 := x.2
   constructor
   ·rw [List.getD_eq_getElem?_getD, List.getElem?_eq_getElem (by omega)]; rfl
   rw [List.getD_eq_getElem?_getD, List.getElem?_eq_getElem (by omega)]; rfl
  obtain ⟨ib, io, hoa, hrx⟩ := int_reads hrn (at_ x).1
  obtain ⟨ib', io', hoa', hry⟩ := int_reads hrn (at_ y).1
  obtain ⟨kb, ko, hta, hrs⟩ := text_reads hrt (at_ x).2
  obtain ⟨kb', ko', hta', hrt'⟩ := text_reads hrt (at_ y).2
  rw [hoa] at hoa'; cases hoa'
  rw [hta] at hta'; cases hta'
  rw [hoa, hta] at hI
  exact ckLess B H _ ib io kb ko oc tc nsb txb n x.1 y.1 _ _ _ _ x.2 y.2 (by omega) hrx hry hrs hrt' hI
 have hc := Any.slices_SortFunc Tryz.laysSF (fun x => vI (f x)) (fun _ => rfl) cf (swoNT (fun x : {i : Nat // i < n} => ns.getD x.1 0) (fun x => ts.getD x.1 [])) 105 #[vP nsb, vP txb] gb 0 cap d w (enters_of Tryz.func105 (by kernel_rfl) rfl) hcmp hH (Array.getElem?_eq_some_iff.1 hgb).1 (by omega)
 rw [hds] at hc
 refine hc.mono ?_
 rintro e w' ⟨rfl, d', m, os, hp, -, rfl⟩
 refine ⟨rfl, d'.toList.map (·.1), by rw [List.length_map, Array.length_toList, hp.1, hds], fun i hi => ?_, ?_⟩
 ·obtain ⟨x, -, rfl⟩ := List.mem_map.1 hi
  exact x.2
 have := hup m os d' (hp.1.trans hds)
 rw [List.map_map (g := fun i : Nat => (i : Int))]
 exact this
def atCells (n i : Nat) : List Value := ((List.range i).map fun k : Nat => vI k) ++ List.replicate (n - i) (vI 0)
theorem atCells_len {n i : Nat} (h : i ≤ n) : (atCells n i).length = n := by simp [atCells]; omega
theorem atCells_set {n i : Nat} (h : i < n) : (atCells n i).set i (vI i) = atCells n (i + 1) := by
 unfold atCells
 rw [List.set_append_right _ _ (by simp), List.length_map, List.length_range, Nat.sub_self, show n - i = (n - (i + 1)) + 1 by omega, List.replicate_succ, List.set_cons_zero, List.range_succ, List.map_append, List.append_assoc]
 rfl
theorem atCells_all {n : Nat} : (atCells n n).take (n * 1) = intCells ((List.range n).map fun i : Nat => (i : Int)) := by
 unfold atCells
 rw [intCells_map, Nat.sub_self, List.replicate_zero, List.append_nil, List.map_map, List.take_of_length_le (by simp)]
 rfl
theorem kXal145 : AL Tryz.prog 145 [vN] := fun w => by kernel_rfl
theorem kXsz145 : (Tryz.prog.info? 145).map (·.size) = some 1 := by kernel_rfl
theorem kXmk3 : (Tryz.prog.info? 3).map (fun i => (i.zero, i.size, i.bytes)) = some (some (vI 0), 1, 8) := by kernel_rfl
theorem kXcallable104 : Callable Tryz.prog 104 := cb Tryz.func104 (by kernel_rfl)
theorem kXmk9 : (Tryz.prog.info? 9).map (fun i => (i.zero, i.size, i.bytes)) = some (some (vS []), 1, 16) := by kernel_rfl
theorem kXel26 : Elem Tryz.prog 26 9 (vS []) 1 16 := elem_of Tryz.underlying26 kXmk9 (by rfl) (by decide)
theorem ckSortedN (B : Base) (H : List Res) (w : World) (xa : Option Addr) (xc : Nat) (xs : List (List UInt8)) (hrx : RdV B [] xa (textCells xs)) (hmx : xs.length ≤ 1000000) (hN : NumB B) (hv : Inv B H w) :
  Calls Tryz.prog 92 #[.bool false, .slice xa xs.length xc] w fun e w' => ∃ C oa oc out ec, B.Le C ∧ e = .returned (.tuple #[.slice oa out.length oc, vI ec]) ∧ SortR false xs out ec ∧ Inv C (Res.row 9 1 (.slice oa out.length oc) out.length (textCells out) :: H) w' := by
 refine cW Tryz.func92 rfl Tryz.ntmps92 ?_
 simp only [al]
 refine sK fun _ k1 => rL (sl_box (L := [.slice xa xs.length xc]) tV (wn rfl) rfl rfl hv (fun w => by kernel_rfl) (fun b2 w3 hv => ?_))
 refine uA rfl (uA rfl ?_)
 refine uW k1 (sK fun _ k4 => ?_)
 refine sK fun _ k5 => rL (uM rfl ?_)
 refine uW k5 (cF rfl ?_)
 refine kS (tK k4 ?_)
 refine sK fun _ k6 => rL (uL _ rfl (run_load1 s1na26 (hv.load 0 0 rfl rfl)) ?_)
 refine xC v8callable82 rfl ((viewInts B _ _ xa xc xs hrx hmx hN hv).mono ?_) rfl
 rintro e w7 ⟨C, oa, oc, ns, ec, hC, rfl, hrn, hir, hv⟩
 refine ⟨_, rfl, uM rfl ?_⟩
 refine uE rfl (uE rfl ?_)
 refine sl_alloc tV (wn rfl) rfl hv kXal145 (fun b8 w9 hv => ?_)
 simp only [zP, po]
 refine xV 0 (.slice oa ns.length oc) rfl hv kXsz145 rfl rfl (fun w10 hv => ?_)
 simp only [zO, sp] at hv
 refine uA rfl (uW k6 ?_)
 refine sK fun _ k11 => sK fun _ k12 => rL (uM rfl ?_)
 by_cases hb13 : ec ≠ 0
 ·refine uG (.bool true) rfl (ex_neq rfl rfl rfl (qT hb13)) (uW k12 ?_)
  refine cT rfl (sK fun _ k14 => ?_)
  refine rL (uM rfl ?_)
  refine uA rfl (uA rfl ?_)
  refine uW k14 (rR ?_)
  refine tR (bodyPost_ret (results_tmp2 rfl _ _ _) rfl ?_)
  exact ⟨C, none, 0, [], ec, hC, rfl, ⟨fun h => (by cases h), Nat.zero_le _⟩, ((hv.kp [] 0 2)).rowNil 9 1⟩
 refine uG (.bool false) rfl (ex_neq rfl rfl rfl (qF hb13)) (uW k12 ?_)
 refine cF rfl (kS ?_)
 refine tK k11 (sK fun _ k15 => ?_)
 have hnl : ns.length = xs.length := hir.elim (fun h => h.2.1) fun h => absurd h.1 (by omega)
 rw [hnl] at hv ⊢
 refine rL (uL _ rfl (run_load1 s1na26 (hv.load 1 0 rfl rfl)) ?_)
 refine uG (vI (xs.length : Int)) rfl (ex_len0 Tryz.underlying26 rfl rfl) ?_
 refine sl_make1 (len := xs.length) (cap := xs.length) tV (wn rfl) rfl rfl rfl Tryz.underlying145 kXmk3 rfl (by omega) (by unfold maxLen; omega) (by omega) hv (fun b16 w17 hv => ?_)
 refine uA rfl (uW k15 ?_)
 refine sK fun _ k18 => sK fun _ k19 => rL (uM rfl ?_)
 refine uG (vI (xs.length : Int)) rfl (ex_len0 Tryz.underlying145 rfl rfl) (uM rfl ?_)
 refine uW k19 (bB ?_)
 gi_loopw [32] (fun x32 wr => ∃ (i : Nat), x32 = vI i ∧ i ≤ xs.length ∧ Inv C (Res.cell b16 (atCells xs.length i) 3 :: Res.cell b8 [.slice oa xs.length oc] 145 :: Res.cell b2 [.slice xa xs.length xc] 26 :: H) wr) (fun x32 _ => xs.length - (intOf x32).toNat)
 case atStart => exact ⟨0, rfl, Nat.zero_le _, (((hv.front 2 rfl).front 2 rfl).front 2 rfl)⟩
 case round =>
  obtain ⟨i, rfl, hi, hv⟩ := hrel
  refine sK fun _ k21 => rL ?_
  by_cases hb22 : (i : Int) < (xs.length : Int)
  ·refine uG (.bool true) rfl (ex_lss rfl rfl rfl (qT hb22)) (uW k21 ?_)
   refine sK fun _ k23 => cT rfl (kS ?_)
   refine tK k23 (sK fun _ k24 => ?_)
   refine bB (sK fun _ k25 => ?_)
   refine rL (uM rfl ?_)
   refine uA rfl (uW k25 ?_)
   refine rL (uM rfl ?_)
   refine uM rfl (uM rfl ?_)
   refine uG (.pointer (some ⟨b16, 0 + i, none⟩)) rfl (ex_index rfl rfl rfl (run_idx1 (k := i) Tryz.underlying145 s11es145 (by omega))) ?_
   refine sl_storeAt 0 (off := 0 + i) (v := vI i) (L' := atCells xs.length (i + 1)) tV (wn rfl) rfl rfl rfl hv rfl x3sz3 (by rw [atCells_len hi]; omega) rfl rfl (by rw [Nat.zero_add]; exact atCells_set (by omega)) (fun w26 hv => ?_)
   simp only [zO] at hv
   refine uZ (bN ?_)
   refine tK k24 (rL ?_)
   refine uG (vI ((i + 1 : Nat) : Int)) rfl (ex_add rfl rfl rfl (by rw [i64_in (by omega)]; omega)) (uM rfl ?_)
   refine uZ (then_normal ?_)
   go_roundw
   case rel => exact ⟨i + 1, rfl, by omega, (((hv.front 2 rfl).front 2 rfl).front 2 rfl)⟩
   case measure => show xs.length - (((i + 1 : Nat) : Int)).toNat < xs.length - ((i : Int)).toNat; omega
  refine uG (.bool false) rfl (ex_lss rfl rfl rfl (qF hb22)) (uW k21 ?_)
  refine sK fun _ k27 => cF rfl (xE ?_)
  refine tX (tX ?_)
  refine bH (tK k18 ?_)
  refine sK fun _ k28 => ?_
  obtain rfl : i = xs.length := by omega
  replace hv := hv.cellRow (n := xs.length) (c := xs.length) (size := 1) (by rw [atCells_len (Nat.le_refl _), Nat.mul_one]) (Nat.le_refl _) (by unfold maxLen; omega)
  rw [atCells_all] at hv
  refine rL (uM rfl ?_)
  refine uG (.func (.func 105) #[] #[vP b8, vP b2]) rfl (ex_makeFunc (c' := #[vP b8, vP b2]) rfl (by simp only [List.map_toArray, List.map_nil]) (by simp only [List.map_toArray, List.map_cons, List.map_nil]; rfl)) ?_
  replace hv := hv.front 2 rfl
  simp only [eS, eZ] at hv
  replace hv := hv.front 2 rfl
  simp only [eS, eZ] at hv
  replace hv := hv.front 2 rfl
  simp only [eS, eZ] at hv
  refine xC kXcallable104 rfl ((sortIdx C _ _ _ ns xs b8 b2 oc xc oa xa hnl hmx hrn (hrx.more hC (fun _ h => h)) hv).mono ?_) rfl
  rintro e w29 ⟨rfl, l, hll, hlt, hv⟩
  refine ⟨_, rfl, uW k28 ?_⟩
  refine sK fun _ k30 => ?_
  obtain ⟨E, hE, hv, hra, -, -⟩ := hv.rowBy
  refine rL (uL _ rfl (run_load1 s1na26 (hv.load 1 0 rfl rfl)) ?_)
  refine uG (vI (xs.length : Int)) rfl (ex_len0 Tryz.underlying26 rfl rfl) ?_
  refine sl_makeRow (cap := xs.length) tV (wn rfl) rfl rfl rfl kXel26 (by unfold maxLen; omega) (by omega) hv (fun b31 w32 hv => ?_)
  refine uA rfl (uW k30 ?_)
  refine sK fun _ k33 => sK fun _ k34 => rL (uM rfl ?_)
  refine uG (vI (xs.length : Int)) rfl (ex_len0 Tryz.underlying145 rfl rfl) (uM rfl ?_)
  refine uW k34 (bB ?_)
  gi_loopw [10, 48] (fun x10 x48 wr => ∃ (j : Nat) (out : List (List UInt8)) (fa : Option Addr) (fc : Nat), x10 = .slice fa out.length fc ∧ x48 = vI j ∧ j ≤ xs.length ∧ out.length = j ∧ Inv E (Res.row 9 1 (.slice fa out.length fc) out.length (textCells out) :: Res.cell b8 [.slice oa xs.length oc] 145 :: Res.cell b2 [.slice xa xs.length xc] 26 :: H) wr) (fun x10 x48 _ => xs.length - (intOf x48).toNat)
  case atStart => exact ⟨0, [], _, _, rfl, rfl, Nat.zero_le _, rfl, (((hv.front 2 rfl).front 2 rfl).front 2 rfl)⟩
  case round =>
   obtain ⟨j, out, fa, fc, rfl, rfl, hj, hol, hv⟩ := hrel
   refine sK fun _ k36 => rL ?_
   by_cases hb37 : (j : Int) < (xs.length : Int)
   ·refine uG (.bool true) rfl (ex_lss rfl rfl rfl (qT hb37)) (uW k36 ?_)
    refine sK fun _ k38 => cT rfl (kS ?_)
    refine tK k38 (sK fun _ k39 => ?_)
    refine bB (sK fun _ k40 => ?_)
    obtain ⟨q, hq⟩ : ∃ x, l[j]? = some x := ⟨_, List.getElem?_eq_getElem (show j < l.length by omega)⟩
    have hqx := hlt q (List.mem_of_getElem? hq)
    obtain ⟨b9, o9, had9, hrdq⟩ := int_reads hra (show (l.map fun i : Nat => (i : Int))[j]? = some (q : Int) by rw [List.getElem?_map, hq]; rfl)
    cases had9
    obtain ⟨x, hx⟩ : ∃ x, xs[q]? = some x := ⟨_, List.getElem?_eq_getElem (show q < xs.length by omega)⟩
    obtain ⟨kb, ko, had, hrdx⟩ := text_reads hrx hx
    subst had
    refine rL (uG (.pointer (some ⟨b16, 0 + j, none⟩)) rfl (ex_index rfl rfl rfl (run_idx1 (k := j) Tryz.underlying145 s11es145 (by omega))) ?_)
    refine uL _ rfl (run_load1 s2na3 (hrdq _ _ _ (Base.Le.refl _) no_res hv 0 _ rfl)) (uA rfl ?_)
    refine uW k40 (rL ?_)
    refine uM rfl ?_
    refine uL _ rfl (run_load1 s1na26 (hv.load 2 0 rfl rfl)) (uM rfl ?_)
    refine uG (.pointer (some ⟨kb, ko + q, none⟩)) rfl (ex_index rfl rfl rfl (run_idx1 (k := q) Tryz.underlying26 s9es26 (by omega))) ?_
    refine uL _ rfl (run_load1 s9na9 (hrdx _ _ _ (hC.trans hE) no_res hv 0 _ rfl)) ?_
    refine sl_rowOne (v := vS x) tV (wn rfl) rfl rfl hv kXel26 rfl (fun b41 w42 hv => ?_)
    simp only [zP, po]
    replace hv := hv.front 1 rfl
    simp only [eS, eZ] at hv
    refine sl_append (news := [vS x]) tV (wn rfl) rfl rfl rfl kXel26 hv (ok_full (by omega)) rfl (rd_all (hv.get 1 rfl)) (by intro u hu; simp only [List.mem_cons, List.not_mem_nil, or_false] at hu; rcases hu with rfl <;> rfl) (by unfold maxLen; omega) (by omega) (fun rv43 w46 hv => ?_)
    obtain ⟨ra44, rc45, rfl⟩ := row_slice hv.head
    refine uA rfl (uZ ?_)
    refine bN (tK k39 ?_)
    refine rL (uG (vI ((j + 1 : Nat) : Int)) rfl (ex_add rfl rfl rfl (by rw [i64_in (by omega)]; omega)) ?_)
    refine uM rfl (uZ ?_)
    refine then_normal ?_
    go_roundw
    case rel => exact ⟨j + 1, out ++ [x], _, _, by rw [List.length_append, List.length_singleton], rfl, by omega, by rw [List.length_append, List.length_singleton, hol], by rw [List.length_append, List.length_singleton, ← text_snoc]; exact (hv.kp [3, 3, 2] 3 1)⟩
    case measure => show xs.length - (((j + 1 : Nat) : Int)).toNat < xs.length - ((j : Int)).toNat; omega
   refine uG (.bool false) rfl (ex_lss rfl rfl rfl (qF hb37)) (uW k36 ?_)
   refine sK fun _ k47 => cF rfl (xE ?_)
   refine tX (tX ?_)
   refine bH (tK k33 ?_)
   refine sK fun _ k48 => rL (uM rfl ?_)
   refine uA rfl (uA rfl ?_)
   refine uW k48 (rR ?_)
   refine bodyPost_ret (results_tmp2 rfl _ _ _) rfl ?_
   obtain rfl : j = xs.length := by omega
   exact ⟨E, fa, fc, out, 0, hC.trans hE, rfl, ⟨fun h => (by cases h), by omega⟩, (hv.kp [] 1 2)⟩
theorem ckSorted : ∀ b, SortedOk b
 | true => fun B H w xa xc xs h1 h2 h3 _ hv => (ckSortedA B H w xa xc xs h1 h2 h3 hv).mono fun e w' ⟨oa, oc, he, hi⟩ => ⟨B, oa, oc, xs.mergeSort leB, 0, Base.Le.refl _, by rw [List.length_mergeSort]; exact he, ⟨fun _ => ⟨rfl, rfl⟩, by rw [List.length_mergeSort]; exact Nat.le_refl _⟩, by rw [List.length_mergeSort]; exact hi⟩
 | false => fun B H w xa xc xs _ h2 h3 h4 hv => ckSortedN B H w xa xc xs h2 h3 h4 hv
theorem kRcallable15 : Callable Tryz.prog 15 := cb Tryz.func15 (by kernel_rfl)
theorem kRcallable25 : Callable Tryz.prog 25 := cb Tryz.func25 (by kernel_rfl)
theorem kRcallable10 : Callable Tryz.prog 10 := cb Tryz.func10 (by kernel_rfl)
theorem kRal34 : AL Tryz.prog 34 [vI 0, vS [], vI 0, vN] := fun w => by kernel_rfl
theorem kRcallable26 : Callable Tryz.prog 26 := cb Tryz.func26 (by kernel_rfl)
theorem kRmk9 : (Tryz.prog.info? 9).map (fun i => (i.zero, i.size, i.bytes)) = some (some (vS []), 1, 16) := by kernel_rfl
theorem kRel26 : Elem Tryz.prog 26 9 (vS []) 1 16 := elem_of Tryz.underlying26 kRmk9 (by rfl) (by decide)
theorem gAwake (B : Base) (H : List Res) (w : World) (hN : NumB B) (hv : Inv B H w) :
  Calls Tryz.prog 8 #[] w fun e w' => e = .returned (.bool true) ∧ Inv B H w' := by
 refine cW Tryz.func8 rfl Tryz.ntmps8 ?_
 simp only [al]
 refine sK fun _ k1 => rL (uA rfl ?_)
 refine uW k1 (sK fun _ k2 => ?_)
 refine rL (xC kRcallable15 rfl ((lawOpened26 B _ _ 0 (by omega) (by omega) hv).mono ?_) rfl)
 rintro e w3 ⟨v, t, m, s, p, wb, va, vc, sv, rfl, hv⟩
 refine ⟨_, rfl, uA rfl ?_⟩
 refine uW k2 (sK fun _ k4 => ?_)
 refine sK fun _ k5 => rL (uM rfl ?_)
 refine uG (.bool false) rfl (ex_pisnil Tryz.underlying24 rfl rfl rfl rfl) (uM rfl ?_)
 refine uM rfl ?_
 refine xC kRcallable25 rfl ((lawText26 B _ _ ([49] : List UInt8) hv).mono ?_) rfl
 rintro e w6 ⟨rfl, hv⟩
 refine ⟨_, rfl, ?_⟩
 simp only [zP, po]
 replace hv := hv.front 1 rfl
 simp only [eS, eZ] at hv
 replace hv := hv.front 1 rfl
 simp only [eS, eZ] at hv
 refine xC k6callable16 rfl ((viewKeep B _ _ v t m s p wb va vc sv 0 [] [] ([97] : List UInt8) (vText ([49] : List UInt8)) _ _ _ 0 ((vmNil B).more (Base.Le.refl _)) vText_at hv).mono ?_) rfl
 rintro e w7 ⟨D1, es1, M1, ec1, hD1, rfl, hM1, hkp1, hv⟩
 refine ⟨_, rfl, ?_⟩
 have hO1 := OkM.nil.keep hkp1
 obtain ⟨rfl, hR1, hK1⟩ := ck_put RelVK.nil (show KeysOk [] 0 from ⟨List.Pairwise.nil, Nat.le_refl _, fun k h => (by cases h)⟩) (by decide) (by decide) hkp1 ins_A
 refine uG (.bool false) rfl (ex_neq rfl rfl rfl (by decide)) (uK rfl ?_)
 refine uM rfl ?_
 refine uM rfl ?_
 refine xC kRcallable25 rfl ((lawText26 D1 _ _ ([50] : List UInt8) hv).mono ?_) rfl
 rintro e w8 ⟨rfl, hv⟩
 refine ⟨_, rfl, ?_⟩
 simp only [zP, po]
 replace hv := hv.front 1 rfl
 simp only [eS, eZ] at hv
 replace hv := hv.front 1 rfl
 simp only [eS, eZ] at hv
 refine xC k6callable16 rfl ((viewKeep D1 _ _ v t m s p wb va vc sv 0 es1 M1 ([98] : List UInt8) (vText ([50] : List UInt8)) _ _ _ 0 (hM1.more (Base.Le.refl _)) vText_at hv).mono ?_) rfl
 rintro e w9 ⟨D2, es2, M2, ec2, hD2, rfl, hM2, hkp2, hv⟩
 refine ⟨_, rfl, ?_⟩
 have hO2 := hO1.keep hkp2
 obtain ⟨rfl, hR2, hK2⟩ := ck_put hR1 hK1 (by decide) (by decide) hkp2 ins_B
 refine uG (.bool false) rfl (ex_neq rfl rfl rfl (by decide)) (uK rfl ?_)
 refine uM rfl ?_
 refine uM rfl ?_
 refine xC kRcallable25 rfl ((lawText26 D2 _ _ ([51] : List UInt8) hv).mono ?_) rfl
 rintro e w10 ⟨rfl, hv⟩
 refine ⟨_, rfl, ?_⟩
 simp only [zP, po]
 replace hv := hv.front 1 rfl
 simp only [eS, eZ] at hv
 replace hv := hv.front 1 rfl
 simp only [eS, eZ] at hv
 refine xC k6callable16 rfl ((viewKeep D2 _ _ v t m s p wb va vc sv 0 es2 M2 ([99] : List UInt8) (vText ([51] : List UInt8)) _ _ _ 0 (hM2.more (Base.Le.refl _)) vText_at hv).mono ?_) rfl
 rintro e w11 ⟨D3, es3, M3, ec3, hD3, rfl, hM3, hkp3, hv⟩
 refine ⟨_, rfl, ?_⟩
 have hO3 := hO2.keep hkp3
 obtain ⟨rfl, hR3, hK3⟩ := ck_put hR2 hK2 (by decide) (by decide) hkp3 ins_C
 refine uG (.bool false) rfl (ex_neq rfl rfl rfl (by decide)) (uK rfl ?_)
 refine uW k5 (cF rfl ?_)
 refine kS (tK k4 ?_)
 refine sK fun _ k12 => rL (uM rfl ?_)
 refine sl_rowN (pv := #[(0, vS [48]), (1, vS [67, 79, 85, 78, 84]), (2, vS [50])]) (L := [vS [48], vS [67, 79, 85, 78, 84], vS [50]]) (e := 9) tV (wn rfl) rfl (by simp only [List.map_toArray, List.map_cons, List.map_nil]; rfl) hv (fun w => by kernel_rfl) (fun b13 w14 hv => ?_)
 simp only [zP, po]
 obtain ⟨D15, hD15, hv, hrD15, hoD15, -⟩ := (hv.cellRow (n := 3) (c := 3) (size := 1) rfl (by decide) (by decide)).rowBy
 replace hv := hv.front 1 rfl
 simp only [eS, eZ] at hv
 replace hv := hv.front 1 rfl
 simp only [eS, eZ] at hv
 refine xC kRcallable10 rfl ((gDo D15 _ _ v t m s p wb va vc sv 0 es3 M3 (hM3.more hD15) hO3 _ _ [([48] : List UInt8), ([67, 79, 85, 78, 84] : List UInt8), ([50] : List UInt8)] hrD15 hoD15 (by decide) nSCAN (all1 (by decide) (all1 (by decide) (all1 (by decide) all0))) (.inl (all1 (by decide) (all1 (by decide) (all1 (by decide) all0)))) (hN.more (((hD1.trans hD2).trans hD3).trans hD15)) hK3.sh (by have := hK3.len; omega) (by decide) (by decide) ckSorted hv).mono ?_) rfl
 rintro e w16 ⟨C1, es4, M4, r1, cs1, ok1, hC1, rfl, hrp1, hM4, -, hok1, -, hrel1, hv⟩
 refine ⟨_, rfl, ?_⟩
 obtain rfl : ok1 = true := hok1.2 (by decide)
 obtain ⟨hmm1, hsr1⟩ := hrel1 (by unfold GArgs; decide) rfl
 rw [hmm1] at hM4
 rw [ck_names hR3 hK3] at hsr1
 obtain rfl := ck_scan1 hsr1
 obtain ⟨rb1, ro1, rc1, u1, la1, lc1, rfl, hrd1, hu1, hw1, hrl1, hrs1, -⟩ := rp_two hrp1
 refine uG (.tuple #[.agg #[vI 5, vS [], vI 0, .slice (some ⟨rb1, ro1, none⟩) 2 rc1], .bool true]) rfl (ex_move rfl rfl) ?_
 refine uG (.agg #[vI 5, vS [], vI 0, .slice (some ⟨rb1, ro1, none⟩) 2 rc1]) rfl (ex_extract rfl rfl rfl) (uE rfl ?_)
 refine sl_alloc tV (wn rfl) rfl hv kRal34 (fun b17 w18 hv => ?_)
 simp only [zP, po]
 refine xS 0 rfl hv rssz34 rfl (by exact ⟨rfl, rfl, rfl, rfl, trivial⟩) (fun w19 hv => ?_)
 simp only [zO, sp] at hv
 refine uA rfl (uW k12 ?_)
 refine sK fun _ k20 => rL (uM rfl ?_)
 refine sl_rowN (pv := #[(0, vS [50]), (1, vS [67, 79, 85, 78, 84]), (2, vS [50])]) (L := [vS [50], vS [67, 79, 85, 78, 84], vS [50]]) (e := 9) tV (wn rfl) rfl (by simp only [List.map_toArray, List.map_cons, List.map_nil]; rfl) hv (fun w => by kernel_rfl) (fun b21 w22 hv => ?_)
 simp only [zP, po]
 obtain ⟨D23, hD23, hv, hrD23, hoD23, -⟩ := (hv.cellRow (n := 3) (c := 3) (size := 1) rfl (by decide) (by decide)).rowBy
 replace hv := hv.front 2 rfl
 simp only [eS, eZ] at hv
 replace hv := hv.front 2 rfl
 simp only [eS, eZ] at hv
 refine xC kRcallable10 rfl ((gDo D23 _ _ v t m s p wb va vc sv 0 es4 M3 (hM4.more hD23) hO3 _ _ [([50] : List UInt8), ([67, 79, 85, 78, 84] : List UInt8), ([50] : List UInt8)] hrD23 hoD23 (by decide) nSCAN (all1 (by decide) (all1 (by decide) (all1 (by decide) all0))) (.inl (all1 (by decide) (all1 (by decide) (all1 (by decide) all0)))) (hN.more (((((hD1.trans hD2).trans hD3).trans hD15).trans hC1).trans hD23)) hK3.sh (by have := hK3.len; omega) (by decide) (by decide) ckSorted hv).mono ?_) rfl
 rintro e w24 ⟨C2, es5, M5, r2, cs2, ok2, hC2, rfl, hrp2, hM5, -, hok2, -, hrel2, hv⟩
 refine ⟨_, rfl, ?_⟩
 obtain rfl : ok2 = true := hok2.2 (by decide)
 obtain ⟨hmm2, hsr2⟩ := hrel2 (by unfold GArgs; decide) rfl
 rw [hmm2] at hM5
 rw [ck_names hR3 hK3] at hsr2
 obtain rfl := ck_scan2 hsr2
 obtain ⟨rb2, ro2, rc2, u2, la2, lc2, rfl, hrd2, hu2, hw2, hrl2, hrs2, -⟩ := rp_two hrp2
 refine uG (.tuple #[.agg #[vI 5, vS [], vI 0, .slice (some ⟨rb2, ro2, none⟩) 2 rc2], .bool true]) rfl (ex_move rfl rfl) ?_
 refine uG (.agg #[vI 5, vS [], vI 0, .slice (some ⟨rb2, ro2, none⟩) 2 rc2]) rfl (ex_extract rfl rfl rfl) (uE rfl ?_)
 refine sl_alloc tV (wn rfl) rfl hv kRal34 (fun b25 w26 hv => ?_)
 simp only [zP, po]
 refine xS 0 rfl hv rssz34 rfl (by exact ⟨rfl, rfl, rfl, rfl, trivial⟩) (fun w27 hv => ?_)
 simp only [zO, sp] at hv
 refine uA rfl (uW k20 ?_)
 refine sK fun _ k28 => rW mixed [23, 24, 25, 46, 47, 48] [0,1,2,3,4,5,6,7,8,9,10,11,12,13,14,15,16,17,18,19,20,21,22,23,24,25,26,27,28,29,30,31,32,33,34,35,36,37,38,39,40,41,42,43,44,45,46,47,48,49,50] 89 rfl (by kernel_rfl) hv ?_
 simp only [qm, opAt]
 refine dM (.bool true) rfl (dM (.bool true) rfl ?_)
 refine dM (.bool true) rfl ?_
 simp only [zP, po]
 refine dK true (.bool true) rfl (dM (.bool true) rfl ?_)
 refine dG (.pointer (some ⟨b17, 3, none⟩)) rfl (ex_field rfl rfl (rtfa34_3 _ _ _)) ?_
 simp only [zP, po]
 refine dL _ rfl (fun hv => ex_load rfl rfl (run_load1 rtna32 (hv.load 3 3 rfl rfl))) (dG (vI 2) rfl (ex_len0 Tryz.underlying32 rfl rfl) ?_)
 refine dG (.bool true) rfl (ex_eql rfl rfl rfl (by decide)) ?_
 simp only [zP, po]
 refine dK true (.bool true) rfl (dM (.bool true) rfl ?_)
 refine dG (.pointer (some ⟨b17, 3, none⟩)) rfl (ex_field rfl rfl (rtfa34_3 _ _ _)) ?_
 simp only [zP, po]
 refine dL _ rfl (fun hv => ex_load rfl rfl (run_load1 rtna32 (hv.load 3 3 rfl rfl))) (dG (.pointer (some ⟨rb1, ro1 + 0 * 4, none⟩)) rfl (ex_index rfl rfl rfl (run_idx (k := 0) Tryz.underlying32 k0es32 (by omega))) ?_)
 refine dG (.pointer (some ⟨rb1, ro1 + 0 * 4 + 1, none⟩)) rfl (ex_field rfl rfl (k0fa34_1 _ _ _)) ?_
 simp only [zP, po]
 refine dL _ rfl (fun hv => ex_load rfl rfl (run_load1 s9na9 (hrd1 _ _ _ (hD23.trans hC2) no_res hv 1 _ rfl))) (dG (.bool true) rfl (ex_seql rfl rfl rfl (qT (by decide))) ?_)
 refine dK true (.bool true) rfl ?_
 simp only [zP, po]
 refine dM (.bool true) rfl (dG (.pointer (some ⟨b17, 3, none⟩)) rfl (ex_field rfl rfl (rtfa34_3 _ _ _)) ?_)
 refine dF _ rfl (fun hv => ex_load rfl rfl (run_load1 rtna32 (hv.load 3 3 rfl rfl))) fun f29 hf29 => ?_
 simp only [zP, po]
 refine dG (.pointer (some ⟨rb1, ro1 + 1 * 4, none⟩)) rfl (ex_index rfl rfl rfl (run_idx (k := 1) Tryz.underlying32 k0es32 (by omega))) (dF (.agg #[vI 5, vS [], vI 0, .slice la1 (([[97], [98]] : List (List UInt8)).length) lc1]) rfl (fun hv => ex_load rfl rfl (run_loadR (cs := [vI 5, vS [], vI 0, .slice la1 (([[97], [98]] : List (List UInt8)).length) lc1]) rswd34 (Reads.mid (pre := []) (mid := [vI 5, vS [], vI 0, .slice la1 (([[97], [98]] : List (List UInt8)).length) lc1]) (post := []) hrl1 _ _ _ (hD23.trans hC2) no_res hv))) fun f30 hf30 => ?_)
 refine dS rfl fun w31 hv => mem_row2 (v1 := vS [97]) (v2 := vS [98]) (e := 9) rfl rfl rfl rfl hv (fun w => by kernel_rfl) (fun b32 w33 hv => ?_)
 refine dV hv (fC (fun ww hv => hf30 ww (ex_load rfl rfl (run_loadR (cs := [vI 5, vS [], vI 0, .slice la1 (([[97], [98]] : List (List UInt8)).length) lc1]) rswd34 (Reads.mid (pre := []) (mid := [vI 5, vS [], vI 0, .slice la1 (([[97], [98]] : List (List UInt8)).length) lc1]) (post := []) hrl1 _ _ _ (hD23.trans hC2) no_res hv)))) (fC (fun ww hv => hf29 ww (ex_load rfl rfl (run_load1 rtna32 (hv.load 4 3 rfl rfl)))) fN)) ?_
 simp only [zP, po]
 refine dS rfl fun w34 hv => ?_
 obtain ⟨D35, hD35, hv, hrD35, hoD35, -⟩ := (hv.cellRow (n := 2) (c := 2) (size := 1) rfl (by decide) (by decide)).rowBy
 refine mC kRcallable26 rfl ((ref20Strs D35 _ _ _ _ [([97] : List UInt8), ([98] : List UInt8)] hrD35 (by decide) hv).mono ?_) rfl
 rintro e w36 ⟨E1, ve1, hE1, rfl, hrq1, hv⟩
 refine ⟨_, rfl, dV hv (fC (fun ww hv => hf30 ww (ex_load rfl rfl (run_loadR (cs := [vI 5, vS [], vI 0, .slice la1 (([[97], [98]] : List (List UInt8)).length) lc1]) rswd34 (Reads.mid (pre := []) (mid := [vI 5, vS [], vI 0, .slice la1 (([[97], [98]] : List (List UInt8)).length) lc1]) (post := []) hrl1 _ _ _ (((hD23.trans hC2).trans hD35).trans hE1) no_res hv)))) (fC (fun ww hv => hf29 ww (ex_load rfl rfl (run_load1 rtna32 (hv.load 3 3 rfl rfl)))) fN)) ?_⟩
 refine dS rfl fun w37 hv => mC k0callable22 rfl (((sameR_strs (B := E1) (l := ([[97], [98]] : List (List UInt8))) (by decide)) _ _ (rpCells 5 [] 0 (.slice la1 ([[97], [98]] : List (List UInt8)).length lc1)) (rpCells 5 [] 0 ve1) (hrs1.more (((hD23.trans hC2).trans hD35).trans hE1)) (hrq1.more (Base.Le.refl _)) hv).mono ?_) rfl
 rintro e w38 ⟨rfl, hv⟩
 refine ⟨_, rfl, dV hv (fK rfl (fK rfl fN)) ?_⟩
 refine dK true (.bool true) rfl ?_
 simp only [zP, po]
 refine dM (.bool true) rfl (dG (.pointer (some ⟨b25, 3, none⟩)) rfl (ex_field rfl rfl (rtfa34_3 _ _ _)) ?_)
 refine dL _ rfl (fun hv => ex_load rfl rfl (run_load1 rtna32 (hv.load 0 3 rfl rfl))) ?_
 simp only [zP, po]
 refine dG (vI 2) rfl (ex_len0 Tryz.underlying32 rfl rfl) (dG (.bool true) rfl (ex_eql rfl rfl rfl (by decide)) ?_)
 refine dK true (.bool true) rfl ?_
 simp only [zP, po]
 refine dM (.bool true) rfl (dG (.pointer (some ⟨b25, 3, none⟩)) rfl (ex_field rfl rfl (rtfa34_3 _ _ _)) ?_)
 refine dL _ rfl (fun hv => ex_load rfl rfl (run_load1 rtna32 (hv.load 0 3 rfl rfl))) ?_
 simp only [zP, po]
 refine dG (.pointer (some ⟨rb2, ro2 + 0 * 4, none⟩)) rfl (ex_index rfl rfl rfl (run_idx (k := 0) Tryz.underlying32 k0es32 (by omega))) (dG (.pointer (some ⟨rb2, ro2 + 0 * 4 + 1, none⟩)) rfl (ex_field rfl rfl (k0fa34_1 _ _ _)) ?_)
 refine dL _ rfl (fun hv => ex_load rfl rfl (run_load1 s9na9 (hrd2 _ _ _ (hD35.trans hE1) no_res hv 1 _ rfl))) ?_
 simp only [zP, po]
 refine dG (.bool true) rfl (ex_seql rfl rfl rfl (qT (by decide))) (dK true (.bool true) rfl ?_)
 refine dM (.bool true) rfl ?_
 simp only [zP, po]
 refine dG (.pointer (some ⟨b25, 3, none⟩)) rfl (ex_field rfl rfl (rtfa34_3 _ _ _)) (dF _ rfl (fun hv => ex_load rfl rfl (run_load1 rtna32 (hv.load 0 3 rfl rfl))) fun f39 hf39 => ?_)
 refine dG (.pointer (some ⟨rb2, ro2 + 1 * 4, none⟩)) rfl (ex_index rfl rfl rfl (run_idx (k := 1) Tryz.underlying32 k0es32 (by omega))) ?_
 simp only [zP, po]
 refine dF (.agg #[vI 5, vS [], vI 0, .slice la2 (([[99]] : List (List UInt8)).length) lc2]) rfl (fun hv => ex_load rfl rfl (run_loadR (cs := [vI 5, vS [], vI 0, .slice la2 (([[99]] : List (List UInt8)).length) lc2]) rswd34 (Reads.mid (pre := []) (mid := [vI 5, vS [], vI 0, .slice la2 (([[99]] : List (List UInt8)).length) lc2]) (post := []) hrl2 _ _ _ (hD35.trans hE1) no_res hv))) fun f40 hf40 => dS rfl fun w41 hv => mem_row1 (v := vS [99]) rfl rfl rfl hv kRel26 rfl (fun b42 w43 hv => ?_)
 refine dV hv (fC (fun ww hv => hf40 ww (ex_load rfl rfl (run_loadR (cs := [vI 5, vS [], vI 0, .slice la2 (([[99]] : List (List UInt8)).length) lc2]) rswd34 (Reads.mid (pre := []) (mid := [vI 5, vS [], vI 0, .slice la2 (([[99]] : List (List UInt8)).length) lc2]) (post := []) hrl2 _ _ _ (hD35.trans hE1) no_res hv)))) (fC (fun ww hv => hf39 ww (ex_load rfl rfl (run_load1 rtna32 (hv.load 1 3 rfl rfl)))) (fK rfl (fK rfl fN)))) (dS rfl fun w44 hv => ?_)
 obtain ⟨D45, hD45, hv, hrD45, hoD45, -⟩ := (hv.cellRow (n := 1) (c := 1) (size := 1) rfl (by decide) (by decide)).rowBy
 refine mC kRcallable26 rfl ((ref20Strs D45 _ _ _ _ [([99] : List UInt8)] hrD45 (by decide) hv).mono ?_) rfl
 rintro e w46 ⟨E2, ve2, hE2, rfl, hrq2, hv⟩
 refine ⟨_, rfl, dV hv (fC (fun ww hv => hf40 ww (ex_load rfl rfl (run_loadR (cs := [vI 5, vS [], vI 0, .slice la2 (([[99]] : List (List UInt8)).length) lc2]) rswd34 (Reads.mid (pre := []) (mid := [vI 5, vS [], vI 0, .slice la2 (([[99]] : List (List UInt8)).length) lc2]) (post := []) hrl2 _ _ _ (((hD35.trans hE1).trans hD45).trans hE2) no_res hv)))) (fC (fun ww hv => hf39 ww (ex_load rfl rfl (run_load1 rtna32 (hv.load 0 3 rfl rfl)))) (fK rfl (fK rfl fN)))) ?_⟩
 simp only [zP, po]
 refine dS rfl fun w47 hv => mC k0callable22 rfl (((sameR_strs (B := E2) (l := ([[99]] : List (List UInt8))) (by decide)) _ _ (rpCells 5 [] 0 (.slice la2 ([[99]] : List (List UInt8)).length lc2)) (rpCells 5 [] 0 ve2) (hrs2.more (((hD35.trans hE1).trans hD45).trans hE2)) (hrq2.more (Base.Le.refl _)) hv).mono ?_) rfl
 rintro e w48 ⟨rfl, hv⟩
 refine ⟨_, rfl, dV hv (fK rfl (fK rfl (fK rfl (fK rfl fN)))) ?_⟩
 refine dK true (.bool true) rfl (dA (.bool true) rfl ?_)
 refine dE fun w49 hv => ?_
 simp only [zP, po]
 refine tK k28 (rR ?_)
 refine bR rfl rfl (⟨rfl, ((hv.kp [] 0 4)).weak ((((((((((hD1.trans hD2).trans hD3).trans hD15).trans hC1).trans hD23).trans hC2).trans hD35).trans hE1).trans hD45).trans hE2)⟩)
theorem gRefNames (B : Base) (H : List Res) (w : World) (hv : Inv B H w) :
  Calls Tryz.prog 20 #[] w fun e w' => ∃ C na nc, B.Le C ∧ e = .returned (.slice na gNames.length nc) ∧ RdV C [] na (textCells gNames) ∧ SliceOk na gNames.length nc ∧ Inv C H w' := by
 refine cW Tryz.func20 rfl Tryz.ntmps20 ?_
 simp only [al]
 refine sK fun _ k1 => rL (uA rfl ?_)
 refine uW k1 (sK fun _ k2 => ?_)
 refine rL (sl_rowN (pv := #[(0, vS [67, 79, 80, 89]), (1, vS [68, 66, 83, 73, 90, 69]), (2, vS [68, 69, 76]), (3, vS [69, 88, 73, 83, 84, 83]), (4, vS [69, 88, 80, 73, 82, 69]), (5, vS [69, 88, 80, 73, 82, 69, 65, 84]), (6, vS [69, 88, 80, 73, 82, 69, 84, 73, 77, 69]), (7, vS [70, 76, 85, 83, 72, 65, 76, 76]), (8, vS [75, 69, 89, 83]), (9, vS [80, 69, 82, 83, 73, 83, 84]), (10, vS [82, 69, 78, 65, 77, 69]), (11, vS [82, 69, 78, 65, 77, 69, 78, 88]), (12, vS [83, 67, 65, 78]), (13, vS [83, 79, 82, 84]), (14, vS [84, 84, 76]), (15, vS [84, 89, 80, 69])]) (L := [vS [67, 79, 80, 89], vS [68, 66, 83, 73, 90, 69], vS [68, 69, 76], vS [69, 88, 73, 83, 84, 83], vS [69, 88, 80, 73, 82, 69], vS [69, 88, 80, 73, 82, 69, 65, 84], vS [69, 88, 80, 73, 82, 69, 84, 73, 77, 69], vS [70, 76, 85, 83, 72, 65, 76, 76], vS [75, 69, 89, 83], vS [80, 69, 82, 83, 73, 83, 84], vS [82, 69, 78, 65, 77, 69], vS [82, 69, 78, 65, 77, 69, 78, 88], vS [83, 67, 65, 78], vS [83, 79, 82, 84], vS [84, 84, 76], vS [84, 89, 80, 69]]) (e := 9) tV (wn rfl) rfl (by simp only [List.map_toArray, List.map_cons, List.map_nil]; rfl) hv (fun w => by kernel_rfl) (fun b3 w4 hv => ?_))
 refine uA rfl (uW k2 ?_)
 refine rR (bR rfl rfl ?_)
 obtain ⟨C, hC, hv, hr, hok, -⟩ := (hv.cellRow (n := 16) (c := 16) (size := 1) rfl (by decide) (by decide)).rowBy
 exact ⟨C, _, _, hC, rfl, hr, hok, hv⟩
theorem kScallable8 : Callable Tryz.prog 8 := cb Tryz.func8 (by kernel_rfl)
theorem kScallable20 : Callable Tryz.prog 20 := cb Tryz.func20 (by kernel_rfl)
theorem kSal34 : AL Tryz.prog 34 [vI 0, vS [], vI 0, vN] := fun w => by kernel_rfl
theorem kScallable21 : Callable Tryz.prog 21 := cb Tryz.func21 (by kernel_rfl)
theorem kScallable11 : Callable Tryz.prog 11 := cb Tryz.func11 (by kernel_rfl)
theorem lawNamesMain (B : Base) (H : List Res) (w : World) (name : List UInt8) (aa : Option Addr) (ac : Nat) (args : List (List UInt8)) (hra : RdV B [] aa (textCells args)) (hoka : SliceOk aa args.length ac) (hxl : ∀ x ∈ args, x.length ≤ 9223372036854775807) (hN : NumB B) (hv : Inv B H w) :
  Calls Tryz.prog 6 #[vS name, .slice aa args.length ac] w fun e w' => e = .returned (.bool true) ∧ Inv B H w' := by
 refine cW Tryz.func6 rfl Tryz.ntmps6 ?_
 simp only [al]
 refine sK fun _ k1 => rL (uA rfl ?_)
 refine uW k1 (sK fun _ k2 => ?_)
 refine sK fun _ k3 => rL (xC kScallable8 rfl ((gAwake B _ _ (hN.more (Base.Le.refl _)) hv).mono ?_) rfl)
 rintro e w4 ⟨rfl, hv⟩
 refine ⟨_, rfl, uG (.bool false) rfl (ex_not rfl rfl rfl) ?_⟩
 refine uM rfl ?_
 refine uM rfl ?_
 refine uG (vI (name.length : Int)) rfl (ex_lenStr Tryz.underlying9 rfl rfl) ?_
 by_cases hb5 : (name.length : Int) > 50
 ·refine uG (.bool true) rfl (ex_gtr rfl rfl rfl (qT hb5)) (uK rfl ?_)
  refine uM rfl ?_
  iterate 3 refine uP rfl ?_
  refine uK rfl (uW k3 ?_)
  refine cT rfl (sK fun _ k6 => ?_)
  refine rL (xC kScallable8 rfl ((gAwake B _ _ (hN.more (Base.Le.refl _)) hv).mono ?_) rfl)
  rintro e w7 ⟨rfl, hv⟩
  refine ⟨_, rfl, uA rfl ?_⟩
  refine uW k6 (rR ?_)
  refine tR (bR rfl rfl ?_)
  exact ⟨rfl, (hv).weak (Base.Le.refl _)⟩
 refine uG (.bool false) rfl (ex_gtr rfl rfl rfl (qF hb5)) (uK rfl ?_)
 refine uM rfl ?_
 refine uM rfl ?_
 refine uG (vI (args.length : Int)) rfl (ex_len0 Tryz.underlying26 rfl rfl) ?_
 by_cases hb8 : (args.length : Int) > 10
 ·refine uG (.bool true) rfl (ex_gtr rfl rfl rfl (qT hb8)) (uK rfl ?_)
  refine uW k3 (cT rfl ?_)
  refine sK fun _ k9 => rL (xC kScallable8 rfl ((gAwake B _ _ (hN.more (Base.Le.refl _)) hv).mono ?_) rfl)
  rintro e w10 ⟨rfl, hv⟩
  refine ⟨_, rfl, uA rfl ?_⟩
  refine uW k9 (rR ?_)
  refine tR (bR rfl rfl ?_)
  exact ⟨rfl, (hv).weak (Base.Le.refl _)⟩
 refine uG (.bool false) rfl (ex_gtr rfl rfl rfl (qF hb8)) (uK rfl ?_)
 refine uW k3 (cF rfl ?_)
 refine kS (tK k2 ?_)
 refine sK fun _ k11 => rL (xC kScallable20 rfl ((gRefNames B _ _ hv).mono ?_) rfl)
 rintro e w12 ⟨C, na, nc, hC, rfl, hrn, hokn, hv⟩
 refine ⟨_, rfl, uA rfl ?_⟩
 refine uW k11 (sK fun _ k13 => ?_)
 refine rL (uA rfl ?_)
 refine uW k13 (sK fun _ k14 => ?_)
 refine sK fun _ k15 => rL (uA rfl ?_)
 refine uW k15 (bB ?_)
 gi_loopw [6, 7] (fun x6 x7 wr => ∃ (i : Nat) (b : Bool), x6 = .bool b ∧ x7 = vI i ∧ i ≤ gNames.length ∧ (b = true ↔ name ∈ gNames.take i) ∧ Inv C (H) wr) (fun x6 x7 _ => gNames.length - (intOf x7).toNat)
 case atStart => exact ⟨0, false, rfl, rfl, Nat.zero_le _, ⟨fun h => (by cases h), fun h => (by cases h)⟩, hv⟩
 case round =>
  obtain ⟨i, b, rfl, rfl, hi, hb, hv⟩ := hrel
  have hnl := gNames_len
  refine sK fun _ k17 => sK fun _ k18 => rL (uM rfl ?_)
  refine uM rfl ?_
  refine uG (vI (gNames.length : Int)) rfl (ex_len0 Tryz.underlying26 rfl rfl) ?_
  by_cases hb19 : (i : Int) < (gNames.length : Int)
  ·refine uG (.bool true) rfl (ex_lss rfl rfl rfl (qT hb19)) (uW k18 ?_)
   refine cT rfl (kS ?_)
   refine tK k17 (sK fun _ k20 => ?_)
   refine bB ?_
   obtain ⟨x, hx⟩ : ∃ x, gNames[i]? = some x := ⟨_, List.getElem?_eq_getElem (show i < gNames.length by omega)⟩
   obtain ⟨nb, no, had, hrdx⟩ := text_reads hrn hx
   subst had
   refine rL (uM rfl ?_)
   refine uM rfl ?_
   cases b
   ·refine uM rfl ?_
    refine uM rfl ?_
    refine uG (.pointer (some ⟨nb, no + i, none⟩)) rfl (ex_index rfl rfl rfl (run_idx1 (k := i) Tryz.underlying26 s9es26 (by omega))) ?_
    refine uL _ rfl (run_load1 s9na9 (hrdx _ _ _ (Base.Le.refl _) no_res hv 0 _ rfl)) ?_
    refine uM rfl ?_
    by_cases hb21 : x = name
    ·refine uG (.bool true) rfl (ex_seql rfl rfl rfl (qT hb21)) (uK rfl ?_)
     refine uA rfl (uZ ?_)
     refine bN (tK k20 ?_)
     refine rL (uM rfl ?_)
     refine uG (vI ((i + 1 : Nat) : Int)) rfl (ex_add rfl rfl rfl (by rw [i64_in (by omega)]; omega)) (uA rfl ?_)
     refine uZ (then_normal ?_)
     go_roundw
     case rel => exact ⟨i + 1, true, rfl, rfl, by omega, by rw [take_next hx, List.mem_append]; exact ⟨fun _ => .inr (by rw [List.mem_singleton]; exact hb21.symm), fun _ => rfl⟩, hv⟩
     case measure => show gNames.length - (((i + 1 : Nat) : Int)).toNat < gNames.length - ((i : Int)).toNat; omega
    refine uG (.bool false) rfl (ex_seql rfl rfl rfl (qF hb21)) (uK rfl ?_)
    refine uA rfl (uZ ?_)
    refine bN (tK k20 ?_)
    refine rL (uM rfl ?_)
    refine uG (vI ((i + 1 : Nat) : Int)) rfl (ex_add rfl rfl rfl (by rw [i64_in (by omega)]; omega)) (uA rfl ?_)
    refine uZ (then_normal ?_)
    go_roundw
    case rel => exact ⟨i + 1, false, rfl, rfl, by omega, by rw [take_next hx, List.mem_append]; exact ⟨fun h9 => (by cases h9), fun h9 => h9.elim (fun h8 => hb.2 h8) (fun h8 => absurd (List.mem_singleton.1 h8).symm hb21)⟩, hv⟩
    case measure => show gNames.length - (((i + 1 : Nat) : Int)).toNat < gNames.length - ((i : Int)).toNat; omega
   iterate 6 refine uP rfl ?_
   refine uK rfl (uA rfl ?_)
   refine uZ (bN ?_)
   refine tK k20 (rL ?_)
   refine uM rfl ?_
   refine uG (vI ((i + 1 : Nat) : Int)) rfl (ex_add rfl rfl rfl (by rw [i64_in (by omega)]; omega)) (uA rfl ?_)
   refine uZ (then_normal ?_)
   go_roundw
   case rel => exact ⟨i + 1, true, rfl, rfl, by omega, by rw [take_next hx, List.mem_append]; exact ⟨fun _ => .inl (hb.1 rfl), fun _ => rfl⟩, hv⟩
   case measure => show gNames.length - (((i + 1 : Nat) : Int)).toNat < gNames.length - ((i : Int)).toNat; omega
  refine uG (.bool false) rfl (ex_lss rfl rfl rfl (qF hb19)) (uW k18 ?_)
  refine cF rfl (xE ?_)
  refine tX (tX ?_)
  refine bH (tK k14 ?_)
  refine sK fun _ k22 => rL ?_
  obtain rfl : i = gNames.length := by omega
  rw [List.take_length] at hb
  refine xC kRcallable15 rfl ((lawOpened26 C _ _ 0 (by omega) (by omega) hv).mono ?_) rfl
  rintro e w23 ⟨v, t, m, s, p, wb, va, vc, sv, rfl, hv⟩
  refine ⟨_, rfl, uA rfl ?_⟩
  refine uW k22 (sK fun _ k24 => ?_)
  refine rL (uM rfl ?_)
  refine uM rfl (uM rfl ?_)
  replace hv := hv.front 1 rfl
  simp only [eS, eZ] at hv
  replace hv := hv.front 1 rfl
  simp only [eS, eZ] at hv
  refine xC kRcallable10 rfl ((gDo C _ _ v t m s p wb va vc sv 0 [] [] (show VM C [] [] from trivial) OkM.nil aa ac args (hra.more hC (fun _ h => h)) hoka (by omega) name hxl (.inr rfl) (hN.more hC) (fun k h => by cases h) (Nat.zero_le _) (by omega) (by omega) ckSorted hv).mono ?_) rfl
  rintro e w25 ⟨D, es', M', r, cs, ok, hD, rfl, hrp, hM', hcmd, hok, hno, -, hv⟩
  refine ⟨_, rfl, ?_⟩
  obtain ⟨rk, rs, rn, rv, rfl⟩ := rp_parts hrp
  by_cases hnm : name ∈ gNames
  ·obtain rfl : ok = true := hok.2 hnm
   obtain rfl : b = true := hb.2 hnm
   refine uM rfl (uE rfl ?_)
   refine uE rfl ?_
   refine sl_alloc tV (wn rfl) rfl hv kSal34 (fun b26 w27 hv => ?_)
   simp only [zP, po]
   refine xS 0 rfl hv rssz34 rfl (by exact ⟨rfl, rfl, rfl, hrp.lv.2, trivial⟩) (fun w28 hv => ?_)
   simp only [zO, sp] at hv
   refine uA rfl (uW k24 ?_)
   refine sK fun _ k29 => sK fun _ k30 => rL (uM rfl ?_)
   refine uM rfl ?_
   iterate 4 refine uP rfl ?_
   refine uK rfl (uW k30 ?_)
   refine cT rfl (sK fun _ k31 => ?_)
   refine rL (uM rfl ?_)
   refine uM rfl ?_
   refine uM rfl (uK rfl ?_)
   refine uA rfl (uW k31 ?_)
   refine rR (tR ?_)
   refine bR rfl rfl (⟨rfl, ((hv.kp [] 0 3)).weak (hC.trans hD)⟩)
  obtain rfl : ok = false := Bool.eq_false_iff.2 fun h9 => hnm (hok.1 h9)
  obtain rfl : b = false := Bool.eq_false_iff.2 fun h9 => hnm (hb.1 h9)
  obtain ⟨rfl, rfl⟩ := hno rfl
  refine uM rfl (uE rfl ?_)
  refine uE rfl ?_
  refine sl_alloc tV (wn rfl) rfl hv kSal34 (fun b32 w33 hv => ?_)
  simp only [zP, po]
  refine xS 0 rfl hv rssz34 rfl (by exact ⟨rfl, rfl, rfl, hrp.lv.2, trivial⟩) (fun w34 hv => ?_)
  simp only [zO, sp] at hv
  refine uA rfl (uW k24 ?_)
  refine sK fun _ k35 => sK fun _ k36 => rL (uM rfl ?_)
  refine uM rfl ?_
  refine xC kScallable21 rfl ((gNamesC D _ _ hv).mono ?_) rfl
  rintro e w37 ⟨E, pa, pc, hE, rfl, hrq, -, hv⟩
  refine ⟨_, rfl, ?_⟩
  refine uM rfl ?_
  refine xC kScallable11 rfl ((refWords E _ _ pa na pc nc gNames hrq (hrn.more (hD.trans hE) (fun _ h => h)) (by decide) hv).mono ?_) rfl
  rintro e w38 ⟨rfl, hv⟩
  refine ⟨_, rfl, uG (.bool false) rfl (ex_not rfl rfl rfl) ?_⟩
  refine uK rfl (uW k36 ?_)
  refine cF rfl (kS ?_)
  refine tK k35 (sK fun _ k39 => ?_)
  refine rL (uM rfl ?_)
  refine uG (.bool true) rfl (ex_not rfl rfl rfl) (uM rfl ?_)
  refine uL (.agg #[vI rk, vS rs, vI rn, rv]) rfl (lM 0 rswd34 hv rfl rfl rfl rfl) ?_
  refine uG (.agg #[vI 0, vS [], vI 0, vN]) rfl (ex_buildN (vs := #[]) rfl (by simp only [List.map_toArray, List.map_nil]) (by kernel_rfl)) ?_
  refine xC k0callable22 rfl (((sameR_leaf (B := E) (k := 0) (s := []) (n := 0)) _ _ (rpCells rk rs rn rv) (rpCells 0 [] 0 (vN)) (hrp.more hE) rpAt_leaf hv).mono ?_) rfl
  rintro e w40 ⟨rfl, hv⟩
  refine ⟨_, rfl, uK rfl ?_⟩
  refine uM rfl ?_
  refine uM rfl ?_
  refine uG (vP v) rfl (ex_nil rfl rfl) ?_
  refine uF (vP v) rfl (v1fa56_0 _ _ _) ?_
  refine uL _ rfl (run_load1 v1na54 (hv.load 1 0 rfl rfl)) ?_
  replace hv := hv.front 2 rfl
  simp only [eS, eZ] at hv
  refine wpi_callI k1callable216 tV wideC rfl (wanted_of (j := 7) (d := 66) (b := true) rfl rfl rfl) rfl rfl (r := vP t) (fun w => by kernel_rfl) (args := #[]) (by simp only [List.map_toArray, List.map_nil]) ((txnNamesB E _ _ t m s p wb va vc sv 0 es' [] (hM'.more hE) (fun k h => by cases h) (Nat.zero_le _) hv).mono ?_)
  rintro e w41 ⟨P, qa, qc, hP, rfl, -, hv⟩
  refine ⟨_, rfl, uG (vI (((namesT [] 0).length) : Int)) rfl (ex_len0 Tryz.underlying26 rfl rfl) ?_⟩
  refine uG (.bool true) rfl (ex_eql rfl rfl rfl (qT (by simp [namesT]))) (uK rfl ?_)
  refine uA rfl (uW k39 ?_)
  refine rR (bR rfl rfl ?_)
  exact ⟨rfl, ((hv.kp [] 0 3)).weak (((hC.trans hD).trans hE).trans hP)⟩
end Go.Proofs.YtngpmolbphinnaaGreatDoor
namespace Go.Pm
open Go.RowKit
def All2 {α β : Type} (R : α → β → Prop) : List α → List β → Prop
 | [], [] => True
 | a :: k, b :: l => R a b ∧ All2 R k l
 | _, _ => False
theorem rep_rowAux {W : World} {S : Nat → Prop} {t : Ty} {a : Option Addr} : ∀ (l : List t.den) (k : Nat), (∀ i (h : i < l.length), ∃ b off xs, a = some ⟨b, off, none⟩ ∧ S b ∧ xs.length = t.size ∧ (∀ j (h : j < xs.length), W.cell? ⟨b, off + (k + i) * t.size + j, none⟩ = some xs[j]) ∧ Rep W S t xs l[i]) →
  ∃ xss : List (List Value), All2 (fun xs d => xs.length = t.size ∧ Rep W S t xs d) xss l ∧ ∀ j (h : j < xss.flatten.length), ∃ b off, a = some ⟨b, off, none⟩ ∧ W.cell? ⟨b, off + k * t.size + j, none⟩ = some xss.flatten[j]
 | [], k, _ => ⟨[], trivial, fun j h => by simp at h⟩
 | d :: l, k, h => by
  obtain ⟨xss, h1, h2⟩ := rep_rowAux l (k + 1) (fun i hi => by
   obtain ⟨b, off, xs, e1, e2, e3, e4, e5⟩ := h (i + 1) (by simpa using hi)
   refine ⟨b, off, xs, e1, e2, e3, fun j hj => ?_, e5⟩
   rw [show k + 1 + i = k + (i + 1) by omega]
   exact e4 j hj)
  obtain ⟨b, off, xs, e1, e2, e3, e4, e5⟩ := h 0 (by simp)
  refine ⟨xs :: xss, ⟨⟨e3, e5⟩, h1⟩, fun j hj => ?_⟩
  rcases Nat.lt_or_ge j xs.length with hx | hx
  ·refine ⟨b, off, e1, ?_⟩
   have := e4 j hx
   rw [Nat.add_zero] at this
   rw [this]
   simp only [List.flatten_cons]
   rw [List.getElem_append_left hx]
  have hj' : j - xs.length < xss.flatten.length := by
   simp only [List.flatten_cons, List.length_append] at hj
   omega
  obtain ⟨b', off', f1, f2⟩ := h2 (j - xs.length) hj'
  refine ⟨b', off', f1, ?_⟩
  rw [show off' + k * t.size + j = off' + (k + 1) * t.size + (j - xs.length) by rw [Nat.succ_mul]; omega, f2]
  simp only [List.flatten_cons]
  rw [List.getElem_append_right hx]
theorem rep_row {W : World} {S : Nat → Prop} {t : Ty} {cs : List Value} {l : List t.den} (h : Rep W S (.slice t) cs l) :
  ∃ a cap xss, cs = [.slice a l.length cap] ∧ SliceOk a l.length cap ∧ RdV (Base.of W) [] a xss.flatten ∧ All2 (fun xs d => xs.length = t.size ∧ Rep W S t xs d) xss l := by
 obtain ⟨a, cap, h1, h2, h4⟩ := h
 obtain ⟨xss, h5, h6⟩ := rep_rowAux (t := t) l 0 (fun i hi => by
  obtain ⟨b, off, xs, e1, e2, e3, e4, e5⟩ := h4 i hi
  refine ⟨b, off, xs, e1, e2, e3, fun j hj => ?_, e5⟩
  rw [Nat.zero_add]
  exact e4 j hj)
 refine ⟨a, cap, xss, h1, h2, rdV_of W fun j hj => ?_, h5⟩
 obtain ⟨b, off, f1, f2⟩ := h6 j hj
 exact ⟨b, off, f1, by rw [← f2, Nat.zero_mul, Nat.add_zero]⟩
theorem rep_texts {W : World} {S : Nat → Prop} : ∀ {xss : List (List Value)} {l : List (List UInt8)}, All2 (fun xs (d : Ty.str.den) => xs.length = Ty.str.size ∧ Rep W S .str xs d) xss l → xss.flatten = textCells l
 | [], [], _ => rfl
 | xs :: xss, d :: l, ⟨⟨h1, h2⟩, h⟩ => by
  have := rep_texts h
  match xs, h1 with
  | [x0], _ =>
   obtain ⟨k1, _⟩ := h2
   have k1' : [x0] = _ := k1
   simp only [List.cons.injEq, and_true] at k1'
   subst k1'
   simp only [List.flatten_cons, this, textCells, List.map_cons]
   rfl
end Go.Pm
namespace Go.Proofs.YtngpmolbphinnaaGreatDoor
open Go
theorem tabOf {W : World} {l : List (String × DataW Unit)} (hl : l.filter (fun x => x.1 == "internal/strconv.uint64pow10") = [("internal/strconv.uint64pow10", Lib.tabData .u64 Lib.pow10Tab)]) (hL : laidMetH Tryz.prog l W) : Lib.TabIs Tryz.prog W "internal/strconv.uint64pow10" .u64 Lib.pow10Tab := by
 have h := hL.filter (fun x => x.1 == "internal/strconv.uint64pow10")
 rw [hl] at h
 have h2 := (laidMetH_iff.1 h).1
 have e : ([("internal/strconv.uint64pow10", (Lib.tabData .u64 Lib.pow10Tab : DataW Unit))].filter fun x => x.2.handleName?.isNone) = [("internal/strconv.uint64pow10", Lib.tabData .u64 Lib.pow10Tab)] := by kernel_rfl
 rw [e] at h2
 exact Lib.tabIs_of_head (g := 1) (t := 244) (e := 110) (n := 20) (by kernel_rfl) (by kernel_rfl) Tryz.underlying244 Tryz.underlying110 (by kernel_rfl) (by kernel_rfl) h2
open Go.RowKit Go.Pm
theorem parsesAny (B : Base) (H : List Res) (h1 : HasErr B 2) (h2 : HasErr B 3) : ParsesAny B H := fun w s hs hv => by
 obtain ⟨t1, v1, h1⟩ := h1
 obtain ⟨t2, v2, h2⟩ := h2
 have c1 := h1 B H w (Base.Le.refl _) hv
 have c2 := h2 B H w (Base.Le.refl _) hv
 have hmax : (ByteArray.mk s.toArray).size ≤ 20 := by show s.toArray.size ≤ 20; simpa using hs
 cases hp : Lib.parseIntB 64 s
 case ok n =>
  have hb := Lib.parseIntB_bounds hp
  have h : Calls Tryz.prog 109 #[vS s, vI 10, vI 64] w _ := Any.strconv_ParseInt_10_at64_ok Tryz.laysPI ⟨s.toArray⟩ (by omega) n hp w
  refine h.mono ?_
  rintro e w' ⟨rfl, hw⟩
  refine ⟨n, .nilIface, rfl, .inl rfl, by omega, fun m m0 m1 e9 => ⟨rfl, ?_⟩, ?_⟩
  ·rw [e9, parse_itoa m m0 m1] at hp
   cases hp; rfl
  rcases hw with rfl | ⟨t, rfl⟩
  ·exact hv
  exact hv.ext (bytesWorld_ext w _ t)
 ·skip
  have h : Calls Tryz.prog 109 #[vS s, vI 10, vI 64] w _ := Any.strconv_ParseInt_10_at64_syntax Tryz.laysPI ⟨s.toArray⟩ (by omega) hp _ w c1 (.inr ⟨_, _, rfl⟩)
  refine h.mono ?_
  rintro e w' ⟨N, rfl, -, -, hx⟩
  refine ⟨0, _, rfl, .inr ⟨_, _, rfl⟩, by omega, fun m m0 m1 e9 => ?_, hv.ext hx⟩
  rw [e9, parse_itoa m m0 m1] at hp
  cases hp
 case range =>
  have h : Calls Tryz.prog 109 #[vS s, vI 10, vI 64] w _ := Any.strconv_ParseInt_10_at64_range Tryz.laysPI ⟨s.toArray⟩ (by omega) hp _ w c2 (.inr ⟨_, _, rfl⟩)
  refine h.mono ?_
  rintro e w' ⟨N, rfl, -, -, hx⟩
  refine ⟨_, _, rfl, .inr ⟨_, _, rfl⟩, ?_, fun m m0 m1 e9 => ?_, hv.ext hx⟩
  ·unfold Lib.intSat
   split <;> decide
  rw [e9, parse_itoa m m0 m1] at hp
  cases hp
theorem numB {W : World} {l : List (String × DataW Unit)} (hl0 : l.filter (fun x => x.1 == "internal/strconv.uint64pow10") = [("internal/strconv.uint64pow10", Lib.tabData .u64 Lib.pow10Tab)])
  {n1 n2 : String} {d1 d2 : DataW Unit} (hl1 : l.filter (fun x => x.1 == "strconv.ErrSyntax") = [("strconv.ErrSyntax", .iface n1 d1)]) (he1 : ([("strconv.ErrSyntax", (DataW.iface n1 d1 : DataW Unit))].filter fun x => x.2.handleName?.isNone) = [("strconv.ErrSyntax", .iface n1 d1)])
  (hl2 : l.filter (fun x => x.1 == "strconv.ErrRange") = [("strconv.ErrRange", .iface n2 d2)]) (he2 : ([("strconv.ErrRange", (DataW.iface n2 d2 : DataW Unit))].filter fun x => x.2.handleName?.isNone) = [("strconv.ErrRange", .iface n2 d2)]) (hL : laidMetH Tryz.prog l W) : NumB (Base.of W) := by
 have ht := tabOf hl0 hL
 obtain ⟨u1, v1, h1⟩ := errOf hl1 he1 (g := 2) (t := 198) (by kernel_rfl) (by kernel_rfl) Tryz.underlying198 hL
 obtain ⟨u2, v2, h2⟩ := errOf hl2 he2 (g := 3) (t := 198) (by kernel_rfl) (by kernel_rfl) Tryz.underlying198 hL
 exact fun C H hC => ⟨formatsInt C H W hC ht, parsesAny C H ((hasErr_of h1).more hC) ((hasErr_of h2).more hC)⟩
end Go.Proofs.YtngpmolbphinnaaGreatDoor
namespace Go.Pm
open Go.RowKit
theorem rep_textsM {W : World} {S : Nat → Prop} {cs : List Value} {l : List (List UInt8)} (h : Rep W S (.slice .str) cs l) : ∃ a c, cs = [.slice a l.length c] ∧ SliceOk a l.length c ∧ RdV (Base.of W) [] a (textCells l) ∧ ∀ x ∈ l, x.length ≤ 9223372036854775807 := by
 have hb : ∀ x ∈ l, x.length ≤ 9223372036854775807 := by
  obtain ⟨a, cap, h1, h2, h4⟩ := h
  intro x hx
  obtain ⟨i, hi, rfl⟩ := List.getElem_of_mem hx
  obtain ⟨b, off, xs, e1, e2, e3, e4, e5⟩ := h4 i hi
  exact e5.2
 obtain ⟨a, c, xss, h1, h2, h3, h4⟩ := rep_row h
 rw [rep_texts h4] at h3
 exact ⟨a, c, h1, h2, h3, hb⟩
end Go.Pm
namespace Go.Proofs.YtngpmolbphinnaaGreatDoor
open Go.RowKit Go.Pm
def laidAll : List (String × DataW Unit) := [("math/bits.deBruijn32tab", Rows.laid_math_bits_deBruijn32tab), ("math/bits.deBruijn64tab", Rows.laid_math_bits_deBruijn64tab), ("internal/strconv.uint64pow10", Rows.laid_internal_strconv_uint64pow10), ("strconv.ErrRange", Rows.laid_strconv_ErrRange), ("strconv.ErrSyntax", Rows.laid_strconv_ErrSyntax)]
abbrev dSyn : DataW Unit := .ptr (.agg [.lit (.string [105, 110, 118, 97, 108, 105, 100, 32, 115, 121, 110, 116, 97, 120])])
abbrev dRan : DataW Unit := .ptr (.agg [.lit (.string [118, 97, 108, 117, 101, 32, 111, 117, 116, 32, 111, 102, 32, 114, 97, 110, 103, 101])])
theorem numAll {W : World} (hL : laidMetH Tryz.prog laidAll W) : NumB (Base.of W) :=
 numB (l := laidAll) (n1 := "*errors.errorString") (d1 := dSyn) (n2 := "*errors.errorString") (d2 := dRan) (by kernel_rfl) (by kernel_rfl) (by kernel_rfl) (by kernel_rfl) (by kernel_rfl) hL
end Go.Proofs.YtngpmolbphinnaaGreatDoor
