/- The reference's Same of texts, pairs, members, values; Small; small. -/
import Derived.Test.YtmpackidbgfoiaaGreatDoorCtFauC
import Derived.Test.YtmpackidbgfoiaaGreatDoorCtFauD
import Derived.Test.YtmpackidbgfoiaaGreatDoorCtFauF
import Derived.Test.YtmpackidbgfoiaaGreatDoorCtFauB
import Derived.Test.YtmpackidbgfoiaaGreatDoorRows
import Derived.Laws.Strings2
import Derived.Laws.IdiomStrings
import Derived.Test.YtmpackidbgfoiaaGreatDoorCtFauE
set_option maxRecDepth 100000
set_option maxHeartbeats 16000000
set_option synthInstance.maxSize 4096
set_option synthInstance.maxHeartbeats 400000
namespace Go.Proofs.YtmpackidbgfoiaaGreatDoor
open Go.RowKit Go.Pm
theorem pairEq (d : Nat) (w : World) (a b : List UInt8) : (Op.equalIn (d + 2) 100 (.agg #[strV a, strV b]) (.agg #[strV a, strV b])).run Tryz.prog w = .ok true w := by
 have hf : Tryz.prog.stoodInHeld 100 = false := by kernel_rfl
 have hfs : (Tryz.prog.fieldsOf 100).toList = [{ name := "Field", type := 9, offset := 0, embedded := false, tag := "", pkgPath := "", byteOffset := 0 }, { name := "Text", type := 9, offset := 1, embedded := false, tag := "", pkgPath := "", byteOffset := 16 }] := by kernel_rfl
 have hag : ∀ w, (isAgg 9).run Tryz.prog w = .ok false w := fun w => by kernel_rfl
 have hs : ∀ w, (sizeOf 9).run Tryz.prog w = .ok 1 w := fun w => by kernel_rfl
 have h9 : Tryz.prog.underlying 9 = some .string := Tryz.underlying9
 rw [run_equalIn_struct w (d + 1) 100 _ _ (by kernel_rfl) hf, hfs]
 simp [Op.eqFields, part, hag, hs, run_equalIn_string w d 9 _ _ h9]
theorem memEq (d : Nat) (w : World) (a : Int) (b : List UInt8) : (Op.equalIn (d + 2) 102 (.agg #[vI a, strV b]) (.agg #[vI a, strV b])).run Tryz.prog w = .ok true w := by
 have hf : Tryz.prog.stoodInHeld 102 = false := by kernel_rfl
 have hfs : (Tryz.prog.fieldsOf 102).toList = [{ name := "Score", type := 3, offset := 0, embedded := false, tag := "", pkgPath := "", byteOffset := 0 }, { name := "Name", type := 9, offset := 1, embedded := false, tag := "", pkgPath := "", byteOffset := 8 }] := by kernel_rfl
 have hag : ∀ w, (isAgg 9).run Tryz.prog w = .ok false w := fun w => by kernel_rfl
 have hs : ∀ w, (sizeOf 9).run Tryz.prog w = .ok 1 w := fun w => by kernel_rfl
 have h9 : Tryz.prog.underlying 9 = some .string := Tryz.underlying9
 have hag3 : ∀ w, (isAgg 3).run Tryz.prog w = .ok false w := fun w => by kernel_rfl
 have hs3 : ∀ w, (sizeOf 3).run Tryz.prog w = .ok 1 w := fun w => by kernel_rfl
 have h3 : Tryz.prog.underlying 3 = some (.int .i64) := Tryz.underlying3
 rw [run_equalIn_struct w (d + 1) 102 _ _ (by kernel_rfl) hf, hfs]
 simp [Op.eqFields, part, hag, hs, hag3, hs3, run_equalIn_string w d 9 _ _ h9, run_equalIn_int w d 3 _ _ _ _ h3]
theorem refWords (B : Base) (H : List Res) (w : World) (ad ad' : Option Addr) (c c' : Nat) (l : List (List UInt8)) (hr : RdV B [] ad (textCells l)) (hr' : RdV B [] ad' (textCells l)) (hm : l.length ≤ 1000000) (hv : Inv B H w) :
  Calls Tryz.prog 25 #[.slice ad l.length c, .slice ad' l.length c'] w fun e w' => e = .returned (.bool true) ∧ Inv B H w' := by
 refine cW Tryz.func25 rfl Tryz.ntmps25 ?_
 simp only [al]
 refine sK fun _ k1 => rL (uA rfl ?_)
 refine uW k1 (sK fun _ k2 => ?_)
 refine sK fun _ k3 => rL (uM rfl ?_)
 refine uG (vI (l.length : Int)) rfl (ex_len0 Tryz.underlying23 rfl rfl) (uM rfl ?_)
 refine uG (vI (l.length : Int)) rfl (ex_len0 Tryz.underlying23 rfl rfl) ?_
 refine uG (.bool false) rfl (ex_neq rfl rfl rfl (qF (fun h => h rfl))) (uW k3 ?_)
 refine cF rfl (kS ?_)
 refine tK k2 (sK fun _ k4 => ?_)
 refine sK fun _ k5 => rL (uA rfl ?_)
 refine uW k5 (bB ?_)
 gi_loopw [5] (fun x5 wr => ∃ (i : Nat), x5 = vI i ∧ i ≤ l.length ∧ Inv B H wr) (fun x5 _ => l.length - (intOf x5).toNat)
 case atStart => exact ⟨0, rfl, Nat.zero_le _, hv⟩
 case round =>
  obtain ⟨i, rfl, hi, hv⟩ := hrel
  refine sK fun _ k7 => sK fun _ k8 => rL (uM rfl ?_)
  refine uM rfl ?_
  refine uG (vI (l.length : Int)) rfl (ex_len0 Tryz.underlying23 rfl rfl) ?_
  by_cases hb9 : (i : Int) < (l.length : Int)
  ·refine uG (.bool true) rfl (ex_lss rfl rfl rfl (qT hb9)) (uW k8 ?_)
   refine cT rfl (kS ?_)
   refine tK k7 (sK fun _ k10 => ?_)
   refine bB (sK fun _ k11 => ?_)
   obtain ⟨x, hx⟩ : ∃ x, l[i]? = some x := ⟨_, List.getElem?_eq_getElem (show i < l.length by omega)⟩
   obtain ⟨bb, bo, had, hrdx⟩ := text_reads hr hx
   subst had
   obtain ⟨b2, o2, hadb2, hrdb2⟩ := text_reads hr' hx
   subst hadb2
   refine rW mixed [] [0,1,2,3,4,5,6,7,8] 26 rfl (by kernel_rfl) hv ?_
   simp only [qm, opAt]
   refine dM (.slice (some ⟨bb, bo, none⟩) l.length c) rfl (dM (vI i) rfl ?_)
   refine dG (.pointer (some ⟨bb, bo + i, none⟩)) rfl (ex_index rfl rfl rfl (run_idx1 (k := i) Tryz.underlying23 s9es23 (by omega))) ?_
   simp only [zP, po]
   refine dL _ rfl (fun hv => ex_load rfl rfl (run_load1 s9na9 (hrdx _ _ _ (Base.Le.refl _) no_res hv 0 _ rfl))) (dM (.slice (some ⟨b2, o2, none⟩) l.length c') rfl ?_)
   refine dM (vI i) rfl ?_
   simp only [zP, po]
   refine dG (.pointer (some ⟨b2, o2 + i, none⟩)) rfl (ex_index rfl rfl rfl (run_idx1 (k := i) Tryz.underlying23 s9es23 (by omega))) (dL _ rfl (fun hv => ex_load rfl rfl (run_load1 s9na9 (hrdb2 _ _ _ (Base.Le.refl _) no_res hv 0 _ rfl))) ?_)
   refine dG (.bool false) rfl (ex_sneq rfl rfl rfl (qF (fun h => h rfl))) (dE fun w12 hv => ?_)
   simp only [zP, po]
   refine tK k11 (cF rfl ?_)
   refine kS (bN ?_)
   refine tK k10 (rL ?_)
   refine uM rfl ?_
   refine uG (vI ((i + 1 : Nat) : Int)) rfl (ex_add rfl rfl rfl (by rw [i64_in (by omega)]; omega)) (uA rfl ?_)
   refine uZ (then_normal ?_)
   go_roundw
   case rel => exact ⟨i + 1, rfl, by omega, hv⟩
   case measure => show l.length - (((i + 1 : Nat) : Int)).toNat < l.length - ((i : Int)).toNat; omega
  refine uG (.bool false) rfl (ex_lss rfl rfl rfl (qF hb9)) (uW k8 ?_)
  refine cF rfl (xE ?_)
  refine tX (tX ?_)
  refine bH (tK k4 ?_)
  refine sK fun _ k13 => rL (uA rfl ?_)
  refine uW k13 (rR ?_)
  refine bR rfl rfl (⟨rfl, hv⟩)
theorem refPairs (B : Base) (H : List Res) (w : World) (ad ad' : Option Addr) (c c' : Nat) (l : List (List UInt8 × List UInt8)) (hr : RdV B [] ad (pairCells l)) (hr' : RdV B [] ad' (pairCells l)) (hm : l.length ≤ 1000000) (hv : Inv B H w) :
  Calls Tryz.prog 68 #[.slice ad l.length c, .slice ad' l.length c'] w fun e w' => e = .returned (.bool true) ∧ Inv B H w' := by
 refine cW Tryz.func68 rfl Tryz.ntmps68 ?_
 simp only [al]
 refine sK fun _ k1 => rL (uA rfl ?_)
 refine uW k1 (sK fun _ k2 => ?_)
 refine sK fun _ k3 => rL (uM rfl ?_)
 refine uG (vI (l.length : Int)) rfl (ex_len0 Tryz.underlying57 rfl rfl) (uM rfl ?_)
 refine uG (vI (l.length : Int)) rfl (ex_len0 Tryz.underlying57 rfl rfl) ?_
 refine uG (.bool false) rfl (ex_neq rfl rfl rfl (qF (fun h => h rfl))) (uW k3 ?_)
 refine cF rfl (kS ?_)
 refine tK k2 (sK fun _ k4 => ?_)
 refine sK fun _ k5 => rL (uA rfl ?_)
 refine uW k5 (bB ?_)
 gi_loopw [5] (fun x5 wr => ∃ (i : Nat), x5 = vI i ∧ i ≤ l.length ∧ Inv B H wr) (fun x5 _ => l.length - (intOf x5).toNat)
 case atStart => exact ⟨0, rfl, Nat.zero_le _, hv⟩
 case round =>
  obtain ⟨i, rfl, hi, hv⟩ := hrel
  refine sK fun _ k7 => sK fun _ k8 => rL (uM rfl ?_)
  refine uM rfl ?_
  refine uG (vI (l.length : Int)) rfl (ex_len0 Tryz.underlying57 rfl rfl) ?_
  by_cases hb9 : (i : Int) < (l.length : Int)
  ·refine uG (.bool true) rfl (ex_lss rfl rfl rfl (qT hb9)) (uW k8 ?_)
   refine cT rfl (kS ?_)
   refine tK k7 (sK fun _ k10 => ?_)
   refine bB (sK fun _ k11 => ?_)
   obtain ⟨x, hx⟩ : ∃ x, l[i]? = some x := ⟨_, List.getElem?_eq_getElem (show i < l.length by omega)⟩
   obtain ⟨bb, bo, had, hrdx⟩ := pair_reads hr hx
   subst had
   obtain ⟨b2, o2, hadb2, hrdb2⟩ := pair_reads hr' hx
   subst hadb2
   refine rW mixed [] [0,1,2,3,4,5,6,7,8] 26 rfl (by kernel_rfl) hv ?_
   simp only [qm, opAt]
   refine dM (.slice (some ⟨bb, bo, none⟩) l.length c) rfl (dM (vI i) rfl ?_)
   refine dG (.pointer (some ⟨bb, bo + i * 2, none⟩)) rfl (ex_index rfl rfl rfl (run_idx (k := i) Tryz.underlying57 s10es57 (by omega))) ?_
   simp only [zP, po]
   refine dL (.agg #[vS x.1, vS x.2]) rfl (fun hv => ex_load rfl rfl (run_loadR (cs := [vS x.1, vS x.2]) s10wd100 (Reads.mid (pre := []) (mid := [vS x.1, vS x.2]) (post := []) hrdx _ _ _ (Base.Le.refl _) no_res hv))) (dM (.slice (some ⟨b2, o2, none⟩) l.length c') rfl ?_)
   refine dM (vI i) rfl ?_
   simp only [zP, po]
   refine dG (.pointer (some ⟨b2, o2 + i * 2, none⟩)) rfl (ex_index rfl rfl rfl (run_idx (k := i) Tryz.underlying57 s10es57 (by omega))) (dL (.agg #[vS x.1, vS x.2]) rfl (fun hv => ex_load rfl rfl (run_loadR (cs := [vS x.1, vS x.2]) s10wd100 (Reads.mid (pre := []) (mid := [vS x.1, vS x.2]) (post := []) hrdb2 _ _ _ (Base.Le.refl _) no_res hv))) ?_)
   refine dG (.bool false) rfl (ex_neqSame (L := [vS x.1, vS x.2]) rfl rfl rfl (by kernel_rfl) (fun w => pairEq 9998 w x.1 x.2)) (dE fun w12 hv => ?_)
   simp only [zP, po]
   refine tK k11 (cF rfl ?_)
   refine kS (bN ?_)
   refine tK k10 (rL ?_)
   refine uM rfl ?_
   refine uG (vI ((i + 1 : Nat) : Int)) rfl (ex_add rfl rfl rfl (by rw [i64_in (by omega)]; omega)) (uA rfl ?_)
   refine uZ (then_normal ?_)
   go_roundw
   case rel => exact ⟨i + 1, rfl, by omega, hv⟩
   case measure => show l.length - (((i + 1 : Nat) : Int)).toNat < l.length - ((i : Int)).toNat; omega
  refine uG (.bool false) rfl (ex_lss rfl rfl rfl (qF hb9)) (uW k8 ?_)
  refine cF rfl (xE ?_)
  refine tX (tX ?_)
  refine bH (tK k4 ?_)
  refine sK fun _ k13 => rL (uA rfl ?_)
  refine uW k13 (rR ?_)
  refine bR rfl rfl (⟨rfl, hv⟩)
theorem refMems (B : Base) (H : List Res) (w : World) (ad ad' : Option Addr) (c c' : Nat) (l : List (Int × List UInt8)) (hr : RdV B [] ad (memCells l)) (hr' : RdV B [] ad' (memCells l)) (hm : l.length ≤ 1000000) (hv : Inv B H w) :
  Calls Tryz.prog 69 #[.slice ad l.length c, .slice ad' l.length c'] w fun e w' => e = .returned (.bool true) ∧ Inv B H w' := by
 refine cW Tryz.func69 rfl Tryz.ntmps69 ?_
 simp only [al]
 refine sK fun _ k1 => rL (uA rfl ?_)
 refine uW k1 (sK fun _ k2 => ?_)
 refine sK fun _ k3 => rL (uM rfl ?_)
 refine uG (vI (l.length : Int)) rfl (ex_len0 Tryz.underlying58 rfl rfl) (uM rfl ?_)
 refine uG (vI (l.length : Int)) rfl (ex_len0 Tryz.underlying58 rfl rfl) ?_
 refine uG (.bool false) rfl (ex_neq rfl rfl rfl (qF (fun h => h rfl))) (uW k3 ?_)
 refine cF rfl (kS ?_)
 refine tK k2 (sK fun _ k4 => ?_)
 refine sK fun _ k5 => rL (uA rfl ?_)
 refine uW k5 (bB ?_)
 gi_loopw [5] (fun x5 wr => ∃ (i : Nat), x5 = vI i ∧ i ≤ l.length ∧ Inv B H wr) (fun x5 _ => l.length - (intOf x5).toNat)
 case atStart => exact ⟨0, rfl, Nat.zero_le _, hv⟩
 case round =>
  obtain ⟨i, rfl, hi, hv⟩ := hrel
  refine sK fun _ k7 => sK fun _ k8 => rL (uM rfl ?_)
  refine uM rfl ?_
  refine uG (vI (l.length : Int)) rfl (ex_len0 Tryz.underlying58 rfl rfl) ?_
  by_cases hb9 : (i : Int) < (l.length : Int)
  ·refine uG (.bool true) rfl (ex_lss rfl rfl rfl (qT hb9)) (uW k8 ?_)
   refine cT rfl (kS ?_)
   refine tK k7 (sK fun _ k10 => ?_)
   refine bB (sK fun _ k11 => ?_)
   obtain ⟨x, hx⟩ : ∃ x, l[i]? = some x := ⟨_, List.getElem?_eq_getElem (show i < l.length by omega)⟩
   obtain ⟨bb, bo, had, hrdx⟩ := mem_reads hr hx
   subst had
   obtain ⟨b2, o2, hadb2, hrdb2⟩ := mem_reads hr' hx
   subst hadb2
   refine rW mixed [] [0,1,2,3,4,5,6,7,8] 26 rfl (by kernel_rfl) hv ?_
   simp only [qm, opAt]
   refine dM (.slice (some ⟨bb, bo, none⟩) l.length c) rfl (dM (vI i) rfl ?_)
   refine dG (.pointer (some ⟨bb, bo + i * 2, none⟩)) rfl (ex_index rfl rfl rfl (run_idx (k := i) Tryz.underlying58 s9es58 (by omega))) ?_
   simp only [zP, po]
   refine dL (.agg #[vI x.1, vS x.2]) rfl (fun hv => ex_load rfl rfl (run_loadR (cs := [vI x.1, vS x.2]) s9wd102 (Reads.mid (pre := []) (mid := [vI x.1, vS x.2]) (post := []) hrdx _ _ _ (Base.Le.refl _) no_res hv))) (dM (.slice (some ⟨b2, o2, none⟩) l.length c') rfl ?_)
   refine dM (vI i) rfl ?_
   simp only [zP, po]
   refine dG (.pointer (some ⟨b2, o2 + i * 2, none⟩)) rfl (ex_index rfl rfl rfl (run_idx (k := i) Tryz.underlying58 s9es58 (by omega))) (dL (.agg #[vI x.1, vS x.2]) rfl (fun hv => ex_load rfl rfl (run_loadR (cs := [vI x.1, vS x.2]) s9wd102 (Reads.mid (pre := []) (mid := [vI x.1, vS x.2]) (post := []) hrdb2 _ _ _ (Base.Le.refl _) no_res hv))) ?_)
   refine dG (.bool false) rfl (ex_neqSame (L := [vI x.1, vS x.2]) rfl rfl rfl (by kernel_rfl) (fun w => memEq 9998 w x.1 x.2)) (dE fun w12 hv => ?_)
   simp only [zP, po]
   refine tK k11 (cF rfl ?_)
   refine kS (bN ?_)
   refine tK k10 (rL ?_)
   refine uM rfl ?_
   refine uG (vI ((i + 1 : Nat) : Int)) rfl (ex_add rfl rfl rfl (by rw [i64_in (by omega)]; omega)) (uA rfl ?_)
   refine uZ (then_normal ?_)
   go_roundw
   case rel => exact ⟨i + 1, rfl, by omega, hv⟩
   case measure => show l.length - (((i + 1 : Nat) : Int)).toNat < l.length - ((i : Int)).toNat; omega
  refine uG (.bool false) rfl (ex_lss rfl rfl rfl (qF hb9)) (uW k8 ?_)
  refine cF rfl (xE ?_)
  refine tX (tX ?_)
  refine bH (tK k4 ?_)
  refine sK fun _ k13 => rL (uA rfl ?_)
  refine uW k13 (rR ?_)
  refine bR rfl rfl (⟨rfl, hv⟩)
theorem s18callable68 : Callable Tryz.prog 68 := cb Tryz.func68 (by kernel_rfl)
theorem s18callable25 : Callable Tryz.prog 25 := cb Tryz.func25 (by kernel_rfl)
theorem s18callable69 : Callable Tryz.prog 69 := cb Tryz.func69 (by kernel_rfl)
theorem refSame0 (B : Base) (H : List Res) (w : World) (v : Val) (ap at2 az ap' at2' az' : Option Addr) (cp ct cz cp' ct' cz' : Nat) (hrp : RdV B [] ap (pairCells v.pairs)) (hrt : RdV B [] at2 (textCells v.texts)) (hrz : RdV B [] az (memCells v.zset)) (hrp' : RdV B [] ap' (pairCells v.pairs)) (hrt' : RdV B [] at2' (textCells v.texts)) (hrz' : RdV B [] az' (memCells v.zset)) (hpm : v.pairs.length ≤ 1000000) (htm : v.texts.length ≤ 1000000) (hzm : v.zset.length ≤ 1000000) (hv : Inv B H w) :
  Calls Tryz.prog 28 #[.agg #[vI v.kind, vS v.text, .slice ap v.pairs.length cp, .slice at2 v.texts.length ct, .slice az v.zset.length cz], .agg #[vI v.kind, vS v.text, .slice ap' v.pairs.length cp', .slice at2' v.texts.length ct', .slice az' v.zset.length cz']] w fun e w' => e = .returned (.bool true) ∧ Inv B H w' := by
 refine cW Tryz.func28 rfl Tryz.ntmps28 ?_
 simp only [al]
 refine sK fun _ k1 => rL (sl_box (L := [vI v.kind, vS v.text, .slice ap v.pairs.length cp, .slice at2 v.texts.length ct, .slice az v.zset.length cz]) tV (wn rfl) rfl rfl hv (fun w => by kernel_rfl) (fun b2 w3 hv => ?_))
 refine sl_box (L := [vI v.kind, vS v.text, .slice ap' v.pairs.length cp', .slice at2' v.texts.length ct', .slice az' v.zset.length cz']) tV (wn rfl) rfl rfl hv (fun w => by kernel_rfl) (fun b4 w5 hv => ?_)
 refine uA rfl (uW k1 ?_)
 refine sK fun _ k6 => rL (uF (vP b2) rfl (s12fa60_0 _ _ _) ?_)
 refine uL _ rfl (run_load1 s2na3 (hv.load 1 0 rfl rfl)) ?_
 refine uF (vP b4) rfl (s12fa60_0 _ _ _) ?_
 refine uL _ rfl (run_load1 s2na3 (hv.load 0 0 rfl rfl)) ?_
 refine uG (.bool true) rfl (ex_eql rfl rfl rfl (qT (rfl))) (uM rfl ?_)
 refine uF (.pointer (some ⟨b2, 1, none⟩)) rfl (s12fa60_1 _ _ _) ?_
 refine uL _ rfl (run_load1 s9na9 (hv.load 1 1 rfl rfl)) ?_
 refine uF (.pointer (some ⟨b4, 1, none⟩)) rfl (s12fa60_1 _ _ _) ?_
 refine uL _ rfl (run_load1 s9na9 (hv.load 0 1 rfl rfl)) ?_
 refine uG (.bool true) rfl (ex_seql rfl rfl rfl (qT (rfl))) (uK rfl ?_)
 refine uM rfl ?_
 refine uF (.pointer (some ⟨b2, 2, none⟩)) rfl (s1fa60_2 _ _ _) ?_
 refine uL _ rfl (run_load1 s1na57 (hv.load 1 2 rfl rfl)) ?_
 refine uF (.pointer (some ⟨b4, 2, none⟩)) rfl (s1fa60_2 _ _ _) ?_
 refine uL _ rfl (run_load1 s1na57 (hv.load 0 2 rfl rfl)) ?_
 refine xC s18callable68 rfl ((refPairs B _ _ _ _ _ _ _ hrp hrp' (by omega) hv).mono ?_) rfl
 rintro e w7 ⟨rfl, hv⟩
 refine ⟨_, rfl, uK rfl ?_⟩
 refine uM rfl ?_
 refine uF (.pointer (some ⟨b2, 3, none⟩)) rfl (s1fa60_3 _ _ _) ?_
 refine uL _ rfl (run_load1 s1na23 (hv.load 1 3 rfl rfl)) ?_
 refine uF (.pointer (some ⟨b4, 3, none⟩)) rfl (s1fa60_3 _ _ _) ?_
 refine uL _ rfl (run_load1 s1na23 (hv.load 0 3 rfl rfl)) ?_
 refine xC s18callable25 rfl ((refWords B _ _ _ _ _ _ _ hrt hrt' (by omega) hv).mono ?_) rfl
 rintro e w8 ⟨rfl, hv⟩
 refine ⟨_, rfl, uK rfl ?_⟩
 refine uM rfl ?_
 refine uF (.pointer (some ⟨b2, 4, none⟩)) rfl (s1fa60_4 _ _ _) ?_
 refine uL _ rfl (run_load1 s1na58 (hv.load 1 4 rfl rfl)) ?_
 refine uF (.pointer (some ⟨b4, 4, none⟩)) rfl (s1fa60_4 _ _ _) ?_
 refine uL _ rfl (run_load1 s1na58 (hv.load 0 4 rfl rfl)) ?_
 refine xC s18callable69 rfl ((refMems B _ _ _ _ _ _ _ hrz hrz' (by omega) hv).mono ?_) rfl
 rintro e w9 ⟨rfl, hv⟩
 refine ⟨_, rfl, uK rfl ?_⟩
 refine uA rfl (uW k6 ?_)
 refine rR (bR rfl rfl ?_)
 exact ⟨rfl, (hv.kp [] 0 2)⟩
theorem refSameV (B : Base) (H : List Res) (w : World) (v : Val) (p t z p' t' z' : Value) (h : ValRd B v p t z) (h' : ValRd B v p' t' z') (hpm : v.pairs.length ≤ 1000000) (htm : v.texts.length ≤ 1000000) (hzm : v.zset.length ≤ 1000000) (hv : Inv B H w) : Calls Tryz.prog 28 #[.agg (valCells v p t z).toArray, .agg (valCells v p' t' z').toArray] w fun e w' => e = .returned (.bool true) ∧ Inv B H w' := by
 obtain ⟨⟨ap, cp, rfl, -, hrp⟩, ⟨at2, ct, rfl, -, hrt⟩, ⟨az, cz, rfl, -, hrz⟩⟩ := h
 obtain ⟨⟨ap', cp', rfl, -, hrp'⟩, ⟨at2', ct', rfl, -, hrt'⟩, ⟨az', cz', rfl, -, hrz'⟩⟩ := h'
 exact refSame0 B H w v ap at2 az ap' at2' az' cp ct cz cp' ct' cz' hrp hrt hrz hrp' hrt' hrz' hpm htm hzm hv
theorem refSmall0 (B : Base) (H : List Res) (w : World) (v : Val) (ap at2 az : Option Addr) (cp ct cz : Nat) (hrp : RdV B [] ap (pairCells v.pairs)) (hrt : RdV B [] at2 (textCells v.texts)) (hrz : RdV B [] az (memCells v.zset)) (hv : Inv B H w) :
  Calls Tryz.prog 16 #[.agg #[vI v.kind, vS v.text, .slice ap v.pairs.length cp, .slice at2 v.texts.length ct, .slice az v.zset.length cz]] w fun e w' => ∃ b, e = .returned (.bool b) ∧ (b = true → ValSm v) ∧ Inv B H w' := by
 refine cW Tryz.func16 rfl Tryz.ntmps16 ?_
 simp only [al]
 refine sK fun _ k1 => rL (sl_box (L := [vI v.kind, vS v.text, .slice ap v.pairs.length cp, .slice at2 v.texts.length ct, .slice az v.zset.length cz]) tV (wn rfl) rfl rfl hv (fun w => by kernel_rfl) (fun b2 w3 hv => ?_))
 refine uA rfl (uW k1 ?_)
 refine sK fun _ k4 => sK fun _ k5 => rL (uF (.pointer (some ⟨b2, 1, none⟩)) rfl (s12fa60_1 _ _ _) ?_)
 refine uL _ rfl (run_load1 s9na9 (hv.load 0 1 rfl rfl)) ?_
 refine uG (vI (v.text.length : Int)) rfl (ex_lenStr Tryz.underlying9 rfl rfl) ?_
 by_cases hb6 : (v.text.length : Int) > 5000
 ·refine uG (.bool true) rfl (ex_gtr rfl rfl rfl (qT hb6)) (uM rfl ?_)
  iterate 4 refine uP rfl ?_
  refine uK rfl (uM rfl ?_)
  iterate 4 refine uP rfl ?_
  refine uK rfl (uM rfl ?_)
  iterate 4 refine uP rfl ?_
  refine uK rfl (uW k5 ?_)
  refine cT rfl (sK fun _ k7 => ?_)
  refine rL (uA rfl ?_)
  refine uW k7 (rR ?_)
  refine tR (bR rfl rfl ?_)
  exact ⟨false, rfl, fun h => (by cases h), (hv.kp [] 0 1)⟩
 refine uG (.bool false) rfl (ex_gtr rfl rfl rfl (qF hb6)) (uM rfl ?_)
 refine uF (.pointer (some ⟨b2, 2, none⟩)) rfl (s1fa60_2 _ _ _) ?_
 refine uL _ rfl (run_load1 s1na57 (hv.load 0 2 rfl rfl)) ?_
 refine uG (vI (v.pairs.length : Int)) rfl (ex_len0 Tryz.underlying57 rfl rfl) ?_
 by_cases hb8 : (v.pairs.length : Int) > 60
 ·refine uG (.bool true) rfl (ex_gtr rfl rfl rfl (qT hb8)) (uK rfl ?_)
  refine uM rfl ?_
  iterate 4 refine uP rfl ?_
  refine uK rfl (uM rfl ?_)
  iterate 4 refine uP rfl ?_
  refine uK rfl (uW k5 ?_)
  refine cT rfl (sK fun _ k9 => ?_)
  refine rL (uA rfl ?_)
  refine uW k9 (rR ?_)
  refine tR (bR rfl rfl ?_)
  exact ⟨false, rfl, fun h => (by cases h), (hv.kp [] 0 1)⟩
 refine uG (.bool false) rfl (ex_gtr rfl rfl rfl (qF hb8)) (uK rfl ?_)
 refine uM rfl ?_
 refine uF (.pointer (some ⟨b2, 3, none⟩)) rfl (s1fa60_3 _ _ _) ?_
 refine uL _ rfl (run_load1 s1na23 (hv.load 0 3 rfl rfl)) ?_
 refine uG (vI (v.texts.length : Int)) rfl (ex_len0 Tryz.underlying23 rfl rfl) ?_
 by_cases hb10 : (v.texts.length : Int) > 600
 ·refine uG (.bool true) rfl (ex_gtr rfl rfl rfl (qT hb10)) (uK rfl ?_)
  refine uM rfl ?_
  iterate 4 refine uP rfl ?_
  refine uK rfl (uW k5 ?_)
  refine cT rfl (sK fun _ k11 => ?_)
  refine rL (uA rfl ?_)
  refine uW k11 (rR ?_)
  refine tR (bR rfl rfl ?_)
  exact ⟨false, rfl, fun h => (by cases h), (hv.kp [] 0 1)⟩
 refine uG (.bool false) rfl (ex_gtr rfl rfl rfl (qF hb10)) (uK rfl ?_)
 refine uM rfl ?_
 refine uF (.pointer (some ⟨b2, 4, none⟩)) rfl (s1fa60_4 _ _ _) ?_
 refine uL _ rfl (run_load1 s1na58 (hv.load 0 4 rfl rfl)) ?_
 refine uG (vI (v.zset.length : Int)) rfl (ex_len0 Tryz.underlying58 rfl rfl) ?_
 by_cases hb12 : (v.zset.length : Int) > 60
 ·refine uG (.bool true) rfl (ex_gtr rfl rfl rfl (qT hb12)) (uK rfl ?_)
  refine uW k5 (cT rfl ?_)
  refine sK fun _ k13 => rL (uA rfl ?_)
  refine uW k13 (rR ?_)
  refine tR (bR rfl rfl ?_)
  exact ⟨false, rfl, fun h => (by cases h), (hv.kp [] 0 1)⟩
 refine uG (.bool false) rfl (ex_gtr rfl rfl rfl (qF hb12)) (uK rfl ?_)
 refine uW k5 (cF rfl ?_)
 refine kS (tK k4 ?_)
 refine sK fun _ k14 => sK fun _ k15 => rL (uA rfl ?_)
 refine uW k15 (bB ?_)
 gi_loopw [3] (fun x3 wr => ∃ (i : Nat), x3 = vI i ∧ i ≤ v.pairs.length ∧ Inv B (Res.cell b2 [vI v.kind, vS v.text, .slice ap v.pairs.length cp, .slice at2 v.texts.length ct, .slice az v.zset.length cz] 60 :: H) wr) (fun x3 _ => v.pairs.length - (intOf x3).toNat)
 case atStart => exact ⟨0, rfl, Nat.zero_le _, hv⟩
 case round =>
  obtain ⟨i, rfl, hi, hv⟩ := hrel
  refine sK fun _ k17 => sK fun _ k18 => rL (uM rfl ?_)
  refine uF (.pointer (some ⟨b2, 2, none⟩)) rfl (s1fa60_2 _ _ _) ?_
  refine uL _ rfl (run_load1 s1na57 (hv.load 0 2 rfl rfl)) ?_
  refine uG (vI (v.pairs.length : Int)) rfl (ex_len0 Tryz.underlying57 rfl rfl) ?_
  by_cases hb19 : (i : Int) < (v.pairs.length : Int)
  ·refine uG (.bool true) rfl (ex_lss rfl rfl rfl (qT hb19)) (uW k18 ?_)
   refine cT rfl (kS ?_)
   refine tK k17 (sK fun _ k20 => ?_)
   refine bB (sK fun _ k21 => ?_)
   obtain ⟨x, hx⟩ : ∃ x, v.pairs[i]? = some x := ⟨_, List.getElem?_eq_getElem (show i < v.pairs.length by omega)⟩
   obtain ⟨bb, bo, had, hrdx⟩ := pair_reads hrp hx
   subst had
   refine rL (uF (.pointer (some ⟨b2, 2, none⟩)) rfl (s1fa60_2 _ _ _) ?_)
   refine uL _ rfl (run_load1 s1na57 (hv.load 0 2 rfl rfl)) (uM rfl ?_)
   refine uG (.pointer (some ⟨bb, bo + i * 2, none⟩)) rfl (ex_index rfl rfl rfl (run_idx (k := i) Tryz.underlying57 s10es57 (by omega))) ?_
   refine uF (.pointer (some ⟨bb, bo + i * 2, none⟩)) rfl (s10fa100_0 _ _ _) ?_
   refine uL _ rfl (run_load1 s9na9 (hrdx _ _ _ (Base.Le.refl _) no_res hv 0 _ rfl)) ?_
   refine uG (vI (x.1.length : Int)) rfl (ex_lenStr Tryz.underlying9 rfl rfl) ?_
   by_cases hb22 : (x.1.length : Int) > 200
   ·refine uG (.bool true) rfl (ex_gtr rfl rfl rfl (qT hb22)) (uM rfl ?_)
    iterate 8 refine uP rfl ?_
    refine uK rfl (uW k21 ?_)
    refine cT rfl (sK fun _ k23 => ?_)
    refine rL (uA rfl ?_)
    refine uW k23 (rR ?_)
    refine bZ (tR ?_)
    refine tR (bZ ?_)
    refine tR (bR rfl rfl ?_)
    exact ⟨false, rfl, fun h => (by cases h), (hv.kp [] 0 1)⟩
   refine uG (.bool false) rfl (ex_gtr rfl rfl rfl (qF hb22)) (uM rfl ?_)
   refine uF (.pointer (some ⟨b2, 2, none⟩)) rfl (s1fa60_2 _ _ _) ?_
   refine uL _ rfl (run_load1 s1na57 (hv.load 0 2 rfl rfl)) ?_
   refine uM rfl ?_
   refine uG (.pointer (some ⟨bb, bo + i * 2, none⟩)) rfl (ex_index rfl rfl rfl (run_idx (k := i) Tryz.underlying57 s10es57 (by omega))) ?_
   refine uF (.pointer (some ⟨bb, bo + i * 2 + 1, none⟩)) rfl (s10fa100_1 _ _ _) ?_
   refine uL _ rfl (run_load1 s9na9 (hrdx _ _ _ (Base.Le.refl _) no_res hv 1 _ rfl)) ?_
   refine uG (vI (x.2.length : Int)) rfl (ex_lenStr Tryz.underlying9 rfl rfl) ?_
   by_cases hb24 : (x.2.length : Int) > 5000
   ·refine uG (.bool true) rfl (ex_gtr rfl rfl rfl (qT hb24)) (uK rfl ?_)
    refine uW k21 (cT rfl ?_)
    refine sK fun _ k25 => rL (uA rfl ?_)
    refine uW k25 (rR ?_)
    refine bZ (tR ?_)
    refine tR (bZ ?_)
    refine tR (bR rfl rfl ?_)
    exact ⟨false, rfl, fun h => (by cases h), (hv.kp [] 0 1)⟩
   refine uG (.bool false) rfl (ex_gtr rfl rfl rfl (qF hb24)) (uK rfl ?_)
   refine uW k21 (cF rfl ?_)
   refine kS (bN ?_)
   refine tK k20 (rL ?_)
   refine uM rfl ?_
   refine uG (vI ((i + 1 : Nat) : Int)) rfl (ex_add rfl rfl rfl (by rw [i64_in (by omega)]; omega)) (uA rfl ?_)
   refine uZ (then_normal ?_)
   go_roundw
   case rel => exact ⟨i + 1, rfl, by omega, hv⟩
   case measure => show v.pairs.length - (((i + 1 : Nat) : Int)).toNat < v.pairs.length - ((i : Int)).toNat; omega
  refine uG (.bool false) rfl (ex_lss rfl rfl rfl (qF hb19)) (uW k18 ?_)
  refine cF rfl (xE ?_)
  refine tX (tX ?_)
  refine bH (tK k14 ?_)
  refine sK fun _ k26 => sK fun _ k27 => rL (uA rfl ?_)
  refine uW k27 (bB ?_)
  gi_loopw [4] (fun x4 wr => ∃ (i : Nat), x4 = vI i ∧ i ≤ v.texts.length ∧ Inv B (Res.cell b2 [vI v.kind, vS v.text, .slice ap v.pairs.length cp, .slice at2 v.texts.length ct, .slice az v.zset.length cz] 60 :: H) wr) (fun x4 _ => v.texts.length - (intOf x4).toNat)
  case atStart => exact ⟨0, rfl, Nat.zero_le _, hv⟩
  case round =>
   obtain ⟨i, rfl, hi, hv⟩ := hrel
   refine sK fun _ k29 => sK fun _ k30 => rL (uM rfl ?_)
   refine uF (.pointer (some ⟨b2, 3, none⟩)) rfl (s1fa60_3 _ _ _) ?_
   refine uL _ rfl (run_load1 s1na23 (hv.load 0 3 rfl rfl)) ?_
   refine uG (vI (v.texts.length : Int)) rfl (ex_len0 Tryz.underlying23 rfl rfl) ?_
   by_cases hb31 : (i : Int) < (v.texts.length : Int)
   ·refine uG (.bool true) rfl (ex_lss rfl rfl rfl (qT hb31)) (uW k30 ?_)
    refine cT rfl (kS ?_)
    refine tK k29 (sK fun _ k32 => ?_)
    refine bB (sK fun _ k33 => ?_)
    obtain ⟨x, hx⟩ : ∃ x, v.texts[i]? = some x := ⟨_, List.getElem?_eq_getElem (show i < v.texts.length by omega)⟩
    obtain ⟨b3, o3, had, hrdx⟩ := text_reads hrt hx
    subst had
    refine rL (uF (.pointer (some ⟨b2, 3, none⟩)) rfl (s1fa60_3 _ _ _) ?_)
    refine uL _ rfl (run_load1 s1na23 (hv.load 0 3 rfl rfl)) (uM rfl ?_)
    refine uG (.pointer (some ⟨b3, o3 + i, none⟩)) rfl (ex_index rfl rfl rfl (run_idx1 (k := i) Tryz.underlying23 s9es23 (by omega))) ?_
    refine uL _ rfl (run_load1 s9na9 (hrdx _ _ _ (Base.Le.refl _) no_res hv 0 _ rfl)) ?_
    refine uG (vI (x.length : Int)) rfl (ex_lenStr Tryz.underlying9 rfl rfl) ?_
    by_cases hb34 : (x.length : Int) > 200
    ·refine uG (.bool true) rfl (ex_gtr rfl rfl rfl (qT hb34)) (uW k33 ?_)
     refine cT rfl (sK fun _ k35 => ?_)
     refine rL (uA rfl ?_)
     refine uW k35 (rR ?_)
     refine bZ (tR ?_)
     refine tR (bZ ?_)
     refine tR (bR rfl rfl ?_)
     exact ⟨false, rfl, fun h => (by cases h), (hv.kp [] 0 1)⟩
    refine uG (.bool false) rfl (ex_gtr rfl rfl rfl (qF hb34)) (uW k33 ?_)
    refine cF rfl (kS ?_)
    refine bN (tK k32 ?_)
    refine rL (uM rfl ?_)
    refine uG (vI ((i + 1 : Nat) : Int)) rfl (ex_add rfl rfl rfl (by rw [i64_in (by omega)]; omega)) (uA rfl ?_)
    refine uZ (then_normal ?_)
    go_roundw
    case rel => exact ⟨i + 1, rfl, by omega, hv⟩
    case measure => show v.texts.length - (((i + 1 : Nat) : Int)).toNat < v.texts.length - ((i : Int)).toNat; omega
   refine uG (.bool false) rfl (ex_lss rfl rfl rfl (qF hb31)) (uW k30 ?_)
   refine cF rfl (xE ?_)
   refine tX (tX ?_)
   refine bH (tK k26 ?_)
   refine sK fun _ k36 => sK fun _ k37 => rL (uA rfl ?_)
   refine uW k37 (bB ?_)
   gi_loopw [5] (fun x5 wr => ∃ (i : Nat), x5 = vI i ∧ i ≤ v.zset.length ∧ Inv B (Res.cell b2 [vI v.kind, vS v.text, .slice ap v.pairs.length cp, .slice at2 v.texts.length ct, .slice az v.zset.length cz] 60 :: H) wr) (fun x5 _ => v.zset.length - (intOf x5).toNat)
   case atStart => exact ⟨0, rfl, Nat.zero_le _, hv⟩
   case round =>
    obtain ⟨i, rfl, hi, hv⟩ := hrel
    refine sK fun _ k39 => sK fun _ k40 => rL (uM rfl ?_)
    refine uF (.pointer (some ⟨b2, 4, none⟩)) rfl (s1fa60_4 _ _ _) ?_
    refine uL _ rfl (run_load1 s1na58 (hv.load 0 4 rfl rfl)) ?_
    refine uG (vI (v.zset.length : Int)) rfl (ex_len0 Tryz.underlying58 rfl rfl) ?_
    by_cases hb41 : (i : Int) < (v.zset.length : Int)
    ·refine uG (.bool true) rfl (ex_lss rfl rfl rfl (qT hb41)) (uW k40 ?_)
     refine cT rfl (kS ?_)
     refine tK k39 (sK fun _ k42 => ?_)
     refine bB (sK fun _ k43 => ?_)
     obtain ⟨x, hx⟩ : ∃ x, v.zset[i]? = some x := ⟨_, List.getElem?_eq_getElem (show i < v.zset.length by omega)⟩
     obtain ⟨b4, o4, had, hrdx⟩ := mem_reads hrz hx
     subst had
     refine rL (uF (.pointer (some ⟨b2, 4, none⟩)) rfl (s1fa60_4 _ _ _) ?_)
     refine uL _ rfl (run_load1 s1na58 (hv.load 0 4 rfl rfl)) (uM rfl ?_)
     refine uG (.pointer (some ⟨b4, o4 + i * 2, none⟩)) rfl (ex_index rfl rfl rfl (run_idx (k := i) Tryz.underlying58 s9es58 (by omega))) ?_
     refine uF (.pointer (some ⟨b4, o4 + i * 2 + 1, none⟩)) rfl (s9fa102_1 _ _ _) ?_
     refine uL _ rfl (run_load1 s9na9 (hrdx _ _ _ (Base.Le.refl _) no_res hv 1 _ rfl)) ?_
     refine uG (vI (x.2.length : Int)) rfl (ex_lenStr Tryz.underlying9 rfl rfl) ?_
     by_cases hb44 : (x.2.length : Int) > 200
     ·refine uG (.bool true) rfl (ex_gtr rfl rfl rfl (qT hb44)) (uW k43 ?_)
      refine cT rfl (sK fun _ k45 => ?_)
      refine rL (uA rfl ?_)
      refine uW k45 (rR ?_)
      refine bZ (tR ?_)
      refine tR (bZ ?_)
      refine tR (bR rfl rfl ?_)
      exact ⟨false, rfl, fun h => (by cases h), (hv.kp [] 0 1)⟩
     refine uG (.bool false) rfl (ex_gtr rfl rfl rfl (qF hb44)) (uW k43 ?_)
     refine cF rfl (kS ?_)
     refine bN (tK k42 ?_)
     refine rL (uM rfl ?_)
     refine uG (vI ((i + 1 : Nat) : Int)) rfl (ex_add rfl rfl rfl (by rw [i64_in (by omega)]; omega)) (uA rfl ?_)
     refine uZ (then_normal ?_)
     go_roundw
     case rel => exact ⟨i + 1, rfl, by omega, hv⟩
     case measure => show v.zset.length - (((i + 1 : Nat) : Int)).toNat < v.zset.length - ((i : Int)).toNat; omega
    refine uG (.bool false) rfl (ex_lss rfl rfl rfl (qF hb41)) (uW k40 ?_)
    refine cF rfl (xE ?_)
    refine tX (tX ?_)
    refine bH (tK k36 ?_)
    refine sK fun _ k46 => rL (uA rfl ?_)
    refine uW k46 (rR ?_)
    refine bR rfl rfl (⟨true, rfl, fun _ => ⟨by omega, by omega, by omega⟩, (hv.kp [] 0 1)⟩)
theorem refSmall (B : Base) (H : List Res) (w : World) (v : Val) (p t z : Value) (h : ValRd B v p t z) (hv : Inv B H w) : Calls Tryz.prog 16 #[.agg (valCells v p t z).toArray] w fun e w' => ∃ b, e = .returned (.bool b) ∧ (b = true → ValSm v) ∧ Inv B H w' := by
 obtain ⟨⟨ap, cp, rfl, -, hrp⟩, ⟨at2, ct, rfl, -, hrt⟩, ⟨az, cz, rfl, -, hrz⟩⟩ := h
 exact refSmall0 B H w v ap at2 az cp ct cz hrp hrt hrz hv
end Go.Proofs.YtmpackidbgfoiaaGreatDoor
namespace Go.Pm
open Go.RowKit
section
variable {P : Program} {a : Act} {w : World} {o : Oper} {t : TypeId} {x y : Operand} {l : List UInt8}
theorem ex_sidx0 {i : Nat} {c : UInt8} (ht : P.underlying t = some .string) (ho : o.op = .index t x y) (hx : a.eval x = .string ⟨l.toArray⟩) (hy : a.eval y = .int .i64 (i : Int)) (hc : l[i]? = some c) : Ex P a o w (.int .u8 (c.toNat : Int)) w := by
 obtain ⟨hi, rfl⟩ := List.getElem?_eq_some_iff.1 hc
 have h := run_index_string (P := P) w t ⟨l.toArray⟩ .i64 (i : Int) ht
 rw [dif_pos ⟨by omega, by show (i : Int) < (l.length : Int); omega⟩] at h
 have e : (⟨l.toArray⟩ : ByteArray)[((i : Int)).toNat]'(by show ((i : Int)).toNat < l.length; omega) = l[i] := rfl
 rw [e] at h
 unfold Ex
 simp [execOp, ho, hx, hy, h]
end
theorem less_pre (l a b : List UInt8) : Op.bytesLess (l ++ a) (l ++ b) = Op.bytesLess a b := by
 induction l with
 | nil => rfl
 | cons x l ih =>
  rw [List.cons_append, List.cons_append]
  simp only [Op.bytesLess, ih]
  simp
section
variable {a b : List UInt8} {i : Nat}
theorem less_at {x y : UInt8} (h : a.take i = b.take i) (hx : a[i]? = some x) (hy : b[i]? = some y) (hne : x ≠ y) : Op.bytesLess a b = decide (x.toNat < y.toNat) := by
 obtain ⟨hi, rfl⟩ := List.getElem?_eq_some_iff.1 hx
 obtain ⟨hj, rfl⟩ := List.getElem?_eq_some_iff.1 hy
 conv => lhs; rw [← List.take_append_drop i a, ← List.take_append_drop i b, h, less_pre, List.drop_eq_getElem_cons hi, List.drop_eq_getElem_cons hj]
 have hb : (a[i] == b[i]) = false := beq_eq_false_iff_ne.2 hne
 simp only [Op.bytesLess, hb, Bool.false_and, Bool.or_false]
 exact decide_eq_decide.2 UInt8.lt_iff_toNat_lt
theorem less_end (h : a.take i = b.take i) (he : i = a.length ∨ i = b.length) (h1 : i ≤ a.length) (h2 : i ≤ b.length) : Op.bytesLess a b = decide (a.length < b.length) := by
 conv => lhs; rw [← List.take_append_drop i a, ← List.take_append_drop i b, h, less_pre]
 rcases he with he | he
 ·rw [he, List.drop_length]
  cases hb : b.drop a.length with
  | nil =>
   have := congrArg List.length hb
   rw [List.length_drop, List.length_nil] at this
   rw [decide_eq_false (by omega)]; rfl
  | cons y l =>
   have := congrArg List.length hb
   rw [List.length_drop, List.length_cons] at this
   rw [decide_eq_true (by omega)]; rfl
 rw [he, List.drop_length, decide_eq_false (by omega)]
 cases a.drop b.length <;> rfl
theorem take_step {x : UInt8} (h : a.take i = b.take i) (hx : a[i]? = some x) (hy : b[i]? = some x) : a.take (i + 1) = b.take (i + 1) := by
 rw [List.take_add_one, List.take_add_one, h, hx, hy]
end
end Go.Pm
namespace Go.Proofs.YtmpackidbgfoiaaGreatDoor
open Go.RowKit Go.Pm
theorem refLess (B : Base) (H : List Res) (w : World) (a b : List UInt8) (hl : a.length ≤ 1000000000) (hv : Inv B H w) :
  Calls Tryz.prog 41 #[vS a, vS b] w fun e w' => e = .returned (.bool (Op.bytesLess a b)) ∧ Inv B H w' := by
 refine cW Tryz.func41 rfl Tryz.ntmps41 ?_
 simp only [al]
 refine sK fun _ k1 => rL (uA rfl ?_)
 refine uW k1 (sK fun _ k2 => ?_)
 refine sK fun _ k3 => rL (uA rfl ?_)
 refine uW k3 (bB ?_)
 gi_loopw [5] (fun x5 wr => ∃ (i : Nat), x5 = vI i ∧ i ≤ a.length ∧ i ≤ b.length ∧ a.take i = b.take i ∧ Inv B H wr) (fun x5 _ => a.length - (intOf x5).toNat)
 case atStart => exact ⟨0, rfl, Nat.zero_le _, Nat.zero_le _, rfl, hv⟩
 case round =>
  obtain ⟨i, rfl, hia, hib, hab, hv⟩ := hrel
  refine sK fun _ k5 => sK fun _ k6 => rL (uM rfl ?_)
  refine uM rfl ?_
  refine uG (vI (a.length : Int)) rfl (ex_lenStr Tryz.underlying9 rfl rfl) ?_
  by_cases hb7 : (i : Int) < (a.length : Int)
  ·refine uG (.bool true) rfl (ex_lss rfl rfl rfl (qT hb7)) (uM rfl ?_)
   refine uM rfl ?_
   refine uM rfl ?_
   refine uG (vI (b.length : Int)) rfl (ex_lenStr Tryz.underlying9 rfl rfl) ?_
   by_cases hb8 : (i : Int) < (b.length : Int)
   ·refine uG (.bool true) rfl (ex_lss rfl rfl rfl (qT hb8)) (uK rfl ?_)
    refine uW k6 (cT rfl ?_)
    refine kS (tK k5 ?_)
    refine sK fun _ k9 => bB (sK fun _ k10 => ?_)
    obtain ⟨x, hx⟩ : ∃ x, a[i]? = some x := ⟨_, List.getElem?_eq_getElem (show i < a.length by omega)⟩
    obtain ⟨y, hy⟩ : ∃ y, b[i]? = some y := ⟨_, List.getElem?_eq_getElem (show i < b.length by omega)⟩
    refine rW mixed [] [0,1,2,3,4,5,6] 37 rfl (by kernel_rfl) hv ?_
    simp only [qm, opAt]
    refine dM (vS a) rfl (dM (vI i) rfl ?_)
    refine dG (.int .u8 (x.toNat : Int)) rfl (ex_sidx0 Tryz.underlying9 rfl rfl rfl hx) ?_
    simp only [zP, po]
    refine dM (vS b) rfl (dM (vI i) rfl ?_)
    refine dG (.int .u8 (y.toNat : Int)) rfl (ex_sidx0 Tryz.underlying9 rfl rfl rfl hy) ?_
    simp only [zP, po]
    by_cases hb11 : (x.toNat : Int) ≠ (y.toNat : Int)
    ·refine dG (.bool true) rfl (ex_neq rfl rfl rfl (qT hb11)) (dE fun w12 hv => ?_)
     simp only [zP, po]
     refine tK k10 (cT rfl ?_)
     refine sK fun _ k13 => rW mixed [] [0,1,2,3,4,5,6,7] 37 rfl (by kernel_rfl) hv ?_
     simp only [qm, opAt]
     refine dM (vS a) rfl (dM (vI i) rfl ?_)
     refine dG (.int .u8 (x.toNat : Int)) rfl (ex_sidx0 Tryz.underlying9 rfl rfl rfl hx) ?_
     simp only [zP, po]
     refine dM (vS b) rfl (dM (vI i) rfl ?_)
     refine dG (.int .u8 (y.toNat : Int)) rfl (ex_sidx0 Tryz.underlying9 rfl rfl rfl hy) ?_
     simp only [zP, po]
     refine dG (.bool (decide ((x.toNat : Int) < (y.toNat : Int)))) rfl (ex_lss rfl rfl rfl rfl) (dA (.bool (decide ((x.toNat : Int) < (y.toNat : Int)))) rfl ?_)
     refine dE fun w14 hv => ?_
     simp only [zP, po]
     refine tK k13 (rR ?_)
     refine bZ (tR ?_)
     refine tR (bZ ?_)
     refine tR (bR rfl rfl ?_)
     exact ⟨congrArg (fun b => Ending.returned (Value.bool b)) (by rw [less_at hab hx hy (fun e => by rw [e] at hb11; exact hb11 rfl)]; exact decide_eq_decide.2 (by omega)), hv⟩
    refine dG (.bool false) rfl (ex_neq rfl rfl rfl (qF hb11)) (dE fun w15 hv => ?_)
    simp only [zP, po]
    refine tK k10 (cF rfl ?_)
    refine kS (bN ?_)
    refine tK k9 (rL ?_)
    refine uM rfl ?_
    refine uG (vI ((i + 1 : Nat) : Int)) rfl (ex_add rfl rfl rfl (by rw [i64_in (by omega)]; omega)) (uA rfl ?_)
    refine uZ (then_normal ?_)
    go_roundw
    case rel => exact ⟨i + 1, rfl, by omega, by omega, take_step hab hx (by rw [hy, UInt8.toNat_inj.1 (show x.toNat = y.toNat by omega)]), hv⟩
    case measure => show a.length - (((i + 1 : Nat) : Int)).toNat < a.length - ((i : Int)).toNat; omega
   refine uG (.bool false) rfl (ex_lss rfl rfl rfl (qF hb8)) (uK rfl ?_)
   refine uW k6 (cF rfl ?_)
   refine xE (tX ?_)
   refine tX (bH ?_)
   refine tK k2 (sK fun _ k16 => ?_)
   refine rL (uM rfl ?_)
   refine uG (vI (a.length : Int)) rfl (ex_lenStr Tryz.underlying9 rfl rfl) (uM rfl ?_)
   refine uG (vI (b.length : Int)) rfl (ex_lenStr Tryz.underlying9 rfl rfl) ?_
   refine uG (.bool (decide ((a.length : Int) < (b.length : Int)))) rfl (ex_lss rfl rfl rfl rfl) (uA rfl ?_)
   refine uW k16 (rR ?_)
   refine bR rfl rfl (⟨congrArg (fun b => Ending.returned (Value.bool b)) (by rw [less_end hab (by omega) hia hib]; exact decide_eq_decide.2 (by omega)), hv⟩)
  refine uG (.bool false) rfl (ex_lss rfl rfl rfl (qF hb7)) (uM rfl ?_)
  iterate 4 refine uP rfl ?_
  refine uK rfl (uW k6 ?_)
  refine cF rfl (xE ?_)
  refine tX (tX ?_)
  refine bH (tK k2 ?_)
  refine sK fun _ k17 => rL (uM rfl ?_)
  refine uG (vI (a.length : Int)) rfl (ex_lenStr Tryz.underlying9 rfl rfl) (uM rfl ?_)
  refine uG (vI (b.length : Int)) rfl (ex_lenStr Tryz.underlying9 rfl rfl) ?_
  refine uG (.bool (decide ((a.length : Int) < (b.length : Int)))) rfl (ex_lss rfl rfl rfl rfl) (uA rfl ?_)
  refine uW k17 (rR ?_)
  refine bR rfl rfl (⟨congrArg (fun b => Ending.returned (Value.bool b)) (by rw [less_end hab (by omega) hia hib]; exact decide_eq_decide.2 (by omega)), hv⟩)
def InsK (L : List KeyR) (k : KeyR) (K' : List KeyR) : Prop := ∃ j, j ≤ L.length ∧ K' = L.take j ++ k :: L.drop j ∧ (∀ x ∈ L.take j, Op.bytesLess x.name k.name = true) ∧ (∀ x, L[j]? = some x → Op.bytesLess x.name k.name = false)
def PutK (K : List KeyR) (clk : Int) (name : List UInt8) (v : Val) (exp : Int) (K' : List KeyR) : Prop := (¬ FullV v ∧ K' = delK K clk name) ∨ (FullV v ∧ InsK (others K name) ⟨name, v, exp⟩ K')
theorem take_all_next {L : List KeyR} {j : Nat} {x : KeyR} {p : KeyR → Prop} (hx : L[j]? = some x) (h : ∀ y ∈ L.take j, p y) (hp : p x) : ∀ y ∈ L.take (j + 1), p y := by
 intro y hy
 rw [take_next hx, List.mem_append, List.mem_singleton] at hy
 rcases hy with hy | rfl
 ·exact h y hy
 exact hp
theorem others_mem {K : List KeyR} {name : List UInt8} {x : KeyR} (h : x ∈ others K name) : x ∈ K := (List.mem_filter.1 h).1
theorem v3al32 : AL Tryz.prog 32 [vN, vI 0, vN] := fun w => by kernel_rfl
theorem v3callable38 : Callable Tryz.prog 38 := cb Tryz.func38 (by kernel_rfl)
theorem v3callable39 : Callable Tryz.prog 39 := cb Tryz.func39 (by kernel_rfl)
theorem v3callable41 : Callable Tryz.prog 41 := cb Tryz.func41 (by kernel_rfl)
theorem v3mk84 : (Tryz.prog.info? 84).map (fun i => (i.zero, i.size, i.bytes)) = some (some (.agg #[vS [], vI 0, vS [], vN, vN, vN, vI 0]), 7, 120) := by kernel_rfl
theorem v3el30 : Elem Tryz.prog 30 84 (.agg #[vS [], vI 0, vS [], vN, vN, vN, vI 0]) 7 120 := elem_of Tryz.underlying30 v3mk84 (by rfl) (by decide)
theorem refPut20 (B : Base) (H : List Res) (w : World) (K : List KeyR) (wl : List (List UInt8)) (ka wa : Option Addr) (kc wc : Nat) (xs : List Value) (clk : Int) (hR : RefV B K wl ka wa kc wc xs) (hm : K.length ≤ 10000) (hmw : wl.length ≤ 10000) (hkn : ∀ x ∈ K, x.name.length ≤ 1000) (name : List UInt8) (v : Val) (vp vt vz : Value) (exp : Int) (hval : ValAt B v vp vt vz) (hv : Inv B H w) :
  Calls Tryz.prog 19 #[.agg #[.slice ka K.length kc, vI clk, .slice wa wl.length wc], vS name, .agg #[vI v.kind, vS v.text, vp, vt, vz], vI exp] w fun e w' => ∃ C K' wl' ka' kc' wa' wc' xs', B.Le C ∧ e = .returned (.agg #[.slice ka' K'.length kc', vI clk, .slice wa' wl'.length wc']) ∧ RefV C K' wl' ka' wa' kc' wc' xs' ∧ PutK K clk name v exp K' ∧ wl'.length ≤ wl.length + 1 ∧ Inv C H w' := by
 refine cW Tryz.func19 rfl Tryz.ntmps19 ?_
 simp only [al]
 refine sK fun _ k1 => rL (sl_box (L := [.slice ka K.length kc, vI clk, .slice wa wl.length wc]) tV (wn rfl) rfl rfl hv (fun w => by kernel_rfl) (fun b2 w3 hv => ?_))
 refine sl_box (L := [vI v.kind, vS v.text, vp, vt, vz]) tV (wn rfl) rfl rfl hv (fun w => by kernel_rfl) (fun b4 w5 hv => ?_)
 refine sl_alloc tV (wn rfl) rfl hv v3al32 (fun b6 w7 hv => ?_)
 refine uW k1 (sK fun _ k8 => ?_)
 refine sK fun _ k9 => rL (uF (vP b4) rfl (s12fa60_0 _ _ _) ?_)
 refine uL _ rfl (run_load1 s2na3 (hv.load 1 0 rfl rfl)) ?_
 by_cases hb10 : v.kind ≠ 1
 ·refine uG (.bool true) rfl (ex_neq rfl rfl rfl (qT hb10)) (uM rfl ?_)
  refine uL (.agg #[vI v.kind, vS v.text, vp, vt, vz]) rfl (lM 1 s1wd60 hv rfl rfl rfl rfl) ?_
  refine xC v3callable38 rfl ((refSize B _ _ v vp vt vz hval hv).mono ?_) rfl
  rintro e w11 ⟨rfl, hv⟩
  refine ⟨_, rfl, ?_⟩
  simp only [zP, po]
  by_cases hb12 : (sizeV v : Int) = 0
  ·refine uG (.bool true) rfl (ex_eql rfl rfl rfl (qT hb12)) (uK rfl ?_)
   refine uW k9 (cT rfl ?_)
   refine sK fun _ k13 => rL (uL (.agg #[.slice ka K.length kc, vI clk, .slice wa wl.length wc]) rfl (lM 2 v2wd32 hv rfl rfl rfl rfl) ?_)
   refine uM rfl ?_
   refine xC v3callable39 rfl ((refDel20 B _ _ K wl ka wa kc wc xs clk hR hm hmw name hv).mono ?_) rfl
   rintro e w14 ⟨C, K', wl', ka', kc', wa', wc', xs', hC, rfl, hR', hK', hwl', hv⟩
   refine ⟨_, rfl, ?_⟩
   simp only [zP, po]
   refine xS 0 rfl hv v2sz32 rfl (by exact ⟨rfl, rfl, rfl, trivial⟩) (fun w15 hv => ?_)
   simp only [zO, sp] at hv
   refine uW k13 (rR ?_)
   refine tR (bC 0 v2wd32 hv rfl rfl rfl rfl ?_)
   have hnf : ¬ FullV v := fun h => h.elim (fun h => hb10 h) (fun h => by have h9 := hb12; unfold sizeV at h9; rw [if_neg (fun h8 => hb10 h8)] at h9; omega)
   exact ⟨_, K', wl', _, _, _, _, _, hC, rfl, hR', .inl ⟨hnf, hK'⟩, hwl', (hv.kp [] 0 3)⟩
  refine uG (.bool false) rfl (ex_eql rfl rfl rfl (qF hb12)) (uK rfl ?_)
  refine uW k9 (cF rfl ?_)
  refine kS (tK k8 ?_)
  refine sK fun _ k16 => rL (uL (.agg #[.slice ka K.length kc, vI clk, .slice wa wl.length wc]) rfl (lM 2 v2wd32 hv rfl rfl rfl rfl) ?_)
  refine uM rfl ?_
  refine xC v2callable40 rfl ((refWithout20 B _ _ K wl ka wa kc wc xs clk hR hm hmw name hv).mono ?_) rfl
  rintro e w17 ⟨C, la, lc, lys, hC, rfl, hlok, hlr, hlys, hv⟩
  refine ⟨_, rfl, ?_⟩
  obtain ⟨L, hL⟩ : ∃ L, L = others K name := ⟨_, rfl⟩
  have hLl := others_le K name
  have hLm : ∀ x ∈ L, x ∈ K := fun x hx => others_mem (by rw [← hL]; exact hx)
  rw [← hL] at hlok hlys hLl
  rw [show (others K name).length = L.length by rw [hL]]
  refine uA rfl (uW k16 ?_)
  refine sK fun _ k18 => rL (uA rfl ?_)
  refine uW k18 (sK fun _ k19 => ?_)
  refine rL (uA rfl ?_)
  refine uW k19 (sK fun _ k20 => ?_)
  refine bB ?_
  gi_loopw [10, 11] (fun x10 x11 wr => ∃ (j : Nat) (ra : Option Addr) (rc : Nat) (ys : List Value), x10 = .slice ra j rc ∧ x11 = vI j ∧ j ≤ L.length ∧ KeysAt C (L.take j) ys ∧ (∀ x ∈ L.take j, Op.bytesLess x.name name = true) ∧ Inv C (Res.row 84 7 (.slice ra j rc) j ys :: Res.cell b6 [vN, vI 0, vN] 32 :: Res.cell b4 [vI v.kind, vS v.text, vp, vt, vz] 60 :: Res.cell b2 [.slice ka K.length kc, vI clk, .slice wa wl.length wc] 32 :: H) wr) (fun x10 x11 _ => L.length - (intOf x11).toNat)
  case atStart => exact ⟨0, none, 0, [], rfl, rfl, Nat.zero_le _, rfl, fun x hx => (by cases hx), ((((hv.front 2 rfl).front 2 rfl).front 2 rfl)).rowNil 84 7⟩
  case round =>
   obtain ⟨j, ra, rc, ys, rfl, rfl, hj, hys, hpre, hv⟩ := hrel
   refine sK fun _ k22 => sK fun _ k23 => rL (uM rfl ?_)
   refine uM rfl ?_
   refine uG (vI (L.length : Int)) rfl (ex_len0 Tryz.underlying30 rfl rfl) ?_
   by_cases hb24 : (j : Int) < (L.length : Int)
   ·obtain ⟨x, hx⟩ : ∃ x, L[j]? = some x := ⟨_, List.getElem?_eq_getElem (show j < L.length by omega)⟩
    obtain ⟨bb, bo, xp, xt, xz, had, hvalx, hrdx⟩ := KeysAt.reads hlys hlr hx
    subst had
    have hxK := hkn x (hLm x (List.mem_of_getElem? hx))
    refine uG (.bool true) rfl (ex_lss rfl rfl rfl (qT hb24)) (uM rfl ?_)
    refine uM rfl ?_
    refine uM rfl ?_
    refine uG (.pointer (some ⟨bb, bo + j * 7, none⟩)) rfl (ex_index rfl rfl rfl (run_idx (k := j) Tryz.underlying30 v2es30 (by omega))) ?_
    refine uF (.pointer (some ⟨bb, bo + j * 7, none⟩)) rfl (v2fa84_0 _ _ _) ?_
    refine uL _ rfl (run_load1 s9na9 (hrdx _ _ _ (Base.Le.refl _) no_res hv 0 _ rfl)) ?_
    refine uM rfl ?_
    refine xC v3callable41 rfl ((refLess C _ _ x.name name (by omega) hv).mono ?_) rfl
    rintro e w25 ⟨rfl, hv⟩
    refine ⟨_, rfl, uK rfl ?_⟩
    refine uW k23 (wpIn_cond_split (t := (Op.bytesLess x.name name)) rfl (fun hc26 => ?_) (fun hc26 => ?_))
    ·refine kS (tK k22 ?_)
     refine bB (sK fun _ k27 => ?_)
     refine rL (uM rfl ?_)
     refine uM rfl (uM rfl ?_)
     refine uG (.pointer (some ⟨bb, bo + j * 7, none⟩)) rfl (ex_index rfl rfl rfl (run_idx (k := j) Tryz.underlying30 v2es30 (by omega))) ?_
     refine uL (.agg #[vS x.name, vI x.val.kind, vS x.val.text, xp, xt, xz, vI x.exp]) rfl (run_loadR (cs := [vS x.name, vI x.val.kind, vS x.val.text, xp, xt, xz, vI x.exp]) v2wd84 (Reads.mid (pre := []) (mid := [vS x.name, vI x.val.kind, vS x.val.text, xp, xt, xz, vI x.exp]) (post := []) hrdx _ _ _ (Base.Le.refl _) no_res hv)) ?_
     refine sl_rowAgg (L := [vS x.name, vI x.val.kind, vS x.val.text, xp, xt, xz, vI x.exp]) tV (wn rfl) rfl rfl hv v3el30 rfl (by decide) (fun b28 w29 hv => ?_)
     simp only [zP, po]
     replace hv := hv.front 1 rfl
     simp only [eS, eZ] at hv
     refine sl_append (news := [vS x.name, vI x.val.kind, vS x.val.text, xp, xt, xz, vI x.exp]) tV (wn rfl) rfl rfl rfl v3el30 hv (ok_full (by omega)) rfl (rd_all (hv.get 1 rfl)) (krCells_one (v := x) hvalx) (by unfold maxLen; omega) (by omega) (fun rv30 w33 hv => ?_)
     obtain ⟨ra31, rc32, rfl⟩ := row_slice hv.head
     refine uA rfl (uW k27 ?_)
     refine rL (uM rfl ?_)
     refine uG (vI ((j + 1 : Nat) : Int)) rfl (ex_add rfl rfl rfl (by rw [i64_in (by omega)]; omega)) (uA rfl ?_)
     refine uZ (bN ?_)
     refine then_normal ?_
     go_roundw
     case rel => exact ⟨j + 1, _, _, _, rfl, rfl, by omega, KeysAt.next hys hx hvalx, take_all_next hx hpre hc26, (hv.kp [4, 4, 4, 3] 4 1)⟩
     case measure => show L.length - (((j + 1 : Nat) : Int)).toNat < L.length - ((j : Int)).toNat; omega
    refine xE (tX ?_)
    refine tX (bH ?_)
    refine tK k20 (sK fun _ k34 => ?_)
    have hstop : ∀ x, L[j]? = some x → Op.bytesLess x.name name = false := by
     intro x9 hx9
     rw [hx] at hx9; cases hx9; exact hc26
    refine rL (uM rfl ?_)
    refine uM rfl ?_
    refine uL (.agg #[vI v.kind, vS v.text, vp, vt, vz]) rfl (lM 2 s1wd60 hv rfl rfl rfl rfl) (uM rfl ?_)
    refine uG (.agg #[vS name, vI v.kind, vS v.text, vp, vt, vz, vI exp]) rfl (ex_buildN (vs := #[(0, vS name), (1, .agg #[vI v.kind, vS v.text, vp, vt, vz]), (2, vI exp)]) rfl (by simp only [List.map_toArray, List.map_cons, List.map_nil]; rfl) (by kernel_rfl)) ?_
    refine sl_rowAgg (L := [vS name, vI v.kind, vS v.text, vp, vt, vz, vI exp]) tV (wn rfl) rfl rfl hv v3el30 rfl (by decide) (fun b35 w36 hv => ?_)
    simp only [zP, po]
    replace hv := hv.front 1 rfl
    simp only [eS, eZ] at hv
    refine sl_append (news := [vS name, vI v.kind, vS v.text, vp, vt, vz, vI exp]) tV (wn rfl) rfl rfl rfl v3el30 hv (ok_full (by omega)) rfl (rd_all (hv.get 1 rfl)) (krCells_one (v := ⟨name, v, exp⟩) hval) (by unfold maxLen; omega) (by omega) (fun rv37 w40 hv => ?_)
    obtain ⟨ra38, rc39, rfl⟩ := row_slice hv.head
    refine uA rfl (uW k34 ?_)
    refine sK fun _ k41 => ?_
    obtain ⟨a3, c3, ha3, ok3, hr3⟩ := sliced_fromV 7 hlok hlr hlys.len hj (by decide)
    refine rW mixed [4, 9, 11] [0,1,2,3,5,6,7,8,4,9,10,11] 66 rfl (by kernel_rfl) hv ?_
    simp only [qm, opAt]
    refine dM (.slice ra38 (j + 1) rc39) rfl (dM (.slice (some ⟨bb, bo, none⟩) L.length lc) rfl ?_)
    refine dM (vI j) rfl ?_
    simp only [zP, po]
    refine dG (.slice a3 (L.length - j) c3) rfl (ex_slice (lo' := some (vI j)) rfl rfl (congrArg some rfl) rfl rfl ((run_fromAny Tryz.underlying30 v2es30 (by omega)).trans (by rw [ha3]))) (dG (.pointer (some ⟨b2, 1, none⟩)) rfl (ex_field rfl rfl (v2fa32_1 _ _ _)) ?_)
    refine dF _ rfl (fun hv => ex_load rfl rfl (run_load1 s2na3 (hv.load 4 1 rfl rfl))) fun f42 hf42 => ?_
    simp only [zP, po]
    refine dF (.agg #[.slice ka K.length kc, vI clk, .slice wa wl.length wc]) rfl (fun hv => ex_load rfl rfl (lM 4 v2wd32 hv rfl rfl rfl rfl)) fun f43 hf43 => dM (vS name) rfl (dS rfl fun w44 hv => ?_)
    refine mem_append (news := lys.drop (j * 7)) rfl rfl rfl rfl v3el30 hv ok3 (by rw [List.length_drop, hlys.len, Nat.sub_mul]) ((hr3.more (Base.Le.refl _) (fun _ h => by cases h) : RdV C _ _ _).src hv) ((hlys.drop j).one) (by unfold maxLen; omega) (by omega) (fun rv45 w48 hv => ?_)
    obtain ⟨ra46, rc47, rfl⟩ := row_slice hv.head
    refine dV hv (fC (fun ww hv => hf43 ww ?_) (fC (fun ww hv => hf42 ww (ex_load rfl rfl (run_load1 s2na3 (hv.load 4 1 rfl rfl)))) fN)) ?_
    ·exact ex_load rfl rfl (lM 4 v2wd32 hv rfl rfl rfl rfl)
    simp only [zP, po]
    refine dS rfl fun w49 hv => mC v2callable42 rfl ((refWrote20 C _ _ K wl ka wa kc wc xs clk (hR.more hC) hm hmw name hv).mono ?_) rfl
    rintro e w50 ⟨D, ya, yc, hD, rfl, hyok, hyr, hv⟩
    refine ⟨_, rfl, dV hv (fK rfl (fC (fun ww hv => hf42 ww (ex_load rfl rfl (run_load1 s2na3 (hv.load 4 1 rfl rfl)))) fN)) ?_⟩
    refine dG (.agg #[.slice ra46 ((j + 1) + (L.length - j)) rc47, vI clk, .slice ya (wl.length + 1) yc]) rfl (ex_buildN (vs := #[(0, .slice ra46 ((j + 1) + (L.length - j)) rc47), (1, vI clk), (2, .slice ya (wl.length + 1) yc)]) rfl (by simp only [List.map_toArray, List.map_cons, List.map_nil]; rfl) (by kernel_rfl)) (dS rfl fun w51 hv => ?_)
    refine mS 2 rfl hv v2sz32 rfl (by exact ⟨rfl, rfl, rfl, trivial⟩) (fun w52 hv => ?_)
    simp only [zS, zO, sp] at hv
    refine dV hv (fK rfl (fK rfl fN)) (dE fun w53 hv => ?_)
    simp only [zP, po]
    refine tK k41 (rR ?_)
    refine bC 2 v2wd32 hv rfl rfl rfl rfl ?_
    have hf : FullV v := .inr (by have h9 := hb12; unfold sizeV at h9; rw [if_neg (fun h8 => hb10 h8)] at h9; omega)
    obtain ⟨E, hE, hv2, hr2, hok2, -⟩ := ((hv.sub (sC _ (sD _ (sD _ (sD _ (sD _ (sR _)))))))).rowBy
    have hkl : (L.take j ++ (⟨name, v, exp⟩ : KeyR) :: L.drop j).length = (j + 1) + (L.length - j) := by
     rw [List.length_append, List.length_cons, List.length_take, List.length_drop]; omega
    have hat : KeysAt E (L.take j ++ (⟨name, v, exp⟩ : KeyR) :: L.drop j) ((ys ++ [vS name, vI v.kind, vS v.text, vp, vt, vz, vI exp]) ++ (lys.drop (j * 7))) := by
     rw [show L.take j ++ (⟨name, v, exp⟩ : KeyR) :: L.drop j = (L.take j ++ [⟨name, v, exp⟩]) ++ L.drop j by simp]
     exact KeysAt.append ((hlys.drop j).more (hD.trans hE)) (KeysAt.append (KeysAt.single (hval.more ((hC.trans hD).trans hE))) (hys.more (hD.trans hE)))
    rw [← hkl] at hok2
    exact ⟨E, _, wl ++ [name], _, _, _, _, _, ((hC.trans hD).trans hE), by rw [hkl, List.length_append]; rfl, ⟨hok2, hr2, hat, by rw [List.length_append]; exact hyok, hyr.more hE (fun _ h => h)⟩, .inr ⟨hf, j, by rw [← hL]; exact hj, by rw [← hL], by rw [← hL]; exact hpre, by rw [← hL]; exact hstop⟩, by rw [List.length_append]; exact Nat.le_refl _, hv2⟩
   refine uG (.bool false) rfl (ex_lss rfl rfl rfl (qF hb24)) (uM rfl ?_)
   iterate 7 refine uP rfl ?_
   refine uK rfl (uW k23 ?_)
   refine cF rfl (xE ?_)
   refine tX (tX ?_)
   refine bH (tK k20 ?_)
   refine sK fun _ k54 => ?_
   have hstop : ∀ x, L[j]? = some x → Op.bytesLess x.name name = false := by
    intro x9 hx9
    have h9 := (List.getElem?_eq_some_iff.1 hx9).1; omega
   refine rL (uM rfl ?_)
   refine uM rfl ?_
   refine uL (.agg #[vI v.kind, vS v.text, vp, vt, vz]) rfl (lM 2 s1wd60 hv rfl rfl rfl rfl) (uM rfl ?_)
   refine uG (.agg #[vS name, vI v.kind, vS v.text, vp, vt, vz, vI exp]) rfl (ex_buildN (vs := #[(0, vS name), (1, .agg #[vI v.kind, vS v.text, vp, vt, vz]), (2, vI exp)]) rfl (by simp only [List.map_toArray, List.map_cons, List.map_nil]; rfl) (by kernel_rfl)) ?_
   refine sl_rowAgg (L := [vS name, vI v.kind, vS v.text, vp, vt, vz, vI exp]) tV (wn rfl) rfl rfl hv v3el30 rfl (by decide) (fun b55 w56 hv => ?_)
   simp only [zP, po]
   replace hv := hv.front 1 rfl
   simp only [eS, eZ] at hv
   refine sl_append (news := [vS name, vI v.kind, vS v.text, vp, vt, vz, vI exp]) tV (wn rfl) rfl rfl rfl v3el30 hv (ok_full (by omega)) rfl (rd_all (hv.get 1 rfl)) (krCells_one (v := ⟨name, v, exp⟩) hval) (by unfold maxLen; omega) (by omega) (fun rv57 w60 hv => ?_)
   obtain ⟨ra58, rc59, rfl⟩ := row_slice hv.head
   refine uA rfl (uW k54 ?_)
   refine sK fun _ k61 => ?_
   obtain ⟨a3, c3, ha3, ok3, hr3⟩ := sliced_fromV 7 hlok hlr hlys.len hj (by decide)
   refine rW mixed [4, 9, 11] [0,1,2,3,5,6,7,8,4,9,10,11] 66 rfl (by kernel_rfl) hv ?_
   simp only [qm, opAt]
   refine dM (.slice ra58 (j + 1) rc59) rfl (dM (.slice la L.length lc) rfl ?_)
   refine dM (vI j) rfl ?_
   simp only [zP, po]
   refine dG (.slice a3 (L.length - j) c3) rfl (ex_slice (lo' := some (vI j)) rfl rfl (congrArg some rfl) rfl rfl ((run_fromAny Tryz.underlying30 v2es30 (by omega)).trans (by rw [ha3]))) (dG (.pointer (some ⟨b2, 1, none⟩)) rfl (ex_field rfl rfl (v2fa32_1 _ _ _)) ?_)
   refine dF _ rfl (fun hv => ex_load rfl rfl (run_load1 s2na3 (hv.load 4 1 rfl rfl))) fun f62 hf62 => ?_
   simp only [zP, po]
   refine dF (.agg #[.slice ka K.length kc, vI clk, .slice wa wl.length wc]) rfl (fun hv => ex_load rfl rfl (lM 4 v2wd32 hv rfl rfl rfl rfl)) fun f63 hf63 => dM (vS name) rfl (dS rfl fun w64 hv => ?_)
   refine mem_append (news := lys.drop (j * 7)) rfl rfl rfl rfl v3el30 hv ok3 (by rw [List.length_drop, hlys.len, Nat.sub_mul]) ((hr3.more (Base.Le.refl _) (fun _ h => by cases h) : RdV C _ _ _).src hv) ((hlys.drop j).one) (by unfold maxLen; omega) (by omega) (fun rv65 w68 hv => ?_)
   obtain ⟨ra66, rc67, rfl⟩ := row_slice hv.head
   refine dV hv (fC (fun ww hv => hf63 ww ?_) (fC (fun ww hv => hf62 ww (ex_load rfl rfl (run_load1 s2na3 (hv.load 4 1 rfl rfl)))) fN)) ?_
   ·exact ex_load rfl rfl (lM 4 v2wd32 hv rfl rfl rfl rfl)
   simp only [zP, po]
   refine dS rfl fun w69 hv => mC v2callable42 rfl ((refWrote20 C _ _ K wl ka wa kc wc xs clk (hR.more hC) hm hmw name hv).mono ?_) rfl
   rintro e w70 ⟨D, ya, yc, hD, rfl, hyok, hyr, hv⟩
   refine ⟨_, rfl, dV hv (fK rfl (fC (fun ww hv => hf62 ww (ex_load rfl rfl (run_load1 s2na3 (hv.load 4 1 rfl rfl)))) fN)) ?_⟩
   refine dG (.agg #[.slice ra66 ((j + 1) + (L.length - j)) rc67, vI clk, .slice ya (wl.length + 1) yc]) rfl (ex_buildN (vs := #[(0, .slice ra66 ((j + 1) + (L.length - j)) rc67), (1, vI clk), (2, .slice ya (wl.length + 1) yc)]) rfl (by simp only [List.map_toArray, List.map_cons, List.map_nil]; rfl) (by kernel_rfl)) (dS rfl fun w71 hv => ?_)
   refine mS 2 rfl hv v2sz32 rfl (by exact ⟨rfl, rfl, rfl, trivial⟩) (fun w72 hv => ?_)
   simp only [zS, zO, sp] at hv
   refine dV hv (fK rfl (fK rfl fN)) (dE fun w73 hv => ?_)
   simp only [zP, po]
   refine tK k61 (rR ?_)
   refine bC 2 v2wd32 hv rfl rfl rfl rfl ?_
   have hf : FullV v := .inr (by have h9 := hb12; unfold sizeV at h9; rw [if_neg (fun h8 => hb10 h8)] at h9; omega)
   obtain ⟨E, hE, hv2, hr2, hok2, -⟩ := ((hv.sub (sC _ (sD _ (sD _ (sD _ (sD _ (sR _)))))))).rowBy
   have hkl : (L.take j ++ (⟨name, v, exp⟩ : KeyR) :: L.drop j).length = (j + 1) + (L.length - j) := by
    rw [List.length_append, List.length_cons, List.length_take, List.length_drop]; omega
   have hat : KeysAt E (L.take j ++ (⟨name, v, exp⟩ : KeyR) :: L.drop j) ((ys ++ [vS name, vI v.kind, vS v.text, vp, vt, vz, vI exp]) ++ (lys.drop (j * 7))) := by
    rw [show L.take j ++ (⟨name, v, exp⟩ : KeyR) :: L.drop j = (L.take j ++ [⟨name, v, exp⟩]) ++ L.drop j by simp]
    exact KeysAt.append ((hlys.drop j).more (hD.trans hE)) (KeysAt.append (KeysAt.single (hval.more ((hC.trans hD).trans hE))) (hys.more (hD.trans hE)))
   rw [← hkl] at hok2
   exact ⟨E, _, wl ++ [name], _, _, _, _, _, ((hC.trans hD).trans hE), by rw [hkl, List.length_append]; rfl, ⟨hok2, hr2, hat, by rw [List.length_append]; exact hyok, hyr.more hE (fun _ h => h)⟩, .inr ⟨hf, j, by rw [← hL]; exact hj, by rw [← hL], by rw [← hL]; exact hpre, by rw [← hL]; exact hstop⟩, by rw [List.length_append]; exact Nat.le_refl _, hv2⟩
 refine uG (.bool false) rfl (ex_neq rfl rfl rfl (qF hb10)) (uM rfl ?_)
 iterate 3 refine uP rfl ?_
 refine uK rfl (uW k9 ?_)
 refine cF rfl (kS ?_)
 refine tK k8 (sK fun _ k74 => ?_)
 refine rL (uL (.agg #[.slice ka K.length kc, vI clk, .slice wa wl.length wc]) rfl (lM 2 v2wd32 hv rfl rfl rfl rfl) ?_)
 refine uM rfl ?_
 refine xC v2callable40 rfl ((refWithout20 B _ _ K wl ka wa kc wc xs clk hR hm hmw name hv).mono ?_) rfl
 rintro e w75 ⟨C, la, lc, lys, hC, rfl, hlok, hlr, hlys, hv⟩
 refine ⟨_, rfl, ?_⟩
 obtain ⟨L, hL⟩ : ∃ L, L = others K name := ⟨_, rfl⟩
 have hLl := others_le K name
 have hLm : ∀ x ∈ L, x ∈ K := fun x hx => others_mem (by rw [← hL]; exact hx)
 rw [← hL] at hlok hlys hLl
 rw [show (others K name).length = L.length by rw [hL]]
 refine uA rfl (uW k74 ?_)
 refine sK fun _ k76 => rL (uA rfl ?_)
 refine uW k76 (sK fun _ k77 => ?_)
 refine rL (uA rfl ?_)
 refine uW k77 (sK fun _ k78 => ?_)
 refine bB ?_
 gi_loopw [10, 11] (fun x10 x11 wr => ∃ (j : Nat) (ra : Option Addr) (rc : Nat) (ys : List Value), x10 = .slice ra j rc ∧ x11 = vI j ∧ j ≤ L.length ∧ KeysAt C (L.take j) ys ∧ (∀ x ∈ L.take j, Op.bytesLess x.name name = true) ∧ Inv C (Res.row 84 7 (.slice ra j rc) j ys :: Res.cell b6 [vN, vI 0, vN] 32 :: Res.cell b4 [vI v.kind, vS v.text, vp, vt, vz] 60 :: Res.cell b2 [.slice ka K.length kc, vI clk, .slice wa wl.length wc] 32 :: H) wr) (fun x10 x11 _ => L.length - (intOf x11).toNat)
 case atStart => exact ⟨0, none, 0, [], rfl, rfl, Nat.zero_le _, rfl, fun x hx => (by cases hx), ((((hv.front 2 rfl).front 2 rfl).front 2 rfl)).rowNil 84 7⟩
 case round =>
  obtain ⟨j, ra, rc, ys, rfl, rfl, hj, hys, hpre, hv⟩ := hrel
  refine sK fun _ k80 => sK fun _ k81 => rL (uM rfl ?_)
  refine uM rfl ?_
  refine uG (vI (L.length : Int)) rfl (ex_len0 Tryz.underlying30 rfl rfl) ?_
  by_cases hb82 : (j : Int) < (L.length : Int)
  ·obtain ⟨x, hx⟩ : ∃ x, L[j]? = some x := ⟨_, List.getElem?_eq_getElem (show j < L.length by omega)⟩
   obtain ⟨bb, bo, xp, xt, xz, had, hvalx, hrdx⟩ := KeysAt.reads hlys hlr hx
   subst had
   have hxK := hkn x (hLm x (List.mem_of_getElem? hx))
   refine uG (.bool true) rfl (ex_lss rfl rfl rfl (qT hb82)) (uM rfl ?_)
   refine uM rfl ?_
   refine uM rfl ?_
   refine uG (.pointer (some ⟨bb, bo + j * 7, none⟩)) rfl (ex_index rfl rfl rfl (run_idx (k := j) Tryz.underlying30 v2es30 (by omega))) ?_
   refine uF (.pointer (some ⟨bb, bo + j * 7, none⟩)) rfl (v2fa84_0 _ _ _) ?_
   refine uL _ rfl (run_load1 s9na9 (hrdx _ _ _ (Base.Le.refl _) no_res hv 0 _ rfl)) ?_
   refine uM rfl ?_
   refine xC v3callable41 rfl ((refLess C _ _ x.name name (by omega) hv).mono ?_) rfl
   rintro e w83 ⟨rfl, hv⟩
   refine ⟨_, rfl, uK rfl ?_⟩
   refine uW k81 (wpIn_cond_split (t := (Op.bytesLess x.name name)) rfl (fun hc84 => ?_) (fun hc84 => ?_))
   ·refine kS (tK k80 ?_)
    refine bB (sK fun _ k85 => ?_)
    refine rL (uM rfl ?_)
    refine uM rfl (uM rfl ?_)
    refine uG (.pointer (some ⟨bb, bo + j * 7, none⟩)) rfl (ex_index rfl rfl rfl (run_idx (k := j) Tryz.underlying30 v2es30 (by omega))) ?_
    refine uL (.agg #[vS x.name, vI x.val.kind, vS x.val.text, xp, xt, xz, vI x.exp]) rfl (run_loadR (cs := [vS x.name, vI x.val.kind, vS x.val.text, xp, xt, xz, vI x.exp]) v2wd84 (Reads.mid (pre := []) (mid := [vS x.name, vI x.val.kind, vS x.val.text, xp, xt, xz, vI x.exp]) (post := []) hrdx _ _ _ (Base.Le.refl _) no_res hv)) ?_
    refine sl_rowAgg (L := [vS x.name, vI x.val.kind, vS x.val.text, xp, xt, xz, vI x.exp]) tV (wn rfl) rfl rfl hv v3el30 rfl (by decide) (fun b86 w87 hv => ?_)
    simp only [zP, po]
    replace hv := hv.front 1 rfl
    simp only [eS, eZ] at hv
    refine sl_append (news := [vS x.name, vI x.val.kind, vS x.val.text, xp, xt, xz, vI x.exp]) tV (wn rfl) rfl rfl rfl v3el30 hv (ok_full (by omega)) rfl (rd_all (hv.get 1 rfl)) (krCells_one (v := x) hvalx) (by unfold maxLen; omega) (by omega) (fun rv88 w91 hv => ?_)
    obtain ⟨ra89, rc90, rfl⟩ := row_slice hv.head
    refine uA rfl (uW k85 ?_)
    refine rL (uM rfl ?_)
    refine uG (vI ((j + 1 : Nat) : Int)) rfl (ex_add rfl rfl rfl (by rw [i64_in (by omega)]; omega)) (uA rfl ?_)
    refine uZ (bN ?_)
    refine then_normal ?_
    go_roundw
    case rel => exact ⟨j + 1, _, _, _, rfl, rfl, by omega, KeysAt.next hys hx hvalx, take_all_next hx hpre hc84, (hv.kp [4, 4, 4, 3] 4 1)⟩
    case measure => show L.length - (((j + 1 : Nat) : Int)).toNat < L.length - ((j : Int)).toNat; omega
   refine xE (tX ?_)
   refine tX (bH ?_)
   refine tK k78 (sK fun _ k92 => ?_)
   have hstop : ∀ x, L[j]? = some x → Op.bytesLess x.name name = false := by
    intro x9 hx9
    rw [hx] at hx9; cases hx9; exact hc84
   refine rL (uM rfl ?_)
   refine uM rfl ?_
   refine uL (.agg #[vI v.kind, vS v.text, vp, vt, vz]) rfl (lM 2 s1wd60 hv rfl rfl rfl rfl) (uM rfl ?_)
   refine uG (.agg #[vS name, vI v.kind, vS v.text, vp, vt, vz, vI exp]) rfl (ex_buildN (vs := #[(0, vS name), (1, .agg #[vI v.kind, vS v.text, vp, vt, vz]), (2, vI exp)]) rfl (by simp only [List.map_toArray, List.map_cons, List.map_nil]; rfl) (by kernel_rfl)) ?_
   refine sl_rowAgg (L := [vS name, vI v.kind, vS v.text, vp, vt, vz, vI exp]) tV (wn rfl) rfl rfl hv v3el30 rfl (by decide) (fun b93 w94 hv => ?_)
   simp only [zP, po]
   replace hv := hv.front 1 rfl
   simp only [eS, eZ] at hv
   refine sl_append (news := [vS name, vI v.kind, vS v.text, vp, vt, vz, vI exp]) tV (wn rfl) rfl rfl rfl v3el30 hv (ok_full (by omega)) rfl (rd_all (hv.get 1 rfl)) (krCells_one (v := ⟨name, v, exp⟩) hval) (by unfold maxLen; omega) (by omega) (fun rv95 w98 hv => ?_)
   obtain ⟨ra96, rc97, rfl⟩ := row_slice hv.head
   refine uA rfl (uW k92 ?_)
   refine sK fun _ k99 => ?_
   obtain ⟨a3, c3, ha3, ok3, hr3⟩ := sliced_fromV 7 hlok hlr hlys.len hj (by decide)
   refine rW mixed [4, 9, 11] [0,1,2,3,5,6,7,8,4,9,10,11] 66 rfl (by kernel_rfl) hv ?_
   simp only [qm, opAt]
   refine dM (.slice ra96 (j + 1) rc97) rfl (dM (.slice (some ⟨bb, bo, none⟩) L.length lc) rfl ?_)
   refine dM (vI j) rfl ?_
   simp only [zP, po]
   refine dG (.slice a3 (L.length - j) c3) rfl (ex_slice (lo' := some (vI j)) rfl rfl (congrArg some rfl) rfl rfl ((run_fromAny Tryz.underlying30 v2es30 (by omega)).trans (by rw [ha3]))) (dG (.pointer (some ⟨b2, 1, none⟩)) rfl (ex_field rfl rfl (v2fa32_1 _ _ _)) ?_)
   refine dF _ rfl (fun hv => ex_load rfl rfl (run_load1 s2na3 (hv.load 4 1 rfl rfl))) fun f100 hf100 => ?_
   simp only [zP, po]
   refine dF (.agg #[.slice ka K.length kc, vI clk, .slice wa wl.length wc]) rfl (fun hv => ex_load rfl rfl (lM 4 v2wd32 hv rfl rfl rfl rfl)) fun f101 hf101 => dM (vS name) rfl (dS rfl fun w102 hv => ?_)
   refine mem_append (news := lys.drop (j * 7)) rfl rfl rfl rfl v3el30 hv ok3 (by rw [List.length_drop, hlys.len, Nat.sub_mul]) ((hr3.more (Base.Le.refl _) (fun _ h => by cases h) : RdV C _ _ _).src hv) ((hlys.drop j).one) (by unfold maxLen; omega) (by omega) (fun rv103 w106 hv => ?_)
   obtain ⟨ra104, rc105, rfl⟩ := row_slice hv.head
   refine dV hv (fC (fun ww hv => hf101 ww ?_) (fC (fun ww hv => hf100 ww (ex_load rfl rfl (run_load1 s2na3 (hv.load 4 1 rfl rfl)))) fN)) ?_
   ·exact ex_load rfl rfl (lM 4 v2wd32 hv rfl rfl rfl rfl)
   simp only [zP, po]
   refine dS rfl fun w107 hv => mC v2callable42 rfl ((refWrote20 C _ _ K wl ka wa kc wc xs clk (hR.more hC) hm hmw name hv).mono ?_) rfl
   rintro e w108 ⟨D, ya, yc, hD, rfl, hyok, hyr, hv⟩
   refine ⟨_, rfl, dV hv (fK rfl (fC (fun ww hv => hf100 ww (ex_load rfl rfl (run_load1 s2na3 (hv.load 4 1 rfl rfl)))) fN)) ?_⟩
   refine dG (.agg #[.slice ra104 ((j + 1) + (L.length - j)) rc105, vI clk, .slice ya (wl.length + 1) yc]) rfl (ex_buildN (vs := #[(0, .slice ra104 ((j + 1) + (L.length - j)) rc105), (1, vI clk), (2, .slice ya (wl.length + 1) yc)]) rfl (by simp only [List.map_toArray, List.map_cons, List.map_nil]; rfl) (by kernel_rfl)) (dS rfl fun w109 hv => ?_)
   refine mS 2 rfl hv v2sz32 rfl (by exact ⟨rfl, rfl, rfl, trivial⟩) (fun w110 hv => ?_)
   simp only [zS, zO, sp] at hv
   refine dV hv (fK rfl (fK rfl fN)) (dE fun w111 hv => ?_)
   simp only [zP, po]
   refine tK k99 (rR ?_)
   refine bC 2 v2wd32 hv rfl rfl rfl rfl ?_
   have hf : FullV v := .inl (by omega)
   obtain ⟨E, hE, hv2, hr2, hok2, -⟩ := ((hv.sub (sC _ (sD _ (sD _ (sD _ (sD _ (sR _)))))))).rowBy
   have hkl : (L.take j ++ (⟨name, v, exp⟩ : KeyR) :: L.drop j).length = (j + 1) + (L.length - j) := by
    rw [List.length_append, List.length_cons, List.length_take, List.length_drop]; omega
   have hat : KeysAt E (L.take j ++ (⟨name, v, exp⟩ : KeyR) :: L.drop j) ((ys ++ [vS name, vI v.kind, vS v.text, vp, vt, vz, vI exp]) ++ (lys.drop (j * 7))) := by
    rw [show L.take j ++ (⟨name, v, exp⟩ : KeyR) :: L.drop j = (L.take j ++ [⟨name, v, exp⟩]) ++ L.drop j by simp]
    exact KeysAt.append ((hlys.drop j).more (hD.trans hE)) (KeysAt.append (KeysAt.single (hval.more ((hC.trans hD).trans hE))) (hys.more (hD.trans hE)))
   rw [← hkl] at hok2
   exact ⟨E, _, wl ++ [name], _, _, _, _, _, ((hC.trans hD).trans hE), by rw [hkl, List.length_append]; rfl, ⟨hok2, hr2, hat, by rw [List.length_append]; exact hyok, hyr.more hE (fun _ h => h)⟩, .inr ⟨hf, j, by rw [← hL]; exact hj, by rw [← hL], by rw [← hL]; exact hpre, by rw [← hL]; exact hstop⟩, by rw [List.length_append]; exact Nat.le_refl _, hv2⟩
  refine uG (.bool false) rfl (ex_lss rfl rfl rfl (qF hb82)) (uM rfl ?_)
  iterate 7 refine uP rfl ?_
  refine uK rfl (uW k81 ?_)
  refine cF rfl (xE ?_)
  refine tX (tX ?_)
  refine bH (tK k78 ?_)
  refine sK fun _ k112 => ?_
  have hstop : ∀ x, L[j]? = some x → Op.bytesLess x.name name = false := by
   intro x9 hx9
   have h9 := (List.getElem?_eq_some_iff.1 hx9).1; omega
  refine rL (uM rfl ?_)
  refine uM rfl ?_
  refine uL (.agg #[vI v.kind, vS v.text, vp, vt, vz]) rfl (lM 2 s1wd60 hv rfl rfl rfl rfl) (uM rfl ?_)
  refine uG (.agg #[vS name, vI v.kind, vS v.text, vp, vt, vz, vI exp]) rfl (ex_buildN (vs := #[(0, vS name), (1, .agg #[vI v.kind, vS v.text, vp, vt, vz]), (2, vI exp)]) rfl (by simp only [List.map_toArray, List.map_cons, List.map_nil]; rfl) (by kernel_rfl)) ?_
  refine sl_rowAgg (L := [vS name, vI v.kind, vS v.text, vp, vt, vz, vI exp]) tV (wn rfl) rfl rfl hv v3el30 rfl (by decide) (fun b113 w114 hv => ?_)
  simp only [zP, po]
  replace hv := hv.front 1 rfl
  simp only [eS, eZ] at hv
  refine sl_append (news := [vS name, vI v.kind, vS v.text, vp, vt, vz, vI exp]) tV (wn rfl) rfl rfl rfl v3el30 hv (ok_full (by omega)) rfl (rd_all (hv.get 1 rfl)) (krCells_one (v := ⟨name, v, exp⟩) hval) (by unfold maxLen; omega) (by omega) (fun rv115 w118 hv => ?_)
  obtain ⟨ra116, rc117, rfl⟩ := row_slice hv.head
  refine uA rfl (uW k112 ?_)
  refine sK fun _ k119 => ?_
  obtain ⟨a3, c3, ha3, ok3, hr3⟩ := sliced_fromV 7 hlok hlr hlys.len hj (by decide)
  refine rW mixed [4, 9, 11] [0,1,2,3,5,6,7,8,4,9,10,11] 66 rfl (by kernel_rfl) hv ?_
  simp only [qm, opAt]
  refine dM (.slice ra116 (j + 1) rc117) rfl (dM (.slice la L.length lc) rfl ?_)
  refine dM (vI j) rfl ?_
  simp only [zP, po]
  refine dG (.slice a3 (L.length - j) c3) rfl (ex_slice (lo' := some (vI j)) rfl rfl (congrArg some rfl) rfl rfl ((run_fromAny Tryz.underlying30 v2es30 (by omega)).trans (by rw [ha3]))) (dG (.pointer (some ⟨b2, 1, none⟩)) rfl (ex_field rfl rfl (v2fa32_1 _ _ _)) ?_)
  refine dF _ rfl (fun hv => ex_load rfl rfl (run_load1 s2na3 (hv.load 4 1 rfl rfl))) fun f120 hf120 => ?_
  simp only [zP, po]
  refine dF (.agg #[.slice ka K.length kc, vI clk, .slice wa wl.length wc]) rfl (fun hv => ex_load rfl rfl (lM 4 v2wd32 hv rfl rfl rfl rfl)) fun f121 hf121 => dM (vS name) rfl (dS rfl fun w122 hv => ?_)
  refine mem_append (news := lys.drop (j * 7)) rfl rfl rfl rfl v3el30 hv ok3 (by rw [List.length_drop, hlys.len, Nat.sub_mul]) ((hr3.more (Base.Le.refl _) (fun _ h => by cases h) : RdV C _ _ _).src hv) ((hlys.drop j).one) (by unfold maxLen; omega) (by omega) (fun rv123 w126 hv => ?_)
  obtain ⟨ra124, rc125, rfl⟩ := row_slice hv.head
  refine dV hv (fC (fun ww hv => hf121 ww ?_) (fC (fun ww hv => hf120 ww (ex_load rfl rfl (run_load1 s2na3 (hv.load 4 1 rfl rfl)))) fN)) ?_
  ·exact ex_load rfl rfl (lM 4 v2wd32 hv rfl rfl rfl rfl)
  simp only [zP, po]
  refine dS rfl fun w127 hv => mC v2callable42 rfl ((refWrote20 C _ _ K wl ka wa kc wc xs clk (hR.more hC) hm hmw name hv).mono ?_) rfl
  rintro e w128 ⟨D, ya, yc, hD, rfl, hyok, hyr, hv⟩
  refine ⟨_, rfl, dV hv (fK rfl (fC (fun ww hv => hf120 ww (ex_load rfl rfl (run_load1 s2na3 (hv.load 4 1 rfl rfl)))) fN)) ?_⟩
  refine dG (.agg #[.slice ra124 ((j + 1) + (L.length - j)) rc125, vI clk, .slice ya (wl.length + 1) yc]) rfl (ex_buildN (vs := #[(0, .slice ra124 ((j + 1) + (L.length - j)) rc125), (1, vI clk), (2, .slice ya (wl.length + 1) yc)]) rfl (by simp only [List.map_toArray, List.map_cons, List.map_nil]; rfl) (by kernel_rfl)) (dS rfl fun w129 hv => ?_)
  refine mS 2 rfl hv v2sz32 rfl (by exact ⟨rfl, rfl, rfl, trivial⟩) (fun w130 hv => ?_)
  simp only [zS, zO, sp] at hv
  refine dV hv (fK rfl (fK rfl fN)) (dE fun w131 hv => ?_)
  simp only [zP, po]
  refine tK k119 (rR ?_)
  refine bC 2 v2wd32 hv rfl rfl rfl rfl ?_
  have hf : FullV v := .inl (by omega)
  obtain ⟨E, hE, hv2, hr2, hok2, -⟩ := ((hv.sub (sC _ (sD _ (sD _ (sD _ (sD _ (sR _)))))))).rowBy
  have hkl : (L.take j ++ (⟨name, v, exp⟩ : KeyR) :: L.drop j).length = (j + 1) + (L.length - j) := by
   rw [List.length_append, List.length_cons, List.length_take, List.length_drop]; omega
  have hat : KeysAt E (L.take j ++ (⟨name, v, exp⟩ : KeyR) :: L.drop j) ((ys ++ [vS name, vI v.kind, vS v.text, vp, vt, vz, vI exp]) ++ (lys.drop (j * 7))) := by
   rw [show L.take j ++ (⟨name, v, exp⟩ : KeyR) :: L.drop j = (L.take j ++ [⟨name, v, exp⟩]) ++ L.drop j by simp]
   exact KeysAt.append ((hlys.drop j).more (hD.trans hE)) (KeysAt.append (KeysAt.single (hval.more ((hC.trans hD).trans hE))) (hys.more (hD.trans hE)))
  rw [← hkl] at hok2
  exact ⟨E, _, wl ++ [name], _, _, _, _, _, ((hC.trans hD).trans hE), by rw [hkl, List.length_append]; rfl, ⟨hok2, hr2, hat, by rw [List.length_append]; exact hyok, hyr.more hE (fun _ h => h)⟩, .inr ⟨hf, j, by rw [← hL]; exact hj, by rw [← hL], by rw [← hL]; exact hpre, by rw [← hL]; exact hstop⟩, by rw [List.length_append]; exact Nat.le_refl _, hv2⟩
theorem key_inj {K : List KeyR} (hd : (K.map (·.name)).Nodup) {i j : Nat} {x y : KeyR} (hx : K[i]? = some x) (hy : K[j]? = some y) (h : y.name = x.name) : j = i := by
 have h1 : (K.map (·.name))[i]? = some x.name := by rw [List.getElem?_map, hx]; rfl
 have h2 : (K.map (·.name))[j]? = some x.name := by rw [List.getElem?_map, hy, Option.map_some, h]
 exact ((List.getElem?_inj (by rw [List.length_map]; exact (List.getElem?_eq_some_iff.1 hx).1) hd).1 (h1.trans h2.symm)).symm
theorem getK_at {K : List KeyR} {clk : Int} (hd : (K.map (·.name)).Nodup) {i : Nat} {x : KeyR} (hx : K[i]? = some x) (hl : liveK clk x = true) : getK K clk x.name = some x :=
 getK_some hx rfl hl fun j y hj hy h => by have := key_inj hd hx hy h.1; omega
theorem getK_dead {K : List KeyR} {clk : Int} (hd : (K.map (·.name)).Nodup) {i : Nat} {x : KeyR} (hx : K[i]? = some x) (hl : liveK clk x = false) : getK K clk x.name = none :=
 getK_none fun j y hy h => by
  obtain rfl := key_inj hd hx hy h.1
  rw [hx] at hy; cases hy
  rw [hl] at h; cases h.2
theorem getLive (w : World) (K : List KeyR) (wl : List (List UInt8)) (ka wa : Option Addr) (kc wc : Nat) (xs : List Value) (clk : Int) (hR : RefV (Base.of w) K wl ka wa kc wc xs) (hm : K.length ≤ 10000) (hmw : wl.length ≤ 10000) (hdis : (K.map (·.name)).Nodup)
  (i : Nat) (x : KeyR) (xp xt xz : Value) (hx : K[i]? = some x) (hlv : liveK clk x = true) (hcs : (xs.drop (i * 7)).take 7 = krCells x xp xt xz) :
  Calls Tryz.prog 27 #[.agg #[.slice ka K.length kc, vI clk, .slice wa wl.length wc], vS x.name] w fun e w' => e = .returned (.tuple #[.agg (krCells x xp xt xz).toArray, .bool true]) ∧ Ext w w' := by
 have hg := getK_at hdis hx hlv
 refine (refGet20 (Base.of w) [] w K wl ka wa kc wc xs clk hR hm hmw x.name (Inv.start w)).mono ?_
 rintro e w' ⟨x2, p9, t9, z9, ok9, rfl, hor, -, hi9⟩
 rcases hor with ⟨rfl, h1, i9, hi8, hc⟩ | ⟨-, -, h1, -⟩
 ·rw [hg] at h1
  cases h1
  obtain rfl := key_inj hdis hx hi8 rfl
  rw [hcs] at hc
  simp only [krCells, List.cons.injEq, and_true, true_and] at hc
  obtain ⟨rfl, rfl, rfl⟩ := hc
  exact ⟨rfl, ext_of hi9⟩
 rw [hg] at h1; cases h1
theorem getDead (w : World) (K : List KeyR) (wl : List (List UInt8)) (ka wa : Option Addr) (kc wc : Nat) (xs : List Value) (clk : Int) (hR : RefV (Base.of w) K wl ka wa kc wc xs) (hm : K.length ≤ 10000) (hmw : wl.length ≤ 10000) (hdis : (K.map (·.name)).Nodup)
  (i : Nat) (x : KeyR) (hx : K[i]? = some x) (hlv : liveK clk x = false) :
  Calls Tryz.prog 27 #[.agg #[.slice ka K.length kc, vI clk, .slice wa wl.length wc], vS x.name] w fun e w' => e = .returned (.tuple #[.agg (krCells zkey (vN) (vN) (vN)).toArray, .bool false]) ∧ Ext w w' := by
 have hg := getK_dead hdis hx hlv
 refine (refGet20 (Base.of w) [] w K wl ka wa kc wc xs clk hR hm hmw x.name (Inv.start w)).mono ?_
 rintro e w' ⟨x2, p9, t9, z9, ok9, rfl, hor, -, hi9⟩
 rcases hor with ⟨-, h1, -⟩ | ⟨rfl, rfl, -, rfl, rfl, rfl⟩
 ·rw [hg] at h1; cases h1
 exact ⟨rfl, ext_of hi9⟩
def namesR (K : List KeyR) (clk : Int) : List (List UInt8) := (K.filter (liveK clk)).map (·.name)
theorem namesR_yes {K : List KeyR} {clk : Int} {i : Nat} {x : KeyR} (hx : K[i]? = some x) (h : liveK clk x = true) : namesR (K.take (i + 1)) clk = namesR (K.take i) clk ++ [x.name] := by
 unfold namesR; rw [take_next hx, List.filter_append, List.map_append]; simp [h]
theorem namesR_no {K : List KeyR} {clk : Int} {i : Nat} {x : KeyR} (hx : K[i]? = some x) (h : liveK clk x = false) : namesR (K.take (i + 1)) clk = namesR (K.take i) clk := by
 unfold namesR; rw [take_next hx, List.filter_append, List.map_append]; simp [h]
theorem namesR_le (K : List KeyR) (clk : Int) : (namesR K clk).length ≤ K.length := by
 unfold namesR; rw [List.length_map]; exact List.length_filter_le _ _
theorem v4al84 : AL Tryz.prog 84 [vS [], vI 0, vS [], vN, vN, vN, vI 0] := fun w => by kernel_rfl
theorem v4mk9 : (Tryz.prog.info? 9).map (fun i => (i.zero, i.size, i.bytes)) = some (some (vS []), 1, 16) := by kernel_rfl
theorem v4el23 : Elem Tryz.prog 23 9 (vS []) 1 16 := elem_of Tryz.underlying23 v4mk9 (by rfl) (by decide)
theorem refNames20 (B : Base) (H : List Res) (w : World) (K : List KeyR) (wl : List (List UInt8)) (ka wa : Option Addr) (kc wc : Nat) (xs : List Value) (clk : Int) (hR : RefV B K wl ka wa kc wc xs) (hm : K.length ≤ 10000) (hmw : wl.length ≤ 10000) (hdis : (K.map (·.name)).Nodup) (hv : Inv B H w) :
  Calls Tryz.prog 26 #[.agg #[.slice ka K.length kc, vI clk, .slice wa wl.length wc]] w fun e w' => ∃ C a c, B.Le C ∧ e = .returned (.slice a (namesR K clk).length c) ∧ RdV C [] a (textCells (namesR K clk)) ∧ Inv C H w' := by
 refine cW Tryz.func26 rfl Tryz.ntmps26 ?_
 simp only [al]
 refine sK fun _ k1 => rL (sl_box (L := [.slice ka K.length kc, vI clk, .slice wa wl.length wc]) tV (wn rfl) rfl rfl hv (fun w => by kernel_rfl) (fun b2 w3 hv => ?_))
 refine uA rfl (uW k1 ?_)
 refine sK fun _ k4 => rL (uA rfl ?_)
 refine uW k4 (sK fun _ k5 => ?_)
 refine sK fun _ k6 => rL (uA rfl ?_)
 refine uW k6 (bB ?_)
 gi_loopw [3, 4] (fun x3 x4 wr => ∃ (i n1 : Nat) (ra : Option Addr) (rc : Nat), x3 = .slice ra n1 rc ∧ x4 = vI i ∧ i ≤ K.length ∧ n1 = (namesR (K.take i) clk).length ∧ Inv B (Res.row 9 1 (.slice ra n1 rc) n1 (textCells (namesR (K.take i) clk)) :: Res.cell b2 [.slice ka K.length kc, vI clk, .slice wa wl.length wc] 32 :: H) wr) (fun x3 x4 _ => K.length - (intOf x4).toNat)
 case atStart => exact ⟨0, 0, none, 0, rfl, rfl, Nat.zero_le _, rfl, (hv).rowNil 9 1⟩
 case round =>
  obtain ⟨i, n1, ra, rc, rfl, rfl, hi, hn1, hv⟩ := hrel
  have hn1b := namesR_le (K.take i) clk
  rw [List.length_take] at hn1b
  refine sK fun _ k8 => sK fun _ k9 => rL (uM rfl ?_)
  refine uF (vP b2) rfl (v2fa32_0 _ _ _) ?_
  refine uL _ rfl (run_load1 v2na30 (hv.load 1 0 rfl rfl)) ?_
  refine uG (vI (K.length : Int)) rfl (ex_len0 Tryz.underlying30 rfl rfl) ?_
  by_cases hb10 : (i : Int) < (K.length : Int)
  ·refine uG (.bool true) rfl (ex_lss rfl rfl rfl (qT hb10)) (uW k9 ?_)
   refine cT rfl (kS ?_)
   refine tK k8 (sK fun _ k11 => ?_)
   refine bB (sK fun _ k12 => ?_)
   obtain ⟨x, hx⟩ : ∃ x, K[i]? = some x := ⟨_, List.getElem?_eq_getElem (show i < K.length by omega)⟩
   obtain ⟨bb, bo, xp, xt, xz, had, hvalx, hrdx, hcsx⟩ := KeysAt.reads2 hR.at_ hR.keys hx
   subst had
   cases hlv : liveK clk x
   ·refine rW mixed [11, 12] [0,1,2,3,4,5,6,7,8,9,10,11,12,13] 36 rfl (by kernel_rfl) hv ?_
    simp only [qm, opAt]
    refine dF (.agg #[.slice (some ⟨bb, bo, none⟩) K.length kc, vI clk, .slice wa wl.length wc]) rfl (fun hv => ex_load rfl rfl (lM 1 v2wd32 hv rfl rfl rfl rfl)) fun f13 hf13 => dG (vP b2) rfl (ex_field rfl rfl (v2fa32_0 _ _ _)) (dF _ rfl (fun hv => ex_load rfl rfl (run_load1 v2na30 (hv.load 1 0 rfl rfl))) fun f14 hf14 => ?_)
    simp only [zP, po]
    refine dM (vI i) rfl (dG (.pointer (some ⟨bb, bo + i * 7, none⟩)) rfl (ex_index rfl rfl rfl (run_idx (k := i) Tryz.underlying30 v2es30 (by omega))) ?_)
    refine dG (.pointer (some ⟨bb, bo + i * 7, none⟩)) rfl (ex_field rfl rfl (v2fa84_0 _ _ _)) ?_
    simp only [zP, po]
    refine dF _ rfl (fun hv => ex_load rfl rfl (run_load1 s9na9 (hrdx _ _ _ (Base.Le.refl _) no_res hv 0 _ rfl))) fun f15 hf15 => dD (.tuple #[.agg #[vS [], vI 0, vS [], vN, vN, vN, vI 0], .bool false]) v2callable27 rfl rfl (l := [.agg #[.slice (some ⟨bb, bo, none⟩) K.length kc, vI clk, .slice wa wl.length wc], vS x.name]) rfl (fun {ww} hv => getDead ww K wl (some ⟨bb, bo, none⟩) wa kc wc xs clk (hR.more (le_of hv)) hm hmw hdis i x hx hlv) fun f16 hf16 => dM (.tuple #[.agg #[vS [], vI 0, vS [], vN, vN, vN, vI 0], .bool false]) rfl ?_
    simp only [zP, po]
    refine dG (.agg #[vS [], vI 0, vS [], vN, vN, vN, vI 0]) rfl (ex_extract rfl rfl rfl) (dG (.bool false) rfl (ex_extract rfl rfl rfl) ?_)
    refine dS rfl fun w17 hv => mem_alloc rfl rfl hv v4al84 (fun b18 w19 hv => ?_)
    refine dV hv (fC (fun ww hv => hf16 ww (getDead ww K wl (some ⟨bb, bo, none⟩) wa kc wc xs clk (hR.more (le_of hv)) hm hmw hdis i x hx hlv)) (fC (fun ww hv => hf15 ww (ex_load rfl rfl (run_load1 s9na9 (hrdx _ _ _ (Base.Le.refl _) no_res hv 0 _ rfl)))) (fC (fun ww hv => hf14 ww (ex_load rfl rfl (run_load1 v2na30 (hv.load 2 0 rfl rfl)))) (fC (fun ww hv => hf13 ww ?_) fN)))) ?_
    ·exact ex_load rfl rfl (lM 2 v2wd32 hv rfl rfl rfl rfl)
    simp only [zP, po]
    refine dS rfl fun w20 hv => mS 0 rfl hv v2sz84 rfl (by exact ⟨rfl, rfl, rfl, rfl, rfl, rfl, rfl, trivial⟩) (fun w21 hv => ?_)
    simp only [zO, sp] at hv
    refine dV hv (fK rfl (fK rfl (fK rfl (fK rfl fN)))) (dA (.bool false) rfl ?_)
    refine dE fun w22 hv => ?_
    simp only [zP, po]
    refine tK k12 (sK fun _ k23 => ?_)
    refine rL (uM rfl ?_)
    refine uW k23 (cF rfl ?_)
    refine kS (bN ?_)
    refine tK k11 (rL ?_)
    refine uM rfl ?_
    refine uG (vI ((i + 1 : Nat) : Int)) rfl (ex_add rfl rfl rfl (by rw [i64_in (by omega)]; omega)) (uA rfl ?_)
    refine uZ (then_normal ?_)
    go_roundw
    case rel => exact ⟨i + 1, n1, _, _, rfl, rfl, by omega, by rw [namesR_no hx hlv, ← hn1], by rw [namesR_no hx hlv]; exact (hv.kp [2, 2] 2 1)⟩
    case measure => show K.length - (((i + 1 : Nat) : Int)).toNat < K.length - ((i : Int)).toNat; omega
   refine rW mixed [11, 12] [0,1,2,3,4,5,6,7,8,9,10,11,12,13] 36 rfl (by kernel_rfl) hv ?_
   simp only [qm, opAt]
   refine dF (.agg #[.slice (some ⟨bb, bo, none⟩) K.length kc, vI clk, .slice wa wl.length wc]) rfl (fun hv => ex_load rfl rfl (lM 1 v2wd32 hv rfl rfl rfl rfl)) fun f24 hf24 => dG (vP b2) rfl (ex_field rfl rfl (v2fa32_0 _ _ _)) (dF _ rfl (fun hv => ex_load rfl rfl (run_load1 v2na30 (hv.load 1 0 rfl rfl))) fun f25 hf25 => ?_)
   simp only [zP, po]
   refine dM (vI i) rfl (dG (.pointer (some ⟨bb, bo + i * 7, none⟩)) rfl (ex_index rfl rfl rfl (run_idx (k := i) Tryz.underlying30 v2es30 (by omega))) ?_)
   refine dG (.pointer (some ⟨bb, bo + i * 7, none⟩)) rfl (ex_field rfl rfl (v2fa84_0 _ _ _)) ?_
   simp only [zP, po]
   refine dF _ rfl (fun hv => ex_load rfl rfl (run_load1 s9na9 (hrdx _ _ _ (Base.Le.refl _) no_res hv 0 _ rfl))) fun f26 hf26 => dD (.tuple #[.agg #[vS x.name, vI x.val.kind, vS x.val.text, xp, xt, xz, vI x.exp], .bool true]) v2callable27 rfl rfl (l := [.agg #[.slice (some ⟨bb, bo, none⟩) K.length kc, vI clk, .slice wa wl.length wc], vS x.name]) rfl (fun {ww} hv => getLive ww K wl (some ⟨bb, bo, none⟩) wa kc wc xs clk (hR.more (le_of hv)) hm hmw hdis i x xp xt xz hx hlv hcsx) fun f27 hf27 => dM (.tuple #[.agg #[vS x.name, vI x.val.kind, vS x.val.text, xp, xt, xz, vI x.exp], .bool true]) rfl ?_
   simp only [zP, po]
   refine dG (.agg #[vS x.name, vI x.val.kind, vS x.val.text, xp, xt, xz, vI x.exp]) rfl (ex_extract rfl rfl rfl) (dG (.bool true) rfl (ex_extract rfl rfl rfl) ?_)
   refine dS rfl fun w28 hv => mem_alloc rfl rfl hv v4al84 (fun b29 w30 hv => ?_)
   refine dV hv (fC (fun ww hv => hf27 ww (getLive ww K wl (some ⟨bb, bo, none⟩) wa kc wc xs clk (hR.more (le_of hv)) hm hmw hdis i x xp xt xz hx hlv hcsx)) (fC (fun ww hv => hf26 ww (ex_load rfl rfl (run_load1 s9na9 (hrdx _ _ _ (Base.Le.refl _) no_res hv 0 _ rfl)))) (fC (fun ww hv => hf25 ww (ex_load rfl rfl (run_load1 v2na30 (hv.load 2 0 rfl rfl)))) (fC (fun ww hv => hf24 ww ?_) fN)))) ?_
   ·exact ex_load rfl rfl (lM 2 v2wd32 hv rfl rfl rfl rfl)
   simp only [zP, po]
   refine dS rfl fun w31 hv => mS 0 rfl hv v2sz84 rfl (by exact ⟨rfl, rfl, rfl, hvalx.p.one, hvalx.t.one, hvalx.z.one, rfl, trivial⟩) (fun w32 hv => ?_)
   simp only [zO, sp] at hv
   refine dV hv (fK rfl (fK rfl (fK rfl (fK rfl fN)))) (dA (.bool true) rfl ?_)
   refine dE fun w33 hv => ?_
   simp only [zP, po]
   refine tK k12 (sK fun _ k34 => ?_)
   refine rL (uM rfl ?_)
   refine uW k34 (cT rfl ?_)
   refine rL (uM rfl ?_)
   refine uF (vP b2) rfl (v2fa32_0 _ _ _) ?_
   refine uL _ rfl (run_load1 v2na30 (hv.load 2 0 rfl rfl)) (uM rfl ?_)
   refine uG (.pointer (some ⟨bb, bo + i * 7, none⟩)) rfl (ex_index rfl rfl rfl (run_idx (k := i) Tryz.underlying30 v2es30 (by omega))) ?_
   refine uF (.pointer (some ⟨bb, bo + i * 7, none⟩)) rfl (v2fa84_0 _ _ _) ?_
   refine uL _ rfl (run_load1 s9na9 (hrdx _ _ _ (Base.Le.refl _) no_res hv 0 _ rfl)) ?_
   refine sl_rowOne (v := vS x.name) tV (wn rfl) rfl rfl hv v4el23 rfl (fun b35 w36 hv => ?_)
   replace hv := hv.front 2 rfl
   simp only [eS, eZ] at hv
   refine sl_append (news := [vS x.name]) tV (wn rfl) rfl rfl rfl v4el23 hv (ok_full (by omega)) rfl (rd_all (hv.get 1 rfl)) (by intro u hu; simp only [List.mem_cons, List.not_mem_nil, or_false] at hu; rcases hu with rfl <;> rfl) (by unfold maxLen; omega) (by omega) (fun rv37 w40 hv => ?_)
   obtain ⟨ra38, rc39, rfl⟩ := row_slice hv.head
   refine uA rfl (uZ ?_)
   refine bN (tK k11 ?_)
   refine rL (uM rfl ?_)
   refine uG (vI ((i + 1 : Nat) : Int)) rfl (ex_add rfl rfl rfl (by rw [i64_in (by omega)]; omega)) (uA rfl ?_)
   refine uZ (then_normal ?_)
   go_roundw
   case rel => exact ⟨i + 1, n1 + 1, _, _, rfl, rfl, by omega, by rw [namesR_yes hx hlv, List.length_append, ← hn1]; rfl, by rw [namesR_yes hx hlv, textCells_app]; exact (hv.kp [3, 1] 2 2)⟩
   case measure => show K.length - (((i + 1 : Nat) : Int)).toNat < K.length - ((i : Int)).toNat; omega
  refine uG (.bool false) rfl (ex_lss rfl rfl rfl (qF hb10)) (uW k9 ?_)
  refine cF rfl (xE ?_)
  refine tX (tX ?_)
  refine bH (tK k5 ?_)
  refine sK fun _ k41 => rL (uM rfl ?_)
  refine uA rfl (uW k41 ?_)
  refine rR (bR rfl rfl ?_)
  obtain rfl : i = K.length := by omega
  rw [List.take_length] at hv hn1
  subst hn1
  obtain ⟨C, hB, hv2, hr2, hok2, -⟩ := ((hv.sub (sC _ (sD _ (sR _))))).rowBy
  exact ⟨C, _, _, hB, rfl, hr2, hv2⟩
theorem txnNamesB (B : Base) (H : List Res) (w : World) (t m s p wb : Nat) (va : Option Addr) (vc : Nat) (sv : Value) (clk : Int) (es : List (List UInt8 × Value)) (M : List (List UInt8 × Ver)) (hM : VM B es M) (hkl : ∀ k ∈ M.map (·.1), k.length ≤ 256) (hMl : M.length ≤ 1000000) (hv : Inv B (txR t m s p wb va vc sv clk es :: H) w) :
  Calls Tryz.prog 173 #[vP t] w fun e w' => ∃ C a c, B.Le C ∧ e = .returned (.slice a (namesT M clk).length c) ∧ RdV C [] a (textCells (namesT M clk)) ∧ Inv C (txR t m s p wb va vc sv clk es :: H) w' := by
 refine (txnNames B H w t m s p wb va vc sv clk es M hM hkl hMl hv).mono ?_
 rintro e w' ⟨ra, rc, rfl, hv⟩
 obtain ⟨C, hB, hv2, hr2, -, -⟩ := hv.rowBy
 exact ⟨C, ra, rc, hB, rfl, hr2, hv2⟩
def lowZ (n : Int) : Int := if 65 ≤ n ∧ n ≤ 90 then n + 32 else n
def SameC (x arg : List UInt8) : Prop := x.length = arg.length ∧ ∀ (k : Nat) (a b : UInt8), x[k]? = some a → arg[k]? = some b → lowZ (a.toNat : Int) = lowZ (b.toNat : Int)
def IsI (arg : List UInt8) (ws : List (List UInt8)) (r : Int) : Prop := (r = -1 ∧ ∀ x ∈ ws, ¬ SameC x arg) ∨ ∃ (i : Nat) (x : List UInt8), r = (i : Int) ∧ ws[i]? = some x ∧ SameC x arg ∧ ∀ (j : Nat) y, j < i → ws[j]? = some y → ¬ SameC y arg
theorem viewLow (B : Base) (H : List Res) (w : World) (n : Int) (h0 : 0 ≤ n) (h1 : n ≤ 255) (hv : Inv B H w) :
  Calls Tryz.prog 107 #[.int .u8 n] w fun e w' => e = .returned (.int .u8 (lowZ n)) ∧ Inv B H w' := by
 refine cW Tryz.func107 rfl Tryz.ntmps107 ?_
 simp only [al]
 refine sK fun _ k1 => rL (uA rfl ?_)
 refine uW k1 (sK fun _ k2 => ?_)
 refine sK fun _ k3 => rL (uM rfl ?_)
 by_cases hb4 : 65 ≤ n
 ·refine uG (.bool true) rfl (ex_leq rfl rfl rfl (qT hb4)) (uM rfl ?_)
  refine uM rfl ?_
  by_cases hb5 : n ≤ 90
  ·refine uG (.bool true) rfl (ex_leq rfl rfl rfl (qT hb5)) (uK rfl ?_)
   refine uW k3 (cT rfl ?_)
   refine sK fun _ k6 => rL (uM rfl ?_)
   refine uG (.int .u8 (n + 97)) rfl (ex_add rfl rfl rfl (u8_in (by omega))) ?_
   refine uG (.int .u8 (n + 32)) rfl (ex_sub rfl rfl rfl (by rw [u8_in (by omega)]; omega)) (uA rfl ?_)
   refine uW k6 (rR ?_)
   refine tR (bR rfl rfl ?_)
   exact ⟨congrArg (fun n : Int => Ending.returned (Value.int .u8 n)) (by unfold lowZ; split <;> omega), hv⟩
  refine uG (.bool false) rfl (ex_leq rfl rfl rfl (qF hb5)) (uK rfl ?_)
  refine uW k3 (cF rfl ?_)
  refine kS (tK k2 ?_)
  refine sK fun _ k7 => rL (uM rfl ?_)
  refine uA rfl (uW k7 ?_)
  refine rR (bR rfl rfl ?_)
  exact ⟨congrArg (fun n : Int => Ending.returned (Value.int .u8 n)) (by unfold lowZ; split <;> omega), hv⟩
 refine uG (.bool false) rfl (ex_leq rfl rfl rfl (qF hb4)) (uM rfl ?_)
 refine uP rfl ?_
 refine uP rfl (uK rfl ?_)
 refine uW k3 (cF rfl ?_)
 refine kS (tK k2 ?_)
 refine sK fun _ k8 => rL (uM rfl ?_)
 refine uA rfl (uW k8 ?_)
 refine rR (bR rfl rfl ?_)
 exact ⟨congrArg (fun n : Int => Ending.returned (Value.int .u8 n)) (by unfold lowZ; split <;> omega), hv⟩
theorem v5callable107 : Callable Tryz.prog 107 := cb Tryz.func107 (by kernel_rfl)
theorem viewIs (B : Base) (H : List Res) (w : World) (arg : List UInt8) (ka : Option Addr) (kc : Nat) (ws : List (List UInt8)) (hr : RdV B [] ka (textCells ws)) (hm : ws.length ≤ 1000000) (hma : arg.length ≤ 9223372036854775807) (hv : Inv B H w) :
  Calls Tryz.prog 95 #[vS arg, .slice ka ws.length kc] w fun e w' => ∃ r : Int, e = .returned (vI r) ∧ IsI arg ws r ∧ Inv B H w' := by
 refine cW Tryz.func95 rfl Tryz.ntmps95 ?_
 simp only [al]
 refine sK fun _ k1 => rL (uA rfl ?_)
 refine uW k1 (wpIn_scopeW ?_)
 refine sK fun _ k2 => wpIn_label (tK k2 ?_)
 refine sK fun _ k3 => sK fun _ k4 => rL (uM rfl ?_)
 refine uG (vI (ws.length : Int)) rfl (ex_len0 Tryz.underlying23 rfl rfl) (uM rfl ?_)
 refine uW k4 (bB ?_)
 gi_loopw [10] (fun x10 wr => ∃ (i : Nat), x10 = vI i ∧ i ≤ ws.length ∧ (∀ (j : Nat) y, j < i → ws[j]? = some y → ¬ SameC y arg) ∧ Inv B H wr) (fun x10 _ => ws.length - (intOf x10).toNat)
 case atStart => exact ⟨0, rfl, Nat.zero_le _, fun j y h => by omega, hv⟩
 case round =>
  obtain ⟨i, rfl, hi, hno, hv⟩ := hrel
  refine sK fun _ k6 => rL ?_
  by_cases hb7 : (i : Int) < (ws.length : Int)
  ·refine uG (.bool true) rfl (ex_lss rfl rfl rfl (qT hb7)) (uW k6 ?_)
   refine sK fun _ k8 => cT rfl (kS ?_)
   refine tK k8 (sK fun _ k9 => ?_)
   refine bB (sK fun _ k10 => ?_)
   obtain ⟨x, hx⟩ : ∃ x, ws[i]? = some x := ⟨_, List.getElem?_eq_getElem (show i < ws.length by omega)⟩
   obtain ⟨bb, bo, had, hrdx⟩ := text_reads hr hx
   subst had
   refine rL (uM rfl ?_)
   refine uG (.pointer (some ⟨bb, bo + i, none⟩)) rfl (ex_index rfl rfl rfl (run_idx1 (k := i) Tryz.underlying23 s9es23 (by omega))) ?_
   refine uL _ rfl (run_load1 s9na9 (hrdx _ _ _ (Base.Le.refl _) no_res hv 0 _ rfl)) (uA rfl ?_)
   refine uA rfl (uW k10 ?_)
   refine sK fun _ k11 => sK fun _ k12 => rL (uM rfl ?_)
   refine uG (vI (x.length : Int)) rfl (ex_lenStr Tryz.underlying9 rfl rfl) (uM rfl ?_)
   refine uG (vI (arg.length : Int)) rfl (ex_lenStr Tryz.underlying9 rfl rfl) ?_
   by_cases hb13 : (x.length : Int) ≠ (arg.length : Int)
   ·refine uG (.bool true) rfl (ex_neq rfl rfl rfl (qT hb13)) (uW k12 ?_)
    refine cT rfl (xE ?_)
    refine tX (bH ?_)
    refine tK k9 (rL ?_)
    refine uG (vI ((i + 1 : Nat) : Int)) rfl (ex_add rfl rfl rfl (by rw [i64_in (by omega)]; omega)) (uM rfl ?_)
    refine uZ (then_normal ?_)
    go_roundw
    case rel => exact ⟨i + 1, rfl, by omega, fun j9 y9 hj9 hy9 => (by
       rcases Nat.lt_or_ge j9 i with h | h
       ·exact hno j9 y9 h hy9
       obtain rfl : j9 = i := by omega
       rw [hx] at hy9; cases hy9
       exact fun h => by have h9 := h.1; omega), hv⟩
    case measure => show ws.length - (((i + 1 : Nat) : Int)).toNat < ws.length - ((i : Int)).toNat; omega
   refine uG (.bool false) rfl (ex_neq rfl rfl rfl (qF hb13)) (uW k12 ?_)
   refine cF rfl (kS ?_)
   refine tK k11 (sK fun _ k14 => ?_)
   refine sK fun _ k15 => rL (uM rfl ?_)
   refine uG (vI (x.length : Int)) rfl (ex_lenStr Tryz.underlying9 rfl rfl) (uM rfl ?_)
   refine uW k15 (bB ?_)
   gi_loopw [22] (fun x22 wr => ∃ (j : Nat), x22 = vI j ∧ j ≤ x.length ∧ (∀ (k : Nat) (a b : UInt8), k < j → x[k]? = some a → arg[k]? = some b → lowZ (a.toNat : Int) = lowZ (b.toNat : Int)) ∧ Inv B H wr) (fun x22 _ => x.length - (intOf x22).toNat)
   case atStart => exact ⟨0, rfl, Nat.zero_le _, fun k a b h => by omega, hv⟩
   case round =>
    obtain ⟨j, rfl, hj, heq, hv⟩ := hrel
    refine sK fun _ k17 => rL ?_
    by_cases hb18 : (j : Int) < (x.length : Int)
    ·refine uG (.bool true) rfl (ex_lss rfl rfl rfl (qT hb18)) (uW k17 ?_)
     refine sK fun _ k19 => cT rfl (kS ?_)
     refine tK k19 (sK fun _ k20 => ?_)
     refine bB (sK fun _ k21 => ?_)
     refine rL (uM rfl ?_)
     refine uA rfl (uW k21 ?_)
     refine sK fun _ k22 => ?_
     obtain ⟨a, ha⟩ : ∃ y, x[j]? = some y := ⟨_, List.getElem?_eq_getElem (show j < x.length by omega)⟩
     obtain ⟨b, hb⟩ : ∃ y, arg[j]? = some y := ⟨_, List.getElem?_eq_getElem (show j < arg.length by omega)⟩
     refine rW mixed [3, 7] [0,1,2,4,5,6,3,7,8] 37 rfl (by kernel_rfl) hv ?_
     simp only [qm, opAt]
     refine dM (vS x) rfl (dM (vI j) rfl ?_)
     refine dG (.int .u8 (a.toNat : Int)) rfl (ex_sidx0 Tryz.underlying9 rfl rfl rfl ha) ?_
     simp only [zP, po]
     refine dM (vS arg) rfl (dM (vI j) rfl ?_)
     refine dG (.int .u8 (b.toNat : Int)) rfl (ex_sidx0 Tryz.underlying9 rfl rfl rfl hb) ?_
     simp only [zP, po]
     refine dS rfl fun w23 hv => mC v5callable107 rfl ((viewLow B _ _ (a.toNat : Int) (by omega) (by have := a.toNat_lt; omega) hv).mono ?_) rfl
     rintro e w24 ⟨rfl, hv⟩
     refine ⟨_, rfl, dW hv ?_⟩
     refine dS rfl fun w25 hv => mC v5callable107 rfl ((viewLow B _ _ (b.toNat : Int) (by omega) (by have := b.toNat_lt; omega) hv).mono ?_) rfl
     rintro e w26 ⟨rfl, hv⟩
     refine ⟨_, rfl, dW hv ?_⟩
     by_cases hb27 : (lowZ (a.toNat : Int)) ≠ (lowZ (b.toNat : Int))
     ·refine dG (.bool true) rfl (ex_neq rfl rfl rfl (qT hb27)) (dE fun w28 hv => ?_)
      simp only [zP, po]
      refine tK k22 (cT rfl ?_)
      refine xE (bM rfl ?_)
      refine tX (tX ?_)
      refine bM rfl (tX ?_)
      refine bH (tK k9 ?_)
      refine rL (uG (vI ((i + 1 : Nat) : Int)) rfl (ex_add rfl rfl rfl (by rw [i64_in (by omega)]; omega)) ?_)
      refine uM rfl (uZ ?_)
      refine then_normal ?_
      go_roundw
      case rel => exact ⟨i + 1, rfl, by omega, fun j9 y9 hj9 hy9 => (by
         rcases Nat.lt_or_ge j9 i with h | h
         ·exact hno j9 y9 h hy9
         obtain rfl : j9 = i := by omega
         rw [hx] at hy9; cases hy9
         exact fun h => hb27 (h.2 j a b ha hb)), hv⟩
      case measure => show ws.length - (((i + 1 : Nat) : Int)).toNat < ws.length - ((i : Int)).toNat; omega
     refine dG (.bool false) rfl (ex_neq rfl rfl rfl (qF hb27)) (dE fun w29 hv => ?_)
     simp only [zP, po]
     refine tK k22 (cF rfl ?_)
     refine kS (bN ?_)
     refine tK k20 (rL ?_)
     refine uG (vI ((j + 1 : Nat) : Int)) rfl (ex_add rfl rfl rfl (by rw [i64_in (by omega)]; omega)) (uM rfl ?_)
     refine uZ (then_normal ?_)
     go_roundw
     case rel => exact ⟨j + 1, rfl, by omega, fun k9 a9 b9 hk9 ha9 hb9 => (by
        rcases Nat.lt_or_ge k9 j with h | h
        ·exact heq k9 a9 b9 h ha9 hb9
        obtain rfl : k9 = j := by omega
        rw [ha] at ha9; cases ha9
        rw [hb] at hb9; cases hb9
        omega), hv⟩
     case measure => show x.length - (((j + 1 : Nat) : Int)).toNat < x.length - ((j : Int)).toNat; omega
    refine uG (.bool false) rfl (ex_lss rfl rfl rfl (qF hb18)) (uW k17 ?_)
    refine sK fun _ k30 => cF rfl (xE ?_)
    refine tX (tX ?_)
    refine bH (tK k14 ?_)
    refine sK fun _ k31 => rL (uM rfl ?_)
    refine uA rfl (uW k31 ?_)
    refine rR (bZ ?_)
    refine tR (tR ?_)
    refine bZ (tR ?_)
    refine scope_ret (bR rfl rfl ?_)
    exact ⟨_, rfl, .inr ⟨i, x, rfl, hx, ⟨by omega, fun k9 a9 b9 ha9 hb9 => heq k9 a9 b9 (by have := (List.getElem?_eq_some_iff.1 ha9).1; omega) ha9 hb9⟩, hno⟩, hv⟩
  refine uG (.bool false) rfl (ex_lss rfl rfl rfl (qF hb7)) (uW k6 ?_)
  refine sK fun _ k32 => cF rfl (xE ?_)
  refine tX (tX ?_)
  refine bH (tK k3 ?_)
  refine sK fun _ k33 => rL (uA rfl ?_)
  refine uW k33 (rR ?_)
  refine scope_ret (bR rfl rfl ?_)
  obtain rfl : i = ws.length := by omega
  exact ⟨_, rfl, .inl ⟨rfl, fun y hy => (by obtain ⟨j9, hj9⟩ := List.mem_iff_getElem?.1 hy; exact hno j9 y (List.getElem?_eq_some_iff.1 hj9).1 hj9)⟩, hv⟩
end Go.Proofs.YtmpackidbgfoiaaGreatDoor
namespace Go.Pm
open Go.RowKit
section
variable {P : Program} {t e : TypeId} {w : World}
end
section
variable {P : Program} {ops : Array Oper} {Q : Exit → Act → World → Prop} {a : Act} {w : World} {o : Oper} {B : Base} {H : List Res} {t e u : TypeId} {x y : Operand} {size : Nat} {J : List Value → World → Prop} {vals : List Value}
end
end Go.Pm
namespace Go.Proofs.YtmpackidbgfoiaaGreatDoor
open Go.RowKit Go.Pm
theorem viewNew (B : Base) (H : List Res) (w : World) (t : Nat) (hv : Inv B H w) :
  Calls Tryz.prog 15 #[.iface 52 (vP t)] w fun e w' => ∃ v, e = .returned (.tuple #[vP v, vI 0]) ∧ Inv B (Res.cell v [.iface 52 (vP t)] 79 :: H) w' := by
 refine cW Tryz.func15 rfl Tryz.ntmps15 ?_
 simp only [al]
 refine sK fun _ k1 => rL (uA rfl ?_)
 refine uA rfl (uW k1 ?_)
 refine sK fun _ k2 => sK fun _ k3 => rL (uM rfl ?_)
 refine uG (.bool false) rfl (ex_ifnil Tryz.underlying77 rfl rfl rfl) (uW k3 ?_)
 refine cF rfl (kS ?_)
 refine tK k2 (sK fun _ k4 => ?_)
 refine rL (uM rfl ?_)
 refine uG (.agg #[.iface 52 (vP t)]) rfl (ex_buildN (vs := #[(0, .iface 52 (vP t))]) rfl (by simp only [List.map_toArray, List.map_cons, List.map_nil]; rfl) (by kernel_rfl)) ?_
 refine sl_box (L := [.iface 52 (vP t)]) tV (wn rfl) rfl rfl hv (fun w => by kernel_rfl) (fun b5 w6 hv => ?_)
 refine uA rfl (uA rfl ?_)
 refine uW k4 (rR ?_)
 refine bodyPost_ret (results_tmp2 rfl _ _ _) rfl (⟨_, rfl, hv⟩)
theorem v6al81 : AL Tryz.prog 81 [vI 0, .bool false, vI 0, vI 0, vS [], vN, vN, vN] := fun w => by kernel_rfl
theorem v6callable75 : Callable Tryz.prog 75 := cb Tryz.func75 (by kernel_rfl)
theorem viewText (B : Base) (H : List Res) (w : World) (v t m s p wb : Nat) (va : Option Addr) (vc : Nat) (sv : Value) (clk : Int) (es : List (List UInt8 × Value)) (M : List (List UInt8 × Ver)) (key : List UInt8) (hM : VM B es M) (hv : Inv B (Res.cell v [.iface 52 (vP t)] 79 :: txR t m s p wb va vc sv clk es :: H) w) :
  Calls Tryz.prog 44 #[vP v, vS key] w fun e w' => ∃ C y p' t' z' ec, B.Le C ∧ e = .returned (.tuple #[.agg (verCells y p' t' z').toArray, vI ec]) ∧ ValAt C y.val p' t' z' ∧ OfI M clk key 1 y ec ∧ Inv C (Res.cell v [.iface 52 (vP t)] 79 :: txR t m s p wb va vc sv clk es :: H) w' := by
 refine cW Tryz.func44 rfl Tryz.ntmps44 ?_
 simp only [al]
 refine sK fun _ k1 => rL (sl_alloc tV (wn rfl) rfl hv v6al81 (fun b2 w3 hv => ?_))
 refine uA rfl (uW k1 ?_)
 refine sK fun _ k4 => rL (uM rfl ?_)
 refine uM rfl ?_
 replace hv := hv.front 2 rfl
 simp only [eS, eZ] at hv
 replace hv := hv.front 2 rfl
 simp only [eS, eZ] at hv
 refine xC v6callable75 rfl ((viewOf B _ _ v t m s p wb va vc sv clk es M key 1 hM hv).mono ?_) rfl
 rintro e w5 ⟨C, y, yp, yt, yz, ec, hC, rfl, hyv, hof, hv⟩
 refine ⟨_, rfl, uE rfl ?_⟩
 refine uE rfl ?_
 refine xS 2 rfl hv x0sz81 rfl (by exact ⟨rfl, rfl, rfl, rfl, rfl, hyv.p.one, hyv.t.one, hyv.z.one, trivial⟩) (fun w6 hv => ?_)
 simp only [zS, zO, sp] at hv
 refine uA rfl (uW k4 ?_)
 refine rR (bodyPost_ret (res_cell2 rfl rfl (lM 2 x0wd81 hv rfl rfl rfl rfl)) rfl ?_)
 exact ⟨C, y, _, _, _, ec, hC, rfl, hyv, hof, (hv.kp [1, 1] 2 1)⟩
theorem l0callable12 : Callable Tryz.prog 12 := cb Tryz.func12 (by kernel_rfl)
theorem l0callable11 : Callable Tryz.prog 11 := cb Tryz.func11 (by kernel_rfl)
theorem l0callable13 : Callable Tryz.prog 13 := cb Tryz.func13 (by kernel_rfl)
theorem l0callable14 : Callable Tryz.prog 14 := cb Tryz.func14 (by kernel_rfl)
theorem l0callable15 : Callable Tryz.prog 15 := cb Tryz.func15 (by kernel_rfl)
theorem lawOpened (B : Base) (H : List Res) (w : World) (now : Int) (h0 : 0 ≤ now) (h1 : now ≤ 1099511627776) (hv : Inv B H w) :
  Calls Tryz.prog 6 #[vI now] w fun e w' => ∃ v t m s p wb va vc sv, e = .returned (vP v) ∧ Inv B (Res.cell v [.iface 52 (vP t)] 79 :: txR t m s p wb va vc sv now [] :: H) w' := by
 refine cW Tryz.func6 rfl Tryz.ntmps6 ?_
 simp only [al]
 refine sK fun _ k1 => rL (uA rfl ?_)
 refine uW k1 (sK fun _ k2 => ?_)
 refine rL (xC l0callable12 rfl ((storeNew0 B _ _ hv).mono ?_) rfl)
 rintro e w3 ⟨s, p, rfl, hv⟩
 refine ⟨_, rfl, uG (.agg #[]) rfl (ex_buildN (vs := #[]) rfl (by simp only [List.map_toArray, List.map_nil]) (by kernel_rfl)) ?_⟩
 refine uG (.iface 50 (.agg #[])) rfl (ex_iface Tryz.underlying50 (fun _ h => by cases h) rfl rfl) ?_
 refine xC l0callable11 rfl ((txnNew0 B _ _ s 50 (.agg #[]) hv).mono ?_) rfl
 rintro e w4 ⟨m, rfl, hv⟩
 refine ⟨_, rfl, ?_⟩
 obtain ⟨sv, hsv⟩ : ∃ sv, sv = Value.iface 50 (.agg #[]) := ⟨_, rfl⟩
 rw [← hsv] at hv
 refine uM rfl (uE rfl ?_)
 refine uE rfl (uA rfl ?_)
 refine uA rfl (uW k2 ?_)
 refine sK fun _ k5 => sK fun _ k6 => rL (uM rfl ?_)
 refine uG (.bool false) rfl (ex_pisnil Tryz.underlying43 rfl rfl rfl rfl) (uW k6 ?_)
 refine cF rfl (kS ?_)
 refine tK k5 (sK fun _ k7 => ?_)
 refine rL (uM rfl ?_)
 refine uM rfl ?_
 refine xC l0callable13 rfl ((txnTick0 B _ _ m s sv now h0 h1 hv).mono ?_) rfl
 rintro e w8 ⟨r9, rfl, hv⟩
 refine ⟨_, rfl, uW k7 ?_⟩
 refine sK fun _ k9 => rL (uM rfl ?_)
 replace hv := hv.front 2 rfl
 simp only [eS, eZ] at hv
 replace hv := hv.front 2 rfl
 simp only [eS, eZ] at hv
 replace hv := hv.front 2 rfl
 simp only [eS, eZ] at hv
 refine xC l0callable14 rfl ((txnBegin B _ _ m s p sv now hv).mono ?_) rfl
 rintro e w10 ⟨t, wb, va, vc, rfl, hv⟩
 refine ⟨_, rfl, uM rfl ?_⟩
 refine uE rfl (uE rfl ?_)
 refine uA rfl (uA rfl ?_)
 refine uW k9 (sK fun _ k11 => ?_)
 refine sK fun _ k12 => rL (uM rfl ?_)
 refine uG (.bool false) rfl (ex_pisnil Tryz.underlying52 rfl rfl rfl rfl) (uW k12 ?_)
 refine cF rfl (kS ?_)
 refine tK k11 (sK fun _ k13 => ?_)
 refine rL (uM rfl ?_)
 refine uG (.iface 52 (vP t)) rfl (ex_iface Tryz.underlying52 (fun _ h => by cases h) rfl rfl) ?_
 refine xC l0callable15 rfl ((viewNew B _ _ t hv).mono ?_) rfl
 rintro e w14 ⟨v, rfl, hv⟩
 refine ⟨_, rfl, uM rfl ?_⟩
 refine uE rfl (uE rfl ?_)
 refine uA rfl (uA rfl ?_)
 refine uW k13 (sK fun _ k15 => ?_)
 refine rL (uM rfl ?_)
 refine uA rfl (uW k15 ?_)
 refine rR (bR rfl rfl ?_)
 exact ⟨v, t, m, s, p, wb, va, vc, sv, rfl, ((hv.front 1 rfl).front 1 rfl)⟩
theorem text_snoc (l : List (List UInt8)) (x : List UInt8) : textCells l ++ [strV x] = textCells (l ++ [x]) := by simp [textCells]
theorem rp_parts {B : Base} {r : Rp} {cs : List Value} (h : RpAt B r cs) : ∃ k s n v, cs = rpCells k s n v := by
 cases r; simp only [RpAt] at h
 obtain ⟨v, xs, h1, -⟩ := h
 exact ⟨_, _, _, v, h1⟩
theorem vmNil (B : Base) : VM B [] [] := trivial
theorem all0 {p : List UInt8 → Prop} : ∀ x ∈ ([] : List (List UInt8)), p x := fun _ h => by cases h
theorem all1 {p : List UInt8 → Prop} {a : List UInt8} {l : List (List UInt8)} (h : p a) (t : ∀ x ∈ l, p x) : ∀ x ∈ a :: l, p x := fun x hx => (List.mem_cons.1 hx).elim (fun e => e ▸ h) (t x)
end Go.Proofs.YtmpackidbgfoiaaGreatDoor
namespace Go.Pm
open Go.RowKit
structure Leaf where
 k : Int
 s : List UInt8
 n : Int
abbrev nilS : Value := .slice none 0 0
abbrev leafC (x : Leaf) (v : Value) : List Value := rpCells x.k x.s x.n v
def leafR (x : Leaf) : Rp := .mk x.k x.s x.n []
abbrev leafN (x : Leaf) : List Value := leafC x nilS
def lvC (pre : List Leaf) : Option (Leaf × Value) → List Value
 | none => pre.flatMap leafN
 | some (x, v) => pre.flatMap leafN ++ leafC x v
theorem leafs_len (l : List Leaf) : (l.flatMap leafN).length = l.length * 4 := rowk_len (k := 4) (fun _ => rfl) l
theorem lvC_len0 (l : List Leaf) : (lvC l none).length = l.length * 4 := leafs_len l
theorem lvC_len1 (l : List Leaf) (x : Leaf) (v : Value) : (lvC l (some (x, v))).length = (l.length + 1) * 4 := by
 show (l.flatMap leafN ++ leafC x v).length = _
 rw [List.length_append, leafs_len, Nat.succ_mul]; rfl
theorem lvC_pre {l : List Leaf} {o : Option (Leaf × Value)} {i j : Nat} {x : Leaf} (hx : l[i]? = some x) (hj : j < 4) : (lvC l o)[i * 4 + j]? = (leafN x)[j]? := by
 have h := rowk_get (f := leafN) (k := 4) (fun _ => rfl) hx hj
 cases o with
 | none => exact h
 | some p =>
  show (l.flatMap leafN ++ _)[_]? = _
  have hi := (List.getElem?_eq_some_iff.1 hx).1
  have := Nat.mul_le_mul_right 4 (show i + 1 ≤ l.length by omega)
  rw [Nat.succ_mul] at this
  rw [List.getElem?_append_left (by rw [leafs_len]; omega)]
  exact h
theorem lvC_last {l : List Leaf} {x : Leaf} {v : Value} {j : Nat} : (lvC l (some (x, v)))[l.length * 4 + j]? = (leafC x v)[j]? := by
 show (l.flatMap leafN ++ _)[_]? = _
 rw [List.getElem?_append_right (by rw [leafs_len]; omega), leafs_len, Nat.add_sub_cancel_left]
theorem lvSet_same {α : Type} {l : List α} {i : Nat} {v : α} (h : l[i]? = some v) : l.set i v = l := by
 refine List.ext_getElem? fun j => ?_
 rw [List.getElem?_set]
 split
 ·rename_i e; subst e
  have := (List.getElem?_eq_some_iff.1 h).1
  rw [if_pos this, h]
 rfl
theorem lvC_set {l : List Leaf} {o : Option (Leaf × Value)} {i : Nat} {x : Leaf} (hx : l[i]? = some x) : (lvC l o).set (i * 4 + 3) nilS = lvC l o := lvSet_same (by rw [lvC_pre hx (by decide)]; rfl)
theorem lvC_setl {l : List Leaf} {x : Leaf} {v u : Value} : (lvC l (some (x, v))).set (l.length * 4 + 3) u = lvC l (some (x, u)) := by
 show (l.flatMap leafN ++ _).set _ _ = l.flatMap leafN ++ _
 rw [List.set_append_right _ _ (by rw [leafs_len]; omega), leafs_len, Nat.add_sub_cancel_left]; rfl
theorem lvC_one {l : List Leaf} {o : Option (Leaf × Value)} (ho : ∀ p, o = some p → p.2.oneCell' = true) : ∀ u ∈ lvC l o, u.oneCell' = true := by
 have h0 : ∀ u ∈ l.flatMap leafN, u.oneCell' = true := by
  intro u hu
  obtain ⟨x, -, hu⟩ := List.mem_flatMap.1 hu
  simp only [List.mem_cons, List.not_mem_nil, or_false] at hu
  rcases hu with rfl | rfl | rfl | rfl <;> rfl
 cases o with
 | none => exact h0
 | some p =>
  intro u hu
  rcases List.mem_append.1 (show u ∈ l.flatMap leafN ++ leafC p.1 p.2 from hu) with hu | hu
  ·exact h0 u hu
  simp only [List.mem_cons, List.not_mem_nil, or_false] at hu
  rcases hu with rfl | rfl | rfl | rfl
  ·rfl
  ·rfl
  ·rfl
  exact ho p rfl
theorem lvC_at0 {B : Base} : ∀ (l : List Leaf), RpsAt B (l.map leafR) (l.flatMap leafN)
 | [] => RpsAt.nil
 | x :: l => RpsAt.cons (rpAt_leaf (k := x.k) (s := x.s) (n := x.n)) (lvC_at0 l)
theorem lvC_at1 {B : Base} {pre l : List Leaf} {x : Leaf} {v : Value} (h : RowB B v l.length (l.flatMap leafN)) : RpsAt B (pre.map leafR ++ [.mk x.k x.s x.n (l.map leafR)]) (lvC pre (some (x, v))) :=
 RpsAt.append (RpsAt.single (rpAt_of (l := l.map leafR) (by rw [List.length_map]; exact h) (lvC_at0 l))) (lvC_at0 pre)
theorem row_loads {w : World} {e : TypeId} {size n c b k off : Nat} {xs cs : List Value} (h : w.ownsRow 0 e size (.slice (some ⟨b, 0, none⟩) n c) n xs) (ho : off = k) (hcs : ∀ j, j < cs.length → cs[j]? = xs[k + j]?) : ∀ j v, cs[j]? = some v → w.cell? ⟨b, off + j, none⟩ = some v := by
 subst ho
 intro j v hj
 have := row_load h (j := off + j) (v := v) (by rw [← hcs j (List.getElem?_eq_some_iff.1 hj).1, hj])
 rw [Nat.zero_add] at this
 exact this
theorem Inv.rowLess {B : Base} {n m c size b : Nat} {e : TypeId} {xs : List Value} {H : List Res} {w : World} (hv : Inv B (Res.row e size (.slice (some ⟨b, 0, none⟩) n c) n xs :: H) w) (hm : m ≤ n) : Inv B (Res.row e size (.slice (some ⟨b, 0, none⟩) m c) m (xs.take (m * size)) :: H) w := by
 obtain ⟨L, h1, h2, h3, h4, hc⟩ := hv.rowCell
 have h9 := hc.cellRow (n := m) (c := c) (size := size) h1 (by omega) h4
 have hle : m * size ≤ n * size := Nat.mul_le_mul_right _ hm
 rw [← h2, List.take_take, Nat.min_eq_left hle]
 exact h9
def ListIn (B : Base) (m : Nat) (xs : List Value) (r : Rp) : Prop :=
 (∃ ls : List Leaf, m = ls.length ∧ xs = lvC ls none ∧ r = rList (ls.map leafR)) ∨
 (∃ (pre l : List Leaf) (x : Leaf) (la : Option Addr) (lc : Nat), m = pre.length + 1 ∧ xs = lvC pre (some (x, .slice la l.length lc)) ∧ SliceOk la l.length lc ∧ RdV B [] la (lvC l none) ∧ l.length ≤ 1000000 ∧ r = rList (pre.map leafR ++ [.mk x.k x.s x.n (l.map leafR)]))
theorem ListIn.len {B : Base} {m : Nat} {xs : List Value} {r : Rp} (h : ListIn B m xs r) : xs.length = m * 4 := by
 rcases h with ⟨ls, rfl, rfl, -⟩ | ⟨pre, l, x, la, lc, rfl, rfl, -⟩
 ·exact lvC_len0 ls
 exact lvC_len1 pre x _
theorem ListIn.one {B : Base} {m : Nat} {xs : List Value} {r : Rp} (h : ListIn B m xs r) : ∀ u ∈ xs, u.oneCell' = true := by
 rcases h with ⟨ls, rfl, rfl, -⟩ | ⟨pre, l, x, la, lc, rfl, rfl, -⟩
 ·exact lvC_one fun p h => by cases h
 exact lvC_one fun p h => by cases h; rfl
theorem rlist_at {B : Base} {l : List Rp} {v : Value} {xs : List Value} (h1 : RowB B v l.length xs) (h2 : RpsAt B l xs) : RpAt B (rList l) (rpCells 5 [] 0 v) := rpAt_of h1 h2
end Go.Pm
