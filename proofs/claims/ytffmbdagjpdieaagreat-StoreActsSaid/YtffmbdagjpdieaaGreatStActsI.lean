/- The reference's Same of texts, pairs, members, values; Small; small. -/
import Derived.Test.YtffmbdagjpdieaaGreatStActsB
import Derived.Test.YtffmbdagjpdieaaGreatStActsG
import Derived.Test.YtffmbdagjpdieaaGreatStActsH
import Derived.Test.YtffmbdagjpdieaaGreatRows
import Derived.Test.YtffmbdagjpdieaaGreatStActsC
import Derived.Laws.Strings2
import Derived.Laws.IdiomStrings
import Derived.Test.YtffmbdagjpdieaaGreatStActsE
import Derived.Test.YtffmbdagjpdieaaGreatStActsD
set_option maxRecDepth 100000
namespace Go.Proofs.YtffmbdagjpdieaaGreat
open Go.RowKit Go.Pm
theorem pairEq (d : Nat) (w : World) (a b : List UInt8) : (Op.equalIn (d + 2) 91 (.agg #[strV a, strV b]) (.agg #[strV a, strV b])).run Tryz.prog w = .ok true w := by
 have hf : Tryz.prog.stoodInHeld 91 = false := by kernel_rfl
 have hfs : (Tryz.prog.fieldsOf 91).toList = [{ name := "Field", type := 9, offset := 0, embedded := false, tag := "", pkgPath := "", byteOffset := 0 }, { name := "Text", type := 9, offset := 1, embedded := false, tag := "", pkgPath := "", byteOffset := 16 }] := by kernel_rfl
 have hag : ∀ w, (isAgg 9).run Tryz.prog w = .ok false w := fun w => by kernel_rfl
 have hs : ∀ w, (sizeOf 9).run Tryz.prog w = .ok 1 w := fun w => by kernel_rfl
 have h9 : Tryz.prog.underlying 9 = some .string := Tryz.underlying9
 rw [run_equalIn_struct w (d + 1) 91 _ _ (by kernel_rfl) hf, hfs]
 simp [Op.eqFields, part, hag, hs, run_equalIn_string w d 9 _ _ h9]
theorem memEq (d : Nat) (w : World) (a : Int) (b : List UInt8) : (Op.equalIn (d + 2) 93 (.agg #[.int .i64 a, strV b]) (.agg #[.int .i64 a, strV b])).run Tryz.prog w = .ok true w := by
 have hf : Tryz.prog.stoodInHeld 93 = false := by kernel_rfl
 have hfs : (Tryz.prog.fieldsOf 93).toList = [{ name := "Score", type := 3, offset := 0, embedded := false, tag := "", pkgPath := "", byteOffset := 0 }, { name := "Name", type := 9, offset := 1, embedded := false, tag := "", pkgPath := "", byteOffset := 8 }] := by kernel_rfl
 have hag : ∀ w, (isAgg 9).run Tryz.prog w = .ok false w := fun w => by kernel_rfl
 have hs : ∀ w, (sizeOf 9).run Tryz.prog w = .ok 1 w := fun w => by kernel_rfl
 have h9 : Tryz.prog.underlying 9 = some .string := Tryz.underlying9
 have hag3 : ∀ w, (isAgg 3).run Tryz.prog w = .ok false w := fun w => by kernel_rfl
 have hs3 : ∀ w, (sizeOf 3).run Tryz.prog w = .ok 1 w := fun w => by kernel_rfl
 have h3 : Tryz.prog.underlying 3 = some (.int .i64) := Tryz.underlying3
 rw [run_equalIn_struct w (d + 1) 93 _ _ (by kernel_rfl) hf, hfs]
 simp [Op.eqFields, part, hag, hs, hag3, hs3, run_equalIn_string w d 9 _ _ h9, run_equalIn_int w d 3 _ _ _ _ h3]
set_option maxHeartbeats 2000000 in
theorem refWords (B : Base) (H : List Res) (w : World) (ad ad' : Option Addr) (c c' : Nat) (l : List (List UInt8)) (hr : RdV B [] ad (textCells l)) (hr' : RdV B [] ad' (textCells l)) (hm : l.length ≤ 1000000) (hv : Inv B H w) :
  Calls Tryz.prog 37 #[.slice ad l.length c, .slice ad' l.length c'] w fun e w' => e = .returned (.bool true) ∧ Inv B H w' := by
 refine cW Tryz.func37 rfl Tryz.ntmps37 ?_
 simp only [al]
 refine sK fun _ k1 => rL (xA (.bool false) rfl ?_)
 simp only [zP, po]
 refine wK k1 (sK fun _ k2 => ?_)
 refine sK fun _ k3 => rL (xM (.slice ad l.length c) rfl ?_)
 refine xG (.int .i64 (l.length : Int)) rfl (ex_len0 Tryz.underlying27 rfl rfl) (xM (.slice ad' l.length c') rfl ?_)
 simp only [zP, po]
 refine xG (.int .i64 (l.length : Int)) rfl (ex_len0 Tryz.underlying27 rfl rfl) (xG (.bool false) rfl (ex_neq rfl rfl rfl (decide_eq_false (fun h => h rfl))) ?_)
 simp only [zP, po]
 refine wK k3 (cF rfl ?_)
 refine kS (tK k2 ?_)
 refine sK fun _ k4 => sK fun _ k5 => rL (xA (.int .i64 0) rfl ?_)
 simp only [zP, po]
 refine wK k5 (bB ?_)
 gi_loopw [5] (fun x5 wr => ∃ (i : Nat), x5 = .int .i64 (i : Int) ∧ i ≤ l.length ∧ Inv B H wr) (fun x5 _ => l.length - (intOf x5).toNat)
 case atStart => exact ⟨0, rfl, Nat.zero_le _, hv⟩
 case round =>
  obtain ⟨i, rfl, hi, hv⟩ := hrel
  refine sK fun _ k7 => sK fun _ k8 => rL (xM (.int .i64 (i : Int)) rfl ?_)
  refine xM (.slice ad l.length c) rfl (xG (.int .i64 (l.length : Int)) rfl (ex_len0 Tryz.underlying27 rfl rfl) ?_)
  simp only [zP, po]
  by_cases hb9 : (i : Int) < (l.length : Int)
  ·refine xG (.bool true) rfl (ex_lss rfl rfl rfl (decide_eq_true hb9)) ?_
   simp only [zP, po]
   refine wK k8 (cT rfl ?_)
   refine kS (tK k7 ?_)
   refine sK fun _ k10 => bB (sK fun _ k11 => ?_)
   obtain ⟨x, hx⟩ : ∃ x, l[i]? = some x := ⟨_, List.getElem?_eq_getElem (show i < l.length by omega)⟩
   obtain ⟨bb, bo, had, hrdx⟩ := text_reads hr hx
   subst had
   obtain ⟨b2, o2, hadb2, hrdb2⟩ := text_reads hr' hx
   subst hadb2
   refine rW mixed [] [0,1,2,3,4,5,6,7,8] 26 rfl (by kernel_rfl) hv ?_
   simp only [qm, opAt]
   refine dM (.slice (some ⟨bb, bo, none⟩) l.length c) rfl (dM (.int .i64 (i : Int)) rfl ?_)
   refine dG (.pointer (some ⟨bb, bo + i, none⟩)) rfl (ex_index rfl rfl rfl (run_idx1 (k := i) Tryz.underlying27 s9es27 (by omega))) ?_
   simp only [zP, po]
   refine dL _ rfl (fun hv => ex_load rfl rfl (run_load1 s3na9 (hrdx _ _ _ (Base.Le.refl _) no_res hv 0 _ rfl))) (dM (.slice (some ⟨b2, o2, none⟩) l.length c') rfl ?_)
   refine dM (.int .i64 (i : Int)) rfl ?_
   simp only [zP, po]
   refine dG (.pointer (some ⟨b2, o2 + i, none⟩)) rfl (ex_index rfl rfl rfl (run_idx1 (k := i) Tryz.underlying27 s9es27 (by omega))) (dL _ rfl (fun hv => ex_load rfl rfl (run_load1 s3na9 (hrdb2 _ _ _ (Base.Le.refl _) no_res hv 0 _ rfl))) ?_)
   refine dG (.bool false) rfl (ex_sneq rfl rfl rfl (decide_eq_false (fun h => h rfl))) (dE fun w12 hv => ?_)
   simp only [zP, po]
   refine tK k11 (cF rfl ?_)
   refine kS (bN ?_)
   refine tK k10 (rL ?_)
   refine xM (.int .i64 (i : Int)) rfl (xG (.int .i64 ((i + 1 : Nat) : Int)) rfl (ex_add rfl rfl rfl (by rw [i64_in (by omega)]; omega)) ?_)
   refine xA (.int .i64 ((i + 1 : Nat) : Int)) rfl (wL ?_)
   simp only [zP, po]
   refine then_normal ?_
   go_roundw
   case rel => exact ⟨i + 1, rfl, by omega, hv⟩
   case measure => show l.length - (((i + 1 : Nat) : Int)).toNat < l.length - ((i : Int)).toNat; omega
  refine xG (.bool false) rfl (ex_lss rfl rfl rfl (decide_eq_false hb9)) ?_
  simp only [zP, po]
  refine wK k8 (cF rfl ?_)
  refine xE (tX ?_)
  refine tX (bH ?_)
  refine tK k4 (sK fun _ k13 => ?_)
  refine rL (xA (.bool true) rfl ?_)
  simp only [zP, po]
  refine wK k13 (rR ?_)
  refine bR rfl rfl (⟨rfl, hv⟩)
set_option maxHeartbeats 2000000 in
theorem refPairs (B : Base) (H : List Res) (w : World) (ad ad' : Option Addr) (c c' : Nat) (l : List (List UInt8 × List UInt8)) (hr : RdV B [] ad (pairCells l)) (hr' : RdV B [] ad' (pairCells l)) (hm : l.length ≤ 1000000) (hv : Inv B H w) :
  Calls Tryz.prog 83 #[.slice ad l.length c, .slice ad' l.length c'] w fun e w' => e = .returned (.bool true) ∧ Inv B H w' := by
 refine cW Tryz.func83 rfl Tryz.ntmps83 ?_
 simp only [al]
 refine sK fun _ k1 => rL (xA (.bool false) rfl ?_)
 simp only [zP, po]
 refine wK k1 (sK fun _ k2 => ?_)
 refine sK fun _ k3 => rL (xM (.slice ad l.length c) rfl ?_)
 refine xG (.int .i64 (l.length : Int)) rfl (ex_len0 Tryz.underlying50 rfl rfl) (xM (.slice ad' l.length c') rfl ?_)
 simp only [zP, po]
 refine xG (.int .i64 (l.length : Int)) rfl (ex_len0 Tryz.underlying50 rfl rfl) (xG (.bool false) rfl (ex_neq rfl rfl rfl (decide_eq_false (fun h => h rfl))) ?_)
 simp only [zP, po]
 refine wK k3 (cF rfl ?_)
 refine kS (tK k2 ?_)
 refine sK fun _ k4 => sK fun _ k5 => rL (xA (.int .i64 0) rfl ?_)
 simp only [zP, po]
 refine wK k5 (bB ?_)
 gi_loopw [5] (fun x5 wr => ∃ (i : Nat), x5 = .int .i64 (i : Int) ∧ i ≤ l.length ∧ Inv B H wr) (fun x5 _ => l.length - (intOf x5).toNat)
 case atStart => exact ⟨0, rfl, Nat.zero_le _, hv⟩
 case round =>
  obtain ⟨i, rfl, hi, hv⟩ := hrel
  refine sK fun _ k7 => sK fun _ k8 => rL (xM (.int .i64 (i : Int)) rfl ?_)
  refine xM (.slice ad l.length c) rfl (xG (.int .i64 (l.length : Int)) rfl (ex_len0 Tryz.underlying50 rfl rfl) ?_)
  simp only [zP, po]
  by_cases hb9 : (i : Int) < (l.length : Int)
  ·refine xG (.bool true) rfl (ex_lss rfl rfl rfl (decide_eq_true hb9)) ?_
   simp only [zP, po]
   refine wK k8 (cT rfl ?_)
   refine kS (tK k7 ?_)
   refine sK fun _ k10 => bB (sK fun _ k11 => ?_)
   obtain ⟨x, hx⟩ : ∃ x, l[i]? = some x := ⟨_, List.getElem?_eq_getElem (show i < l.length by omega)⟩
   obtain ⟨bb, bo, had, hrdx⟩ := pair_reads hr hx
   subst had
   obtain ⟨b2, o2, hadb2, hrdb2⟩ := pair_reads hr' hx
   subst hadb2
   refine rW mixed [] [0,1,2,3,4,5,6,7,8] 26 rfl (by kernel_rfl) hv ?_
   simp only [qm, opAt]
   refine dM (.slice (some ⟨bb, bo, none⟩) l.length c) rfl (dM (.int .i64 (i : Int)) rfl ?_)
   refine dG (.pointer (some ⟨bb, bo + i * 2, none⟩)) rfl (ex_index rfl rfl rfl (run_idx (k := i) Tryz.underlying50 s10es50 (by omega))) ?_
   simp only [zP, po]
   refine dL (.agg #[.string ⟨x.1.toArray⟩, .string ⟨x.2.toArray⟩]) rfl (fun hv => ex_load rfl rfl (run_loadR (cs := [.string ⟨x.1.toArray⟩, .string ⟨x.2.toArray⟩]) s10wd91 (Reads.mid (pre := []) (mid := [.string ⟨x.1.toArray⟩, .string ⟨x.2.toArray⟩]) (post := []) hrdx _ _ _ (Base.Le.refl _) no_res hv))) (dM (.slice (some ⟨b2, o2, none⟩) l.length c') rfl ?_)
   refine dM (.int .i64 (i : Int)) rfl ?_
   simp only [zP, po]
   refine dG (.pointer (some ⟨b2, o2 + i * 2, none⟩)) rfl (ex_index rfl rfl rfl (run_idx (k := i) Tryz.underlying50 s10es50 (by omega))) (dL (.agg #[.string ⟨x.1.toArray⟩, .string ⟨x.2.toArray⟩]) rfl (fun hv => ex_load rfl rfl (run_loadR (cs := [.string ⟨x.1.toArray⟩, .string ⟨x.2.toArray⟩]) s10wd91 (Reads.mid (pre := []) (mid := [.string ⟨x.1.toArray⟩, .string ⟨x.2.toArray⟩]) (post := []) hrdb2 _ _ _ (Base.Le.refl _) no_res hv))) ?_)
   refine dG (.bool false) rfl (ex_neqSame (L := [.string ⟨x.1.toArray⟩, .string ⟨x.2.toArray⟩]) rfl rfl rfl (by kernel_rfl) (fun w => pairEq 9998 w x.1 x.2)) (dE fun w12 hv => ?_)
   simp only [zP, po]
   refine tK k11 (cF rfl ?_)
   refine kS (bN ?_)
   refine tK k10 (rL ?_)
   refine xM (.int .i64 (i : Int)) rfl (xG (.int .i64 ((i + 1 : Nat) : Int)) rfl (ex_add rfl rfl rfl (by rw [i64_in (by omega)]; omega)) ?_)
   refine xA (.int .i64 ((i + 1 : Nat) : Int)) rfl (wL ?_)
   simp only [zP, po]
   refine then_normal ?_
   go_roundw
   case rel => exact ⟨i + 1, rfl, by omega, hv⟩
   case measure => show l.length - (((i + 1 : Nat) : Int)).toNat < l.length - ((i : Int)).toNat; omega
  refine xG (.bool false) rfl (ex_lss rfl rfl rfl (decide_eq_false hb9)) ?_
  simp only [zP, po]
  refine wK k8 (cF rfl ?_)
  refine xE (tX ?_)
  refine tX (bH ?_)
  refine tK k4 (sK fun _ k13 => ?_)
  refine rL (xA (.bool true) rfl ?_)
  simp only [zP, po]
  refine wK k13 (rR ?_)
  refine bR rfl rfl (⟨rfl, hv⟩)
set_option maxHeartbeats 2000000 in
theorem refMems (B : Base) (H : List Res) (w : World) (ad ad' : Option Addr) (c c' : Nat) (l : List (Int × List UInt8)) (hr : RdV B [] ad (memCells l)) (hr' : RdV B [] ad' (memCells l)) (hm : l.length ≤ 1000000) (hv : Inv B H w) :
  Calls Tryz.prog 84 #[.slice ad l.length c, .slice ad' l.length c'] w fun e w' => e = .returned (.bool true) ∧ Inv B H w' := by
 refine cW Tryz.func84 rfl Tryz.ntmps84 ?_
 simp only [al]
 refine sK fun _ k1 => rL (xA (.bool false) rfl ?_)
 simp only [zP, po]
 refine wK k1 (sK fun _ k2 => ?_)
 refine sK fun _ k3 => rL (xM (.slice ad l.length c) rfl ?_)
 refine xG (.int .i64 (l.length : Int)) rfl (ex_len0 Tryz.underlying51 rfl rfl) (xM (.slice ad' l.length c') rfl ?_)
 simp only [zP, po]
 refine xG (.int .i64 (l.length : Int)) rfl (ex_len0 Tryz.underlying51 rfl rfl) (xG (.bool false) rfl (ex_neq rfl rfl rfl (decide_eq_false (fun h => h rfl))) ?_)
 simp only [zP, po]
 refine wK k3 (cF rfl ?_)
 refine kS (tK k2 ?_)
 refine sK fun _ k4 => sK fun _ k5 => rL (xA (.int .i64 0) rfl ?_)
 simp only [zP, po]
 refine wK k5 (bB ?_)
 gi_loopw [5] (fun x5 wr => ∃ (i : Nat), x5 = .int .i64 (i : Int) ∧ i ≤ l.length ∧ Inv B H wr) (fun x5 _ => l.length - (intOf x5).toNat)
 case atStart => exact ⟨0, rfl, Nat.zero_le _, hv⟩
 case round =>
  obtain ⟨i, rfl, hi, hv⟩ := hrel
  refine sK fun _ k7 => sK fun _ k8 => rL (xM (.int .i64 (i : Int)) rfl ?_)
  refine xM (.slice ad l.length c) rfl (xG (.int .i64 (l.length : Int)) rfl (ex_len0 Tryz.underlying51 rfl rfl) ?_)
  simp only [zP, po]
  by_cases hb9 : (i : Int) < (l.length : Int)
  ·refine xG (.bool true) rfl (ex_lss rfl rfl rfl (decide_eq_true hb9)) ?_
   simp only [zP, po]
   refine wK k8 (cT rfl ?_)
   refine kS (tK k7 ?_)
   refine sK fun _ k10 => bB (sK fun _ k11 => ?_)
   obtain ⟨x, hx⟩ : ∃ x, l[i]? = some x := ⟨_, List.getElem?_eq_getElem (show i < l.length by omega)⟩
   obtain ⟨bb, bo, had, hrdx⟩ := mem_reads hr hx
   subst had
   obtain ⟨b2, o2, hadb2, hrdb2⟩ := mem_reads hr' hx
   subst hadb2
   refine rW mixed [] [0,1,2,3,4,5,6,7,8] 26 rfl (by kernel_rfl) hv ?_
   simp only [qm, opAt]
   refine dM (.slice (some ⟨bb, bo, none⟩) l.length c) rfl (dM (.int .i64 (i : Int)) rfl ?_)
   refine dG (.pointer (some ⟨bb, bo + i * 2, none⟩)) rfl (ex_index rfl rfl rfl (run_idx (k := i) Tryz.underlying51 s9es51 (by omega))) ?_
   simp only [zP, po]
   refine dL (.agg #[.int .i64 x.1, .string ⟨x.2.toArray⟩]) rfl (fun hv => ex_load rfl rfl (run_loadR (cs := [.int .i64 x.1, .string ⟨x.2.toArray⟩]) s9wd93 (Reads.mid (pre := []) (mid := [.int .i64 x.1, .string ⟨x.2.toArray⟩]) (post := []) hrdx _ _ _ (Base.Le.refl _) no_res hv))) (dM (.slice (some ⟨b2, o2, none⟩) l.length c') rfl ?_)
   refine dM (.int .i64 (i : Int)) rfl ?_
   simp only [zP, po]
   refine dG (.pointer (some ⟨b2, o2 + i * 2, none⟩)) rfl (ex_index rfl rfl rfl (run_idx (k := i) Tryz.underlying51 s9es51 (by omega))) (dL (.agg #[.int .i64 x.1, .string ⟨x.2.toArray⟩]) rfl (fun hv => ex_load rfl rfl (run_loadR (cs := [.int .i64 x.1, .string ⟨x.2.toArray⟩]) s9wd93 (Reads.mid (pre := []) (mid := [.int .i64 x.1, .string ⟨x.2.toArray⟩]) (post := []) hrdb2 _ _ _ (Base.Le.refl _) no_res hv))) ?_)
   refine dG (.bool false) rfl (ex_neqSame (L := [.int .i64 x.1, .string ⟨x.2.toArray⟩]) rfl rfl rfl (by kernel_rfl) (fun w => memEq 9998 w x.1 x.2)) (dE fun w12 hv => ?_)
   simp only [zP, po]
   refine tK k11 (cF rfl ?_)
   refine kS (bN ?_)
   refine tK k10 (rL ?_)
   refine xM (.int .i64 (i : Int)) rfl (xG (.int .i64 ((i + 1 : Nat) : Int)) rfl (ex_add rfl rfl rfl (by rw [i64_in (by omega)]; omega)) ?_)
   refine xA (.int .i64 ((i + 1 : Nat) : Int)) rfl (wL ?_)
   simp only [zP, po]
   refine then_normal ?_
   go_roundw
   case rel => exact ⟨i + 1, rfl, by omega, hv⟩
   case measure => show l.length - (((i + 1 : Nat) : Int)).toNat < l.length - ((i : Int)).toNat; omega
  refine xG (.bool false) rfl (ex_lss rfl rfl rfl (decide_eq_false hb9)) ?_
  simp only [zP, po]
  refine wK k8 (cF rfl ?_)
  refine xE (tX ?_)
  refine tX (bH ?_)
  refine tK k4 (sK fun _ k13 => ?_)
  refine rL (xA (.bool true) rfl ?_)
  simp only [zP, po]
  refine wK k13 (rR ?_)
  refine bR rfl rfl (⟨rfl, hv⟩)
theorem s18callable83 : Callable Tryz.prog 83 := ⟨_, Tryz.func83, by kernel_rfl, by kernel_rfl⟩
theorem s18callable37 : Callable Tryz.prog 37 := ⟨_, Tryz.func37, by kernel_rfl, by kernel_rfl⟩
theorem s18callable84 : Callable Tryz.prog 84 := ⟨_, Tryz.func84, by kernel_rfl, by kernel_rfl⟩
set_option maxHeartbeats 2000000 in
theorem refSame0 (B : Base) (H : List Res) (w : World) (v : Val) (ap at2 az ap' at2' az' : Option Addr) (cp ct cz cp' ct' cz' : Nat) (hrp : RdV B [] ap (pairCells v.pairs)) (hrt : RdV B [] at2 (textCells v.texts)) (hrz : RdV B [] az (memCells v.zset)) (hrp' : RdV B [] ap' (pairCells v.pairs)) (hrt' : RdV B [] at2' (textCells v.texts)) (hrz' : RdV B [] az' (memCells v.zset)) (hpm : v.pairs.length ≤ 1000000) (htm : v.texts.length ≤ 1000000) (hzm : v.zset.length ≤ 1000000) (hv : Inv B H w) :
  Calls Tryz.prog 66 #[.agg #[.int .i64 v.kind, .string ⟨v.text.toArray⟩, .slice ap v.pairs.length cp, .slice at2 v.texts.length ct, .slice az v.zset.length cz], .agg #[.int .i64 v.kind, .string ⟨v.text.toArray⟩, .slice ap' v.pairs.length cp', .slice at2' v.texts.length ct', .slice az' v.zset.length cz']] w fun e w' => e = .returned (.bool true) ∧ Inv B H w' := by
 refine cW Tryz.func66 rfl Tryz.ntmps66 ?_
 simp only [al]
 refine sK fun _ k1 => rL (sl_box (L := [.int .i64 v.kind, .string ⟨v.text.toArray⟩, .slice ap v.pairs.length cp, .slice at2 v.texts.length ct, .slice az v.zset.length cz]) tV (wn rfl) rfl rfl hv (fun w => by kernel_rfl) (fun b2 w3 hv => ?_))
 refine sl_box (L := [.int .i64 v.kind, .string ⟨v.text.toArray⟩, .slice ap' v.pairs.length cp', .slice at2' v.texts.length ct', .slice az' v.zset.length cz']) tV (wn rfl) rfl rfl hv (fun w => by kernel_rfl) (fun b4 w5 hv => ?_)
 refine xA (.bool false) rfl ?_
 simp only [zP, po]
 refine wK k1 (sK fun _ k6 => ?_)
 refine rL (xF (.pointer (some ⟨b2, 0, none⟩)) rfl (s12fa53_0 _ _ _) ?_)
 refine xL _ rfl (run_load1 s2na3 (hv.load 1 0 rfl rfl)) (xF (.pointer (some ⟨b4, 0, none⟩)) rfl (s12fa53_0 _ _ _) ?_)
 simp only [zP, po]
 refine xL _ rfl (run_load1 s2na3 (hv.load 0 0 rfl rfl)) (xG (.bool true) rfl (ex_eql rfl rfl rfl (decide_eq_true (rfl))) ?_)
 refine xM (.bool true) rfl ?_
 simp only [zP, po]
 refine xF (.pointer (some ⟨b2, 1, none⟩)) rfl (s12fa53_1 _ _ _) (xL _ rfl (run_load1 s3na9 (hv.load 1 1 rfl rfl)) ?_)
 refine xF (.pointer (some ⟨b4, 1, none⟩)) rfl (s12fa53_1 _ _ _) ?_
 simp only [zP, po]
 refine xL _ rfl (run_load1 s3na9 (hv.load 0 1 rfl rfl)) (xG (.bool true) rfl (ex_seql rfl rfl rfl (decide_eq_true (rfl))) ?_)
 refine xK true (.bool true) rfl ?_
 simp only [zP, po]
 refine xM (.bool true) rfl (xF (.pointer (some ⟨b2, 2, none⟩)) rfl (s1fa53_2 _ _ _) ?_)
 refine xL _ rfl (run_load1 s1na50 (hv.load 1 2 rfl rfl)) ?_
 simp only [zP, po]
 refine xF (.pointer (some ⟨b4, 2, none⟩)) rfl (s1fa53_2 _ _ _) (xL _ rfl (run_load1 s1na50 (hv.load 0 2 rfl rfl)) ?_)
 refine xC s18callable83 rfl ((refPairs B _ _ _ _ _ _ _ hrp hrp' (by omega) hv).mono ?_) rfl
 rintro e w7 ⟨rfl, hv⟩
 refine ⟨_, rfl, ?_⟩
 simp only [zP, po]
 refine xK true (.bool true) rfl (xM (.bool true) rfl ?_)
 refine xF (.pointer (some ⟨b2, 3, none⟩)) rfl (s1fa53_3 _ _ _) ?_
 simp only [zP, po]
 refine xL _ rfl (run_load1 s1na27 (hv.load 1 3 rfl rfl)) (xF (.pointer (some ⟨b4, 3, none⟩)) rfl (s1fa53_3 _ _ _) ?_)
 refine xL _ rfl (run_load1 s1na27 (hv.load 0 3 rfl rfl)) ?_
 simp only [zP, po]
 refine xC s18callable37 rfl ((refWords B _ _ _ _ _ _ _ hrt hrt' (by omega) hv).mono ?_) rfl
 rintro e w8 ⟨rfl, hv⟩
 refine ⟨_, rfl, ?_⟩
 refine xK true (.bool true) rfl (xM (.bool true) rfl ?_)
 simp only [zP, po]
 refine xF (.pointer (some ⟨b2, 4, none⟩)) rfl (s1fa53_4 _ _ _) (xL _ rfl (run_load1 s1na51 (hv.load 1 4 rfl rfl)) ?_)
 refine xF (.pointer (some ⟨b4, 4, none⟩)) rfl (s1fa53_4 _ _ _) ?_
 simp only [zP, po]
 refine xL _ rfl (run_load1 s1na51 (hv.load 0 4 rfl rfl)) (xC s18callable84 rfl ((refMems B _ _ _ _ _ _ _ hrz hrz' (by omega) hv).mono ?_) rfl)
 rintro e w9 ⟨rfl, hv⟩
 refine ⟨_, rfl, ?_⟩
 refine xK true (.bool true) rfl ?_
 simp only [zP, po]
 refine xA (.bool true) rfl ?_
 simp only [zP, po]
 refine wK k6 (rR ?_)
 refine bR rfl rfl (⟨rfl, (hv.sub (List.Sublist.cons _ (List.Sublist.cons _ (List.Sublist.refl _))))⟩)
theorem refSameV (B : Base) (H : List Res) (w : World) (v : Val) (p t z p' t' z' : Value) (h : ValRd B v p t z) (h' : ValRd B v p' t' z') (hpm : v.pairs.length ≤ 1000000) (htm : v.texts.length ≤ 1000000) (hzm : v.zset.length ≤ 1000000) (hv : Inv B H w) : Calls Tryz.prog 66 #[.agg (valCells v p t z).toArray, .agg (valCells v p' t' z').toArray] w fun e w' => e = .returned (.bool true) ∧ Inv B H w' := by
 obtain ⟨⟨ap, cp, rfl, -, hrp⟩, ⟨at2, ct, rfl, -, hrt⟩, ⟨az, cz, rfl, -, hrz⟩⟩ := h
 obtain ⟨⟨ap', cp', rfl, -, hrp'⟩, ⟨at2', ct', rfl, -, hrt'⟩, ⟨az', cz', rfl, -, hrz'⟩⟩ := h'
 exact refSame0 B H w v ap at2 az ap' at2' az' cp ct cz cp' ct' cz' hrp hrt hrz hrp' hrt' hrz' hpm htm hzm hv
set_option maxHeartbeats 4000000 in
theorem refSmall0 (B : Base) (H : List Res) (w : World) (v : Val) (ap at2 az : Option Addr) (cp ct cz : Nat) (hrp : RdV B [] ap (pairCells v.pairs)) (hrt : RdV B [] at2 (textCells v.texts)) (hrz : RdV B [] az (memCells v.zset)) (hv : Inv B H w) :
  Calls Tryz.prog 21 #[.agg #[.int .i64 v.kind, .string ⟨v.text.toArray⟩, .slice ap v.pairs.length cp, .slice at2 v.texts.length ct, .slice az v.zset.length cz]] w fun e w' => ∃ b, e = .returned (.bool b) ∧ (b = true → ValSm v) ∧ Inv B H w' := by
 refine cW Tryz.func21 rfl Tryz.ntmps21 ?_
 simp only [al]
 refine sK fun _ k1 => rL (sl_box (L := [.int .i64 v.kind, .string ⟨v.text.toArray⟩, .slice ap v.pairs.length cp, .slice at2 v.texts.length ct, .slice az v.zset.length cz]) tV (wn rfl) rfl rfl hv (fun w => by kernel_rfl) (fun b2 w3 hv => ?_))
 refine xA (.bool false) rfl ?_
 simp only [zP, po]
 refine wK k1 (sK fun _ k4 => ?_)
 refine sK fun _ k5 => rL (xF (.pointer (some ⟨b2, 1, none⟩)) rfl (s12fa53_1 _ _ _) ?_)
 refine xL _ rfl (run_load1 s3na9 (hv.load 0 1 rfl rfl)) (xG (.int .i64 (v.text.length : Int)) rfl (ex_lenStr Tryz.underlying9 rfl rfl) ?_)
 simp only [zP, po]
 by_cases hb6 : (v.text.length : Int) > 5000
 ·refine xG (.bool true) rfl (ex_gtr rfl rfl rfl (decide_eq_true hb6)) (xM (.bool true) rfl ?_)
  iterate 4 refine yN rfl ?_
  refine xK true (.bool true) rfl ?_
  simp only [zP, po]
  refine xM (.bool true) rfl ?_
  iterate 4 refine yN rfl ?_
  refine xK true (.bool true) rfl (xM (.bool true) rfl ?_)
  simp only [zP, po]
  iterate 4 refine yN rfl ?_
  refine xK true (.bool true) rfl ?_
  simp only [zP, po]
  refine wK k5 (cT rfl ?_)
  refine sK fun _ k7 => rL (xA (.bool false) rfl ?_)
  simp only [zP, po]
  refine wK k7 (rR ?_)
  refine tR (bR rfl rfl ?_)
  exact ⟨false, rfl, fun h => (by cases h), (hv.sub (List.Sublist.cons _ (List.Sublist.refl _)))⟩
 refine xG (.bool false) rfl (ex_gtr rfl rfl rfl (decide_eq_false hb6)) (xM (.bool false) rfl ?_)
 refine xF (.pointer (some ⟨b2, 2, none⟩)) rfl (s1fa53_2 _ _ _) ?_
 simp only [zP, po]
 refine xL _ rfl (run_load1 s1na50 (hv.load 0 2 rfl rfl)) (xG (.int .i64 (v.pairs.length : Int)) rfl (ex_len0 Tryz.underlying50 rfl rfl) ?_)
 by_cases hb8 : (v.pairs.length : Int) > 60
 ·refine xG (.bool true) rfl (ex_gtr rfl rfl rfl (decide_eq_true hb8)) ?_
  simp only [zP, po]
  refine xK false (.bool true) rfl (xM (.bool true) rfl ?_)
  iterate 4 refine yN rfl ?_
  refine xK true (.bool true) rfl ?_
  simp only [zP, po]
  refine xM (.bool true) rfl ?_
  iterate 4 refine yN rfl ?_
  refine xK true (.bool true) rfl ?_
  simp only [zP, po]
  refine wK k5 (cT rfl ?_)
  refine sK fun _ k9 => rL (xA (.bool false) rfl ?_)
  simp only [zP, po]
  refine wK k9 (rR ?_)
  refine tR (bR rfl rfl ?_)
  exact ⟨false, rfl, fun h => (by cases h), (hv.sub (List.Sublist.cons _ (List.Sublist.refl _)))⟩
 refine xG (.bool false) rfl (ex_gtr rfl rfl rfl (decide_eq_false hb8)) ?_
 simp only [zP, po]
 refine xK false (.bool false) rfl (xM (.bool false) rfl ?_)
 refine xF (.pointer (some ⟨b2, 3, none⟩)) rfl (s1fa53_3 _ _ _) ?_
 simp only [zP, po]
 refine xL _ rfl (run_load1 s1na27 (hv.load 0 3 rfl rfl)) (xG (.int .i64 (v.texts.length : Int)) rfl (ex_len0 Tryz.underlying27 rfl rfl) ?_)
 by_cases hb10 : (v.texts.length : Int) > 600
 ·refine xG (.bool true) rfl (ex_gtr rfl rfl rfl (decide_eq_true hb10)) ?_
  simp only [zP, po]
  refine xK false (.bool true) rfl (xM (.bool true) rfl ?_)
  iterate 4 refine yN rfl ?_
  refine xK true (.bool true) rfl ?_
  simp only [zP, po]
  refine wK k5 (cT rfl ?_)
  refine sK fun _ k11 => rL (xA (.bool false) rfl ?_)
  simp only [zP, po]
  refine wK k11 (rR ?_)
  refine tR (bR rfl rfl ?_)
  exact ⟨false, rfl, fun h => (by cases h), (hv.sub (List.Sublist.cons _ (List.Sublist.refl _)))⟩
 refine xG (.bool false) rfl (ex_gtr rfl rfl rfl (decide_eq_false hb10)) ?_
 simp only [zP, po]
 refine xK false (.bool false) rfl (xM (.bool false) rfl ?_)
 refine xF (.pointer (some ⟨b2, 4, none⟩)) rfl (s1fa53_4 _ _ _) ?_
 simp only [zP, po]
 refine xL _ rfl (run_load1 s1na51 (hv.load 0 4 rfl rfl)) (xG (.int .i64 (v.zset.length : Int)) rfl (ex_len0 Tryz.underlying51 rfl rfl) ?_)
 by_cases hb12 : (v.zset.length : Int) > 60
 ·refine xG (.bool true) rfl (ex_gtr rfl rfl rfl (decide_eq_true hb12)) ?_
  simp only [zP, po]
  refine xK false (.bool true) rfl ?_
  simp only [zP, po]
  refine wK k5 (cT rfl ?_)
  refine sK fun _ k13 => rL (xA (.bool false) rfl ?_)
  simp only [zP, po]
  refine wK k13 (rR ?_)
  refine tR (bR rfl rfl ?_)
  exact ⟨false, rfl, fun h => (by cases h), (hv.sub (List.Sublist.cons _ (List.Sublist.refl _)))⟩
 refine xG (.bool false) rfl (ex_gtr rfl rfl rfl (decide_eq_false hb12)) ?_
 simp only [zP, po]
 refine xK false (.bool false) rfl ?_
 simp only [zP, po]
 refine wK k5 (cF rfl ?_)
 refine kS (tK k4 ?_)
 refine sK fun _ k14 => sK fun _ k15 => rL (xA (.int .i64 0) rfl ?_)
 simp only [zP, po]
 refine wK k15 (bB ?_)
 gi_loopw [3] (fun x3 wr => ∃ (i : Nat), x3 = .int .i64 (i : Int) ∧ i ≤ v.pairs.length ∧ Inv B (Res.cell b2 [.int .i64 v.kind, .string ⟨v.text.toArray⟩, .slice ap v.pairs.length cp, .slice at2 v.texts.length ct, .slice az v.zset.length cz] 53 :: H) wr) (fun x3 _ => v.pairs.length - (intOf x3).toNat)
 case atStart => exact ⟨0, rfl, Nat.zero_le _, hv⟩
 case round =>
  obtain ⟨i, rfl, hi, hv⟩ := hrel
  refine sK fun _ k17 => sK fun _ k18 => rL (xM (.int .i64 (i : Int)) rfl ?_)
  refine xF (.pointer (some ⟨b2, 2, none⟩)) rfl (s1fa53_2 _ _ _) (xL _ rfl (run_load1 s1na50 (hv.load 0 2 rfl rfl)) ?_)
  simp only [zP, po]
  refine xG (.int .i64 (v.pairs.length : Int)) rfl (ex_len0 Tryz.underlying50 rfl rfl) ?_
  by_cases hb19 : (i : Int) < (v.pairs.length : Int)
  ·refine xG (.bool true) rfl (ex_lss rfl rfl rfl (decide_eq_true hb19)) ?_
   simp only [zP, po]
   refine wK k18 (cT rfl ?_)
   refine kS (tK k17 ?_)
   refine sK fun _ k20 => bB (sK fun _ k21 => ?_)
   obtain ⟨x, hx⟩ : ∃ x, v.pairs[i]? = some x := ⟨_, List.getElem?_eq_getElem (show i < v.pairs.length by omega)⟩
   obtain ⟨bb, bo, had, hrdx⟩ := pair_reads hrp hx
   subst had
   refine rL (xF (.pointer (some ⟨b2, 2, none⟩)) rfl (s1fa53_2 _ _ _) ?_)
   refine xL _ rfl (run_load1 s1na50 (hv.load 0 2 rfl rfl)) (xM (.int .i64 (i : Int)) rfl ?_)
   simp only [zP, po]
   refine xG (.pointer (some ⟨bb, bo + i * 2, none⟩)) rfl (ex_index rfl rfl rfl (run_idx (k := i) Tryz.underlying50 s10es50 (by omega))) (xF (.pointer (some ⟨bb, bo + i * 2, none⟩)) rfl (s10fa91_0 _ _ _) ?_)
   refine xL _ rfl (run_load1 s3na9 (hrdx _ _ _ (Base.Le.refl _) no_res hv 0 _ rfl)) ?_
   simp only [zP, po]
   refine xG (.int .i64 (x.1.length : Int)) rfl (ex_lenStr Tryz.underlying9 rfl rfl) ?_
   by_cases hb22 : (x.1.length : Int) > 200
   ·refine xG (.bool true) rfl (ex_gtr rfl rfl rfl (decide_eq_true hb22)) (xM (.bool true) rfl ?_)
    simp only [zP, po]
    refine yP rfl (yP rfl ?_)
    refine yP rfl ?_
    simp only [zP, po]
    refine yP rfl (yP rfl ?_)
    refine yP rfl ?_
    simp only [zP, po]
    refine yP rfl (yP rfl ?_)
    refine xK true (.bool true) rfl ?_
    simp only [zP, po]
    refine wK k21 (cT rfl ?_)
    refine sK fun _ k23 => rL (xA (.bool false) rfl ?_)
    simp only [zP, po]
    refine wK k23 (rR ?_)
    refine bE (tR ?_)
    refine tR (bE ?_)
    refine tR (bR rfl rfl ?_)
    exact ⟨false, rfl, fun h => (by cases h), (hv.sub (List.Sublist.cons _ (List.Sublist.refl _)))⟩
   refine xG (.bool false) rfl (ex_gtr rfl rfl rfl (decide_eq_false hb22)) (xM (.bool false) rfl ?_)
   simp only [zP, po]
   refine xF (.pointer (some ⟨b2, 2, none⟩)) rfl (s1fa53_2 _ _ _) (xL _ rfl (run_load1 s1na50 (hv.load 0 2 rfl rfl)) ?_)
   refine xM (.int .i64 (i : Int)) rfl ?_
   simp only [zP, po]
   refine xG (.pointer (some ⟨bb, bo + i * 2, none⟩)) rfl (ex_index rfl rfl rfl (run_idx (k := i) Tryz.underlying50 s10es50 (by omega))) (xF (.pointer (some ⟨bb, bo + i * 2 + 1, none⟩)) rfl (s10fa91_1 _ _ _) ?_)
   refine xL _ rfl (run_load1 s3na9 (hrdx _ _ _ (Base.Le.refl _) no_res hv 1 _ rfl)) ?_
   simp only [zP, po]
   refine xG (.int .i64 (x.2.length : Int)) rfl (ex_lenStr Tryz.underlying9 rfl rfl) ?_
   by_cases hb24 : (x.2.length : Int) > 5000
   ·refine xG (.bool true) rfl (ex_gtr rfl rfl rfl (decide_eq_true hb24)) (xK false (.bool true) rfl ?_)
    simp only [zP, po]
    refine wK k21 (cT rfl ?_)
    refine sK fun _ k25 => rL (xA (.bool false) rfl ?_)
    simp only [zP, po]
    refine wK k25 (rR ?_)
    refine bE (tR ?_)
    refine tR (bE ?_)
    refine tR (bR rfl rfl ?_)
    exact ⟨false, rfl, fun h => (by cases h), (hv.sub (List.Sublist.cons _ (List.Sublist.refl _)))⟩
   refine xG (.bool false) rfl (ex_gtr rfl rfl rfl (decide_eq_false hb24)) (xK false (.bool false) rfl ?_)
   simp only [zP, po]
   refine wK k21 (cF rfl ?_)
   refine kS (bN ?_)
   refine tK k20 (rL ?_)
   refine xM (.int .i64 (i : Int)) rfl (xG (.int .i64 ((i + 1 : Nat) : Int)) rfl (ex_add rfl rfl rfl (by rw [i64_in (by omega)]; omega)) ?_)
   refine xA (.int .i64 ((i + 1 : Nat) : Int)) rfl (wL ?_)
   simp only [zP, po]
   refine then_normal ?_
   go_roundw
   case rel => exact ⟨i + 1, rfl, by omega, hv⟩
   case measure => show v.pairs.length - (((i + 1 : Nat) : Int)).toNat < v.pairs.length - ((i : Int)).toNat; omega
  refine xG (.bool false) rfl (ex_lss rfl rfl rfl (decide_eq_false hb19)) ?_
  simp only [zP, po]
  refine wK k18 (cF rfl ?_)
  refine xE (tX ?_)
  refine tX (bH ?_)
  refine tK k14 (sK fun _ k26 => ?_)
  refine sK fun _ k27 => rL (xA (.int .i64 0) rfl ?_)
  simp only [zP, po]
  refine wK k27 (bB ?_)
  gi_loopw [4] (fun x4 wr => ∃ (i : Nat), x4 = .int .i64 (i : Int) ∧ i ≤ v.texts.length ∧ Inv B (Res.cell b2 [.int .i64 v.kind, .string ⟨v.text.toArray⟩, .slice ap v.pairs.length cp, .slice at2 v.texts.length ct, .slice az v.zset.length cz] 53 :: H) wr) (fun x4 _ => v.texts.length - (intOf x4).toNat)
  case atStart => exact ⟨0, rfl, Nat.zero_le _, hv⟩
  case round =>
   obtain ⟨i, rfl, hi, hv⟩ := hrel
   refine sK fun _ k29 => sK fun _ k30 => rL (xM (.int .i64 (i : Int)) rfl ?_)
   refine xF (.pointer (some ⟨b2, 3, none⟩)) rfl (s1fa53_3 _ _ _) (xL _ rfl (run_load1 s1na27 (hv.load 0 3 rfl rfl)) ?_)
   simp only [zP, po]
   refine xG (.int .i64 (v.texts.length : Int)) rfl (ex_len0 Tryz.underlying27 rfl rfl) ?_
   by_cases hb31 : (i : Int) < (v.texts.length : Int)
   ·refine xG (.bool true) rfl (ex_lss rfl rfl rfl (decide_eq_true hb31)) ?_
    simp only [zP, po]
    refine wK k30 (cT rfl ?_)
    refine kS (tK k29 ?_)
    refine sK fun _ k32 => bB (sK fun _ k33 => ?_)
    obtain ⟨x, hx⟩ : ∃ x, v.texts[i]? = some x := ⟨_, List.getElem?_eq_getElem (show i < v.texts.length by omega)⟩
    obtain ⟨b3, o3, had, hrdx⟩ := text_reads hrt hx
    subst had
    refine rL (xF (.pointer (some ⟨b2, 3, none⟩)) rfl (s1fa53_3 _ _ _) ?_)
    refine xL _ rfl (run_load1 s1na27 (hv.load 0 3 rfl rfl)) (xM (.int .i64 (i : Int)) rfl ?_)
    simp only [zP, po]
    refine xG (.pointer (some ⟨b3, o3 + i, none⟩)) rfl (ex_index rfl rfl rfl (run_idx1 (k := i) Tryz.underlying27 s9es27 (by omega))) (xL _ rfl (run_load1 s3na9 (hrdx _ _ _ (Base.Le.refl _) no_res hv 0 _ rfl)) ?_)
    refine xG (.int .i64 (x.length : Int)) rfl (ex_lenStr Tryz.underlying9 rfl rfl) ?_
    simp only [zP, po]
    by_cases hb34 : (x.length : Int) > 200
    ·refine xG (.bool true) rfl (ex_gtr rfl rfl rfl (decide_eq_true hb34)) ?_
     simp only [zP, po]
     refine wK k33 (cT rfl ?_)
     refine sK fun _ k35 => rL (xA (.bool false) rfl ?_)
     simp only [zP, po]
     refine wK k35 (rR ?_)
     refine bE (tR ?_)
     refine tR (bE ?_)
     refine tR (bR rfl rfl ?_)
     exact ⟨false, rfl, fun h => (by cases h), (hv.sub (List.Sublist.cons _ (List.Sublist.refl _)))⟩
    refine xG (.bool false) rfl (ex_gtr rfl rfl rfl (decide_eq_false hb34)) ?_
    simp only [zP, po]
    refine wK k33 (cF rfl ?_)
    refine kS (bN ?_)
    refine tK k32 (rL ?_)
    refine xM (.int .i64 (i : Int)) rfl (xG (.int .i64 ((i + 1 : Nat) : Int)) rfl (ex_add rfl rfl rfl (by rw [i64_in (by omega)]; omega)) ?_)
    refine xA (.int .i64 ((i + 1 : Nat) : Int)) rfl (wL ?_)
    simp only [zP, po]
    refine then_normal ?_
    go_roundw
    case rel => exact ⟨i + 1, rfl, by omega, hv⟩
    case measure => show v.texts.length - (((i + 1 : Nat) : Int)).toNat < v.texts.length - ((i : Int)).toNat; omega
   refine xG (.bool false) rfl (ex_lss rfl rfl rfl (decide_eq_false hb31)) ?_
   simp only [zP, po]
   refine wK k30 (cF rfl ?_)
   refine xE (tX ?_)
   refine tX (bH ?_)
   refine tK k26 (sK fun _ k36 => ?_)
   refine sK fun _ k37 => rL (xA (.int .i64 0) rfl ?_)
   simp only [zP, po]
   refine wK k37 (bB ?_)
   gi_loopw [5] (fun x5 wr => ∃ (i : Nat), x5 = .int .i64 (i : Int) ∧ i ≤ v.zset.length ∧ Inv B (Res.cell b2 [.int .i64 v.kind, .string ⟨v.text.toArray⟩, .slice ap v.pairs.length cp, .slice at2 v.texts.length ct, .slice az v.zset.length cz] 53 :: H) wr) (fun x5 _ => v.zset.length - (intOf x5).toNat)
   case atStart => exact ⟨0, rfl, Nat.zero_le _, hv⟩
   case round =>
    obtain ⟨i, rfl, hi, hv⟩ := hrel
    refine sK fun _ k39 => sK fun _ k40 => rL (xM (.int .i64 (i : Int)) rfl ?_)
    refine xF (.pointer (some ⟨b2, 4, none⟩)) rfl (s1fa53_4 _ _ _) (xL _ rfl (run_load1 s1na51 (hv.load 0 4 rfl rfl)) ?_)
    simp only [zP, po]
    refine xG (.int .i64 (v.zset.length : Int)) rfl (ex_len0 Tryz.underlying51 rfl rfl) ?_
    by_cases hb41 : (i : Int) < (v.zset.length : Int)
    ·refine xG (.bool true) rfl (ex_lss rfl rfl rfl (decide_eq_true hb41)) ?_
     simp only [zP, po]
     refine wK k40 (cT rfl ?_)
     refine kS (tK k39 ?_)
     refine sK fun _ k42 => bB (sK fun _ k43 => ?_)
     obtain ⟨x, hx⟩ : ∃ x, v.zset[i]? = some x := ⟨_, List.getElem?_eq_getElem (show i < v.zset.length by omega)⟩
     obtain ⟨b4, o4, had, hrdx⟩ := mem_reads hrz hx
     subst had
     refine rL (xF (.pointer (some ⟨b2, 4, none⟩)) rfl (s1fa53_4 _ _ _) ?_)
     refine xL _ rfl (run_load1 s1na51 (hv.load 0 4 rfl rfl)) (xM (.int .i64 (i : Int)) rfl ?_)
     simp only [zP, po]
     refine xG (.pointer (some ⟨b4, o4 + i * 2, none⟩)) rfl (ex_index rfl rfl rfl (run_idx (k := i) Tryz.underlying51 s9es51 (by omega))) (xF (.pointer (some ⟨b4, o4 + i * 2 + 1, none⟩)) rfl (s9fa93_1 _ _ _) ?_)
     refine xL _ rfl (run_load1 s3na9 (hrdx _ _ _ (Base.Le.refl _) no_res hv 1 _ rfl)) ?_
     simp only [zP, po]
     refine xG (.int .i64 (x.2.length : Int)) rfl (ex_lenStr Tryz.underlying9 rfl rfl) ?_
     by_cases hb44 : (x.2.length : Int) > 200
     ·refine xG (.bool true) rfl (ex_gtr rfl rfl rfl (decide_eq_true hb44)) ?_
      simp only [zP, po]
      refine wK k43 (cT rfl ?_)
      refine sK fun _ k45 => rL (xA (.bool false) rfl ?_)
      simp only [zP, po]
      refine wK k45 (rR ?_)
      refine bE (tR ?_)
      refine tR (bE ?_)
      refine tR (bR rfl rfl ?_)
      exact ⟨false, rfl, fun h => (by cases h), (hv.sub (List.Sublist.cons _ (List.Sublist.refl _)))⟩
     refine xG (.bool false) rfl (ex_gtr rfl rfl rfl (decide_eq_false hb44)) ?_
     simp only [zP, po]
     refine wK k43 (cF rfl ?_)
     refine kS (bN ?_)
     refine tK k42 (rL ?_)
     refine xM (.int .i64 (i : Int)) rfl (xG (.int .i64 ((i + 1 : Nat) : Int)) rfl (ex_add rfl rfl rfl (by rw [i64_in (by omega)]; omega)) ?_)
     refine xA (.int .i64 ((i + 1 : Nat) : Int)) rfl (wL ?_)
     simp only [zP, po]
     refine then_normal ?_
     go_roundw
     case rel => exact ⟨i + 1, rfl, by omega, hv⟩
     case measure => show v.zset.length - (((i + 1 : Nat) : Int)).toNat < v.zset.length - ((i : Int)).toNat; omega
    refine xG (.bool false) rfl (ex_lss rfl rfl rfl (decide_eq_false hb41)) ?_
    simp only [zP, po]
    refine wK k40 (cF rfl ?_)
    refine xE (tX ?_)
    refine tX (bH ?_)
    refine tK k36 (sK fun _ k46 => ?_)
    refine rL (xA (.bool true) rfl ?_)
    simp only [zP, po]
    refine wK k46 (rR ?_)
    refine bR rfl rfl (⟨true, rfl, fun _ => ⟨by omega, by omega, by omega⟩, (hv.sub (List.Sublist.cons _ (List.Sublist.refl _)))⟩)
theorem refSmall (B : Base) (H : List Res) (w : World) (v : Val) (p t z : Value) (h : ValRd B v p t z) (hv : Inv B H w) : Calls Tryz.prog 21 #[.agg (valCells v p t z).toArray] w fun e w' => ∃ b, e = .returned (.bool b) ∧ (b = true → ValSm v) ∧ Inv B H w' := by
 obtain ⟨⟨ap, cp, rfl, -, hrp⟩, ⟨at2, ct, rfl, -, hrt⟩, ⟨az, cz, rfl, -, hrz⟩⟩ := h
 exact refSmall0 B H w v ap at2 az cp ct cz hrp hrt hrz hv
theorem s18callable21 : Callable Tryz.prog 21 := ⟨_, Tryz.func21, by kernel_rfl, by kernel_rfl⟩
set_option maxHeartbeats 2000000 in
theorem lawSmall (B : Base) (H : List Res) (w : World) (ad : Option Addr) (c : Nat) (l : List Wr) (xs : List Value) (hr : RdV B [] ad xs) (hxs : WrsRd B l xs) (hv : Inv B H w) :
  Calls Tryz.prog 6 #[.slice ad l.length c] w fun e w' => ∃ b, e = .returned (.bool b) ∧ (b = true → l.length ≤ 12 ∧ ∀ x ∈ l, ValSm x.ver.val) ∧ Inv B H w' := by
 refine cW Tryz.func6 rfl Tryz.ntmps6 ?_
 simp only [al]
 refine sK fun _ k1 => rL (xA (.bool false) rfl ?_)
 simp only [zP, po]
 refine wK k1 (sK fun _ k2 => ?_)
 refine sK fun _ k3 => rL (xM (.slice ad l.length c) rfl ?_)
 refine xG (.int .i64 (l.length : Int)) rfl (ex_len0 Tryz.underlying33 rfl rfl) ?_
 by_cases hb4 : (l.length : Int) > 12
 ·refine xG (.bool true) rfl (ex_gtr rfl rfl rfl (decide_eq_true hb4)) ?_
  simp only [zP, po]
  refine wK k3 (cT rfl ?_)
  refine sK fun _ k5 => rL (xA (.bool false) rfl ?_)
  simp only [zP, po]
  refine wK k5 (rR ?_)
  refine tR (bR rfl rfl ?_)
  exact ⟨false, rfl, fun h => (by cases h), hv⟩
 refine xG (.bool false) rfl (ex_gtr rfl rfl rfl (decide_eq_false hb4)) ?_
 simp only [zP, po]
 refine wK k3 (cF rfl ?_)
 refine kS (tK k2 ?_)
 refine sK fun _ k6 => sK fun _ k7 => rL (xA (.int .i64 0) rfl ?_)
 simp only [zP, po]
 refine wK k7 (bB ?_)
 gi_loopw [3] (fun x3 wr => ∃ (i : Nat), x3 = .int .i64 (i : Int) ∧ i ≤ l.length ∧ (∀ j x, j < i → l[j]? = some x → ValSm x.ver.val) ∧ Inv B H wr) (fun x3 _ => l.length - (intOf x3).toNat)
 case atStart => exact ⟨0, rfl, Nat.zero_le _, fun j x h => by omega, hv⟩
 case round =>
  obtain ⟨i, rfl, hi, hall, hv⟩ := hrel
  refine sK fun _ k9 => sK fun _ k10 => rL (xM (.int .i64 (i : Int)) rfl ?_)
  refine xM (.slice ad l.length c) rfl (xG (.int .i64 (l.length : Int)) rfl (ex_len0 Tryz.underlying33 rfl rfl) ?_)
  simp only [zP, po]
  by_cases hb11 : (i : Int) < (l.length : Int)
  ·refine xG (.bool true) rfl (ex_lss rfl rfl rfl (decide_eq_true hb11)) ?_
   simp only [zP, po]
   refine wK k10 (cT rfl ?_)
   refine kS (tK k9 ?_)
   refine sK fun _ k12 => bB (sK fun _ k13 => ?_)
   obtain ⟨x, hx⟩ : ∃ x, l[i]? = some x := ⟨_, List.getElem?_eq_getElem (show i < l.length by omega)⟩
   obtain ⟨bb, bo, xp, xt, xz, had, hvalx, hrdx⟩ := WrsRd.reads hxs hr hx
   subst had
   refine rL (xM (.slice (some ⟨bb, bo, none⟩) l.length c) rfl ?_)
   refine xM (.int .i64 (i : Int)) rfl (xG (.pointer (some ⟨bb, bo + i * 9, none⟩)) rfl (ex_index rfl rfl rfl (run_idx (k := i) Tryz.underlying33 s8es33 (by omega))) ?_)
   simp only [zP, po]
   refine xF (.pointer (some ⟨bb, bo + i * 9, none⟩)) rfl (s8fa57_0 _ _ _) (xL _ rfl (run_load1 s3na9 (hrdx _ _ _ (Base.Le.refl _) no_res hv 0 _ rfl)) ?_)
   refine xG (.int .i64 (x.key.length : Int)) rfl (ex_lenStr Tryz.underlying9 rfl rfl) ?_
   simp only [zP, po]
   by_cases hb14 : (x.key.length : Int) > 300
   ·refine xG (.bool true) rfl (ex_gtr rfl rfl rfl (decide_eq_true hb14)) (xM (.bool true) rfl ?_)
    refine yP rfl ?_
    simp only [zP, po]
    refine yP rfl (yP rfl ?_)
    refine yP rfl ?_
    simp only [zP, po]
    refine yP rfl (yP rfl ?_)
    refine yP rfl ?_
    simp only [zP, po]
    refine yP rfl (xK true (.bool true) rfl ?_)
    simp only [zP, po]
    refine wK k13 (cT rfl ?_)
    refine sK fun _ k15 => rL (xA (.bool false) rfl ?_)
    simp only [zP, po]
    refine wK k15 (rR ?_)
    refine bE (tR ?_)
    refine tR (bE ?_)
    refine tR (bR rfl rfl ?_)
    exact ⟨false, rfl, fun h => (by cases h), hv⟩
   refine xG (.bool false) rfl (ex_gtr rfl rfl rfl (decide_eq_false hb14)) (xM (.bool false) rfl ?_)
   refine xM (.slice (some ⟨bb, bo, none⟩) l.length c) rfl ?_
   simp only [zP, po]
   refine xM (.int .i64 (i : Int)) rfl (xG (.pointer (some ⟨bb, bo + i * 9, none⟩)) rfl (ex_index rfl rfl rfl (run_idx (k := i) Tryz.underlying33 s8es33 (by omega))) ?_)
   refine xF (.pointer (some ⟨bb, bo + i * 9 + 1, none⟩)) rfl (s14fa57_1 _ _ _) ?_
   simp only [zP, po]
   refine xF (.pointer (some ⟨bb, bo + i * 9 + 1 + 3, none⟩)) rfl (s1fa55_3 _ _ _) (xL (.agg #[.int .i64 x.ver.val.kind, .string ⟨x.ver.val.text.toArray⟩, xp, xt, xz]) rfl (run_loadR (cs := [.int .i64 x.ver.val.kind, .string ⟨x.ver.val.text.toArray⟩, xp, xt, xz]) s1wd53 (Reads.mid (pre := [.string ⟨x.key.toArray⟩, .int .i64 x.ver.stamp, .bool x.ver.gone, .int .i64 x.ver.expire]) (mid := [.int .i64 x.ver.val.kind, .string ⟨x.ver.val.text.toArray⟩, xp, xt, xz]) (post := []) hrdx _ _ _ (Base.Le.refl _) no_res hv)) ?_)
   refine xC s18callable21 rfl ((refSmall B _ _ x.ver.val xp xt xz hvalx hv).mono ?_) rfl
   rintro e w17 ⟨bl16, rfl, hbl16, hv⟩
   refine ⟨_, rfl, ?_⟩
   cases bl16
   ·simp only [zP, po]
    refine xG (.bool true) rfl (ex_not rfl rfl rfl) (xK false (.bool true) rfl ?_)
    simp only [zP, po]
    refine wK k13 (cT rfl ?_)
    refine sK fun _ k18 => rL (xA (.bool false) rfl ?_)
    simp only [zP, po]
    refine wK k18 (rR ?_)
    refine bE (tR ?_)
    refine tR (bE ?_)
    refine tR (bR rfl rfl ?_)
    exact ⟨false, rfl, fun h => (by cases h), hv⟩
   simp only [zP, po]
   refine xG (.bool false) rfl (ex_not rfl rfl rfl) (xK false (.bool false) rfl ?_)
   simp only [zP, po]
   refine wK k13 (cF rfl ?_)
   refine kS (bN ?_)
   refine tK k12 (rL ?_)
   refine xM (.int .i64 (i : Int)) rfl (xG (.int .i64 ((i + 1 : Nat) : Int)) rfl (ex_add rfl rfl rfl (by rw [i64_in (by omega)]; omega)) ?_)
   refine xA (.int .i64 ((i + 1 : Nat) : Int)) rfl (wL ?_)
   simp only [zP, po]
   refine then_normal ?_
   go_roundw
   case rel => exact ⟨i + 1, rfl, by omega, fun j x' hj hx' => (by
      rcases Nat.lt_or_ge j i with h | h
      ·exact hall j x' h hx'
      obtain rfl : j = i := by omega
      rw [hx] at hx'; cases hx'
      exact hbl16 rfl), hv⟩
   case measure => show l.length - (((i + 1 : Nat) : Int)).toNat < l.length - ((i : Int)).toNat; omega
  refine xG (.bool false) rfl (ex_lss rfl rfl rfl (decide_eq_false hb11)) ?_
  simp only [zP, po]
  refine wK k10 (cF rfl ?_)
  refine xE (tX ?_)
  refine tX (bH ?_)
  refine tK k6 (sK fun _ k19 => ?_)
  refine rL (xA (.bool true) rfl ?_)
  simp only [zP, po]
  refine wK k19 (rR ?_)
  refine bR rfl rfl ?_
  obtain rfl : i = l.length := by omega
  exact ⟨true, rfl, fun _ => ⟨by omega, fun x hx => (by obtain ⟨j, hj⟩ := List.mem_iff_getElem?.1 hx; exact hall j x (List.getElem?_eq_some_iff.1 hj).1 hj)⟩, hv⟩
end Go.Proofs.YtffmbdagjpdieaaGreat
/- The order of texts, octet by octet. -/
namespace Go.Pm
open Go.RowKit
section
variable {P : Program} {a : Act} {w : World} {o : Oper} {t : TypeId} {x y : Operand} {l : List UInt8}
theorem ex_sidx0 {i : Nat} {c : UInt8} (ht : P.underlying t = some .string) (ho : o.op = .index t x y) (hx : a.eval x = .string ⟨l.toArray⟩) (hy : a.eval y = .int .i64 (i : Int)) (hc : l[i]? = some c) : Ex P a o w (.int .u8 (c.toNat : Int)) w := by
 obtain ⟨hi, rfl⟩ := List.getElem?_eq_some_iff.1 hc
 have h := run_index_string (P := P) w t ⟨l.toArray⟩ .i64 (i : Int) ht
 rw [dif_pos ⟨by omega, by show (i : Int) < (l.length : Int); omega⟩] at h
 have e : (⟨l.toArray⟩ : ByteArray)[((i : Int)).toNat]'(by show ((i : Int)).toNat < l.length; omega) = l[i] := rfl
 rw [e] at h
 unfold Ex
 simp [execOp, ho, hx, hy, h]
end
theorem less_pre (l a b : List UInt8) : Op.bytesLess (l ++ a) (l ++ b) = Op.bytesLess a b := by
 induction l with
 | nil => rfl
 | cons x l ih =>
  rw [List.cons_append, List.cons_append]
  simp only [Op.bytesLess, ih]
  simp
section
variable {a b : List UInt8} {i : Nat}
theorem less_at {x y : UInt8} (h : a.take i = b.take i) (hx : a[i]? = some x) (hy : b[i]? = some y) (hne : x ≠ y) : Op.bytesLess a b = decide (x.toNat < y.toNat) := by
 obtain ⟨hi, rfl⟩ := List.getElem?_eq_some_iff.1 hx
 obtain ⟨hj, rfl⟩ := List.getElem?_eq_some_iff.1 hy
 conv => lhs; rw [← List.take_append_drop i a, ← List.take_append_drop i b, h, less_pre, List.drop_eq_getElem_cons hi, List.drop_eq_getElem_cons hj]
 have hb : (a[i] == b[i]) = false := beq_eq_false_iff_ne.2 hne
 simp only [Op.bytesLess, hb, Bool.false_and, Bool.or_false]
 exact decide_eq_decide.2 UInt8.lt_iff_toNat_lt
theorem less_end (h : a.take i = b.take i) (he : i = a.length ∨ i = b.length) (h1 : i ≤ a.length) (h2 : i ≤ b.length) : Op.bytesLess a b = decide (a.length < b.length) := by
 conv => lhs; rw [← List.take_append_drop i a, ← List.take_append_drop i b, h, less_pre]
 rcases he with he | he
 ·rw [he, List.drop_length]
  cases hb : b.drop a.length with
  | nil =>
   have := congrArg List.length hb
   rw [List.length_drop, List.length_nil] at this
   rw [decide_eq_false (by omega)]; rfl
  | cons y l =>
   have := congrArg List.length hb
   rw [List.length_drop, List.length_cons] at this
   rw [decide_eq_true (by omega)]; rfl
 rw [he, List.drop_length, decide_eq_false (by omega)]
 cases a.drop b.length <;> rfl
theorem take_step {x : UInt8} (h : a.take i = b.take i) (hx : a[i]? = some x) (hy : b[i]? = some x) : a.take (i + 1) = b.take (i + 1) := by
 rw [List.take_add_one, List.take_add_one, h, hx, hy]
end
end Go.Pm
/- The reference's Less and Rises. -/
namespace Go.Proofs.YtffmbdagjpdieaaGreat
open Go.RowKit Go.Pm
set_option maxHeartbeats 2000000 in
theorem refLess (B : Base) (H : List Res) (w : World) (a b : List UInt8) (hl : a.length ≤ 1000000000) (hv : Inv B H w) :
  Calls Tryz.prog 79 #[.string ⟨a.toArray⟩, .string ⟨b.toArray⟩] w fun e w' => e = .returned (.bool (Op.bytesLess a b)) ∧ Inv B H w' := by
 refine cW Tryz.func79 rfl Tryz.ntmps79 ?_
 simp only [al]
 refine sK fun _ k1 => rL (xA (.bool false) rfl ?_)
 simp only [zP, po]
 refine wK k1 (sK fun _ k2 => ?_)
 refine sK fun _ k3 => rL (xA (.int .i64 0) rfl ?_)
 simp only [zP, po]
 refine wK k3 (bB ?_)
 gi_loopw [5] (fun x5 wr => ∃ (i : Nat), x5 = .int .i64 (i : Int) ∧ i ≤ a.length ∧ i ≤ b.length ∧ a.take i = b.take i ∧ Inv B H wr) (fun x5 _ => a.length - (intOf x5).toNat)
 case atStart => exact ⟨0, rfl, Nat.zero_le _, Nat.zero_le _, rfl, hv⟩
 case round =>
  obtain ⟨i, rfl, hia, hib, hab, hv⟩ := hrel
  refine sK fun _ k5 => sK fun _ k6 => rL (xM (.int .i64 (i : Int)) rfl ?_)
  refine xM (.string ⟨a.toArray⟩) rfl (xG (.int .i64 (a.length : Int)) rfl (ex_lenStr Tryz.underlying9 rfl rfl) ?_)
  simp only [zP, po]
  by_cases hb7 : (i : Int) < (a.length : Int)
  ·refine xG (.bool true) rfl (ex_lss rfl rfl rfl (decide_eq_true hb7)) (xM (.bool true) rfl ?_)
   refine xM (.int .i64 (i : Int)) rfl ?_
   simp only [zP, po]
   refine xM (.string ⟨b.toArray⟩) rfl (xG (.int .i64 (b.length : Int)) rfl (ex_lenStr Tryz.underlying9 rfl rfl) ?_)
   by_cases hb8 : (i : Int) < (b.length : Int)
   ·refine xG (.bool true) rfl (ex_lss rfl rfl rfl (decide_eq_true hb8)) ?_
    simp only [zP, po]
    refine xK true (.bool true) rfl ?_
    simp only [zP, po]
    refine wK k6 (cT rfl ?_)
    refine kS (tK k5 ?_)
    refine sK fun _ k9 => bB (sK fun _ k10 => ?_)
    obtain ⟨x, hx⟩ : ∃ x, a[i]? = some x := ⟨_, List.getElem?_eq_getElem (show i < a.length by omega)⟩
    obtain ⟨y, hy⟩ : ∃ y, b[i]? = some y := ⟨_, List.getElem?_eq_getElem (show i < b.length by omega)⟩
    refine rW mixed [] [0,1,2,3,4,5,6] 37 rfl (by kernel_rfl) hv ?_
    simp only [qm, opAt]
    refine dM (.string ⟨a.toArray⟩) rfl (dM (.int .i64 (i : Int)) rfl ?_)
    refine dG (.int .u8 (x.toNat : Int)) rfl (ex_sidx0 Tryz.underlying9 rfl rfl rfl hx) ?_
    simp only [zP, po]
    refine dM (.string ⟨b.toArray⟩) rfl (dM (.int .i64 (i : Int)) rfl ?_)
    refine dG (.int .u8 (y.toNat : Int)) rfl (ex_sidx0 Tryz.underlying9 rfl rfl rfl hy) ?_
    simp only [zP, po]
    by_cases hb11 : (x.toNat : Int) ≠ (y.toNat : Int)
    ·refine dG (.bool true) rfl (ex_neq rfl rfl rfl (decide_eq_true hb11)) (dE fun w12 hv => ?_)
     simp only [zP, po]
     refine tK k10 (cT rfl ?_)
     refine sK fun _ k13 => rW mixed [] [0,1,2,3,4,5,6,7] 37 rfl (by kernel_rfl) hv ?_
     simp only [qm, opAt]
     refine dM (.string ⟨a.toArray⟩) rfl (dM (.int .i64 (i : Int)) rfl ?_)
     refine dG (.int .u8 (x.toNat : Int)) rfl (ex_sidx0 Tryz.underlying9 rfl rfl rfl hx) ?_
     simp only [zP, po]
     refine dM (.string ⟨b.toArray⟩) rfl (dM (.int .i64 (i : Int)) rfl ?_)
     refine dG (.int .u8 (y.toNat : Int)) rfl (ex_sidx0 Tryz.underlying9 rfl rfl rfl hy) ?_
     simp only [zP, po]
     refine dG (.bool (decide ((x.toNat : Int) < (y.toNat : Int)))) rfl (ex_lss rfl rfl rfl rfl) (dA (.bool (decide ((x.toNat : Int) < (y.toNat : Int)))) rfl ?_)
     refine dE fun w14 hv => ?_
     simp only [zP, po]
     refine tK k13 (rR ?_)
     refine bE (tR ?_)
     refine tR (bE ?_)
     refine tR (bR rfl rfl ?_)
     exact ⟨congrArg (fun b => Ending.returned (Value.bool b)) (by rw [less_at hab hx hy (fun e => by rw [e] at hb11; exact hb11 rfl)]; exact decide_eq_decide.2 (by omega)), hv⟩
    refine dG (.bool false) rfl (ex_neq rfl rfl rfl (decide_eq_false hb11)) (dE fun w15 hv => ?_)
    simp only [zP, po]
    refine tK k10 (cF rfl ?_)
    refine kS (bN ?_)
    refine tK k9 (rL ?_)
    refine xM (.int .i64 (i : Int)) rfl (xG (.int .i64 ((i + 1 : Nat) : Int)) rfl (ex_add rfl rfl rfl (by rw [i64_in (by omega)]; omega)) ?_)
    refine xA (.int .i64 ((i + 1 : Nat) : Int)) rfl (wL ?_)
    simp only [zP, po]
    refine then_normal ?_
    go_roundw
    case rel => exact ⟨i + 1, rfl, by omega, by omega, take_step hab hx (by rw [hy, UInt8.toNat_inj.1 (show x.toNat = y.toNat by omega)]), hv⟩
    case measure => show a.length - (((i + 1 : Nat) : Int)).toNat < a.length - ((i : Int)).toNat; omega
   refine xG (.bool false) rfl (ex_lss rfl rfl rfl (decide_eq_false hb8)) ?_
   simp only [zP, po]
   refine xK true (.bool false) rfl ?_
   simp only [zP, po]
   refine wK k6 (cF rfl ?_)
   refine xE (tX ?_)
   refine tX (bH ?_)
   refine tK k2 (sK fun _ k16 => ?_)
   refine rL (xM (.string ⟨a.toArray⟩) rfl ?_)
   refine xG (.int .i64 (a.length : Int)) rfl (ex_lenStr Tryz.underlying9 rfl rfl) (xM (.string ⟨b.toArray⟩) rfl ?_)
   simp only [zP, po]
   refine xG (.int .i64 (b.length : Int)) rfl (ex_lenStr Tryz.underlying9 rfl rfl) (xG (.bool (decide ((a.length : Int) < (b.length : Int)))) rfl (ex_lss rfl rfl rfl rfl) ?_)
   refine xA (.bool (decide ((a.length : Int) < (b.length : Int)))) rfl ?_
   simp only [zP, po]
   refine wK k16 (rR ?_)
   refine bR rfl rfl (⟨congrArg (fun b => Ending.returned (Value.bool b)) (by rw [less_end hab (by omega) hia hib]; exact decide_eq_decide.2 (by omega)), hv⟩)
  refine xG (.bool false) rfl (ex_lss rfl rfl rfl (decide_eq_false hb7)) (xM (.bool false) rfl ?_)
  refine yP rfl ?_
  simp only [zP, po]
  refine yP rfl (yP rfl ?_)
  refine yP rfl ?_
  simp only [zP, po]
  refine xK false (.bool false) rfl ?_
  simp only [zP, po]
  refine wK k6 (cF rfl ?_)
  refine xE (tX ?_)
  refine tX (bH ?_)
  refine tK k2 (sK fun _ k17 => ?_)
  refine rL (xM (.string ⟨a.toArray⟩) rfl ?_)
  refine xG (.int .i64 (a.length : Int)) rfl (ex_lenStr Tryz.underlying9 rfl rfl) (xM (.string ⟨b.toArray⟩) rfl ?_)
  simp only [zP, po]
  refine xG (.int .i64 (b.length : Int)) rfl (ex_lenStr Tryz.underlying9 rfl rfl) (xG (.bool (decide ((a.length : Int) < (b.length : Int)))) rfl (ex_lss rfl rfl rfl rfl) ?_)
  refine xA (.bool (decide ((a.length : Int) < (b.length : Int)))) rfl ?_
  simp only [zP, po]
  refine wK k17 (rR ?_)
  refine bR rfl rfl (⟨congrArg (fun b => Ending.returned (Value.bool b)) (by rw [less_end hab (by omega) hia hib]; exact decide_eq_decide.2 (by omega)), hv⟩)
end Go.Proofs.YtffmbdagjpdieaaGreat
/- The reference's Right of sets, hashes, sorted sets. -/
namespace Go.Proofs.YtffmbdagjpdieaaGreat
open Go.RowKit Go.Pm
theorem s30callable79 : Callable Tryz.prog 79 := ⟨_, Tryz.func79, by kernel_rfl, by kernel_rfl⟩
set_option maxHeartbeats 4000000 in
theorem refSetRight (B : Base) (H : List Res) (w : World) (ad : Option Addr) (c : Nat) (l : List (List UInt8)) (hr : RdV B [] ad (textCells l)) (hm : l.length ≤ 1000000) (hv : Inv B H w) :
  Calls Tryz.prog 94 #[.slice ad l.length c] w fun e w' => ∃ b, e = .returned (.bool b) ∧ (b = true ↔ SetOk l) ∧ Inv B H w' := by
 refine cW Tryz.func94 rfl Tryz.ntmps94 ?_
 simp only [al]
 refine sK fun _ k1 => rL (xA (.bool false) rfl ?_)
 simp only [zP, po]
 refine wK k1 (sK fun _ k2 => ?_)
 refine sK fun _ k3 => rL (xA (.int .i64 0) rfl ?_)
 simp only [zP, po]
 refine wK k3 (bB ?_)
 gi_loopw [3] (fun x3 wr => ∃ (i : Nat), x3 = .int .i64 (i : Int) ∧ i ≤ l.length ∧ (∀ k, k < i → SetAt l k) ∧ Inv B H wr) (fun x3 _ => l.length - (intOf x3).toNat)
 case atStart => exact ⟨0, rfl, Nat.zero_le _, fun k h => by omega, hv⟩
 case round =>
  obtain ⟨i, rfl, hi, hall, hv⟩ := hrel
  refine sK fun _ k5 => sK fun _ k6 => rL (xM (.int .i64 (i : Int)) rfl ?_)
  refine xM (.slice ad l.length c) rfl (xG (.int .i64 (l.length : Int)) rfl (ex_len0 Tryz.underlying27 rfl rfl) ?_)
  simp only [zP, po]
  by_cases hb7 : (i : Int) < (l.length : Int)
  ·refine xG (.bool true) rfl (ex_lss rfl rfl rfl (decide_eq_true hb7)) ?_
   simp only [zP, po]
   refine wK k6 (cT rfl ?_)
   refine kS (tK k5 ?_)
   refine sK fun _ k8 => bB (sK fun _ k9 => ?_)
   obtain ⟨x, hx⟩ : ∃ x, l[i]? = some x := ⟨_, List.getElem?_eq_getElem (show i < l.length by omega)⟩
   obtain ⟨bb, bo, had, hrdx⟩ := text_reads hr hx
   subst had
   refine rW mixed [19] [0,1,2,3,4,5,6,7,8,9,10,11,12,13,14,15,16,17,18,19,20,21,22] 36 rfl (by kernel_rfl) hv ?_
   simp only [qm, opAt]
   refine dM (.slice (some ⟨bb, bo, none⟩) l.length c) rfl (dM (.int .i64 (i : Int)) rfl ?_)
   refine dG (.pointer (some ⟨bb, bo + i, none⟩)) rfl (ex_index rfl rfl rfl (run_idx1 (k := i) Tryz.underlying27 s9es27 (by omega))) ?_
   simp only [zP, po]
   refine dL _ rfl (fun hv => ex_load rfl rfl (run_load1 s3na9 (hrdx _ _ _ (Base.Le.refl _) no_res hv 0 _ rfl))) (dG (.int .i64 (x.length : Int)) rfl (ex_lenStr Tryz.underlying9 rfl rfl) ?_)
   by_cases hb10 : (x.length : Int) > 4096
   ·refine dG (.bool true) rfl (ex_gtr rfl rfl rfl (decide_eq_true hb10)) ?_
    simp only [zP, po]
    refine dM (.bool true) rfl (dP rfl ?_)
    refine dP rfl ?_
    simp only [zP, po]
    refine dP rfl (dP rfl ?_)
    refine dP rfl ?_
    simp only [zP, po]
    refine dP rfl (dP rfl ?_)
    refine dP rfl ?_
    simp only [zP, po]
    refine dP rfl (dP rfl ?_)
    refine dP rfl ?_
    simp only [zP, po]
    refine dP rfl (dP rfl ?_)
    refine dP rfl ?_
    simp only [zP, po]
    refine dP rfl (dK true (.bool true) rfl ?_)
    refine dE fun w11 hv => ?_
    simp only [zP, po]
    refine tK k9 (cT rfl ?_)
    refine sK fun _ k12 => rL (xA (.bool false) rfl ?_)
    simp only [zP, po]
    refine wK k12 (rR ?_)
    refine bE (tR ?_)
    refine tR (bE ?_)
    refine tR (bR rfl rfl ?_)
    exact ⟨false, rfl, ⟨fun h => (by cases h), fun h => by have := (h.2 i x hx).1; omega⟩, hv⟩
   refine dG (.bool false) rfl (ex_gtr rfl rfl rfl (decide_eq_false hb10)) ?_
   simp only [zP, po]
   refine dM (.bool false) rfl (dM (.int .i64 (i : Int)) rfl ?_)
   by_cases hb13 : (i : Int) > 0
   ·obtain ⟨j, hj⟩ : ∃ j : Nat, i = j + 1 := ⟨i - 1, by omega⟩
    obtain ⟨y, hy⟩ : ∃ x, l[j]? = some x := ⟨_, List.getElem?_eq_getElem (show j < l.length by omega)⟩
    obtain ⟨b9, o9, had9, hrdy⟩ := text_reads hr hy
    cases had9
    have hyl := (hall j (by omega) y hy).1
    skip
    refine dG (.bool true) rfl (ex_gtr rfl rfl rfl (decide_eq_true hb13)) ?_
    simp only [zP, po]
    refine dM (.bool true) rfl (dM (.slice (some ⟨bb, bo, none⟩) l.length c) rfl ?_)
    refine dM (.int .i64 (i : Int)) rfl ?_
    simp only [zP, po]
    refine dG (.int .i64 (j : Int)) rfl (ex_sub rfl rfl rfl (by rw [i64_in (by omega)]; omega)) (dG (.pointer (some ⟨bb, bo + j, none⟩)) rfl (ex_index rfl rfl rfl (run_idx1 (k := j) Tryz.underlying27 s9es27 (by omega))) ?_)
    refine dL _ rfl (fun hv => ex_load rfl rfl (run_load1 s3na9 (hrdy _ _ _ (Base.Le.refl _) no_res hv 0 _ rfl))) ?_
    simp only [zP, po]
    refine dM (.slice (some ⟨bb, bo, none⟩) l.length c) rfl (dM (.int .i64 (i : Int)) rfl ?_)
    refine dG (.pointer (some ⟨bb, bo + i, none⟩)) rfl (ex_index rfl rfl rfl (run_idx1 (k := i) Tryz.underlying27 s9es27 (by omega))) ?_
    simp only [zP, po]
    refine dL _ rfl (fun hv => ex_load rfl rfl (run_load1 s3na9 (hrdx _ _ _ (Base.Le.refl _) no_res hv 0 _ rfl))) (dS rfl fun w14 hv => ?_)
    by_cases hb15 : Op.bytesLess y x = true
    ·refine mC s30callable79 rfl ((calls_bool (refLess B _ _ y x (by omega) hv) hb15).mono ?_) rfl
     rintro e w16 ⟨rfl, hv⟩
     refine ⟨_, rfl, dW hv ?_⟩
     refine dG (.bool false) rfl (ex_not rfl rfl rfl) ?_
     simp only [zP, po]
     refine dK true (.bool false) rfl (dK false (.bool false) rfl ?_)
     refine dE fun w17 hv => ?_
     simp only [zP, po]
     refine tK k9 (cF rfl ?_)
     refine kS (bN ?_)
     refine tK k8 (rL ?_)
     refine xM (.int .i64 (i : Int)) rfl (xG (.int .i64 ((i + 1 : Nat) : Int)) rfl (ex_add rfl rfl rfl (by rw [i64_in (by omega)]; omega)) ?_)
     refine xA (.int .i64 ((i + 1 : Nat) : Int)) rfl (wL ?_)
     simp only [zP, po]
     refine then_normal ?_
     go_roundw
     case rel => exact ⟨i + 1, rfl, by omega, fun k hk => (by
        rcases Nat.lt_or_ge k i with h | h
        ·exact hall k h
        obtain rfl : k = i := by omega
        intro x' hx'
        rw [hx] at hx'; cases hx'
        refine ⟨by omega, fun j' y' hj' hy' => ?_⟩
        rw [show j' = j by omega, hy] at hy'; cases hy'; exact hb15), hv⟩
     case measure => show l.length - (((i + 1 : Nat) : Int)).toNat < l.length - ((i : Int)).toNat; omega
    refine mC s30callable79 rfl ((calls_bool (refLess B _ _ y x (by omega) hv) (by simpa using hb15)).mono ?_) rfl
    rintro e w18 ⟨rfl, hv⟩
    refine ⟨_, rfl, dW hv ?_⟩
    refine dG (.bool true) rfl (ex_not rfl rfl rfl) ?_
    simp only [zP, po]
    refine dK true (.bool true) rfl (dK false (.bool true) rfl ?_)
    refine dE fun w19 hv => ?_
    simp only [zP, po]
    refine tK k9 (cT rfl ?_)
    refine sK fun _ k20 => rL (xA (.bool false) rfl ?_)
    simp only [zP, po]
    refine wK k20 (rR ?_)
    refine bE (tR ?_)
    refine tR (bE ?_)
    refine tR (bR rfl rfl ?_)
    exact ⟨false, rfl, ⟨fun h => (by cases h), fun h => absurd ((h.2 i x hx).2 j y (by omega) hy) hb15⟩, hv⟩
   refine dG (.bool false) rfl (ex_gtr rfl rfl rfl (decide_eq_false hb13)) ?_
   simp only [zP, po]
   refine dM (.bool false) rfl (dP rfl ?_)
   refine dP rfl ?_
   simp only [zP, po]
   refine dP rfl (dP rfl ?_)
   refine dP rfl ?_
   simp only [zP, po]
   refine dP rfl (dP rfl ?_)
   refine dP rfl ?_
   simp only [zP, po]
   refine dP rfl (dP rfl ?_)
   refine dP rfl ?_
   simp only [zP, po]
   refine dK false (.bool false) rfl (dK false (.bool false) rfl ?_)
   refine dE fun w21 hv => ?_
   simp only [zP, po]
   refine tK k9 (cF rfl ?_)
   refine kS (bN ?_)
   refine tK k8 (rL ?_)
   refine xM (.int .i64 (i : Int)) rfl (xG (.int .i64 ((i + 1 : Nat) : Int)) rfl (ex_add rfl rfl rfl (by rw [i64_in (by omega)]; omega)) ?_)
   refine xA (.int .i64 ((i + 1 : Nat) : Int)) rfl (wL ?_)
   simp only [zP, po]
   refine then_normal ?_
   go_roundw
   case rel => exact ⟨i + 1, rfl, by omega, fun k hk => (by
      rcases Nat.lt_or_ge k i with h | h
      ·exact hall k h
      obtain rfl : k = i := by omega
      intro x' hx'
      rw [hx] at hx'; cases hx'
      refine ⟨by omega, fun j' y' hj' hy' => ?_⟩
      omega), hv⟩
   case measure => show l.length - (((i + 1 : Nat) : Int)).toNat < l.length - ((i : Int)).toNat; omega
  refine xG (.bool false) rfl (ex_lss rfl rfl rfl (decide_eq_false hb7)) ?_
  simp only [zP, po]
  refine wK k6 (cF rfl ?_)
  refine xE (tX ?_)
  refine tX (bH ?_)
  refine tK k2 (sK fun _ k22 => ?_)
  refine rL (xM (.slice ad l.length c) rfl ?_)
  refine xG (.int .i64 (l.length : Int)) rfl (ex_len0 Tryz.underlying27 rfl rfl) (xG (.bool (decide ((l.length : Int) ≤ 512))) rfl (ex_leq rfl rfl rfl rfl) ?_)
  simp only [zP, po]
  refine xA (.bool (decide ((l.length : Int) ≤ 512))) rfl ?_
  simp only [zP, po]
  refine wK k22 (rR ?_)
  refine bR rfl rfl ?_
  obtain rfl : i = l.length := by omega
  exact ⟨_, rfl, ⟨fun h9 => ⟨by first | omega | (have h8 : (l.length : Int) ≤ 512 := (by simpa using h9); omega), fun k x hx => hall k (List.getElem?_eq_some_iff.1 hx).1 x hx⟩, fun h9 => by have h8 := h9.1; first | rfl | (rw [decide_eq_true_iff]; omega)⟩, hv⟩
set_option maxHeartbeats 4000000 in
theorem refHashRight (B : Base) (H : List Res) (w : World) (ad : Option Addr) (c : Nat) (l : List (List UInt8 × List UInt8)) (hr : RdV B [] ad (pairCells l)) (hm : l.length ≤ 1000000) (hv : Inv B H w) :
  Calls Tryz.prog 93 #[.slice ad l.length c] w fun e w' => ∃ b, e = .returned (.bool b) ∧ (b = true ↔ HashOk l) ∧ Inv B H w' := by
 refine cW Tryz.func93 rfl Tryz.ntmps93 ?_
 simp only [al]
 refine sK fun _ k1 => rL (xA (.bool false) rfl ?_)
 simp only [zP, po]
 refine wK k1 (sK fun _ k2 => ?_)
 refine sK fun _ k3 => rL (xM (.slice ad l.length c) rfl ?_)
 refine xG (.int .i64 (l.length : Int)) rfl (ex_len0 Tryz.underlying50 rfl rfl) ?_
 by_cases hb4 : (l.length : Int) > 512
 ·refine xG (.bool true) rfl (ex_gtr rfl rfl rfl (decide_eq_true hb4)) ?_
  simp only [zP, po]
  refine wK k3 (cT rfl ?_)
  refine sK fun _ k5 => rL (xA (.bool false) rfl ?_)
  simp only [zP, po]
  refine wK k5 (rR ?_)
  refine tR (bR rfl rfl ?_)
  exact ⟨false, rfl, ⟨fun h => (by cases h), fun h => by have := h.1; omega⟩, hv⟩
 refine xG (.bool false) rfl (ex_gtr rfl rfl rfl (decide_eq_false hb4)) ?_
 simp only [zP, po]
 refine wK k3 (cF rfl ?_)
 refine kS (tK k2 ?_)
 refine sK fun _ k6 => sK fun _ k7 => rL (xA (.int .i64 0) rfl ?_)
 simp only [zP, po]
 refine wK k7 (bB ?_)
 gi_loopw [3] (fun x3 wr => ∃ (i : Nat), x3 = .int .i64 (i : Int) ∧ i ≤ l.length ∧ (∀ k, k < i → HashAt l k) ∧ Inv B H wr) (fun x3 _ => l.length - (intOf x3).toNat)
 case atStart => exact ⟨0, rfl, Nat.zero_le _, fun k h => by omega, hv⟩
 case round =>
  obtain ⟨i, rfl, hi, hall, hv⟩ := hrel
  refine sK fun _ k9 => sK fun _ k10 => rL (xM (.int .i64 (i : Int)) rfl ?_)
  refine xM (.slice ad l.length c) rfl (xG (.int .i64 (l.length : Int)) rfl (ex_len0 Tryz.underlying50 rfl rfl) ?_)
  simp only [zP, po]
  by_cases hb11 : (i : Int) < (l.length : Int)
  ·refine xG (.bool true) rfl (ex_lss rfl rfl rfl (decide_eq_true hb11)) ?_
   simp only [zP, po]
   refine wK k10 (cT rfl ?_)
   refine kS (tK k9 ?_)
   refine sK fun _ k12 => bB (sK fun _ k13 => ?_)
   obtain ⟨x, hx⟩ : ∃ x, l[i]? = some x := ⟨_, List.getElem?_eq_getElem (show i < l.length by omega)⟩
   obtain ⟨bb, bo, had, hrdx⟩ := pair_reads hr hx
   subst had
   refine rW mixed [31] [0,1,2,3,4,5,6,7,8,9,10,11,12,13,14,15,16,17,18,19,20,21,22,23,24,25,26,27,28,29,30,31,32,33,34] 48 rfl (by kernel_rfl) hv ?_
   simp only [qm, opAt]
   refine dM (.slice (some ⟨bb, bo, none⟩) l.length c) rfl (dM (.int .i64 (i : Int)) rfl ?_)
   refine dG (.pointer (some ⟨bb, bo + i * 2, none⟩)) rfl (ex_index rfl rfl rfl (run_idx (k := i) Tryz.underlying50 s10es50 (by omega))) ?_
   simp only [zP, po]
   refine dG (.pointer (some ⟨bb, bo + i * 2, none⟩)) rfl (ex_field rfl rfl (s10fa91_0 _ _ _)) (dL _ rfl (fun hv => ex_load rfl rfl (run_load1 s3na9 (hrdx _ _ _ (Base.Le.refl _) no_res hv 0 _ rfl))) ?_)
   refine dG (.int .i64 (x.1.length : Int)) rfl (ex_lenStr Tryz.underlying9 rfl rfl) ?_
   simp only [zP, po]
   by_cases hb14 : (x.1.length : Int) > 4096
   ·refine dG (.bool true) rfl (ex_gtr rfl rfl rfl (decide_eq_true hb14)) (dM (.bool true) rfl ?_)
    refine dP rfl ?_
    simp only [zP, po]
    refine dP rfl (dP rfl ?_)
    refine dP rfl ?_
    simp only [zP, po]
    refine dP rfl (dP rfl ?_)
    refine dP rfl ?_
    simp only [zP, po]
    refine dK true (.bool true) rfl (dM (.bool true) rfl ?_)
    refine dP rfl ?_
    simp only [zP, po]
    refine dP rfl (dP rfl ?_)
    refine dP rfl ?_
    simp only [zP, po]
    refine dP rfl (dP rfl ?_)
    refine dP rfl ?_
    simp only [zP, po]
    refine dP rfl (dP rfl ?_)
    refine dP rfl ?_
    simp only [zP, po]
    refine dP rfl (dP rfl ?_)
    refine dP rfl ?_
    simp only [zP, po]
    refine dP rfl (dP rfl ?_)
    refine dP rfl ?_
    simp only [zP, po]
    refine dP rfl (dK true (.bool true) rfl ?_)
    refine dE fun w15 hv => ?_
    simp only [zP, po]
    refine tK k13 (cT rfl ?_)
    refine sK fun _ k16 => rL (xA (.bool false) rfl ?_)
    simp only [zP, po]
    refine wK k16 (rR ?_)
    refine bE (tR ?_)
    refine tR (bE ?_)
    refine tR (bR rfl rfl ?_)
    exact ⟨false, rfl, ⟨fun h => (by cases h), fun h => by have := (h.2 i x hx).1; omega⟩, hv⟩
   refine dG (.bool false) rfl (ex_gtr rfl rfl rfl (decide_eq_false hb14)) (dM (.bool false) rfl ?_)
   refine dM (.slice (some ⟨bb, bo, none⟩) l.length c) rfl ?_
   simp only [zP, po]
   refine dM (.int .i64 (i : Int)) rfl (dG (.pointer (some ⟨bb, bo + i * 2, none⟩)) rfl (ex_index rfl rfl rfl (run_idx (k := i) Tryz.underlying50 s10es50 (by omega))) ?_)
   refine dG (.pointer (some ⟨bb, bo + i * 2 + 1, none⟩)) rfl (ex_field rfl rfl (s10fa91_1 _ _ _)) ?_
   simp only [zP, po]
   refine dL _ rfl (fun hv => ex_load rfl rfl (run_load1 s3na9 (hrdx _ _ _ (Base.Le.refl _) no_res hv 1 _ rfl))) (dG (.int .i64 (x.2.length : Int)) rfl (ex_lenStr Tryz.underlying9 rfl rfl) ?_)
   by_cases hb17 : (x.2.length : Int) > 4096
   ·refine dG (.bool true) rfl (ex_gtr rfl rfl rfl (decide_eq_true hb17)) ?_
    simp only [zP, po]
    refine dK false (.bool true) rfl (dM (.bool true) rfl ?_)
    refine dP rfl ?_
    simp only [zP, po]
    refine dP rfl (dP rfl ?_)
    refine dP rfl ?_
    simp only [zP, po]
    refine dP rfl (dP rfl ?_)
    refine dP rfl ?_
    simp only [zP, po]
    refine dP rfl (dP rfl ?_)
    refine dP rfl ?_
    simp only [zP, po]
    refine dP rfl (dP rfl ?_)
    refine dP rfl ?_
    simp only [zP, po]
    refine dP rfl (dP rfl ?_)
    refine dP rfl ?_
    simp only [zP, po]
    refine dP rfl (dK true (.bool true) rfl ?_)
    refine dE fun w18 hv => ?_
    simp only [zP, po]
    refine tK k13 (cT rfl ?_)
    refine sK fun _ k19 => rL (xA (.bool false) rfl ?_)
    simp only [zP, po]
    refine wK k19 (rR ?_)
    refine bE (tR ?_)
    refine tR (bE ?_)
    refine tR (bR rfl rfl ?_)
    exact ⟨false, rfl, ⟨fun h => (by cases h), fun h => by have := (h.2 i x hx).1; omega⟩, hv⟩
   refine dG (.bool false) rfl (ex_gtr rfl rfl rfl (decide_eq_false hb17)) ?_
   simp only [zP, po]
   refine dK false (.bool false) rfl (dM (.bool false) rfl ?_)
   refine dM (.int .i64 (i : Int)) rfl ?_
   simp only [zP, po]
   by_cases hb20 : (i : Int) > 0
   ·obtain ⟨j, hj⟩ : ∃ j : Nat, i = j + 1 := ⟨i - 1, by omega⟩
    obtain ⟨y, hy⟩ : ∃ x, l[j]? = some x := ⟨_, List.getElem?_eq_getElem (show j < l.length by omega)⟩
    obtain ⟨b9, o9, had9, hrdy⟩ := pair_reads hr hy
    cases had9
    have hyl := (hall j (by omega) y hy).1
    skip
    refine dG (.bool true) rfl (ex_gtr rfl rfl rfl (decide_eq_true hb20)) (dM (.bool true) rfl ?_)
    refine dM (.slice (some ⟨bb, bo, none⟩) l.length c) rfl ?_
    simp only [zP, po]
    refine dM (.int .i64 (i : Int)) rfl (dG (.int .i64 (j : Int)) rfl (ex_sub rfl rfl rfl (by rw [i64_in (by omega)]; omega)) ?_)
    refine dG (.pointer (some ⟨bb, bo + j * 2, none⟩)) rfl (ex_index rfl rfl rfl (run_idx (k := j) Tryz.underlying50 s10es50 (by omega))) ?_
    simp only [zP, po]
    refine dG (.pointer (some ⟨bb, bo + j * 2, none⟩)) rfl (ex_field rfl rfl (s10fa91_0 _ _ _)) (dL _ rfl (fun hv => ex_load rfl rfl (run_load1 s3na9 (hrdy _ _ _ (Base.Le.refl _) no_res hv 0 _ rfl))) ?_)
    refine dM (.slice (some ⟨bb, bo, none⟩) l.length c) rfl ?_
    simp only [zP, po]
    refine dM (.int .i64 (i : Int)) rfl (dG (.pointer (some ⟨bb, bo + i * 2, none⟩)) rfl (ex_index rfl rfl rfl (run_idx (k := i) Tryz.underlying50 s10es50 (by omega))) ?_)
    refine dG (.pointer (some ⟨bb, bo + i * 2, none⟩)) rfl (ex_field rfl rfl (s10fa91_0 _ _ _)) ?_
    simp only [zP, po]
    refine dL _ rfl (fun hv => ex_load rfl rfl (run_load1 s3na9 (hrdx _ _ _ (Base.Le.refl _) no_res hv 0 _ rfl))) (dS rfl fun w21 hv => ?_)
    by_cases hb22 : Op.bytesLess y.1 x.1 = true
    ·refine mC s30callable79 rfl ((calls_bool (refLess B _ _ y.1 x.1 (by omega) hv) hb22).mono ?_) rfl
     rintro e w23 ⟨rfl, hv⟩
     refine ⟨_, rfl, dW hv ?_⟩
     refine dG (.bool false) rfl (ex_not rfl rfl rfl) ?_
     simp only [zP, po]
     refine dK true (.bool false) rfl (dK false (.bool false) rfl ?_)
     refine dE fun w24 hv => ?_
     simp only [zP, po]
     refine tK k13 (cF rfl ?_)
     refine kS (bN ?_)
     refine tK k12 (rL ?_)
     refine xM (.int .i64 (i : Int)) rfl (xG (.int .i64 ((i + 1 : Nat) : Int)) rfl (ex_add rfl rfl rfl (by rw [i64_in (by omega)]; omega)) ?_)
     refine xA (.int .i64 ((i + 1 : Nat) : Int)) rfl (wL ?_)
     simp only [zP, po]
     refine then_normal ?_
     go_roundw
     case rel => exact ⟨i + 1, rfl, by omega, fun k hk => (by
        rcases Nat.lt_or_ge k i with h | h
        ·exact hall k h
        obtain rfl : k = i := by omega
        intro x' hx'
        rw [hx] at hx'; cases hx'
        refine ⟨by omega, fun j' y' hj' hy' => ?_⟩
        rw [show j' = j by omega, hy] at hy'; cases hy'; exact hb22), hv⟩
     case measure => show l.length - (((i + 1 : Nat) : Int)).toNat < l.length - ((i : Int)).toNat; omega
    refine mC s30callable79 rfl ((calls_bool (refLess B _ _ y.1 x.1 (by omega) hv) (by simpa using hb22)).mono ?_) rfl
    rintro e w25 ⟨rfl, hv⟩
    refine ⟨_, rfl, dW hv ?_⟩
    refine dG (.bool true) rfl (ex_not rfl rfl rfl) ?_
    simp only [zP, po]
    refine dK true (.bool true) rfl (dK false (.bool true) rfl ?_)
    refine dE fun w26 hv => ?_
    simp only [zP, po]
    refine tK k13 (cT rfl ?_)
    refine sK fun _ k27 => rL (xA (.bool false) rfl ?_)
    simp only [zP, po]
    refine wK k27 (rR ?_)
    refine bE (tR ?_)
    refine tR (bE ?_)
    refine tR (bR rfl rfl ?_)
    exact ⟨false, rfl, ⟨fun h => (by cases h), fun h => absurd ((h.2 i x hx).2 j y (by omega) hy) hb22⟩, hv⟩
   refine dG (.bool false) rfl (ex_gtr rfl rfl rfl (decide_eq_false hb20)) (dM (.bool false) rfl ?_)
   refine dP rfl ?_
   simp only [zP, po]
   refine dP rfl (dP rfl ?_)
   refine dP rfl ?_
   simp only [zP, po]
   refine dP rfl (dP rfl ?_)
   refine dP rfl ?_
   simp only [zP, po]
   refine dP rfl (dP rfl ?_)
   refine dP rfl ?_
   simp only [zP, po]
   refine dP rfl (dP rfl ?_)
   refine dP rfl ?_
   simp only [zP, po]
   refine dK false (.bool false) rfl (dK false (.bool false) rfl ?_)
   refine dE fun w28 hv => ?_
   simp only [zP, po]
   refine tK k13 (cF rfl ?_)
   refine kS (bN ?_)
   refine tK k12 (rL ?_)
   refine xM (.int .i64 (i : Int)) rfl (xG (.int .i64 ((i + 1 : Nat) : Int)) rfl (ex_add rfl rfl rfl (by rw [i64_in (by omega)]; omega)) ?_)
   refine xA (.int .i64 ((i + 1 : Nat) : Int)) rfl (wL ?_)
   simp only [zP, po]
   refine then_normal ?_
   go_roundw
   case rel => exact ⟨i + 1, rfl, by omega, fun k hk => (by
      rcases Nat.lt_or_ge k i with h | h
      ·exact hall k h
      obtain rfl : k = i := by omega
      intro x' hx'
      rw [hx] at hx'; cases hx'
      refine ⟨by omega, fun j' y' hj' hy' => ?_⟩
      omega), hv⟩
   case measure => show l.length - (((i + 1 : Nat) : Int)).toNat < l.length - ((i : Int)).toNat; omega
  refine xG (.bool false) rfl (ex_lss rfl rfl rfl (decide_eq_false hb11)) ?_
  simp only [zP, po]
  refine wK k10 (cF rfl ?_)
  refine xE (tX ?_)
  refine tX (bH ?_)
  refine tK k6 (sK fun _ k29 => ?_)
  refine rL (xA (.bool true) rfl ?_)
  simp only [zP, po]
  refine wK k29 (rR ?_)
  refine bR rfl rfl ?_
  obtain rfl : i = l.length := by omega
  exact ⟨_, rfl, ⟨fun h9 => ⟨by first | omega | (have h8 : (l.length : Int) ≤ 512 := (by simpa using h9); omega), fun k x hx => hall k (List.getElem?_eq_some_iff.1 hx).1 x hx⟩, fun h9 => by have h8 := h9.1; first | rfl | (rw [decide_eq_true_iff]; omega)⟩, hv⟩
def beforeB (a b : Int × List UInt8) : Bool := decide (a.1 < b.1) || (decide (a.1 = b.1) && Op.bytesLess a.2 b.2)
theorem before_cmp (a b : Int × List UInt8) : beforeB a b = true ↔ cmpM a b < 0 := by
 unfold beforeB cmpM
 rcases Int.lt_trichotomy a.1 b.1 with h | h | h
 ·have hI : cmpI a.1 b.1 = -1 := by unfold cmpI; rw [if_pos h]
  rw [hI, decide_eq_true h]; simp [orI]
 ·have hI : cmpI a.1 b.1 = 0 := by unfold cmpI; rw [if_neg (by omega), if_neg (by omega)]
  rw [hI, decide_eq_true h, decide_eq_false (show ¬ a.1 < b.1 by omega)]
  simp only [orI, ne_eq, not_true_eq_false, if_false, Bool.false_or, Bool.true_and]
  unfold cmpS
  cases h1 : Op.bytesLess a.2 b.2 with
  | true => simp
  | false => cases h2 : Op.bytesLess b.2 a.2 <;> simp
 have hI : cmpI a.1 b.1 = 1 := by unfold cmpI; rw [if_neg (by omega), if_pos h]
 rw [hI, decide_eq_false (show ¬ a.1 < b.1 by omega), decide_eq_false (show ¬ a.1 = b.1 by omega)]; simp [orI]
theorem nodup_place {l : List (Int × List UInt8)} : (l.map memName).Nodup ↔ ∀ (i j : Nat) x y, i < j → l[i]? = some x → l[j]? = some y → x.2 ≠ y.2 := by
 unfold List.Nodup
 rw [List.pairwise_iff_getElem]
 constructor
 ·intro h i j x y hij hx hy e
  obtain ⟨hi, rfl⟩ := List.getElem?_eq_some_iff.1 hx
  obtain ⟨hj, rfl⟩ := List.getElem?_eq_some_iff.1 hy
  exact h i j (by rw [List.length_map]; exact hi) (by rw [List.length_map]; exact hj) hij (by rw [List.getElem_map, List.getElem_map]; exact e)
 intro h i j hi hj hij e
 rw [List.length_map] at hi hj
 rw [List.getElem_map, List.getElem_map] at e
 exact h i j _ _ hij (List.getElem?_eq_getElem hi) (List.getElem?_eq_getElem hj) e
set_option maxHeartbeats 2000000 in
theorem refBefore (B : Base) (H : List Res) (w : World) (a b : Int × List UInt8) (hl : a.2.length ≤ 5000) (hv : Inv B H w) :
  Calls Tryz.prog 100 #[.agg #[.int .i64 a.1, .string ⟨a.2.toArray⟩], .agg #[.int .i64 b.1, .string ⟨b.2.toArray⟩]] w fun e w' => e = .returned (.bool (beforeB a b)) ∧ Inv B H w' := by
 refine cW Tryz.func100 rfl Tryz.ntmps100 ?_
 simp only [al]
 refine sK fun _ k1 => rL (sl_box (L := [.int .i64 a.1, .string ⟨a.2.toArray⟩]) tV (wn rfl) rfl rfl hv (fun w => by kernel_rfl) (fun b2 w3 hv => ?_))
 refine sl_box (L := [.int .i64 b.1, .string ⟨b.2.toArray⟩]) tV (wn rfl) rfl rfl hv (fun w => by kernel_rfl) (fun b4 w5 hv => ?_)
 refine xA (.bool false) rfl ?_
 simp only [zP, po]
 refine wK k1 (sK fun _ k6 => ?_)
 refine rL (xF (.pointer (some ⟨b2, 0, none⟩)) rfl (s11fa93_0 _ _ _) ?_)
 refine xL _ rfl (run_load1 s2na3 (hv.load 1 0 rfl rfl)) (xF (.pointer (some ⟨b4, 0, none⟩)) rfl (s11fa93_0 _ _ _) ?_)
 simp only [zP, po]
 refine xL _ rfl (run_load1 s2na3 (hv.load 0 0 rfl rfl)) ?_
 by_cases hb7 : a.1 < b.1
 ·refine xG (.bool true) rfl (ex_lss rfl rfl rfl (decide_eq_true hb7)) (xM (.bool true) rfl ?_)
  simp only [zP, po]
  iterate 12 refine yN rfl ?_
  refine xK true (.bool true) rfl (xA (.bool true) rfl ?_)
  simp only [zP, po]
  refine wK k6 (rR ?_)
  refine bR rfl rfl (⟨congrArg (fun b => Ending.returned (Value.bool b)) (by unfold beforeB; simp [*]), (hv.sub (List.Sublist.cons _ (List.Sublist.cons _ (List.Sublist.refl _))))⟩)
 refine xG (.bool false) rfl (ex_lss rfl rfl rfl (decide_eq_false hb7)) (xM (.bool false) rfl ?_)
 simp only [zP, po]
 refine xF (.pointer (some ⟨b2, 0, none⟩)) rfl (s11fa93_0 _ _ _) (xL _ rfl (run_load1 s2na3 (hv.load 1 0 rfl rfl)) ?_)
 refine xF (.pointer (some ⟨b4, 0, none⟩)) rfl (s11fa93_0 _ _ _) ?_
 simp only [zP, po]
 refine xL _ rfl (run_load1 s2na3 (hv.load 0 0 rfl rfl)) ?_
 by_cases hb8 : a.1 = b.1
 ·refine xG (.bool true) rfl (ex_eql rfl rfl rfl (decide_eq_true hb8)) (xM (.bool true) rfl ?_)
  simp only [zP, po]
  refine xF (.pointer (some ⟨b2, 1, none⟩)) rfl (s9fa93_1 _ _ _) (xL _ rfl (run_load1 s3na9 (hv.load 1 1 rfl rfl)) ?_)
  refine xF (.pointer (some ⟨b4, 1, none⟩)) rfl (s9fa93_1 _ _ _) ?_
  simp only [zP, po]
  refine xL _ rfl (run_load1 s3na9 (hv.load 0 1 rfl rfl)) (xC s30callable79 rfl ((refLess B _ _ a.2 b.2 (by omega) hv).mono ?_) rfl)
  rintro e w9 ⟨rfl, hv⟩
  refine ⟨_, rfl, ?_⟩
  refine xK true (.bool (Op.bytesLess a.2 b.2)) rfl ?_
  simp only [zP, po]
  refine xK false (.bool (Op.bytesLess a.2 b.2)) rfl (xA (.bool (Op.bytesLess a.2 b.2)) rfl ?_)
  simp only [zP, po]
  refine wK k6 (rR ?_)
  refine bR rfl rfl (⟨congrArg (fun b => Ending.returned (Value.bool b)) (by unfold beforeB; simp [*]), (hv.sub (List.Sublist.cons _ (List.Sublist.cons _ (List.Sublist.refl _))))⟩)
 refine xG (.bool false) rfl (ex_eql rfl rfl rfl (decide_eq_false hb8)) (xM (.bool false) rfl ?_)
 simp only [zP, po]
 iterate 5 refine yN rfl ?_
 refine xK false (.bool false) rfl (xK false (.bool false) rfl ?_)
 refine xA (.bool false) rfl ?_
 simp only [zP, po]
 refine wK k6 (rR ?_)
 refine bR rfl rfl (⟨congrArg (fun b => Ending.returned (Value.bool b)) (by unfold beforeB; simp [*]), (hv.sub (List.Sublist.cons _ (List.Sublist.cons _ (List.Sublist.refl _))))⟩)
def FirstZ (l : List (Int × List UInt8)) (s : List UInt8) (i : Nat) : Prop := (∃ x, l[i]? = some x ∧ x.2 = s) ∧ ∀ (j : Nat) y, j < i → l[j]? = some y → y.2 ≠ s
open Classical in
noncomputable def zAt (l : List (Int × List UInt8)) (s : List UInt8) : Int := if h : ∃ i, FirstZ l s i then ((Classical.choose h : Nat) : Int) else -1
theorem zAt_of {l : List (Int × List UInt8)} {s : List UInt8} {i : Nat} (h : FirstZ l s i) : zAt l s = (i : Int) := by
 have hex : ∃ i, FirstZ l s i := ⟨i, h⟩
 have h2 := Classical.choose_spec hex
 unfold zAt
 rw [dif_pos hex]
 obtain ⟨⟨x, hx, hxs⟩, h1⟩ := h
 obtain ⟨⟨y, hy, hys⟩, h3⟩ := h2
 rcases Nat.lt_trichotomy (Classical.choose hex) i with h4 | h4 | h4
 ·exact absurd hys (h1 _ y h4 hy)
 ·rw [h4]
 exact absurd hxs (h3 _ x h4 hx)
theorem zAt_no {l : List (Int × List UInt8)} {s : List UInt8} (h : ∀ x ∈ l, x.2 ≠ s) : zAt l s = -1 := by
 unfold zAt
 rw [dif_neg]
 rintro ⟨i, ⟨x, hx, hxs⟩, -⟩
 exact h x (List.mem_of_getElem? hx) hxs
theorem zAt_here {l : List (Int × List UInt8)} {i : Nat} {x : Int × List UInt8} (hx : l[i]? = some x) (h : zAt l x.2 = (i : Int)) : ∀ (j : Nat) y, j < i → l[j]? = some y → y.2 ≠ x.2 := by
 have hex : ∃ i, FirstZ l x.2 i := by
  refine Classical.byContradiction fun hno => ?_
  unfold zAt at h
  rw [dif_neg hno] at h
  omega
 have h2 := Classical.choose_spec hex
 unfold zAt at h
 rw [dif_pos hex] at h
 have h3 : Classical.choose hex = i := by omega
 rw [h3] at h2
 exact h2.2
set_option maxHeartbeats 2000000 in
theorem refZat (B : Base) (H : List Res) (w : World) (ad : Option Addr) (c : Nat) (l : List (Int × List UInt8)) (s : List UInt8) (hr : RdV B [] ad (memCells l)) (hm : l.length ≤ 1000000) (hv : Inv B H w) :
  Calls Tryz.prog 101 #[.slice ad l.length c, .string ⟨s.toArray⟩] w fun e w' => e = .returned (.int .i64 (zAt l s)) ∧ Inv B H w' := by
 refine cW Tryz.func101 rfl Tryz.ntmps101 ?_
 simp only [al]
 refine sK fun _ k1 => rL (xA (.int .i64 0) rfl ?_)
 simp only [zP, po]
 refine wK k1 (sK fun _ k2 => ?_)
 refine sK fun _ k3 => rL (xA (.int .i64 0) rfl ?_)
 simp only [zP, po]
 refine wK k3 (bB ?_)
 gi_loopw [5] (fun x5 wr => ∃ (i : Nat), x5 = .int .i64 (i : Int) ∧ i ≤ l.length ∧ (∀ (j : Nat) y, j < i → l[j]? = some y → y.2 ≠ s) ∧ Inv B H wr) (fun x5 _ => l.length - (intOf x5).toNat)
 case atStart => exact ⟨0, rfl, Nat.zero_le _, fun j y h => by omega, hv⟩
 case round =>
  obtain ⟨i, rfl, hi, hno, hv⟩ := hrel
  refine sK fun _ k5 => sK fun _ k6 => rL (xM (.int .i64 (i : Int)) rfl ?_)
  refine xM (.slice ad l.length c) rfl (xG (.int .i64 (l.length : Int)) rfl (ex_len0 Tryz.underlying51 rfl rfl) ?_)
  simp only [zP, po]
  by_cases hb7 : (i : Int) < (l.length : Int)
  ·refine xG (.bool true) rfl (ex_lss rfl rfl rfl (decide_eq_true hb7)) ?_
   simp only [zP, po]
   refine wK k6 (cT rfl ?_)
   refine kS (tK k5 ?_)
   refine sK fun _ k8 => bB (sK fun _ k9 => ?_)
   obtain ⟨x, hx⟩ : ∃ x, l[i]? = some x := ⟨_, List.getElem?_eq_getElem (show i < l.length by omega)⟩
   obtain ⟨bb, bo, had, hrdx⟩ := mem_reads hr hx
   subst had
   refine rL (xM (.slice (some ⟨bb, bo, none⟩) l.length c) rfl ?_)
   refine xM (.int .i64 (i : Int)) rfl (xG (.pointer (some ⟨bb, bo + i * 2, none⟩)) rfl (ex_index rfl rfl rfl (run_idx (k := i) Tryz.underlying51 s9es51 (by omega))) ?_)
   simp only [zP, po]
   refine xF (.pointer (some ⟨bb, bo + i * 2 + 1, none⟩)) rfl (s9fa93_1 _ _ _) (xL _ rfl (run_load1 s3na9 (hrdx _ _ _ (Base.Le.refl _) no_res hv 1 _ rfl)) ?_)
   refine xM (.string ⟨s.toArray⟩) rfl ?_
   simp only [zP, po]
   by_cases hb10 : x.2 = s
   ·refine xG (.bool true) rfl (ex_seql rfl rfl rfl (decide_eq_true hb10)) ?_
    simp only [zP, po]
    refine wK k9 (cT rfl ?_)
    refine sK fun _ k11 => rL (xM (.int .i64 (i : Int)) rfl ?_)
    refine xA (.int .i64 (i : Int)) rfl ?_
    simp only [zP, po]
    refine wK k11 (rR ?_)
    refine bE (tR ?_)
    refine tR (bE ?_)
    refine tR (bR rfl rfl ?_)
    exact ⟨by rw [zAt_of ⟨⟨x, hx, hb10⟩, hno⟩]; rfl, hv⟩
   refine xG (.bool false) rfl (ex_seql rfl rfl rfl (decide_eq_false hb10)) ?_
   simp only [zP, po]
   refine wK k9 (cF rfl ?_)
   refine kS (bN ?_)
   refine tK k8 (rL ?_)
   refine xM (.int .i64 (i : Int)) rfl (xG (.int .i64 ((i + 1 : Nat) : Int)) rfl (ex_add rfl rfl rfl (by rw [i64_in (by omega)]; omega)) ?_)
   refine xA (.int .i64 ((i + 1 : Nat) : Int)) rfl (wL ?_)
   simp only [zP, po]
   refine then_normal ?_
   go_roundw
   case rel => exact ⟨i + 1, rfl, by omega, fun j y hj hy => (by
      rcases Nat.lt_or_ge j i with h | h
      ·exact hno j y h hy
      rw [show j = i by omega, hx] at hy; cases hy; exact hb10), hv⟩
   case measure => show l.length - (((i + 1 : Nat) : Int)).toNat < l.length - ((i : Int)).toNat; omega
  refine xG (.bool false) rfl (ex_lss rfl rfl rfl (decide_eq_false hb7)) ?_
  simp only [zP, po]
  refine wK k6 (cF rfl ?_)
  refine xE (tX ?_)
  refine tX (bH ?_)
  refine tK k2 (sK fun _ k12 => ?_)
  refine rL (xA (.int .i64 (-1)) rfl ?_)
  simp only [zP, po]
  refine wK k12 (rR ?_)
  refine bR rfl rfl ?_
  obtain rfl : i = l.length := by omega
  exact ⟨by rw [zAt_no (fun x hx => by obtain ⟨j, hj⟩ := List.mem_iff_getElem?.1 hx; exact hno j x (List.getElem?_eq_some_iff.1 hj).1 hj)]; rfl, hv⟩
def ZAt (l : List (Int × List UInt8)) (i : Nat) : Prop := (∀ x, l[i]? = some x → x.2.length ≤ 4096) ∧ (∀ x, l[i]? = some x → ∀ (j : Nat) y, i = j + 1 → l[j]? = some y → cmpM y x < 0) ∧ ∀ x, l[i]? = some x → ∀ (j : Nat) y, j < i → l[j]? = some y → y.2 ≠ x.2
theorem zset_ok {l : List (Int × List UInt8)} (h : l.length ≤ 512) (ha : ∀ k, k < l.length → ZAt l k) : ZsetOk l := by
 refine ⟨h, List.any_eq_false.2 fun x hx => ?_, fun i x hx => (ha i (List.getElem?_eq_some_iff.1 hx).1).2.1 x hx, nodup_place.2 fun i j x y hij hx hy => (ha j (List.getElem?_eq_some_iff.1 hy).1).2.2 y hy i x hij hx⟩
 obtain ⟨j, hj⟩ := List.mem_iff_getElem?.1 hx
 have := (ha j (List.getElem?_eq_some_iff.1 hj).1).1 x hj
 simp; omega
theorem s30callable100 : Callable Tryz.prog 100 := ⟨_, Tryz.func100, by kernel_rfl, by kernel_rfl⟩
theorem s30callable101 : Callable Tryz.prog 101 := ⟨_, Tryz.func101, by kernel_rfl, by kernel_rfl⟩
set_option maxHeartbeats 4000000 in
theorem refZsetRight (B : Base) (H : List Res) (w : World) (ad : Option Addr) (c : Nat) (l : List (Int × List UInt8)) (hr : RdV B [] ad (memCells l)) (hm : l.length ≤ 1000000) (hv : Inv B H w) :
  Calls Tryz.prog 95 #[.slice ad l.length c] w fun e w' => ∃ b, e = .returned (.bool b) ∧ (b = true ↔ ZsetOk l) ∧ Inv B H w' := by
 refine cW Tryz.func95 rfl Tryz.ntmps95 ?_
 simp only [al]
 refine sK fun _ k1 => rL (xA (.bool false) rfl ?_)
 simp only [zP, po]
 refine wK k1 (sK fun _ k2 => ?_)
 refine sK fun _ k3 => rL (xA (.int .i64 0) rfl ?_)
 simp only [zP, po]
 refine wK k3 (bB ?_)
 gi_loopw [3] (fun x3 wr => ∃ (i : Nat), x3 = .int .i64 (i : Int) ∧ i ≤ l.length ∧ (∀ k, k < i → ZAt l k) ∧ Inv B H wr) (fun x3 _ => l.length - (intOf x3).toNat)
 case atStart => exact ⟨0, rfl, Nat.zero_le _, fun k h => by omega, hv⟩
 case round =>
  obtain ⟨i, rfl, hi, hall, hv⟩ := hrel
  refine sK fun _ k5 => sK fun _ k6 => rL (xM (.int .i64 (i : Int)) rfl ?_)
  refine xM (.slice ad l.length c) rfl (xG (.int .i64 (l.length : Int)) rfl (ex_len0 Tryz.underlying51 rfl rfl) ?_)
  simp only [zP, po]
  by_cases hb7 : (i : Int) < (l.length : Int)
  ·refine xG (.bool true) rfl (ex_lss rfl rfl rfl (decide_eq_true hb7)) ?_
   simp only [zP, po]
   refine wK k6 (cT rfl ?_)
   refine kS (tK k5 ?_)
   refine sK fun _ k8 => bB (sK fun _ k9 => ?_)
   obtain ⟨x, hx⟩ : ∃ x, l[i]? = some x := ⟨_, List.getElem?_eq_getElem (show i < l.length by omega)⟩
   obtain ⟨bb, bo, had, hrdx⟩ := mem_reads hr hx
   subst had
   refine rW mixed [20, 31] [0,1,2,3,4,5,6,7,8,9,10,11,12,13,14,15,16,17,18,19,20,21,22,23,24,25,26,27,28,29,30,32,31,33,34] 48 rfl (by kernel_rfl) hv ?_
   simp only [qm, opAt]
   refine dM (.slice (some ⟨bb, bo, none⟩) l.length c) rfl (dM (.int .i64 (i : Int)) rfl ?_)
   refine dG (.pointer (some ⟨bb, bo + i * 2, none⟩)) rfl (ex_index rfl rfl rfl (run_idx (k := i) Tryz.underlying51 s9es51 (by omega))) ?_
   simp only [zP, po]
   refine dG (.pointer (some ⟨bb, bo + i * 2 + 1, none⟩)) rfl (ex_field rfl rfl (s9fa93_1 _ _ _)) (dL _ rfl (fun hv => ex_load rfl rfl (run_load1 s3na9 (hrdx _ _ _ (Base.Le.refl _) no_res hv 1 _ rfl))) ?_)
   refine dG (.int .i64 (x.2.length : Int)) rfl (ex_lenStr Tryz.underlying9 rfl rfl) ?_
   simp only [zP, po]
   by_cases hb10 : (x.2.length : Int) > 4096
   ·refine dG (.bool true) rfl (ex_gtr rfl rfl rfl (decide_eq_true hb10)) (dM (.bool true) rfl ?_)
    refine dP rfl ?_
    simp only [zP, po]
    refine dP rfl (dP rfl ?_)
    refine dP rfl ?_
    simp only [zP, po]
    refine dP rfl (dP rfl ?_)
    refine dP rfl ?_
    simp only [zP, po]
    refine dP rfl (dP rfl ?_)
    refine dP rfl ?_
    simp only [zP, po]
    refine dP rfl (dP rfl ?_)
    refine dP rfl ?_
    simp only [zP, po]
    refine dP rfl (dP rfl ?_)
    refine dK true (.bool true) rfl ?_
    simp only [zP, po]
    refine dM (.bool true) rfl (dP rfl ?_)
    refine dP rfl ?_
    simp only [zP, po]
    refine dP rfl (dP rfl ?_)
    refine dP rfl ?_
    simp only [zP, po]
    refine dP rfl (dP rfl ?_)
    refine dP rfl ?_
    simp only [zP, po]
    refine dP rfl (dK true (.bool true) rfl ?_)
    refine dE fun w11 hv => ?_
    simp only [zP, po]
    refine tK k9 (cT rfl ?_)
    refine sK fun _ k12 => rL (xA (.bool false) rfl ?_)
    simp only [zP, po]
    refine wK k12 (rR ?_)
    refine bE (tR ?_)
    refine tR (bE ?_)
    refine tR (bR rfl rfl ?_)
    exact ⟨false, rfl, ⟨fun h => (by cases h), fun h => by have h8 := List.any_eq_false.1 h.2.1 x (List.mem_of_getElem? hx); simp at h8; omega⟩, hv⟩
   refine dG (.bool false) rfl (ex_gtr rfl rfl rfl (decide_eq_false hb10)) (dM (.bool false) rfl ?_)
   refine dM (.int .i64 (i : Int)) rfl ?_
   simp only [zP, po]
   by_cases hb13 : (i : Int) > 0
   ·obtain ⟨j, hj⟩ : ∃ j : Nat, i = j + 1 := ⟨i - 1, by omega⟩
    obtain ⟨y, hy⟩ : ∃ x, l[j]? = some x := ⟨_, List.getElem?_eq_getElem (show j < l.length by omega)⟩
    obtain ⟨b9, o9, had9, hrdy⟩ := mem_reads hr hy
    cases had9
    have hyl := (hall j (by omega)).1 y hy
    skip
    refine dG (.bool true) rfl (ex_gtr rfl rfl rfl (decide_eq_true hb13)) (dM (.bool true) rfl ?_)
    refine dM (.slice (some ⟨bb, bo, none⟩) l.length c) rfl ?_
    simp only [zP, po]
    refine dM (.int .i64 (i : Int)) rfl (dG (.int .i64 (j : Int)) rfl (ex_sub rfl rfl rfl (by rw [i64_in (by omega)]; omega)) ?_)
    refine dG (.pointer (some ⟨bb, bo + j * 2, none⟩)) rfl (ex_index rfl rfl rfl (run_idx (k := j) Tryz.underlying51 s9es51 (by omega))) ?_
    simp only [zP, po]
    refine dL (.agg #[.int .i64 y.1, .string ⟨y.2.toArray⟩]) rfl (fun hv => ex_load rfl rfl (run_loadR (cs := [.int .i64 y.1, .string ⟨y.2.toArray⟩]) s9wd93 (Reads.mid (pre := []) (mid := [.int .i64 y.1, .string ⟨y.2.toArray⟩]) (post := []) hrdy _ _ _ (Base.Le.refl _) no_res hv))) (dM (.slice (some ⟨bb, bo, none⟩) l.length c) rfl ?_)
    refine dM (.int .i64 (i : Int)) rfl ?_
    simp only [zP, po]
    refine dG (.pointer (some ⟨bb, bo + i * 2, none⟩)) rfl (ex_index rfl rfl rfl (run_idx (k := i) Tryz.underlying51 s9es51 (by omega))) (dL (.agg #[.int .i64 x.1, .string ⟨x.2.toArray⟩]) rfl (fun hv => ex_load rfl rfl (run_loadR (cs := [.int .i64 x.1, .string ⟨x.2.toArray⟩]) s9wd93 (Reads.mid (pre := []) (mid := [.int .i64 x.1, .string ⟨x.2.toArray⟩]) (post := []) hrdx _ _ _ (Base.Le.refl _) no_res hv))) ?_)
    refine dS rfl fun w14 hv => ?_
    by_cases hb15 : beforeB y x = true
    ·refine mC s30callable100 rfl ((calls_bool (refBefore B _ _ y x (by omega) hv) hb15).mono ?_) rfl
     rintro e w16 ⟨rfl, hv⟩
     refine ⟨_, rfl, dW hv ?_⟩
     simp only [zP, po]
     refine dG (.bool false) rfl (ex_not rfl rfl rfl) (dK true (.bool false) rfl ?_)
     refine dK false (.bool false) rfl ?_
     simp only [zP, po]
     refine dM (.bool false) rfl (dM (.slice (some ⟨bb, bo, none⟩) l.length c) rfl ?_)
     refine dM (.slice (some ⟨bb, bo, none⟩) l.length c) rfl ?_
     simp only [zP, po]
     refine dM (.int .i64 (i : Int)) rfl (dG (.pointer (some ⟨bb, bo + i * 2, none⟩)) rfl (ex_index rfl rfl rfl (run_idx (k := i) Tryz.underlying51 s9es51 (by omega))) ?_)
     refine dG (.pointer (some ⟨bb, bo + i * 2 + 1, none⟩)) rfl (ex_field rfl rfl (s9fa93_1 _ _ _)) ?_
     simp only [zP, po]
     refine dL _ rfl (fun hv => ex_load rfl rfl (run_load1 s3na9 (hrdx _ _ _ (Base.Le.refl _) no_res hv 1 _ rfl))) (dM (.int .i64 (i : Int)) rfl ?_)
     refine dS rfl fun w17 hv => mC s30callable101 rfl ((refZat B _ _ _ c l x.2 hr hm hv).mono ?_) rfl
     rintro e w18 ⟨rfl, hv⟩
     refine ⟨_, rfl, dW hv ?_⟩
     simp only [zP, po]
     refine dG (.bool (decide ((zAt l x.2) ≠ (i : Int)))) rfl (ex_neq rfl rfl rfl rfl) (dK false (.bool (decide ((zAt l x.2) ≠ (i : Int)))) rfl ?_)
     refine dE fun w19 hv => ?_
     simp only [zP, po]
     refine tK k9 (wpIn_cond_split (t := decide ((zAt l x.2) ≠ (i : Int))) rfl (fun hc20 => ?_) (fun hc20 => ?_))
     ·refine sK fun _ k21 => rL (xA (.bool false) rfl ?_)
      simp only [zP, po]
      refine wK k21 (rR ?_)
      refine bE (tR ?_)
      refine tR (bE ?_)
      refine tR (bR rfl rfl ?_)
      exact ⟨false, rfl, ⟨fun h => (by cases h), fun h => by
       have h5 : zAt l x.2 ≠ (i : Int) := by simpa using hc20
       exact absurd (zAt_of ⟨⟨x, hx, rfl⟩, fun j y hj hy => nodup_place.1 h.2.2.2 j i y x hj hy hx⟩) h5⟩, hv⟩
     refine kS (bN ?_)
     refine tK k8 (rL ?_)
     refine xM (.int .i64 (i : Int)) rfl (xG (.int .i64 ((i + 1 : Nat) : Int)) rfl (ex_add rfl rfl rfl (by rw [i64_in (by omega)]; omega)) ?_)
     refine xA (.int .i64 ((i + 1 : Nat) : Int)) rfl (wL ?_)
     simp only [zP, po]
     refine then_normal ?_
     go_roundw
     case rel => exact ⟨i + 1, rfl, by omega, fun k hk => (by
        rcases Nat.lt_or_ge k i with h | h
        ·exact hall k h
        obtain rfl : k = i := by omega
        refine ⟨fun x' hx' => ?_, fun x' hx' j' y' hj' hy' => ?_, fun x' hx' j' y' hj' hy' => ?_⟩ <;> (rw [hx] at hx'; cases hx')
        ·omega
        ·rw [show j' = j by omega, hy] at hy'; cases hy'; exact (before_cmp _ _).1 hb15
        have h5 : zAt l x.2 = (k : Int) := by simpa using hc20
        exact zAt_here hx h5 j' y' hj' hy'), hv⟩
     case measure => show l.length - (((i + 1 : Nat) : Int)).toNat < l.length - ((i : Int)).toNat; omega
    refine mC s30callable100 rfl ((calls_bool (refBefore B _ _ y x (by omega) hv) (by simpa using hb15)).mono ?_) rfl
    rintro e w22 ⟨rfl, hv⟩
    refine ⟨_, rfl, dW hv ?_⟩
    simp only [zP, po]
    refine dG (.bool true) rfl (ex_not rfl rfl rfl) (dK true (.bool true) rfl ?_)
    refine dK false (.bool true) rfl ?_
    simp only [zP, po]
    refine dM (.bool true) rfl (dP rfl ?_)
    refine dP rfl ?_
    simp only [zP, po]
    refine dP rfl (dP rfl ?_)
    refine dP rfl ?_
    simp only [zP, po]
    refine dP rfl (dP rfl ?_)
    refine dP rfl ?_
    simp only [zP, po]
    refine dP rfl (dK true (.bool true) rfl ?_)
    refine dE fun w23 hv => ?_
    simp only [zP, po]
    refine tK k9 (cT rfl ?_)
    refine sK fun _ k24 => rL (xA (.bool false) rfl ?_)
    simp only [zP, po]
    refine wK k24 (rR ?_)
    refine bE (tR ?_)
    refine tR (bE ?_)
    refine tR (bR rfl rfl ?_)
    exact ⟨false, rfl, ⟨fun h => (by cases h), fun h => absurd ((before_cmp _ _).2 (h.2.2.1 i x hx j y (by omega) hy)) hb15⟩, hv⟩
   refine dG (.bool false) rfl (ex_gtr rfl rfl rfl (decide_eq_false hb13)) (dM (.bool false) rfl ?_)
   refine dP rfl ?_
   simp only [zP, po]
   refine dP rfl (dP rfl ?_)
   refine dP rfl ?_
   simp only [zP, po]
   refine dP rfl (dP rfl ?_)
   refine dP rfl ?_
   simp only [zP, po]
   refine dP rfl (dP rfl ?_)
   refine dP rfl ?_
   simp only [zP, po]
   refine dP rfl (dK false (.bool false) rfl ?_)
   refine dK false (.bool false) rfl ?_
   simp only [zP, po]
   refine dM (.bool false) rfl (dM (.slice (some ⟨bb, bo, none⟩) l.length c) rfl ?_)
   refine dM (.slice (some ⟨bb, bo, none⟩) l.length c) rfl ?_
   simp only [zP, po]
   refine dM (.int .i64 (i : Int)) rfl (dG (.pointer (some ⟨bb, bo + i * 2, none⟩)) rfl (ex_index rfl rfl rfl (run_idx (k := i) Tryz.underlying51 s9es51 (by omega))) ?_)
   refine dG (.pointer (some ⟨bb, bo + i * 2 + 1, none⟩)) rfl (ex_field rfl rfl (s9fa93_1 _ _ _)) ?_
   simp only [zP, po]
   refine dL _ rfl (fun hv => ex_load rfl rfl (run_load1 s3na9 (hrdx _ _ _ (Base.Le.refl _) no_res hv 1 _ rfl))) (dM (.int .i64 (i : Int)) rfl ?_)
   refine dS rfl fun w25 hv => mC s30callable101 rfl ((refZat B _ _ _ c l x.2 hr hm hv).mono ?_) rfl
   rintro e w26 ⟨rfl, hv⟩
   refine ⟨_, rfl, dW hv ?_⟩
   simp only [zP, po]
   refine dG (.bool (decide ((zAt l x.2) ≠ (i : Int)))) rfl (ex_neq rfl rfl rfl rfl) (dK false (.bool (decide ((zAt l x.2) ≠ (i : Int)))) rfl ?_)
   refine dE fun w27 hv => ?_
   simp only [zP, po]
   refine tK k9 (wpIn_cond_split (t := decide ((zAt l x.2) ≠ (i : Int))) rfl (fun hc28 => ?_) (fun hc28 => ?_))
   ·refine sK fun _ k29 => rL (xA (.bool false) rfl ?_)
    simp only [zP, po]
    refine wK k29 (rR ?_)
    refine bE (tR ?_)
    refine tR (bE ?_)
    refine tR (bR rfl rfl ?_)
    exact ⟨false, rfl, ⟨fun h => (by cases h), fun h => by
     have h5 : zAt l x.2 ≠ (i : Int) := by simpa using hc28
     exact absurd (zAt_of ⟨⟨x, hx, rfl⟩, fun j y hj hy => nodup_place.1 h.2.2.2 j i y x hj hy hx⟩) h5⟩, hv⟩
   refine kS (bN ?_)
   refine tK k8 (rL ?_)
   refine xM (.int .i64 (i : Int)) rfl (xG (.int .i64 ((i + 1 : Nat) : Int)) rfl (ex_add rfl rfl rfl (by rw [i64_in (by omega)]; omega)) ?_)
   refine xA (.int .i64 ((i + 1 : Nat) : Int)) rfl (wL ?_)
   simp only [zP, po]
   refine then_normal ?_
   go_roundw
   case rel => exact ⟨i + 1, rfl, by omega, fun k hk => (by
      rcases Nat.lt_or_ge k i with h | h
      ·exact hall k h
      obtain rfl : k = i := by omega
      refine ⟨fun x' hx' => ?_, fun x' hx' j' y' hj' hy' => ?_, fun x' hx' j' y' hj' hy' => ?_⟩ <;> (rw [hx] at hx'; cases hx')
      ·omega
      ·omega
      have h5 : zAt l x.2 = (k : Int) := by simpa using hc28
      exact zAt_here hx h5 j' y' hj' hy'), hv⟩
   case measure => show l.length - (((i + 1 : Nat) : Int)).toNat < l.length - ((i : Int)).toNat; omega
  refine xG (.bool false) rfl (ex_lss rfl rfl rfl (decide_eq_false hb7)) ?_
  simp only [zP, po]
  refine wK k6 (cF rfl ?_)
  refine xE (tX ?_)
  refine tX (bH ?_)
  refine tK k2 (sK fun _ k30 => ?_)
  refine rL (xM (.slice ad l.length c) rfl ?_)
  refine xG (.int .i64 (l.length : Int)) rfl (ex_len0 Tryz.underlying51 rfl rfl) (xG (.bool (decide ((l.length : Int) ≤ 512))) rfl (ex_leq rfl rfl rfl rfl) ?_)
  simp only [zP, po]
  refine xA (.bool (decide ((l.length : Int) ≤ 512))) rfl ?_
  simp only [zP, po]
  refine wK k30 (rR ?_)
  refine bR rfl rfl ?_
  obtain rfl : i = l.length := by omega
  exact ⟨_, rfl, by rw [decide_eq_true_iff]; exact ⟨fun h9 => zset_ok (by omega) hall, fun h9 => by have := h9.1; omega⟩, hv⟩
end Go.Proofs.YtffmbdagjpdieaaGreat
/- A row of texts, of which some are taken out in place. -/
namespace Go.Pm
open Go.RowKit
section
variable {kept mid l : List (List UInt8)} {j : Nat} {x g : List UInt8} {p : List UInt8 → Bool}
theorem textCells_app (a b : List (List UInt8)) : textCells (a ++ b) = textCells a ++ textCells b := by simp [textCells]
theorem textCells_get (h : l[j]? = some x) : (textCells l)[j]? = some (strV x) := by rw [textCells, List.getElem?_map, h]; rfl
theorem textCells_set (l : List (List UInt8)) (i : Nat) (x : List UInt8) : (textCells l).set i (strV x) = textCells (l.set i x) := by simp [textCells, List.map_set]
theorem textCells_n (l : List (List UInt8)) : (textCells l).length = l.length := by simp [textCells]
theorem df_get (h : l[j]? = some x) (hl : kept.length + mid.length = j) : (textCells (kept ++ mid ++ l.drop j))[j]? = some (strV x) := by
 refine textCells_get ?_
 rw [List.getElem?_append_right (by rw [List.length_append]; omega), List.length_append, hl, Nat.sub_self, List.getElem?_drop]
 exact h
theorem df_drop (h : l[j]? = some x) : l.drop j = x :: l.drop (j + 1) := by
 obtain ⟨hj, rfl⟩ := List.getElem?_eq_some_iff.1 h
 exact List.drop_eq_getElem_cons hj
theorem df_set (h : l[j]? = some x) : (textCells (kept ++ (g :: mid) ++ l.drop j)).set kept.length (strV x) = textCells (kept ++ [x] ++ (mid ++ [x]) ++ l.drop (j + 1)) := by
 rw [textCells_set, df_drop h, List.append_assoc, List.set_append_right _ _ (Nat.le_refl _), Nat.sub_self]
 simp
theorem df_skip (h : l[j]? = some x) : kept ++ mid ++ l.drop j = kept ++ (mid ++ [x]) ++ l.drop (j + 1) := by
 rw [df_drop h]; simp
theorem df_filter (h : l[j]? = some x) : (l.take (j + 1)).filter p = (l.take j).filter p ++ if p x then [x] else [] := by
 rw [take_next h, List.filter_append]
 cases hp : p x <;> simp [hp]
theorem df_start (h : l[j]? = some x) (hx : p x = true) (hn : ∀ y ∈ l.take j, p y = false) : (l.take (j + 1)).filter (fun y => !p y) = l.take j ∧ l = l.take j ++ [x] ++ l.drop (j + 1) := by
 constructor
 ·rw [df_filter h, hx, List.filter_eq_self.2 (fun y hy => by rw [hn y hy]; rfl)]
  simp
 conv => lhs; rw [← List.take_append_drop j l, df_drop h]
 simp
end
end Go.Pm
