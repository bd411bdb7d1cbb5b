/- The reference's Same of texts, pairs, members, values; Small; small. -/
import Derived.Test.YtffmbdagjpdieaaSpB
import Derived.Test.YtffmbdagjpdieaaSpI
import Derived.Test.YtffmbdagjpdieaaRows
import Derived.Test.YtffmbdagjpdieaaSpC
import Derived.Test.YtffmbdagjpdieaaSpD
set_option maxRecDepth 100000
namespace Go.Proofs.Ytffmbdagjpdieaa
open Go.RowKit Go.Pm
theorem pairEq (d : Nat) (w : World) (a b : List UInt8) : (Op.equalIn (d + 2) 83 (.agg #[strV a, strV b]) (.agg #[strV a, strV b])).run Try.prog w = .ok true w := by
 have hf : Try.prog.stoodInHeld 83 = false := by kernel_rfl
 have hfs : (Try.prog.fieldsOf 83).toList = [{ name := "Field", type := 9, offset := 0, embedded := false, tag := "", pkgPath := "", byteOffset := 0 }, { name := "Text", type := 9, offset := 1, embedded := false, tag := "", pkgPath := "", byteOffset := 16 }] := by kernel_rfl
 have hag : ∀ w, (isAgg 9).run Try.prog w = .ok false w := fun w => by kernel_rfl
 have hs : ∀ w, (sizeOf 9).run Try.prog w = .ok 1 w := fun w => by kernel_rfl
 have h9 : Try.prog.underlying 9 = some .string := Try.underlying9
 rw [run_equalIn_struct w (d + 1) 83 _ _ (by kernel_rfl) hf, hfs]
 simp [Op.eqFields, part, hag, hs, run_equalIn_string w d 9 _ _ h9]
theorem memEq (d : Nat) (w : World) (a : Int) (b : List UInt8) : (Op.equalIn (d + 2) 85 (.agg #[.int .i64 a, strV b]) (.agg #[.int .i64 a, strV b])).run Try.prog w = .ok true w := by
 have hf : Try.prog.stoodInHeld 85 = false := by kernel_rfl
 have hfs : (Try.prog.fieldsOf 85).toList = [{ name := "Score", type := 3, offset := 0, embedded := false, tag := "", pkgPath := "", byteOffset := 0 }, { name := "Name", type := 9, offset := 1, embedded := false, tag := "", pkgPath := "", byteOffset := 8 }] := by kernel_rfl
 have hag : ∀ w, (isAgg 9).run Try.prog w = .ok false w := fun w => by kernel_rfl
 have hs : ∀ w, (sizeOf 9).run Try.prog w = .ok 1 w := fun w => by kernel_rfl
 have h9 : Try.prog.underlying 9 = some .string := Try.underlying9
 have hag3 : ∀ w, (isAgg 3).run Try.prog w = .ok false w := fun w => by kernel_rfl
 have hs3 : ∀ w, (sizeOf 3).run Try.prog w = .ok 1 w := fun w => by kernel_rfl
 have h3 : Try.prog.underlying 3 = some (.int .i64) := Try.underlying3
 rw [run_equalIn_struct w (d + 1) 85 _ _ (by kernel_rfl) hf, hfs]
 simp [Op.eqFields, part, hag, hs, hag3, hs3, run_equalIn_string w d 9 _ _ h9, run_equalIn_int w d 3 _ _ _ _ h3]
set_option maxHeartbeats 2000000 in
theorem refWords (B : Base) (H : List Res) (w : World) (ad ad' : Option Addr) (c c' : Nat) (l : List (List UInt8)) (hr : RdV B [] ad (textCells l)) (hr' : RdV B [] ad' (textCells l)) (hm : l.length ≤ 1000000) (hv : Inv B H w) :
  Calls Try.prog 18 #[.slice ad l.length c, .slice ad' l.length c'] w fun e w' => e = .returned (.bool true) ∧ Inv B H w' := by
 refine (callsIn_wide (n := 5)).1 ?_
 refine callsIn_of_wp Try.func18 rfl trivial ?_
 simp only [Try.ntmps18, List.size_toArray, List.length_cons, List.length_nil, Nat.reduceAdd, Nat.reduceSub, Array.replicate_succ, Array.replicate_zero, List.push_toArray, List.append_toArray, List.nil_append, List.cons_append]
 refine sK fun K1 hK1 => rL ?_
 refine xA (.bool false) rfl rfl rfl ?_
 refine wL ?_
 simp only [zP, zI, zS, zO]
 refine tN (hK1 _ _ ?_)
 clear hK1 K1
 refine sK fun K2 hK2 => ?_
 refine sK fun K3 hK3 => rL ?_
 refine xM (.slice ad l.length c) rfl rfl rfl ?_
 refine xG (.int .i64 (l.length : Int)) rfl rfl (ex_len0 Try.underlying33 rfl rfl) ?_
 refine xM (.slice ad' l.length c') rfl rfl rfl ?_
 simp only [zP, zI, zS, zO]
 refine xG (.int .i64 (l.length : Int)) rfl rfl (ex_len0 Try.underlying33 rfl rfl) ?_
 refine xG (.bool false) rfl rfl (ex_neq (k := .i64) (m := (l.length : Int)) (n := (l.length : Int)) rfl rfl rfl (decide_eq_false (fun h => h rfl))) ?_
 refine wL ?_
 simp only [zP, zI, zS, zO]
 refine tN (hK3 _ _ ?_)
 clear hK3 K3
 refine wpIn_cond_false rfl ?_
 refine wpIn_skip ?_
 refine tN (hK2 _ _ ?_)
 clear hK2 K2
 refine sK fun K4 hK4 => ?_
 refine sK fun K5 hK5 => rL ?_
 refine xA (.int .i64 0) rfl rfl rfl ?_
 refine wL ?_
 simp only [zP, zI, zS, zO]
 refine tN (hK5 _ _ ?_)
 clear hK5 K5
 refine wpIn_block ?_
 gi_loopw [5] (fun x5 wr => ∃ (i : Nat), x5 = .int .i64 (i : Int) ∧ i ≤ l.length ∧ Inv B H wr) (fun x5 _ => l.length - (intOf x5).toNat)
 case atStart => exact ⟨0, rfl, Nat.zero_le _, hv⟩
 case round =>
  obtain ⟨i, rfl, hi, hv⟩ := hrel
  refine sK fun K7 hK7 => ?_
  refine sK fun K8 hK8 => rL ?_
  refine xM (.int .i64 (i : Int)) rfl rfl rfl ?_
  refine xM (.slice ad l.length c) rfl rfl rfl ?_
  refine xG (.int .i64 (l.length : Int)) rfl rfl (ex_len0 Try.underlying33 rfl rfl) ?_
  simp only [zP, zI, zS, zO]
  by_cases hb9 : (i : Int) < (l.length : Int)
  ·refine xG (.bool true) rfl rfl (ex_lss (k := .i64) (m := (i : Int)) (n := (l.length : Int)) rfl rfl rfl (decide_eq_true hb9)) ?_
   refine wL ?_
   simp only [zP, zI, zS, zO]
   refine tN (hK8 _ _ ?_)
   clear hK8 K8
   refine wpIn_cond_true rfl ?_
   refine wpIn_skip ?_
   refine tN (hK7 _ _ ?_)
   clear hK7 K7
   refine sK fun K10 hK10 => ?_
   refine wpIn_block ?_
   refine sK fun K11 hK11 => ?_
   obtain ⟨x, hx⟩ : ∃ x, l[i]? = some x := ⟨_, List.getElem?_eq_getElem (show i < l.length by omega)⟩
   obtain ⟨bb, bo, had, hrdx⟩ := text_reads hr hx
   subst had
   obtain ⟨b2, o2, hadb2, hrdb2⟩ := text_reads hr' hx
   subst hadb2
   refine region_st mixed [.slice (some ⟨bb, bo, none⟩) l.length c, .int .i64 (i : Int), .pointer (some ⟨bb, bo + i, none⟩), .string ⟨x.toArray⟩, .slice (some ⟨b2, o2, none⟩) l.length c', .int .i64 (i : Int), .pointer (some ⟨b2, o2 + i, none⟩), .string ⟨x.toArray⟩, .bool false] [] [⟨fun vals w => vals = [] ∧ Inv B (H) w, fun _ _ _ ⟨h, hi⟩ he => ⟨h, hi.ext he⟩⟩] 26 rfl (by kernel_rfl) ⟨rfl, hv⟩ ⟨?_, ?_, ?_, ?_, ?_, ?_, ?_, ?_, ?_, trivial⟩ ?_
   ·intro aa ww vals hJ hR
    exact xD rfl (ex_move rfl (show aa.eval (.tmp 0) = _ from hR.keep 0 rfl)) rfl rfl
   ·intro aa ww vals hJ hR
    exact xD rfl (ex_move rfl (show aa.eval (.tmp 5) = _ from hR.keep 5 rfl)) rfl rfl
   ·intro aa ww vals hJ hR
    exact xD rfl (ex_index rfl (hR.w 0 17 rfl rfl rfl rfl) (hR.w 1 18 rfl rfl rfl rfl) (run_idx1 (k := i) Try.underlying33 s9es33 (by omega))) rfl rfl
   ·intro aa ww vals hJ hR
    have hl : vals.length = 0 := by have := JS.le (n := 0) (by rfl) hJ; omega
    obtain ⟨hvals, hv⟩ := hJ.at0 hl
    exact xD rfl (ex_load rfl (hR.w 2 19 rfl rfl rfl rfl) (run_load1 s3na9 (hrdx _ _ _ (Base.Le.refl _) no_res hv 0 _ rfl))) rfl rfl
   ·intro aa ww vals hJ hR
    exact xD rfl (ex_move rfl (show aa.eval (.tmp 1) = _ from hR.keep 1 rfl)) rfl rfl
   ·intro aa ww vals hJ hR
    exact xD rfl (ex_move rfl (show aa.eval (.tmp 5) = _ from hR.keep 5 rfl)) rfl rfl
   ·intro aa ww vals hJ hR
    exact xD rfl (ex_index rfl (hR.w 4 21 rfl rfl rfl rfl) (hR.w 5 22 rfl rfl rfl rfl) (run_idx1 (k := i) Try.underlying33 s9es33 (by omega))) rfl rfl
   ·intro aa ww vals hJ hR
    have hl : vals.length = 0 := by have := JS.le (n := 0) (by rfl) hJ; omega
    obtain ⟨hvals, hv⟩ := hJ.at0 hl
    exact xD rfl (ex_load rfl (hR.w 6 23 rfl rfl rfl rfl) (run_load1 s3na9 (hrdb2 _ _ _ (Base.Le.refl _) no_res hv 0 _ rfl))) rfl rfl
   ·intro aa ww vals hJ hR
    exact xD rfl (ex_sneq (s := x) (s' := x) rfl (hR.w 3 20 rfl rfl rfl rfl) (hR.w 7 24 rfl rfl rfl rfl) (decide_eq_false (fun h => h rfl))) rfl rfl
   rintro w12 vals ⟨rfl, hv⟩
   rw [show mixV [] [] 0 [.slice (some ⟨bb, bo, none⟩) l.length c, .int .i64 (i : Int), .pointer (some ⟨bb, bo + i, none⟩), .string ⟨x.toArray⟩, .slice (some ⟨b2, o2, none⟩) l.length c', .int .i64 (i : Int), .pointer (some ⟨b2, o2 + i, none⟩), .string ⟨x.toArray⟩, .bool false] = [.slice (some ⟨bb, bo, none⟩) l.length c, .int .i64 (i : Int), .pointer (some ⟨bb, bo + i, none⟩), .string ⟨x.toArray⟩, .slice (some ⟨b2, o2, none⟩) l.length c', .int .i64 (i : Int), .pointer (some ⟨b2, o2 + i, none⟩), .string ⟨x.toArray⟩, .bool false] from rfl]
   simp only [putAll, zP, zI, zS, zO]
   refine tN (hK11 _ _ ?_)
   clear hK11 K11
   refine wpIn_cond_false rfl ?_
   refine wpIn_skip ?_
   refine blk_normal ?_
   refine tN (hK10 _ _ ?_)
   clear hK10 K10
   refine rL ?_
   refine xM (.int .i64 (i : Int)) rfl rfl rfl ?_
   refine xG (.int .i64 ((i + 1 : Nat) : Int)) rfl rfl (ex_add (m := (i : Int)) (n := 1) rfl rfl rfl (by rw [i64_in (by omega)]; omega)) ?_
   refine xA (.int .i64 ((i + 1 : Nat) : Int)) rfl rfl rfl ?_
   refine wL ?_
   simp only [zP, zI, zS, zO]
   refine then_normal ?_
   go_roundw
   case rel => exact ⟨i + 1, rfl, by omega, hv⟩
   case measure => show l.length - (((i + 1 : Nat) : Int)).toNat < l.length - ((i : Int)).toNat; omega
  refine xG (.bool false) rfl rfl (ex_lss (k := .i64) (m := (i : Int)) (n := (l.length : Int)) rfl rfl rfl (decide_eq_false hb9)) ?_
  refine wL ?_
  simp only [zP, zI, zS, zO]
  refine tN (hK8 _ _ ?_)
  clear hK8 K8
  refine wpIn_cond_false rfl ?_
  refine wpIn_exit ?_
  refine then_exit ?_
  clear hK7 K7
  refine then_exit ?_
  refine blk_hit ?_
  refine tN (hK4 _ _ ?_)
  clear hK4 K4
  refine sK fun K13 hK13 => rL ?_
  refine xA (.bool true) rfl rfl rfl ?_
  refine wL ?_
  simp only [zP, zI, zS, zO]
  refine tN (hK13 _ _ ?_)
  clear hK13 K13
  refine wpIn_ret ?_
  refine bR rfl rfl ?_
  exact ⟨rfl, hv⟩
set_option maxHeartbeats 2000000 in
theorem refPairs (B : Base) (H : List Res) (w : World) (ad ad' : Option Addr) (c c' : Nat) (l : List (List UInt8 × List UInt8)) (hr : RdV B [] ad (pairCells l)) (hr' : RdV B [] ad' (pairCells l)) (hm : l.length ≤ 1000000) (hv : Inv B H w) :
  Calls Try.prog 29 #[.slice ad l.length c, .slice ad' l.length c'] w fun e w' => e = .returned (.bool true) ∧ Inv B H w' := by
 refine (callsIn_wide (n := 5)).1 ?_
 refine callsIn_of_wp Try.func29 rfl trivial ?_
 simp only [Try.ntmps29, List.size_toArray, List.length_cons, List.length_nil, Nat.reduceAdd, Nat.reduceSub, Array.replicate_succ, Array.replicate_zero, List.push_toArray, List.append_toArray, List.nil_append, List.cons_append]
 refine sK fun K1 hK1 => rL ?_
 refine xA (.bool false) rfl rfl rfl ?_
 refine wL ?_
 simp only [zP, zI, zS, zO]
 refine tN (hK1 _ _ ?_)
 clear hK1 K1
 refine sK fun K2 hK2 => ?_
 refine sK fun K3 hK3 => rL ?_
 refine xM (.slice ad l.length c) rfl rfl rfl ?_
 refine xG (.int .i64 (l.length : Int)) rfl rfl (ex_len0 Try.underlying32 rfl rfl) ?_
 refine xM (.slice ad' l.length c') rfl rfl rfl ?_
 simp only [zP, zI, zS, zO]
 refine xG (.int .i64 (l.length : Int)) rfl rfl (ex_len0 Try.underlying32 rfl rfl) ?_
 refine xG (.bool false) rfl rfl (ex_neq (k := .i64) (m := (l.length : Int)) (n := (l.length : Int)) rfl rfl rfl (decide_eq_false (fun h => h rfl))) ?_
 refine wL ?_
 simp only [zP, zI, zS, zO]
 refine tN (hK3 _ _ ?_)
 clear hK3 K3
 refine wpIn_cond_false rfl ?_
 refine wpIn_skip ?_
 refine tN (hK2 _ _ ?_)
 clear hK2 K2
 refine sK fun K4 hK4 => ?_
 refine sK fun K5 hK5 => rL ?_
 refine xA (.int .i64 0) rfl rfl rfl ?_
 refine wL ?_
 simp only [zP, zI, zS, zO]
 refine tN (hK5 _ _ ?_)
 clear hK5 K5
 refine wpIn_block ?_
 gi_loopw [5] (fun x5 wr => ∃ (i : Nat), x5 = .int .i64 (i : Int) ∧ i ≤ l.length ∧ Inv B H wr) (fun x5 _ => l.length - (intOf x5).toNat)
 case atStart => exact ⟨0, rfl, Nat.zero_le _, hv⟩
 case round =>
  obtain ⟨i, rfl, hi, hv⟩ := hrel
  refine sK fun K7 hK7 => ?_
  refine sK fun K8 hK8 => rL ?_
  refine xM (.int .i64 (i : Int)) rfl rfl rfl ?_
  refine xM (.slice ad l.length c) rfl rfl rfl ?_
  refine xG (.int .i64 (l.length : Int)) rfl rfl (ex_len0 Try.underlying32 rfl rfl) ?_
  simp only [zP, zI, zS, zO]
  by_cases hb9 : (i : Int) < (l.length : Int)
  ·refine xG (.bool true) rfl rfl (ex_lss (k := .i64) (m := (i : Int)) (n := (l.length : Int)) rfl rfl rfl (decide_eq_true hb9)) ?_
   refine wL ?_
   simp only [zP, zI, zS, zO]
   refine tN (hK8 _ _ ?_)
   clear hK8 K8
   refine wpIn_cond_true rfl ?_
   refine wpIn_skip ?_
   refine tN (hK7 _ _ ?_)
   clear hK7 K7
   refine sK fun K10 hK10 => ?_
   refine wpIn_block ?_
   refine sK fun K11 hK11 => ?_
   obtain ⟨x, hx⟩ : ∃ x, l[i]? = some x := ⟨_, List.getElem?_eq_getElem (show i < l.length by omega)⟩
   obtain ⟨bb, bo, had, hrdx⟩ := pair_reads hr hx
   subst had
   obtain ⟨b2, o2, hadb2, hrdb2⟩ := pair_reads hr' hx
   subst hadb2
   refine region_st mixed [.slice (some ⟨bb, bo, none⟩) l.length c, .int .i64 (i : Int), .pointer (some ⟨bb, bo + i * 2, none⟩), .agg #[.string ⟨x.1.toArray⟩, .string ⟨x.2.toArray⟩], .slice (some ⟨b2, o2, none⟩) l.length c', .int .i64 (i : Int), .pointer (some ⟨b2, o2 + i * 2, none⟩), .agg #[.string ⟨x.1.toArray⟩, .string ⟨x.2.toArray⟩], .bool false] [] [⟨fun vals w => vals = [] ∧ Inv B (H) w, fun _ _ _ ⟨h, hi⟩ he => ⟨h, hi.ext he⟩⟩] 26 rfl (by kernel_rfl) ⟨rfl, hv⟩ ⟨?_, ?_, ?_, ?_, ?_, ?_, ?_, ?_, ?_, trivial⟩ ?_
   ·intro aa ww vals hJ hR
    exact xD rfl (ex_move rfl (show aa.eval (.tmp 0) = _ from hR.keep 0 rfl)) rfl rfl
   ·intro aa ww vals hJ hR
    exact xD rfl (ex_move rfl (show aa.eval (.tmp 5) = _ from hR.keep 5 rfl)) rfl rfl
   ·intro aa ww vals hJ hR
    exact xD rfl (ex_index rfl (hR.w 0 17 rfl rfl rfl rfl) (hR.w 1 18 rfl rfl rfl rfl) (run_idx (k := i) Try.underlying32 s10es32 (by omega))) rfl rfl
   ·intro aa ww vals hJ hR
    have hl : vals.length = 0 := by have := JS.le (n := 0) (by rfl) hJ; omega
    obtain ⟨hvals, hv⟩ := hJ.at0 hl
    exact xD rfl (ex_load rfl (hR.w 2 19 rfl rfl rfl rfl) (run_loadR (cs := [.string ⟨x.1.toArray⟩, .string ⟨x.2.toArray⟩]) s10wd83 (Reads.mid (pre := []) (mid := [.string ⟨x.1.toArray⟩, .string ⟨x.2.toArray⟩]) (post := []) hrdx _ _ _ (Base.Le.refl _) no_res hv))) rfl rfl
   ·intro aa ww vals hJ hR
    exact xD rfl (ex_move rfl (show aa.eval (.tmp 1) = _ from hR.keep 1 rfl)) rfl rfl
   ·intro aa ww vals hJ hR
    exact xD rfl (ex_move rfl (show aa.eval (.tmp 5) = _ from hR.keep 5 rfl)) rfl rfl
   ·intro aa ww vals hJ hR
    exact xD rfl (ex_index rfl (hR.w 4 21 rfl rfl rfl rfl) (hR.w 5 22 rfl rfl rfl rfl) (run_idx (k := i) Try.underlying32 s10es32 (by omega))) rfl rfl
   ·intro aa ww vals hJ hR
    have hl : vals.length = 0 := by have := JS.le (n := 0) (by rfl) hJ; omega
    obtain ⟨hvals, hv⟩ := hJ.at0 hl
    exact xD rfl (ex_load rfl (hR.w 6 23 rfl rfl rfl rfl) (run_loadR (cs := [.string ⟨x.1.toArray⟩, .string ⟨x.2.toArray⟩]) s10wd83 (Reads.mid (pre := []) (mid := [.string ⟨x.1.toArray⟩, .string ⟨x.2.toArray⟩]) (post := []) hrdb2 _ _ _ (Base.Le.refl _) no_res hv))) rfl rfl
   ·intro aa ww vals hJ hR
    exact xD rfl (ex_neqSame (L := [.string ⟨x.1.toArray⟩, .string ⟨x.2.toArray⟩]) rfl (hR.w 3 20 rfl rfl rfl rfl) (hR.w 7 24 rfl rfl rfl rfl) (by kernel_rfl) (fun w => pairEq 9998 w x.1 x.2)) rfl rfl
   rintro w12 vals ⟨rfl, hv⟩
   rw [show mixV [] [] 0 [.slice (some ⟨bb, bo, none⟩) l.length c, .int .i64 (i : Int), .pointer (some ⟨bb, bo + i * 2, none⟩), .agg #[.string ⟨x.1.toArray⟩, .string ⟨x.2.toArray⟩], .slice (some ⟨b2, o2, none⟩) l.length c', .int .i64 (i : Int), .pointer (some ⟨b2, o2 + i * 2, none⟩), .agg #[.string ⟨x.1.toArray⟩, .string ⟨x.2.toArray⟩], .bool false] = [.slice (some ⟨bb, bo, none⟩) l.length c, .int .i64 (i : Int), .pointer (some ⟨bb, bo + i * 2, none⟩), .agg #[.string ⟨x.1.toArray⟩, .string ⟨x.2.toArray⟩], .slice (some ⟨b2, o2, none⟩) l.length c', .int .i64 (i : Int), .pointer (some ⟨b2, o2 + i * 2, none⟩), .agg #[.string ⟨x.1.toArray⟩, .string ⟨x.2.toArray⟩], .bool false] from rfl]
   simp only [putAll, zP, zI, zS, zO]
   refine tN (hK11 _ _ ?_)
   clear hK11 K11
   refine wpIn_cond_false rfl ?_
   refine wpIn_skip ?_
   refine blk_normal ?_
   refine tN (hK10 _ _ ?_)
   clear hK10 K10
   refine rL ?_
   refine xM (.int .i64 (i : Int)) rfl rfl rfl ?_
   refine xG (.int .i64 ((i + 1 : Nat) : Int)) rfl rfl (ex_add (m := (i : Int)) (n := 1) rfl rfl rfl (by rw [i64_in (by omega)]; omega)) ?_
   refine xA (.int .i64 ((i + 1 : Nat) : Int)) rfl rfl rfl ?_
   refine wL ?_
   simp only [zP, zI, zS, zO]
   refine then_normal ?_
   go_roundw
   case rel => exact ⟨i + 1, rfl, by omega, hv⟩
   case measure => show l.length - (((i + 1 : Nat) : Int)).toNat < l.length - ((i : Int)).toNat; omega
  refine xG (.bool false) rfl rfl (ex_lss (k := .i64) (m := (i : Int)) (n := (l.length : Int)) rfl rfl rfl (decide_eq_false hb9)) ?_
  refine wL ?_
  simp only [zP, zI, zS, zO]
  refine tN (hK8 _ _ ?_)
  clear hK8 K8
  refine wpIn_cond_false rfl ?_
  refine wpIn_exit ?_
  refine then_exit ?_
  clear hK7 K7
  refine then_exit ?_
  refine blk_hit ?_
  refine tN (hK4 _ _ ?_)
  clear hK4 K4
  refine sK fun K13 hK13 => rL ?_
  refine xA (.bool true) rfl rfl rfl ?_
  refine wL ?_
  simp only [zP, zI, zS, zO]
  refine tN (hK13 _ _ ?_)
  clear hK13 K13
  refine wpIn_ret ?_
  refine bR rfl rfl ?_
  exact ⟨rfl, hv⟩
set_option maxHeartbeats 2000000 in
theorem refMems (B : Base) (H : List Res) (w : World) (ad ad' : Option Addr) (c c' : Nat) (l : List (Int × List UInt8)) (hr : RdV B [] ad (memCells l)) (hr' : RdV B [] ad' (memCells l)) (hm : l.length ≤ 1000000) (hv : Inv B H w) :
  Calls Try.prog 30 #[.slice ad l.length c, .slice ad' l.length c'] w fun e w' => e = .returned (.bool true) ∧ Inv B H w' := by
 refine (callsIn_wide (n := 5)).1 ?_
 refine callsIn_of_wp Try.func30 rfl trivial ?_
 simp only [Try.ntmps30, List.size_toArray, List.length_cons, List.length_nil, Nat.reduceAdd, Nat.reduceSub, Array.replicate_succ, Array.replicate_zero, List.push_toArray, List.append_toArray, List.nil_append, List.cons_append]
 refine sK fun K1 hK1 => rL ?_
 refine xA (.bool false) rfl rfl rfl ?_
 refine wL ?_
 simp only [zP, zI, zS, zO]
 refine tN (hK1 _ _ ?_)
 clear hK1 K1
 refine sK fun K2 hK2 => ?_
 refine sK fun K3 hK3 => rL ?_
 refine xM (.slice ad l.length c) rfl rfl rfl ?_
 refine xG (.int .i64 (l.length : Int)) rfl rfl (ex_len0 Try.underlying34 rfl rfl) ?_
 refine xM (.slice ad' l.length c') rfl rfl rfl ?_
 simp only [zP, zI, zS, zO]
 refine xG (.int .i64 (l.length : Int)) rfl rfl (ex_len0 Try.underlying34 rfl rfl) ?_
 refine xG (.bool false) rfl rfl (ex_neq (k := .i64) (m := (l.length : Int)) (n := (l.length : Int)) rfl rfl rfl (decide_eq_false (fun h => h rfl))) ?_
 refine wL ?_
 simp only [zP, zI, zS, zO]
 refine tN (hK3 _ _ ?_)
 clear hK3 K3
 refine wpIn_cond_false rfl ?_
 refine wpIn_skip ?_
 refine tN (hK2 _ _ ?_)
 clear hK2 K2
 refine sK fun K4 hK4 => ?_
 refine sK fun K5 hK5 => rL ?_
 refine xA (.int .i64 0) rfl rfl rfl ?_
 refine wL ?_
 simp only [zP, zI, zS, zO]
 refine tN (hK5 _ _ ?_)
 clear hK5 K5
 refine wpIn_block ?_
 gi_loopw [5] (fun x5 wr => ∃ (i : Nat), x5 = .int .i64 (i : Int) ∧ i ≤ l.length ∧ Inv B H wr) (fun x5 _ => l.length - (intOf x5).toNat)
 case atStart => exact ⟨0, rfl, Nat.zero_le _, hv⟩
 case round =>
  obtain ⟨i, rfl, hi, hv⟩ := hrel
  refine sK fun K7 hK7 => ?_
  refine sK fun K8 hK8 => rL ?_
  refine xM (.int .i64 (i : Int)) rfl rfl rfl ?_
  refine xM (.slice ad l.length c) rfl rfl rfl ?_
  refine xG (.int .i64 (l.length : Int)) rfl rfl (ex_len0 Try.underlying34 rfl rfl) ?_
  simp only [zP, zI, zS, zO]
  by_cases hb9 : (i : Int) < (l.length : Int)
  ·refine xG (.bool true) rfl rfl (ex_lss (k := .i64) (m := (i : Int)) (n := (l.length : Int)) rfl rfl rfl (decide_eq_true hb9)) ?_
   refine wL ?_
   simp only [zP, zI, zS, zO]
   refine tN (hK8 _ _ ?_)
   clear hK8 K8
   refine wpIn_cond_true rfl ?_
   refine wpIn_skip ?_
   refine tN (hK7 _ _ ?_)
   clear hK7 K7
   refine sK fun K10 hK10 => ?_
   refine wpIn_block ?_
   refine sK fun K11 hK11 => ?_
   obtain ⟨x, hx⟩ : ∃ x, l[i]? = some x := ⟨_, List.getElem?_eq_getElem (show i < l.length by omega)⟩
   obtain ⟨bb, bo, had, hrdx⟩ := mem_reads hr hx
   subst had
   obtain ⟨b2, o2, hadb2, hrdb2⟩ := mem_reads hr' hx
   subst hadb2
   refine region_st mixed [.slice (some ⟨bb, bo, none⟩) l.length c, .int .i64 (i : Int), .pointer (some ⟨bb, bo + i * 2, none⟩), .agg #[.int .i64 x.1, .string ⟨x.2.toArray⟩], .slice (some ⟨b2, o2, none⟩) l.length c', .int .i64 (i : Int), .pointer (some ⟨b2, o2 + i * 2, none⟩), .agg #[.int .i64 x.1, .string ⟨x.2.toArray⟩], .bool false] [] [⟨fun vals w => vals = [] ∧ Inv B (H) w, fun _ _ _ ⟨h, hi⟩ he => ⟨h, hi.ext he⟩⟩] 26 rfl (by kernel_rfl) ⟨rfl, hv⟩ ⟨?_, ?_, ?_, ?_, ?_, ?_, ?_, ?_, ?_, trivial⟩ ?_
   ·intro aa ww vals hJ hR
    exact xD rfl (ex_move rfl (show aa.eval (.tmp 0) = _ from hR.keep 0 rfl)) rfl rfl
   ·intro aa ww vals hJ hR
    exact xD rfl (ex_move rfl (show aa.eval (.tmp 5) = _ from hR.keep 5 rfl)) rfl rfl
   ·intro aa ww vals hJ hR
    exact xD rfl (ex_index rfl (hR.w 0 17 rfl rfl rfl rfl) (hR.w 1 18 rfl rfl rfl rfl) (run_idx (k := i) Try.underlying34 s9es34 (by omega))) rfl rfl
   ·intro aa ww vals hJ hR
    have hl : vals.length = 0 := by have := JS.le (n := 0) (by rfl) hJ; omega
    obtain ⟨hvals, hv⟩ := hJ.at0 hl
    exact xD rfl (ex_load rfl (hR.w 2 19 rfl rfl rfl rfl) (run_loadR (cs := [.int .i64 x.1, .string ⟨x.2.toArray⟩]) s9wd85 (Reads.mid (pre := []) (mid := [.int .i64 x.1, .string ⟨x.2.toArray⟩]) (post := []) hrdx _ _ _ (Base.Le.refl _) no_res hv))) rfl rfl
   ·intro aa ww vals hJ hR
    exact xD rfl (ex_move rfl (show aa.eval (.tmp 1) = _ from hR.keep 1 rfl)) rfl rfl
   ·intro aa ww vals hJ hR
    exact xD rfl (ex_move rfl (show aa.eval (.tmp 5) = _ from hR.keep 5 rfl)) rfl rfl
   ·intro aa ww vals hJ hR
    exact xD rfl (ex_index rfl (hR.w 4 21 rfl rfl rfl rfl) (hR.w 5 22 rfl rfl rfl rfl) (run_idx (k := i) Try.underlying34 s9es34 (by omega))) rfl rfl
   ·intro aa ww vals hJ hR
    have hl : vals.length = 0 := by have := JS.le (n := 0) (by rfl) hJ; omega
    obtain ⟨hvals, hv⟩ := hJ.at0 hl
    exact xD rfl (ex_load rfl (hR.w 6 23 rfl rfl rfl rfl) (run_loadR (cs := [.int .i64 x.1, .string ⟨x.2.toArray⟩]) s9wd85 (Reads.mid (pre := []) (mid := [.int .i64 x.1, .string ⟨x.2.toArray⟩]) (post := []) hrdb2 _ _ _ (Base.Le.refl _) no_res hv))) rfl rfl
   ·intro aa ww vals hJ hR
    exact xD rfl (ex_neqSame (L := [.int .i64 x.1, .string ⟨x.2.toArray⟩]) rfl (hR.w 3 20 rfl rfl rfl rfl) (hR.w 7 24 rfl rfl rfl rfl) (by kernel_rfl) (fun w => memEq 9998 w x.1 x.2)) rfl rfl
   rintro w12 vals ⟨rfl, hv⟩
   rw [show mixV [] [] 0 [.slice (some ⟨bb, bo, none⟩) l.length c, .int .i64 (i : Int), .pointer (some ⟨bb, bo + i * 2, none⟩), .agg #[.int .i64 x.1, .string ⟨x.2.toArray⟩], .slice (some ⟨b2, o2, none⟩) l.length c', .int .i64 (i : Int), .pointer (some ⟨b2, o2 + i * 2, none⟩), .agg #[.int .i64 x.1, .string ⟨x.2.toArray⟩], .bool false] = [.slice (some ⟨bb, bo, none⟩) l.length c, .int .i64 (i : Int), .pointer (some ⟨bb, bo + i * 2, none⟩), .agg #[.int .i64 x.1, .string ⟨x.2.toArray⟩], .slice (some ⟨b2, o2, none⟩) l.length c', .int .i64 (i : Int), .pointer (some ⟨b2, o2 + i * 2, none⟩), .agg #[.int .i64 x.1, .string ⟨x.2.toArray⟩], .bool false] from rfl]
   simp only [putAll, zP, zI, zS, zO]
   refine tN (hK11 _ _ ?_)
   clear hK11 K11
   refine wpIn_cond_false rfl ?_
   refine wpIn_skip ?_
   refine blk_normal ?_
   refine tN (hK10 _ _ ?_)
   clear hK10 K10
   refine rL ?_
   refine xM (.int .i64 (i : Int)) rfl rfl rfl ?_
   refine xG (.int .i64 ((i + 1 : Nat) : Int)) rfl rfl (ex_add (m := (i : Int)) (n := 1) rfl rfl rfl (by rw [i64_in (by omega)]; omega)) ?_
   refine xA (.int .i64 ((i + 1 : Nat) : Int)) rfl rfl rfl ?_
   refine wL ?_
   simp only [zP, zI, zS, zO]
   refine then_normal ?_
   go_roundw
   case rel => exact ⟨i + 1, rfl, by omega, hv⟩
   case measure => show l.length - (((i + 1 : Nat) : Int)).toNat < l.length - ((i : Int)).toNat; omega
  refine xG (.bool false) rfl rfl (ex_lss (k := .i64) (m := (i : Int)) (n := (l.length : Int)) rfl rfl rfl (decide_eq_false hb9)) ?_
  refine wL ?_
  simp only [zP, zI, zS, zO]
  refine tN (hK8 _ _ ?_)
  clear hK8 K8
  refine wpIn_cond_false rfl ?_
  refine wpIn_exit ?_
  refine then_exit ?_
  clear hK7 K7
  refine then_exit ?_
  refine blk_hit ?_
  refine tN (hK4 _ _ ?_)
  clear hK4 K4
  refine sK fun K13 hK13 => rL ?_
  refine xA (.bool true) rfl rfl rfl ?_
  refine wL ?_
  simp only [zP, zI, zS, zO]
  refine tN (hK13 _ _ ?_)
  clear hK13 K13
  refine wpIn_ret ?_
  refine bR rfl rfl ?_
  exact ⟨rfl, hv⟩
theorem s18callable29 : Callable Try.prog 29 := ⟨_, Try.func29, by kernel_rfl, by kernel_rfl⟩
theorem s18callable18 : Callable Try.prog 18 := ⟨_, Try.func18, by kernel_rfl, by kernel_rfl⟩
theorem s18callable30 : Callable Try.prog 30 := ⟨_, Try.func30, by kernel_rfl, by kernel_rfl⟩
set_option maxHeartbeats 2000000 in
theorem refSame0 (B : Base) (H : List Res) (w : World) (v : Val) (ap at2 az ap' at2' az' : Option Addr) (cp ct cz cp' ct' cz' : Nat) (hrp : RdV B [] ap (pairCells v.pairs)) (hrt : RdV B [] at2 (textCells v.texts)) (hrz : RdV B [] az (memCells v.zset)) (hrp' : RdV B [] ap' (pairCells v.pairs)) (hrt' : RdV B [] at2' (textCells v.texts)) (hrz' : RdV B [] az' (memCells v.zset)) (hpm : v.pairs.length ≤ 1000000) (htm : v.texts.length ≤ 1000000) (hzm : v.zset.length ≤ 1000000) (hv : Inv B H w) :
  Calls Try.prog 12 #[.agg #[.int .i64 v.kind, .string ⟨v.text.toArray⟩, .slice ap v.pairs.length cp, .slice at2 v.texts.length ct, .slice az v.zset.length cz], .agg #[.int .i64 v.kind, .string ⟨v.text.toArray⟩, .slice ap' v.pairs.length cp', .slice at2' v.texts.length ct', .slice az' v.zset.length cz']] w fun e w' => e = .returned (.bool true) ∧ Inv B H w' := by
 refine (callsIn_wide (n := 5)).1 ?_
 refine callsIn_of_wp Try.func12 rfl trivial ?_
 simp only [Try.ntmps12, List.size_toArray, List.length_cons, List.length_nil, Nat.reduceAdd, Nat.reduceSub, Array.replicate_succ, Array.replicate_zero, List.push_toArray, List.append_toArray, List.nil_append, List.cons_append]
 refine sK fun K1 hK1 => rL ?_
 refine sl_box (L := [.int .i64 v.kind, .string ⟨v.text.toArray⟩, .slice ap v.pairs.length cp, .slice at2 v.texts.length ct, .slice az v.zset.length cz]) tV (wn rfl) rfl (p := .agg #[.int .i64 v.kind, .string ⟨v.text.toArray⟩, .slice ap v.pairs.length cp, .slice at2 v.texts.length ct, .slice az v.zset.length cz]) rfl hv (fun w => by kernel_rfl) (fun b2 w3 hv => ?_)
 refine sl_box (L := [.int .i64 v.kind, .string ⟨v.text.toArray⟩, .slice ap' v.pairs.length cp', .slice at2' v.texts.length ct', .slice az' v.zset.length cz']) tV (wn rfl) rfl (p := .agg #[.int .i64 v.kind, .string ⟨v.text.toArray⟩, .slice ap' v.pairs.length cp', .slice at2' v.texts.length ct', .slice az' v.zset.length cz']) rfl hv (fun w => by kernel_rfl) (fun b4 w5 hv => ?_)
 refine xA (.bool false) rfl rfl rfl ?_
 refine wL ?_
 simp only [zP, zI, zS, zO]
 refine tN (hK1 _ _ ?_)
 clear hK1 K1
 refine sK fun K6 hK6 => rL ?_
 refine xF (.pointer (some ⟨b2, 0, none⟩)) rfl rfl rfl (s12fa36_0 _ _ _) ?_
 refine xL (.int .i64 v.kind) rfl rfl rfl (run_load1 s2na3 (hv.load 1 0 rfl rfl)) ?_
 refine xF (.pointer (some ⟨b4, 0, none⟩)) rfl rfl rfl (s12fa36_0 _ _ _) ?_
 simp only [zP, zI, zS, zO]
 refine xL (.int .i64 v.kind) rfl rfl rfl (run_load1 s2na3 (hv.load 0 0 rfl rfl)) ?_
 refine xG (.bool true) rfl rfl (ex_eql (k := .i64) (m := v.kind) (n := v.kind) rfl rfl rfl (decide_eq_true (rfl))) ?_
 refine xM (.bool true) rfl rfl rfl ?_
 simp only [zP, zI, zS, zO]
 refine xH 5 10 true (.pointer (some ⟨b2, 1, none⟩)) rfl rfl rfl rfl (ex_field rfl rfl (s12fa36_1 _ _ _)) ?_
 refine xH 5 10 true (.string ⟨v.text.toArray⟩) rfl rfl rfl rfl (ex_load rfl rfl (run_load1 s3na9 (hv.load 1 1 rfl rfl))) ?_
 refine xH 5 10 true (.pointer (some ⟨b4, 1, none⟩)) rfl rfl rfl rfl (ex_field rfl rfl (s12fa36_1 _ _ _)) ?_
 simp only [zP, zI, zS, zO]
 refine xH 5 10 true (.string ⟨v.text.toArray⟩) rfl rfl rfl rfl (ex_load rfl rfl (run_load1 s3na9 (hv.load 0 1 rfl rfl))) ?_
 refine xH 5 10 true (.bool true) rfl rfl rfl rfl (ex_seql (s := v.text) (s' := v.text) rfl rfl rfl (decide_eq_true (rfl))) ?_
 refine xK true (.bool true) rfl rfl rfl rfl ?_
 simp only [zP, zI, zS, zO]
 refine xM (.bool true) rfl rfl rfl ?_
 refine xH 12 17 true (.pointer (some ⟨b2, 2, none⟩)) rfl rfl rfl rfl (ex_field rfl rfl (s1fa36_2 _ _ _)) ?_
 refine xH 12 17 true (.slice ap v.pairs.length cp) rfl rfl rfl rfl (ex_load rfl rfl (run_load1 s1na32 (hv.load 1 2 rfl rfl))) ?_
 simp only [zP, zI, zS, zO]
 refine xH 12 17 true (.pointer (some ⟨b4, 2, none⟩)) rfl rfl rfl rfl (ex_field rfl rfl (s1fa36_2 _ _ _)) ?_
 refine xH 12 17 true (.slice ap' v.pairs.length cp') rfl rfl rfl rfl (ex_load rfl rfl (run_load1 s1na32 (hv.load 0 2 rfl rfl))) ?_
 refine wpi_callG s18callable29 tV wideC rfl (wanted_of (j := 12) (d := 17) (b := true) rfl rfl rfl) rfl (args := #[.slice ap v.pairs.length cp, .slice ap' v.pairs.length cp']) (by simp only [yA, yB, yC]; rfl) ((refPairs B _ _ _ _ _ _ _ hrp hrp' (by omega) hv).mono ?_)
 rintro e w7 ⟨rfl, hv⟩
 refine ⟨_, rfl, ?_⟩
 simp only [zP, zI, zS, zO]
 refine xK true (.bool true) rfl rfl rfl rfl ?_
 refine xM (.bool true) rfl rfl rfl ?_
 refine xH 19 24 true (.pointer (some ⟨b2, 3, none⟩)) rfl rfl rfl rfl (ex_field rfl rfl (s1fa36_3 _ _ _)) ?_
 simp only [zP, zI, zS, zO]
 refine xH 19 24 true (.slice at2 v.texts.length ct) rfl rfl rfl rfl (ex_load rfl rfl (run_load1 s1na33 (hv.load 1 3 rfl rfl))) ?_
 refine xH 19 24 true (.pointer (some ⟨b4, 3, none⟩)) rfl rfl rfl rfl (ex_field rfl rfl (s1fa36_3 _ _ _)) ?_
 refine xH 19 24 true (.slice at2' v.texts.length ct') rfl rfl rfl rfl (ex_load rfl rfl (run_load1 s1na33 (hv.load 0 3 rfl rfl))) ?_
 simp only [zP, zI, zS, zO]
 refine wpi_callG s18callable18 tV wideC rfl (wanted_of (j := 19) (d := 24) (b := true) rfl rfl rfl) rfl (args := #[.slice at2 v.texts.length ct, .slice at2' v.texts.length ct']) (by simp only [yA, yB, yC]; rfl) ((refWords B _ _ _ _ _ _ _ hrt hrt' (by omega) hv).mono ?_)
 rintro e w8 ⟨rfl, hv⟩
 refine ⟨_, rfl, ?_⟩
 refine xK true (.bool true) rfl rfl rfl rfl ?_
 refine xM (.bool true) rfl rfl rfl ?_
 simp only [zP, zI, zS, zO]
 refine xH 26 31 true (.pointer (some ⟨b2, 4, none⟩)) rfl rfl rfl rfl (ex_field rfl rfl (s1fa36_4 _ _ _)) ?_
 refine xH 26 31 true (.slice az v.zset.length cz) rfl rfl rfl rfl (ex_load rfl rfl (run_load1 s1na34 (hv.load 1 4 rfl rfl))) ?_
 refine xH 26 31 true (.pointer (some ⟨b4, 4, none⟩)) rfl rfl rfl rfl (ex_field rfl rfl (s1fa36_4 _ _ _)) ?_
 simp only [zP, zI, zS, zO]
 refine xH 26 31 true (.slice az' v.zset.length cz') rfl rfl rfl rfl (ex_load rfl rfl (run_load1 s1na34 (hv.load 0 4 rfl rfl))) ?_
 refine wpi_callG s18callable30 tV wideC rfl (wanted_of (j := 26) (d := 31) (b := true) rfl rfl rfl) rfl (args := #[.slice az v.zset.length cz, .slice az' v.zset.length cz']) (by simp only [yA, yB, yC]; rfl) ((refMems B _ _ _ _ _ _ _ hrz hrz' (by omega) hv).mono ?_)
 rintro e w9 ⟨rfl, hv⟩
 refine ⟨_, rfl, ?_⟩
 refine xK true (.bool true) rfl rfl rfl rfl ?_
 simp only [zP, zI, zS, zO]
 refine xA (.bool true) rfl rfl rfl ?_
 refine wL ?_
 simp only [zP, zI, zS, zO]
 refine tN (hK6 _ _ ?_)
 clear hK6 K6
 refine wpIn_ret ?_
 refine bR rfl rfl ?_
 exact ⟨rfl, (hv.sub (List.Sublist.cons _ (List.Sublist.cons _ (List.Sublist.refl _))))⟩
theorem refSameV (B : Base) (H : List Res) (w : World) (v : Val) (p t z p' t' z' : Value) (h : ValRd B v p t z) (h' : ValRd B v p' t' z') (hpm : v.pairs.length ≤ 1000000) (htm : v.texts.length ≤ 1000000) (hzm : v.zset.length ≤ 1000000) (hv : Inv B H w) : Calls Try.prog 12 #[.agg (valCells v p t z).toArray, .agg (valCells v p' t' z').toArray] w fun e w' => e = .returned (.bool true) ∧ Inv B H w' := by
 obtain ⟨⟨ap, cp, rfl, -, hrp⟩, ⟨at2, ct, rfl, -, hrt⟩, ⟨az, cz, rfl, -, hrz⟩⟩ := h
 obtain ⟨⟨ap', cp', rfl, -, hrp'⟩, ⟨at2', ct', rfl, -, hrt'⟩, ⟨az', cz', rfl, -, hrz'⟩⟩ := h'
 exact refSame0 B H w v ap at2 az ap' at2' az' cp ct cz cp' ct' cz' hrp hrt hrz hrp' hrt' hrz' hpm htm hzm hv
set_option maxHeartbeats 4000000 in
theorem refSmall0 (B : Base) (H : List Res) (w : World) (v : Val) (ap at2 az : Option Addr) (cp ct cz : Nat) (hrp : RdV B [] ap (pairCells v.pairs)) (hrt : RdV B [] at2 (textCells v.texts)) (hrz : RdV B [] az (memCells v.zset)) (hv : Inv B H w) :
  Calls Try.prog 23 #[.agg #[.int .i64 v.kind, .string ⟨v.text.toArray⟩, .slice ap v.pairs.length cp, .slice at2 v.texts.length ct, .slice az v.zset.length cz]] w fun e w' => ∃ b, e = .returned (.bool b) ∧ (b = true → ValSm v) ∧ Inv B H w' := by
 refine (callsIn_wide (n := 5)).1 ?_
 refine callsIn_of_wp Try.func23 rfl trivial ?_
 simp only [Try.ntmps23, List.size_toArray, List.length_cons, List.length_nil, Nat.reduceAdd, Nat.reduceSub, Array.replicate_succ, Array.replicate_zero, List.push_toArray, List.append_toArray, List.nil_append, List.cons_append]
 refine sK fun K1 hK1 => rL ?_
 refine sl_box (L := [.int .i64 v.kind, .string ⟨v.text.toArray⟩, .slice ap v.pairs.length cp, .slice at2 v.texts.length ct, .slice az v.zset.length cz]) tV (wn rfl) rfl (p := .agg #[.int .i64 v.kind, .string ⟨v.text.toArray⟩, .slice ap v.pairs.length cp, .slice at2 v.texts.length ct, .slice az v.zset.length cz]) rfl hv (fun w => by kernel_rfl) (fun b2 w3 hv => ?_)
 refine xA (.bool false) rfl rfl rfl ?_
 refine wL ?_
 simp only [zP, zI, zS, zO]
 refine tN (hK1 _ _ ?_)
 clear hK1 K1
 refine sK fun K4 hK4 => ?_
 refine sK fun K5 hK5 => rL ?_
 refine xF (.pointer (some ⟨b2, 1, none⟩)) rfl rfl rfl (s12fa36_1 _ _ _) ?_
 refine xL (.string ⟨v.text.toArray⟩) rfl rfl rfl (run_load1 s3na9 (hv.load 0 1 rfl rfl)) ?_
 refine xG (.int .i64 (v.text.length : Int)) rfl rfl (ex_lenStr Try.underlying9 rfl rfl) ?_
 simp only [zP, zI, zS, zO]
 by_cases hb6 : (v.text.length : Int) > 5000
 ·refine xG (.bool true) rfl rfl (ex_gtr (k := .i64) (m := (v.text.length : Int)) (n := 5000) rfl rfl rfl (decide_eq_true hb6)) ?_
  refine xM (.bool true) rfl rfl rfl ?_
  refine xT 4 10 false true rfl rfl rfl rfl rfl rfl rfl (by decide) ?_
  simp only [zP, zI, zS, zO]
  refine xN 4 10 false true rfl rfl rfl (by decide) ?_
  simp only [zP, zI, zS, zO]
  refine xK true (.bool true) rfl rfl rfl rfl ?_
  refine xM (.bool true) rfl rfl rfl ?_
  refine xT 10 16 false true rfl rfl rfl rfl rfl rfl rfl (by decide) ?_
  simp only [zP, zI, zS, zO]
  refine xN 10 16 false true rfl rfl rfl (by decide) ?_
  simp only [zP, zI, zS, zO]
  refine xK true (.bool true) rfl rfl rfl rfl ?_
  refine xM (.bool true) rfl rfl rfl ?_
  refine xT 16 22 false true rfl rfl rfl rfl rfl rfl rfl (by decide) ?_
  simp only [zP, zI, zS, zO]
  refine xN 16 22 false true rfl rfl rfl (by decide) ?_
  simp only [zP, zI, zS, zO]
  refine xK true (.bool true) rfl rfl rfl rfl ?_
  refine wL ?_
  simp only [zP, zI, zS, zO]
  refine tN (hK5 _ _ ?_)
  clear hK5 K5
  refine wpIn_cond_true rfl ?_
  refine sK fun K7 hK7 => rL ?_
  refine xA (.bool false) rfl rfl rfl ?_
  refine wL ?_
  simp only [zP, zI, zS, zO]
  refine tN (hK7 _ _ ?_)
  clear hK7 K7
  refine wpIn_ret ?_
  refine then_ret ?_
  clear hK4 K4
  refine bR rfl rfl ?_
  exact ⟨false, rfl, fun h => (by cases h), (hv.sub (List.Sublist.cons _ (List.Sublist.refl _)))⟩
 refine xG (.bool false) rfl rfl (ex_gtr (k := .i64) (m := (v.text.length : Int)) (n := 5000) rfl rfl rfl (decide_eq_false hb6)) ?_
 refine xM (.bool false) rfl rfl rfl ?_
 refine xH 4 10 false (.pointer (some ⟨b2, 2, none⟩)) rfl rfl rfl rfl (ex_field rfl rfl (s1fa36_2 _ _ _)) ?_
 simp only [zP, zI, zS, zO]
 refine xH 4 10 false (.slice ap v.pairs.length cp) rfl rfl rfl rfl (ex_load rfl rfl (run_load1 s1na32 (hv.load 0 2 rfl rfl))) ?_
 refine xH 4 10 false (.int .i64 (v.pairs.length : Int)) rfl rfl rfl rfl (ex_len0 Try.underlying32 rfl rfl) ?_
 by_cases hb8 : (v.pairs.length : Int) > 60
 ·refine xH 4 10 false (.bool true) rfl rfl rfl rfl (ex_gtr (k := .i64) (m := (v.pairs.length : Int)) (n := 60) rfl rfl rfl (decide_eq_true hb8)) ?_
  simp only [zP, zI, zS, zO]
  refine xK false (.bool true) rfl rfl rfl rfl ?_
  refine xM (.bool true) rfl rfl rfl ?_
  refine xT 10 16 false true rfl rfl rfl rfl rfl rfl rfl (by decide) ?_
  simp only [zP, zI, zS, zO]
  refine xN 10 16 false true rfl rfl rfl (by decide) ?_
  simp only [zP, zI, zS, zO]
  refine xK true (.bool true) rfl rfl rfl rfl ?_
  refine xM (.bool true) rfl rfl rfl ?_
  refine xT 16 22 false true rfl rfl rfl rfl rfl rfl rfl (by decide) ?_
  simp only [zP, zI, zS, zO]
  refine xN 16 22 false true rfl rfl rfl (by decide) ?_
  simp only [zP, zI, zS, zO]
  refine xK true (.bool true) rfl rfl rfl rfl ?_
  refine wL ?_
  simp only [zP, zI, zS, zO]
  refine tN (hK5 _ _ ?_)
  clear hK5 K5
  refine wpIn_cond_true rfl ?_
  refine sK fun K9 hK9 => rL ?_
  refine xA (.bool false) rfl rfl rfl ?_
  refine wL ?_
  simp only [zP, zI, zS, zO]
  refine tN (hK9 _ _ ?_)
  clear hK9 K9
  refine wpIn_ret ?_
  refine then_ret ?_
  clear hK4 K4
  refine bR rfl rfl ?_
  exact ⟨false, rfl, fun h => (by cases h), (hv.sub (List.Sublist.cons _ (List.Sublist.refl _)))⟩
 refine xH 4 10 false (.bool false) rfl rfl rfl rfl (ex_gtr (k := .i64) (m := (v.pairs.length : Int)) (n := 60) rfl rfl rfl (decide_eq_false hb8)) ?_
 simp only [zP, zI, zS, zO]
 refine xK false (.bool false) rfl rfl rfl rfl ?_
 refine xM (.bool false) rfl rfl rfl ?_
 refine xH 10 16 false (.pointer (some ⟨b2, 3, none⟩)) rfl rfl rfl rfl (ex_field rfl rfl (s1fa36_3 _ _ _)) ?_
 simp only [zP, zI, zS, zO]
 refine xH 10 16 false (.slice at2 v.texts.length ct) rfl rfl rfl rfl (ex_load rfl rfl (run_load1 s1na33 (hv.load 0 3 rfl rfl))) ?_
 refine xH 10 16 false (.int .i64 (v.texts.length : Int)) rfl rfl rfl rfl (ex_len0 Try.underlying33 rfl rfl) ?_
 by_cases hb10 : (v.texts.length : Int) > 600
 ·refine xH 10 16 false (.bool true) rfl rfl rfl rfl (ex_gtr (k := .i64) (m := (v.texts.length : Int)) (n := 600) rfl rfl rfl (decide_eq_true hb10)) ?_
  simp only [zP, zI, zS, zO]
  refine xK false (.bool true) rfl rfl rfl rfl ?_
  refine xM (.bool true) rfl rfl rfl ?_
  refine xT 16 22 false true rfl rfl rfl rfl rfl rfl rfl (by decide) ?_
  simp only [zP, zI, zS, zO]
  refine xN 16 22 false true rfl rfl rfl (by decide) ?_
  simp only [zP, zI, zS, zO]
  refine xK true (.bool true) rfl rfl rfl rfl ?_
  refine wL ?_
  simp only [zP, zI, zS, zO]
  refine tN (hK5 _ _ ?_)
  clear hK5 K5
  refine wpIn_cond_true rfl ?_
  refine sK fun K11 hK11 => rL ?_
  refine xA (.bool false) rfl rfl rfl ?_
  refine wL ?_
  simp only [zP, zI, zS, zO]
  refine tN (hK11 _ _ ?_)
  clear hK11 K11
  refine wpIn_ret ?_
  refine then_ret ?_
  clear hK4 K4
  refine bR rfl rfl ?_
  exact ⟨false, rfl, fun h => (by cases h), (hv.sub (List.Sublist.cons _ (List.Sublist.refl _)))⟩
 refine xH 10 16 false (.bool false) rfl rfl rfl rfl (ex_gtr (k := .i64) (m := (v.texts.length : Int)) (n := 600) rfl rfl rfl (decide_eq_false hb10)) ?_
 simp only [zP, zI, zS, zO]
 refine xK false (.bool false) rfl rfl rfl rfl ?_
 refine xM (.bool false) rfl rfl rfl ?_
 refine xH 16 22 false (.pointer (some ⟨b2, 4, none⟩)) rfl rfl rfl rfl (ex_field rfl rfl (s1fa36_4 _ _ _)) ?_
 simp only [zP, zI, zS, zO]
 refine xH 16 22 false (.slice az v.zset.length cz) rfl rfl rfl rfl (ex_load rfl rfl (run_load1 s1na34 (hv.load 0 4 rfl rfl))) ?_
 refine xH 16 22 false (.int .i64 (v.zset.length : Int)) rfl rfl rfl rfl (ex_len0 Try.underlying34 rfl rfl) ?_
 by_cases hb12 : (v.zset.length : Int) > 60
 ·refine xH 16 22 false (.bool true) rfl rfl rfl rfl (ex_gtr (k := .i64) (m := (v.zset.length : Int)) (n := 60) rfl rfl rfl (decide_eq_true hb12)) ?_
  simp only [zP, zI, zS, zO]
  refine xK false (.bool true) rfl rfl rfl rfl ?_
  refine wL ?_
  simp only [zP, zI, zS, zO]
  refine tN (hK5 _ _ ?_)
  clear hK5 K5
  refine wpIn_cond_true rfl ?_
  refine sK fun K13 hK13 => rL ?_
  refine xA (.bool false) rfl rfl rfl ?_
  refine wL ?_
  simp only [zP, zI, zS, zO]
  refine tN (hK13 _ _ ?_)
  clear hK13 K13
  refine wpIn_ret ?_
  refine then_ret ?_
  clear hK4 K4
  refine bR rfl rfl ?_
  exact ⟨false, rfl, fun h => (by cases h), (hv.sub (List.Sublist.cons _ (List.Sublist.refl _)))⟩
 refine xH 16 22 false (.bool false) rfl rfl rfl rfl (ex_gtr (k := .i64) (m := (v.zset.length : Int)) (n := 60) rfl rfl rfl (decide_eq_false hb12)) ?_
 simp only [zP, zI, zS, zO]
 refine xK false (.bool false) rfl rfl rfl rfl ?_
 refine wL ?_
 simp only [zP, zI, zS, zO]
 refine tN (hK5 _ _ ?_)
 clear hK5 K5
 refine wpIn_cond_false rfl ?_
 refine wpIn_skip ?_
 refine tN (hK4 _ _ ?_)
 clear hK4 K4
 refine sK fun K14 hK14 => ?_
 refine sK fun K15 hK15 => rL ?_
 refine xA (.int .i64 0) rfl rfl rfl ?_
 refine wL ?_
 simp only [zP, zI, zS, zO]
 refine tN (hK15 _ _ ?_)
 clear hK15 K15
 refine wpIn_block ?_
 gi_loopw [3] (fun x3 wr => ∃ (i : Nat), x3 = .int .i64 (i : Int) ∧ i ≤ v.pairs.length ∧ Inv B (Res.cell b2 [.int .i64 v.kind, .string ⟨v.text.toArray⟩, .slice ap v.pairs.length cp, .slice at2 v.texts.length ct, .slice az v.zset.length cz] 36 :: H) wr) (fun x3 _ => v.pairs.length - (intOf x3).toNat)
 case atStart => exact ⟨0, rfl, Nat.zero_le _, hv⟩
 case round =>
  obtain ⟨i, rfl, hi, hv⟩ := hrel
  refine sK fun K17 hK17 => ?_
  refine sK fun K18 hK18 => rL ?_
  refine xM (.int .i64 (i : Int)) rfl rfl rfl ?_
  refine xF (.pointer (some ⟨b2, 2, none⟩)) rfl rfl rfl (s1fa36_2 _ _ _) ?_
  refine xL (.slice ap v.pairs.length cp) rfl rfl rfl (run_load1 s1na32 (hv.load 0 2 rfl rfl)) ?_
  simp only [zP, zI, zS, zO]
  refine xG (.int .i64 (v.pairs.length : Int)) rfl rfl (ex_len0 Try.underlying32 rfl rfl) ?_
  by_cases hb19 : (i : Int) < (v.pairs.length : Int)
  ·refine xG (.bool true) rfl rfl (ex_lss (k := .i64) (m := (i : Int)) (n := (v.pairs.length : Int)) rfl rfl rfl (decide_eq_true hb19)) ?_
   refine wL ?_
   simp only [zP, zI, zS, zO]
   refine tN (hK18 _ _ ?_)
   clear hK18 K18
   refine wpIn_cond_true rfl ?_
   refine wpIn_skip ?_
   refine tN (hK17 _ _ ?_)
   clear hK17 K17
   refine sK fun K20 hK20 => ?_
   refine wpIn_block ?_
   refine sK fun K21 hK21 => ?_
   obtain ⟨x, hx⟩ : ∃ x, v.pairs[i]? = some x := ⟨_, List.getElem?_eq_getElem (show i < v.pairs.length by omega)⟩
   obtain ⟨bb, bo, had, hrdx⟩ := pair_reads hrp hx
   subst had
   refine rL ?_
   refine xF (.pointer (some ⟨b2, 2, none⟩)) rfl rfl rfl (s1fa36_2 _ _ _) ?_
   refine xL (.slice (some ⟨bb, bo, none⟩) v.pairs.length cp) rfl rfl rfl (run_load1 s1na32 (hv.load 0 2 rfl rfl)) ?_
   refine xM (.int .i64 (i : Int)) rfl rfl rfl ?_
   simp only [zP, zI, zS, zO]
   refine xG (.pointer (some ⟨bb, bo + i * 2, none⟩)) rfl rfl (ex_index rfl rfl rfl (run_idx (k := i) Try.underlying32 s10es32 (by omega))) ?_
   refine xF (.pointer (some ⟨bb, bo + i * 2, none⟩)) rfl rfl rfl (s10fa83_0 _ _ _) ?_
   refine xL (.string ⟨x.1.toArray⟩) rfl rfl rfl (run_load1 s3na9 (hrdx _ _ _ (Base.Le.refl _) no_res hv 0 _ rfl)) ?_
   simp only [zP, zI, zS, zO]
   refine xG (.int .i64 (x.1.length : Int)) rfl rfl (ex_lenStr Try.underlying9 rfl rfl) ?_
   by_cases hb22 : (x.1.length : Int) > 200
   ·refine xG (.bool true) rfl rfl (ex_gtr (k := .i64) (m := (x.1.length : Int)) (n := 200) rfl rfl rfl (decide_eq_true hb22)) ?_
    refine xM (.bool true) rfl rfl rfl ?_
    simp only [zP, zI, zS, zO]
    refine xT 8 43 false true rfl rfl rfl rfl rfl rfl rfl (by decide) ?_
    simp only [zP, zI, zS, zO]
    refine xT 8 43 false true rfl rfl rfl rfl rfl rfl rfl (by decide) ?_
    simp only [zP, zI, zS, zO]
    refine xN 8 43 false true rfl rfl rfl (by decide) ?_
    refine xN 8 43 false true rfl rfl rfl (by decide) ?_
    refine xK true (.bool true) rfl rfl rfl rfl ?_
    refine wL ?_
    simp only [zP, zI, zS, zO]
    refine tN (hK21 _ _ ?_)
    clear hK21 K21
    refine wpIn_cond_true rfl ?_
    refine sK fun K23 hK23 => rL ?_
    refine xA (.bool false) rfl rfl rfl ?_
    refine wL ?_
    simp only [zP, zI, zS, zO]
    refine tN (hK23 _ _ ?_)
    clear hK23 K23
    refine wpIn_ret ?_
    refine blk_ret ?_
    refine then_ret ?_
    clear hK20 K20
    refine then_ret ?_
    refine blk_ret ?_
    refine then_ret ?_
    clear hK14 K14
    refine bR rfl rfl ?_
    exact ⟨false, rfl, fun h => (by cases h), (hv.sub (List.Sublist.cons _ (List.Sublist.refl _)))⟩
   refine xG (.bool false) rfl rfl (ex_gtr (k := .i64) (m := (x.1.length : Int)) (n := 200) rfl rfl rfl (decide_eq_false hb22)) ?_
   refine xM (.bool false) rfl rfl rfl ?_
   simp only [zP, zI, zS, zO]
   refine xH 8 43 false (.pointer (some ⟨b2, 2, none⟩)) rfl rfl rfl rfl (ex_field rfl rfl (s1fa36_2 _ _ _)) ?_
   refine xH 8 43 false (.slice (some ⟨bb, bo, none⟩) v.pairs.length cp) rfl rfl rfl rfl (ex_load rfl rfl (run_load1 s1na32 (hv.load 0 2 rfl rfl))) ?_
   refine xH 8 43 false (.int .i64 (i : Int)) rfl rfl rfl rfl (ex_move rfl rfl) ?_
   simp only [zP, zI, zS, zO]
   refine xH 8 43 false (.pointer (some ⟨bb, bo + i * 2, none⟩)) rfl rfl rfl rfl (ex_index rfl rfl rfl (run_idx (k := i) Try.underlying32 s10es32 (by omega))) ?_
   refine xH 8 43 false (.pointer (some ⟨bb, bo + i * 2 + 1, none⟩)) rfl rfl rfl rfl (ex_field rfl rfl (s10fa83_1 _ _ _)) ?_
   refine xH 8 43 false (.string ⟨x.2.toArray⟩) rfl rfl rfl rfl (ex_load rfl rfl (run_load1 s3na9 (hrdx _ _ _ (Base.Le.refl _) no_res hv 1 _ rfl))) ?_
   simp only [zP, zI, zS, zO]
   refine xH 8 43 false (.int .i64 (x.2.length : Int)) rfl rfl rfl rfl (ex_lenStr Try.underlying9 rfl rfl) ?_
   by_cases hb24 : (x.2.length : Int) > 5000
   ·refine xH 8 43 false (.bool true) rfl rfl rfl rfl (ex_gtr (k := .i64) (m := (x.2.length : Int)) (n := 5000) rfl rfl rfl (decide_eq_true hb24)) ?_
    refine xK false (.bool true) rfl rfl rfl rfl ?_
    refine wL ?_
    simp only [zP, zI, zS, zO]
    refine tN (hK21 _ _ ?_)
    clear hK21 K21
    refine wpIn_cond_true rfl ?_
    refine sK fun K25 hK25 => rL ?_
    refine xA (.bool false) rfl rfl rfl ?_
    refine wL ?_
    simp only [zP, zI, zS, zO]
    refine tN (hK25 _ _ ?_)
    clear hK25 K25
    refine wpIn_ret ?_
    refine blk_ret ?_
    refine then_ret ?_
    clear hK20 K20
    refine then_ret ?_
    refine blk_ret ?_
    refine then_ret ?_
    clear hK14 K14
    refine bR rfl rfl ?_
    exact ⟨false, rfl, fun h => (by cases h), (hv.sub (List.Sublist.cons _ (List.Sublist.refl _)))⟩
   refine xH 8 43 false (.bool false) rfl rfl rfl rfl (ex_gtr (k := .i64) (m := (x.2.length : Int)) (n := 5000) rfl rfl rfl (decide_eq_false hb24)) ?_
   refine xK false (.bool false) rfl rfl rfl rfl ?_
   refine wL ?_
   simp only [zP, zI, zS, zO]
   refine tN (hK21 _ _ ?_)
   clear hK21 K21
   refine wpIn_cond_false rfl ?_
   refine wpIn_skip ?_
   refine blk_normal ?_
   refine tN (hK20 _ _ ?_)
   clear hK20 K20
   refine rL ?_
   refine xM (.int .i64 (i : Int)) rfl rfl rfl ?_
   refine xG (.int .i64 ((i + 1 : Nat) : Int)) rfl rfl (ex_add (m := (i : Int)) (n := 1) rfl rfl rfl (by rw [i64_in (by omega)]; omega)) ?_
   refine xA (.int .i64 ((i + 1 : Nat) : Int)) rfl rfl rfl ?_
   refine wL ?_
   simp only [zP, zI, zS, zO]
   refine then_normal ?_
   go_roundw
   case rel => exact ⟨i + 1, rfl, by omega, hv⟩
   case measure => show v.pairs.length - (((i + 1 : Nat) : Int)).toNat < v.pairs.length - ((i : Int)).toNat; omega
  refine xG (.bool false) rfl rfl (ex_lss (k := .i64) (m := (i : Int)) (n := (v.pairs.length : Int)) rfl rfl rfl (decide_eq_false hb19)) ?_
  refine wL ?_
  simp only [zP, zI, zS, zO]
  refine tN (hK18 _ _ ?_)
  clear hK18 K18
  refine wpIn_cond_false rfl ?_
  refine wpIn_exit ?_
  refine then_exit ?_
  clear hK17 K17
  refine then_exit ?_
  refine blk_hit ?_
  refine tN (hK14 _ _ ?_)
  clear hK14 K14
  refine sK fun K26 hK26 => ?_
  refine sK fun K27 hK27 => rL ?_
  refine xA (.int .i64 0) rfl rfl rfl ?_
  refine wL ?_
  simp only [zP, zI, zS, zO]
  refine tN (hK27 _ _ ?_)
  clear hK27 K27
  refine wpIn_block ?_
  gi_loopw [4] (fun x4 wr => ∃ (i : Nat), x4 = .int .i64 (i : Int) ∧ i ≤ v.texts.length ∧ Inv B (Res.cell b2 [.int .i64 v.kind, .string ⟨v.text.toArray⟩, .slice ap v.pairs.length cp, .slice at2 v.texts.length ct, .slice az v.zset.length cz] 36 :: H) wr) (fun x4 _ => v.texts.length - (intOf x4).toNat)
  case atStart => exact ⟨0, rfl, Nat.zero_le _, hv⟩
  case round =>
   obtain ⟨i, rfl, hi, hv⟩ := hrel
   refine sK fun K29 hK29 => ?_
   refine sK fun K30 hK30 => rL ?_
   refine xM (.int .i64 (i : Int)) rfl rfl rfl ?_
   refine xF (.pointer (some ⟨b2, 3, none⟩)) rfl rfl rfl (s1fa36_3 _ _ _) ?_
   refine xL (.slice at2 v.texts.length ct) rfl rfl rfl (run_load1 s1na33 (hv.load 0 3 rfl rfl)) ?_
   simp only [zP, zI, zS, zO]
   refine xG (.int .i64 (v.texts.length : Int)) rfl rfl (ex_len0 Try.underlying33 rfl rfl) ?_
   by_cases hb31 : (i : Int) < (v.texts.length : Int)
   ·refine xG (.bool true) rfl rfl (ex_lss (k := .i64) (m := (i : Int)) (n := (v.texts.length : Int)) rfl rfl rfl (decide_eq_true hb31)) ?_
    refine wL ?_
    simp only [zP, zI, zS, zO]
    refine tN (hK30 _ _ ?_)
    clear hK30 K30
    refine wpIn_cond_true rfl ?_
    refine wpIn_skip ?_
    refine tN (hK29 _ _ ?_)
    clear hK29 K29
    refine sK fun K32 hK32 => ?_
    refine wpIn_block ?_
    refine sK fun K33 hK33 => ?_
    obtain ⟨x, hx⟩ : ∃ x, v.texts[i]? = some x := ⟨_, List.getElem?_eq_getElem (show i < v.texts.length by omega)⟩
    obtain ⟨b3, o3, had, hrdx⟩ := text_reads hrt hx
    subst had
    refine rL ?_
    refine xF (.pointer (some ⟨b2, 3, none⟩)) rfl rfl rfl (s1fa36_3 _ _ _) ?_
    refine xL (.slice (some ⟨b3, o3, none⟩) v.texts.length ct) rfl rfl rfl (run_load1 s1na33 (hv.load 0 3 rfl rfl)) ?_
    refine xM (.int .i64 (i : Int)) rfl rfl rfl ?_
    simp only [zP, zI, zS, zO]
    refine xG (.pointer (some ⟨b3, o3 + i, none⟩)) rfl rfl (ex_index rfl rfl rfl (run_idx1 (k := i) Try.underlying33 s9es33 (by omega))) ?_
    refine xL (.string ⟨x.toArray⟩) rfl rfl rfl (run_load1 s3na9 (hrdx _ _ _ (Base.Le.refl _) no_res hv 0 _ rfl)) ?_
    refine xG (.int .i64 (x.length : Int)) rfl rfl (ex_lenStr Try.underlying9 rfl rfl) ?_
    simp only [zP, zI, zS, zO]
    by_cases hb34 : (x.length : Int) > 200
    ·refine xG (.bool true) rfl rfl (ex_gtr (k := .i64) (m := (x.length : Int)) (n := 200) rfl rfl rfl (decide_eq_true hb34)) ?_
     refine wL ?_
     simp only [zP, zI, zS, zO]
     refine tN (hK33 _ _ ?_)
     clear hK33 K33
     refine wpIn_cond_true rfl ?_
     refine sK fun K35 hK35 => rL ?_
     refine xA (.bool false) rfl rfl rfl ?_
     refine wL ?_
     simp only [zP, zI, zS, zO]
     refine tN (hK35 _ _ ?_)
     clear hK35 K35
     refine wpIn_ret ?_
     refine blk_ret ?_
     refine then_ret ?_
     clear hK32 K32
     refine then_ret ?_
     refine blk_ret ?_
     refine then_ret ?_
     clear hK26 K26
     refine bR rfl rfl ?_
     exact ⟨false, rfl, fun h => (by cases h), (hv.sub (List.Sublist.cons _ (List.Sublist.refl _)))⟩
    refine xG (.bool false) rfl rfl (ex_gtr (k := .i64) (m := (x.length : Int)) (n := 200) rfl rfl rfl (decide_eq_false hb34)) ?_
    refine wL ?_
    simp only [zP, zI, zS, zO]
    refine tN (hK33 _ _ ?_)
    clear hK33 K33
    refine wpIn_cond_false rfl ?_
    refine wpIn_skip ?_
    refine blk_normal ?_
    refine tN (hK32 _ _ ?_)
    clear hK32 K32
    refine rL ?_
    refine xM (.int .i64 (i : Int)) rfl rfl rfl ?_
    refine xG (.int .i64 ((i + 1 : Nat) : Int)) rfl rfl (ex_add (m := (i : Int)) (n := 1) rfl rfl rfl (by rw [i64_in (by omega)]; omega)) ?_
    refine xA (.int .i64 ((i + 1 : Nat) : Int)) rfl rfl rfl ?_
    refine wL ?_
    simp only [zP, zI, zS, zO]
    refine then_normal ?_
    go_roundw
    case rel => exact ⟨i + 1, rfl, by omega, hv⟩
    case measure => show v.texts.length - (((i + 1 : Nat) : Int)).toNat < v.texts.length - ((i : Int)).toNat; omega
   refine xG (.bool false) rfl rfl (ex_lss (k := .i64) (m := (i : Int)) (n := (v.texts.length : Int)) rfl rfl rfl (decide_eq_false hb31)) ?_
   refine wL ?_
   simp only [zP, zI, zS, zO]
   refine tN (hK30 _ _ ?_)
   clear hK30 K30
   refine wpIn_cond_false rfl ?_
   refine wpIn_exit ?_
   refine then_exit ?_
   clear hK29 K29
   refine then_exit ?_
   refine blk_hit ?_
   refine tN (hK26 _ _ ?_)
   clear hK26 K26
   refine sK fun K36 hK36 => ?_
   refine sK fun K37 hK37 => rL ?_
   refine xA (.int .i64 0) rfl rfl rfl ?_
   refine wL ?_
   simp only [zP, zI, zS, zO]
   refine tN (hK37 _ _ ?_)
   clear hK37 K37
   refine wpIn_block ?_
   gi_loopw [5] (fun x5 wr => ∃ (i : Nat), x5 = .int .i64 (i : Int) ∧ i ≤ v.zset.length ∧ Inv B (Res.cell b2 [.int .i64 v.kind, .string ⟨v.text.toArray⟩, .slice ap v.pairs.length cp, .slice at2 v.texts.length ct, .slice az v.zset.length cz] 36 :: H) wr) (fun x5 _ => v.zset.length - (intOf x5).toNat)
   case atStart => exact ⟨0, rfl, Nat.zero_le _, hv⟩
   case round =>
    obtain ⟨i, rfl, hi, hv⟩ := hrel
    refine sK fun K39 hK39 => ?_
    refine sK fun K40 hK40 => rL ?_
    refine xM (.int .i64 (i : Int)) rfl rfl rfl ?_
    refine xF (.pointer (some ⟨b2, 4, none⟩)) rfl rfl rfl (s1fa36_4 _ _ _) ?_
    refine xL (.slice az v.zset.length cz) rfl rfl rfl (run_load1 s1na34 (hv.load 0 4 rfl rfl)) ?_
    simp only [zP, zI, zS, zO]
    refine xG (.int .i64 (v.zset.length : Int)) rfl rfl (ex_len0 Try.underlying34 rfl rfl) ?_
    by_cases hb41 : (i : Int) < (v.zset.length : Int)
    ·refine xG (.bool true) rfl rfl (ex_lss (k := .i64) (m := (i : Int)) (n := (v.zset.length : Int)) rfl rfl rfl (decide_eq_true hb41)) ?_
     refine wL ?_
     simp only [zP, zI, zS, zO]
     refine tN (hK40 _ _ ?_)
     clear hK40 K40
     refine wpIn_cond_true rfl ?_
     refine wpIn_skip ?_
     refine tN (hK39 _ _ ?_)
     clear hK39 K39
     refine sK fun K42 hK42 => ?_
     refine wpIn_block ?_
     refine sK fun K43 hK43 => ?_
     obtain ⟨x, hx⟩ : ∃ x, v.zset[i]? = some x := ⟨_, List.getElem?_eq_getElem (show i < v.zset.length by omega)⟩
     obtain ⟨b4, o4, had, hrdx⟩ := mem_reads hrz hx
     subst had
     refine rL ?_
     refine xF (.pointer (some ⟨b2, 4, none⟩)) rfl rfl rfl (s1fa36_4 _ _ _) ?_
     refine xL (.slice (some ⟨b4, o4, none⟩) v.zset.length cz) rfl rfl rfl (run_load1 s1na34 (hv.load 0 4 rfl rfl)) ?_
     refine xM (.int .i64 (i : Int)) rfl rfl rfl ?_
     simp only [zP, zI, zS, zO]
     refine xG (.pointer (some ⟨b4, o4 + i * 2, none⟩)) rfl rfl (ex_index rfl rfl rfl (run_idx (k := i) Try.underlying34 s9es34 (by omega))) ?_
     refine xF (.pointer (some ⟨b4, o4 + i * 2 + 1, none⟩)) rfl rfl rfl (s9fa85_1 _ _ _) ?_
     refine xL (.string ⟨x.2.toArray⟩) rfl rfl rfl (run_load1 s3na9 (hrdx _ _ _ (Base.Le.refl _) no_res hv 1 _ rfl)) ?_
     simp only [zP, zI, zS, zO]
     refine xG (.int .i64 (x.2.length : Int)) rfl rfl (ex_lenStr Try.underlying9 rfl rfl) ?_
     by_cases hb44 : (x.2.length : Int) > 200
     ·refine xG (.bool true) rfl rfl (ex_gtr (k := .i64) (m := (x.2.length : Int)) (n := 200) rfl rfl rfl (decide_eq_true hb44)) ?_
      refine wL ?_
      simp only [zP, zI, zS, zO]
      refine tN (hK43 _ _ ?_)
      clear hK43 K43
      refine wpIn_cond_true rfl ?_
      refine sK fun K45 hK45 => rL ?_
      refine xA (.bool false) rfl rfl rfl ?_
      refine wL ?_
      simp only [zP, zI, zS, zO]
      refine tN (hK45 _ _ ?_)
      clear hK45 K45
      refine wpIn_ret ?_
      refine blk_ret ?_
      refine then_ret ?_
      clear hK42 K42
      refine then_ret ?_
      refine blk_ret ?_
      refine then_ret ?_
      clear hK36 K36
      refine bR rfl rfl ?_
      exact ⟨false, rfl, fun h => (by cases h), (hv.sub (List.Sublist.cons _ (List.Sublist.refl _)))⟩
     refine xG (.bool false) rfl rfl (ex_gtr (k := .i64) (m := (x.2.length : Int)) (n := 200) rfl rfl rfl (decide_eq_false hb44)) ?_
     refine wL ?_
     simp only [zP, zI, zS, zO]
     refine tN (hK43 _ _ ?_)
     clear hK43 K43
     refine wpIn_cond_false rfl ?_
     refine wpIn_skip ?_
     refine blk_normal ?_
     refine tN (hK42 _ _ ?_)
     clear hK42 K42
     refine rL ?_
     refine xM (.int .i64 (i : Int)) rfl rfl rfl ?_
     refine xG (.int .i64 ((i + 1 : Nat) : Int)) rfl rfl (ex_add (m := (i : Int)) (n := 1) rfl rfl rfl (by rw [i64_in (by omega)]; omega)) ?_
     refine xA (.int .i64 ((i + 1 : Nat) : Int)) rfl rfl rfl ?_
     refine wL ?_
     simp only [zP, zI, zS, zO]
     refine then_normal ?_
     go_roundw
     case rel => exact ⟨i + 1, rfl, by omega, hv⟩
     case measure => show v.zset.length - (((i + 1 : Nat) : Int)).toNat < v.zset.length - ((i : Int)).toNat; omega
    refine xG (.bool false) rfl rfl (ex_lss (k := .i64) (m := (i : Int)) (n := (v.zset.length : Int)) rfl rfl rfl (decide_eq_false hb41)) ?_
    refine wL ?_
    simp only [zP, zI, zS, zO]
    refine tN (hK40 _ _ ?_)
    clear hK40 K40
    refine wpIn_cond_false rfl ?_
    refine wpIn_exit ?_
    refine then_exit ?_
    clear hK39 K39
    refine then_exit ?_
    refine blk_hit ?_
    refine tN (hK36 _ _ ?_)
    clear hK36 K36
    refine sK fun K46 hK46 => rL ?_
    refine xA (.bool true) rfl rfl rfl ?_
    refine wL ?_
    simp only [zP, zI, zS, zO]
    refine tN (hK46 _ _ ?_)
    clear hK46 K46
    refine wpIn_ret ?_
    refine bR rfl rfl ?_
    exact ⟨true, rfl, fun _ => ⟨by omega, by omega, by omega⟩, (hv.sub (List.Sublist.cons _ (List.Sublist.refl _)))⟩
theorem refSmall (B : Base) (H : List Res) (w : World) (v : Val) (p t z : Value) (h : ValRd B v p t z) (hv : Inv B H w) : Calls Try.prog 23 #[.agg (valCells v p t z).toArray] w fun e w' => ∃ b, e = .returned (.bool b) ∧ (b = true → ValSm v) ∧ Inv B H w' := by
 obtain ⟨⟨ap, cp, rfl, -, hrp⟩, ⟨at2, ct, rfl, -, hrt⟩, ⟨az, cz, rfl, -, hrz⟩⟩ := h
 exact refSmall0 B H w v ap at2 az cp ct cz hrp hrt hrz hv
theorem s18callable23 : Callable Try.prog 23 := ⟨_, Try.func23, by kernel_rfl, by kernel_rfl⟩
set_option maxHeartbeats 2000000 in
theorem lawSmall (B : Base) (H : List Res) (w : World) (ad : Option Addr) (c : Nat) (l : List Wr) (xs : List Value) (hr : RdV B [] ad xs) (hxs : WrsRd B l xs) (hv : Inv B H w) :
  Calls Try.prog 8 #[.slice ad l.length c] w fun e w' => ∃ b, e = .returned (.bool b) ∧ (b = true → l.length ≤ 12 ∧ ∀ x ∈ l, ValSm x.ver.val) ∧ Inv B H w' := by
 refine (callsIn_wide (n := 5)).1 ?_
 refine callsIn_of_wp Try.func8 rfl trivial ?_
 simp only [Try.ntmps8, List.size_toArray, List.length_cons, List.length_nil, Nat.reduceAdd, Nat.reduceSub, Array.replicate_succ, Array.replicate_zero, List.push_toArray, List.append_toArray, List.nil_append, List.cons_append]
 refine sK fun K1 hK1 => rL ?_
 refine xA (.bool false) rfl rfl rfl ?_
 refine wL ?_
 simp only [zP, zI, zS, zO]
 refine tN (hK1 _ _ ?_)
 clear hK1 K1
 refine sK fun K2 hK2 => ?_
 refine sK fun K3 hK3 => rL ?_
 refine xM (.slice ad l.length c) rfl rfl rfl ?_
 refine xG (.int .i64 (l.length : Int)) rfl rfl (ex_len0 Try.underlying27 rfl rfl) ?_
 by_cases hb4 : (l.length : Int) > 12
 ·refine xG (.bool true) rfl rfl (ex_gtr (k := .i64) (m := (l.length : Int)) (n := 12) rfl rfl rfl (decide_eq_true hb4)) ?_
  refine wL ?_
  simp only [zP, zI, zS, zO]
  refine tN (hK3 _ _ ?_)
  clear hK3 K3
  refine wpIn_cond_true rfl ?_
  refine sK fun K5 hK5 => rL ?_
  refine xA (.bool false) rfl rfl rfl ?_
  refine wL ?_
  simp only [zP, zI, zS, zO]
  refine tN (hK5 _ _ ?_)
  clear hK5 K5
  refine wpIn_ret ?_
  refine then_ret ?_
  clear hK2 K2
  refine bR rfl rfl ?_
  exact ⟨false, rfl, fun h => (by cases h), hv⟩
 refine xG (.bool false) rfl rfl (ex_gtr (k := .i64) (m := (l.length : Int)) (n := 12) rfl rfl rfl (decide_eq_false hb4)) ?_
 refine wL ?_
 simp only [zP, zI, zS, zO]
 refine tN (hK3 _ _ ?_)
 clear hK3 K3
 refine wpIn_cond_false rfl ?_
 refine wpIn_skip ?_
 refine tN (hK2 _ _ ?_)
 clear hK2 K2
 refine sK fun K6 hK6 => ?_
 refine sK fun K7 hK7 => rL ?_
 refine xA (.int .i64 0) rfl rfl rfl ?_
 refine wL ?_
 simp only [zP, zI, zS, zO]
 refine tN (hK7 _ _ ?_)
 clear hK7 K7
 refine wpIn_block ?_
 gi_loopw [3] (fun x3 wr => ∃ (i : Nat), x3 = .int .i64 (i : Int) ∧ i ≤ l.length ∧ (∀ j x, j < i → l[j]? = some x → ValSm x.ver.val) ∧ Inv B H wr) (fun x3 _ => l.length - (intOf x3).toNat)
 case atStart => exact ⟨0, rfl, Nat.zero_le _, fun j x h => by omega, hv⟩
 case round =>
  obtain ⟨i, rfl, hi, hall, hv⟩ := hrel
  refine sK fun K9 hK9 => ?_
  refine sK fun K10 hK10 => rL ?_
  refine xM (.int .i64 (i : Int)) rfl rfl rfl ?_
  refine xM (.slice ad l.length c) rfl rfl rfl ?_
  refine xG (.int .i64 (l.length : Int)) rfl rfl (ex_len0 Try.underlying27 rfl rfl) ?_
  simp only [zP, zI, zS, zO]
  by_cases hb11 : (i : Int) < (l.length : Int)
  ·refine xG (.bool true) rfl rfl (ex_lss (k := .i64) (m := (i : Int)) (n := (l.length : Int)) rfl rfl rfl (decide_eq_true hb11)) ?_
   refine wL ?_
   simp only [zP, zI, zS, zO]
   refine tN (hK10 _ _ ?_)
   clear hK10 K10
   refine wpIn_cond_true rfl ?_
   refine wpIn_skip ?_
   refine tN (hK9 _ _ ?_)
   clear hK9 K9
   refine sK fun K12 hK12 => ?_
   refine wpIn_block ?_
   refine sK fun K13 hK13 => ?_
   obtain ⟨x, hx⟩ : ∃ x, l[i]? = some x := ⟨_, List.getElem?_eq_getElem (show i < l.length by omega)⟩
   obtain ⟨bb, bo, xp, xt, xz, had, hvalx, hrdx⟩ := WrsRd.reads hxs hr hx
   subst had
   refine rL ?_
   refine xM (.slice (some ⟨bb, bo, none⟩) l.length c) rfl rfl rfl ?_
   refine xM (.int .i64 (i : Int)) rfl rfl rfl ?_
   refine xG (.pointer (some ⟨bb, bo + i * 9, none⟩)) rfl rfl (ex_index rfl rfl rfl (run_idx (k := i) Try.underlying27 s8es27 (by omega))) ?_
   simp only [zP, zI, zS, zO]
   refine xF (.pointer (some ⟨bb, bo + i * 9, none⟩)) rfl rfl rfl (s8fa40_0 _ _ _) ?_
   refine xL (.string ⟨x.key.toArray⟩) rfl rfl rfl (run_load1 s3na9 (hrdx _ _ _ (Base.Le.refl _) no_res hv 0 _ rfl)) ?_
   refine xG (.int .i64 (x.key.length : Int)) rfl rfl (ex_lenStr Try.underlying9 rfl rfl) ?_
   simp only [zP, zI, zS, zO]
   by_cases hb14 : (x.key.length : Int) > 300
   ·refine xG (.bool true) rfl rfl (ex_gtr (k := .i64) (m := (x.key.length : Int)) (n := 300) rfl rfl rfl (decide_eq_true hb14)) ?_
    refine xM (.bool true) rfl rfl rfl ?_
    refine xT 7 20 false true rfl rfl rfl rfl rfl rfl rfl (by decide) ?_
    simp only [zP, zI, zS, zO]
    refine xT 7 20 false true rfl rfl rfl rfl rfl rfl rfl (by decide) ?_
    simp only [zP, zI, zS, zO]
    refine xN 7 20 false true rfl rfl rfl (by decide) ?_
    refine xN 7 20 false true rfl rfl rfl (by decide) ?_
    refine xK true (.bool true) rfl rfl rfl rfl ?_
    refine wL ?_
    simp only [zP, zI, zS, zO]
    refine tN (hK13 _ _ ?_)
    clear hK13 K13
    refine wpIn_cond_true rfl ?_
    refine sK fun K15 hK15 => rL ?_
    refine xA (.bool false) rfl rfl rfl ?_
    refine wL ?_
    simp only [zP, zI, zS, zO]
    refine tN (hK15 _ _ ?_)
    clear hK15 K15
    refine wpIn_ret ?_
    refine blk_ret ?_
    refine then_ret ?_
    clear hK12 K12
    refine then_ret ?_
    refine blk_ret ?_
    refine then_ret ?_
    clear hK6 K6
    refine bR rfl rfl ?_
    exact ⟨false, rfl, fun h => (by cases h), hv⟩
   refine xG (.bool false) rfl rfl (ex_gtr (k := .i64) (m := (x.key.length : Int)) (n := 300) rfl rfl rfl (decide_eq_false hb14)) ?_
   refine xM (.bool false) rfl rfl rfl ?_
   refine xH 7 20 false (.slice (some ⟨bb, bo, none⟩) l.length c) rfl rfl rfl rfl (ex_move rfl rfl) ?_
   simp only [zP, zI, zS, zO]
   refine xH 7 20 false (.int .i64 (i : Int)) rfl rfl rfl rfl (ex_move rfl rfl) ?_
   refine xH 7 20 false (.pointer (some ⟨bb, bo + i * 9, none⟩)) rfl rfl rfl rfl (ex_index rfl rfl rfl (run_idx (k := i) Try.underlying27 s8es27 (by omega))) ?_
   refine xH 7 20 false (.pointer (some ⟨bb, bo + i * 9 + 1, none⟩)) rfl rfl rfl rfl (ex_field rfl rfl (s14fa40_1 _ _ _)) ?_
   simp only [zP, zI, zS, zO]
   refine xH 7 20 false (.pointer (some ⟨bb, bo + i * 9 + 1 + 3, none⟩)) rfl rfl rfl rfl (ex_field rfl rfl (s1fa38_3 _ _ _)) ?_
   refine xH 7 20 false (.agg #[.int .i64 x.ver.val.kind, .string ⟨x.ver.val.text.toArray⟩, xp, xt, xz]) rfl rfl rfl rfl (ex_load rfl rfl (run_loadR (cs := [.int .i64 x.ver.val.kind, .string ⟨x.ver.val.text.toArray⟩, xp, xt, xz]) s1wd36 (Reads.mid (pre := [.string ⟨x.key.toArray⟩, .int .i64 x.ver.stamp, .bool x.ver.gone, .int .i64 x.ver.expire]) (mid := [.int .i64 x.ver.val.kind, .string ⟨x.ver.val.text.toArray⟩, xp, xt, xz]) (post := []) hrdx _ _ _ (Base.Le.refl _) no_res hv))) ?_
   refine wpi_callG s18callable23 tV wideC rfl (wanted_of (j := 7) (d := 20) (b := false) rfl rfl rfl) rfl (args := #[.agg #[.int .i64 x.ver.val.kind, .string ⟨x.ver.val.text.toArray⟩, xp, xt, xz]]) (by simp only [yA, yB, yC]; rfl) ((refSmall B _ _ x.ver.val xp xt xz hvalx hv).mono ?_)
   rintro e w17 ⟨bl16, rfl, hbl16, hv⟩
   refine ⟨_, rfl, ?_⟩
   cases bl16
   ·simp only [zP, zI, zS, zO]
    refine xH 7 20 false (.bool true) rfl rfl rfl rfl (ex_not (b := false) rfl rfl rfl) ?_
    refine xK false (.bool true) rfl rfl rfl rfl ?_
    refine wL ?_
    simp only [zP, zI, zS, zO]
    refine tN (hK13 _ _ ?_)
    clear hK13 K13
    refine wpIn_cond_true rfl ?_
    refine sK fun K18 hK18 => rL ?_
    refine xA (.bool false) rfl rfl rfl ?_
    refine wL ?_
    simp only [zP, zI, zS, zO]
    refine tN (hK18 _ _ ?_)
    clear hK18 K18
    refine wpIn_ret ?_
    refine blk_ret ?_
    refine then_ret ?_
    clear hK12 K12
    refine then_ret ?_
    refine blk_ret ?_
    refine then_ret ?_
    clear hK6 K6
    refine bR rfl rfl ?_
    exact ⟨false, rfl, fun h => (by cases h), hv⟩
   simp only [zP, zI, zS, zO]
   refine xH 7 20 false (.bool false) rfl rfl rfl rfl (ex_not (b := true) rfl rfl rfl) ?_
   refine xK false (.bool false) rfl rfl rfl rfl ?_
   refine wL ?_
   simp only [zP, zI, zS, zO]
   refine tN (hK13 _ _ ?_)
   clear hK13 K13
   refine wpIn_cond_false rfl ?_
   refine wpIn_skip ?_
   refine blk_normal ?_
   refine tN (hK12 _ _ ?_)
   clear hK12 K12
   refine rL ?_
   refine xM (.int .i64 (i : Int)) rfl rfl rfl ?_
   refine xG (.int .i64 ((i + 1 : Nat) : Int)) rfl rfl (ex_add (m := (i : Int)) (n := 1) rfl rfl rfl (by rw [i64_in (by omega)]; omega)) ?_
   refine xA (.int .i64 ((i + 1 : Nat) : Int)) rfl rfl rfl ?_
   refine wL ?_
   simp only [zP, zI, zS, zO]
   refine then_normal ?_
   go_roundw
   case rel => exact ⟨i + 1, rfl, by omega, fun j x' hj hx' => (by
      rcases Nat.lt_or_ge j i with h | h
      ·exact hall j x' h hx'
      obtain rfl : j = i := by omega
      rw [hx] at hx'; cases hx'
      exact hbl16 rfl), hv⟩
   case measure => show l.length - (((i + 1 : Nat) : Int)).toNat < l.length - ((i : Int)).toNat; omega
  refine xG (.bool false) rfl rfl (ex_lss (k := .i64) (m := (i : Int)) (n := (l.length : Int)) rfl rfl rfl (decide_eq_false hb11)) ?_
  refine wL ?_
  simp only [zP, zI, zS, zO]
  refine tN (hK10 _ _ ?_)
  clear hK10 K10
  refine wpIn_cond_false rfl ?_
  refine wpIn_exit ?_
  refine then_exit ?_
  clear hK9 K9
  refine then_exit ?_
  refine blk_hit ?_
  refine tN (hK6 _ _ ?_)
  clear hK6 K6
  refine sK fun K19 hK19 => rL ?_
  refine xA (.bool true) rfl rfl rfl ?_
  refine wL ?_
  simp only [zP, zI, zS, zO]
  refine tN (hK19 _ _ ?_)
  clear hK19 K19
  refine wpIn_ret ?_
  refine bR rfl rfl ?_
  obtain rfl : i = l.length := by omega
  exact ⟨true, rfl, fun _ => ⟨by omega, fun x hx => (by obtain ⟨j, hj⟩ := List.mem_iff_getElem?.1 hx; exact hall j x (List.getElem?_eq_some_iff.1 hj).1 hj)⟩, hv⟩
end Go.Proofs.Ytffmbdagjpdieaa
/- Rules for a row out of which an element is taken in place. -/
namespace Go.Pm
open Go.RowKit
section
variable {P : Program} {t e : TypeId} {w : World}
theorem run_lhm3 {ad : Option Addr} {n c l h m size : Nat} (ht : P.underlying t = some (.slice (P.elem t))) (hs : ∀ w, (sizeOf (P.elem t)).run P w = .ok size w) (h1 : l ≤ h) (h2 : h ≤ m) (h3 : m ≤ c) :
  (Instr.sliceAt t (.slice ad n c) (some (.int .i64 (l : Int))) (some (.int .i64 (h : Int))) (some (.int .i64 (m : Int)))).run P w = .ok (sliced ad l h m size) w := by
 rw [run_sliceAt_slice w t _ _ _ _ ht, run_slice_lhm w t _ n c ht .i64 .i64 .i64 l h m (by omega) (by omega) (by omega) (by omega), hs]
 simp only [Result.andThen, Int.toNat_natCast]
theorem sliced_drop (b l n c size : Nat) : ∃ a2, sliced (some ⟨b, 0, none⟩) l n c size = .slice (some a2) (n - l) (c - l) ∧ ∀ (w : World) (xs : List Value), Src w (some ⟨b, 0, none⟩) xs → xs.length ≤ c * size → Src w (some a2) (xs.drop (l * size)) := by
 unfold sliced
 by_cases h : c = l
 ·refine ⟨⟨b, 0, none⟩, by rw [if_pos h], fun w xs hx hl => ?_⟩
  rw [List.drop_of_length_le (by rw [← h]; exact hl)]
  intro i hi
  simp at hi
 refine ⟨⟨b, 0 + l * size, none⟩, by rw [if_neg h, Option.map_some, addr_add], fun w xs hx _ => hx.drop _⟩
theorem run_lohi {g off n c l h size : Nat} (ht : P.underlying t = some (.slice (P.elem t))) (hs : ∀ w, (sizeOf (P.elem t)).run P w = .ok size w) (h1 : l ≤ h) (h2 : h ≤ c) (h3 : l < c) :
  (Instr.sliceAt t (.slice (some ⟨g, off, none⟩) n c) (some (.int .i64 (l : Int))) (some (.int .i64 (h : Int))) none).run P w = .ok (.slice (some ⟨g, off + l * size, none⟩) (h - l) (c - l)) w := by
 rw [run_sliceAt_slice w t _ _ _ _ ht, run_slice_lh w t _ n c ht .i64 .i64 l h (by omega) (by omega) (by omega), hs]
 simp only [Result.andThen, Int.toNat_natCast, sliced]
 rw [if_neg (by omega), Option.map_some, addr_add]
theorem sliced_rest (b j n r c size : Nat) (hn : n = j + r) : ∃ a2, sliced (some ⟨b, 0, none⟩) j n c size = .slice (some a2) r (c - j) ∧ ∀ (w : World) (xs : List Value), Src w (some ⟨b, 0, none⟩) xs → xs.length ≤ c * size → Src w (some a2) (xs.drop (j * size)) := by
 subst hn
 obtain ⟨a2, h1, h2⟩ := sliced_drop b j (j + r) c size
 exact ⟨a2, by rw [h1, Nat.add_sub_cancel_left], h2⟩
theorem Src.pre {a : Option Addr} {xs ys : List Value} (h : Src w a (xs ++ ys)) : Src w a xs := fun i hi => by
 obtain ⟨b, off, h1, h2⟩ := h i (by rw [List.length_append]; omega)
 exact ⟨b, off, h1, by rw [h2, List.getElem_append_left hi]⟩
theorem del_split (p x d tl : List Value) : p ++ x ++ d ++ tl = p ++ (x ++ d).take d.length ++ ((x ++ d).drop d.length ++ tl) := by
 rw [List.append_assoc p x d, List.append_assoc p, List.append_assoc p, ← List.append_assoc ((x ++ d).take d.length), List.take_append_drop]
theorem del_drop {p x d tl : List Value} {n : Nat} (h : p.length + x.length = n) : (p ++ x ++ d ++ tl).drop n = d ++ tl := by
 rw [List.append_assoc, List.drop_left' (by rw [List.length_append]; exact h)]
theorem run_appendFit {el ty : TypeId} {g k cap size m sCap : Nat} {pre mid post cs : List Value} {a : Addr} (ht : P.underlying t = some (.slice el)) (hs : (P.info? el).map (·.size) = some size)
  (hb : Blk w g (pre ++ mid ++ post) e) (ho : pre.length = k * size) (hm : mid.length = cs.length) (hn : cs.length = m * size) (hsrc : Src w (some a) cs) (h1 : ∀ v ∈ cs, v.oneCell' = true) (hroom : k + m ≤ cap) :
  (Builtin.append_ #[t, t] ty #[.slice (some ⟨g, 0, none⟩) k cap, .slice (some a) m sCap]).run P w = .ok (.slice (some ⟨g, 0, none⟩) (k + m) cap) (setBlk w g (pre ++ cs ++ post)) := by
 obtain ⟨i, hi, hsz⟩ := Option.map_eq_some_iff.1 hs
 subst hsz
 have hfc := run_firstCells_some (P := P) w i.size m a m sCap cs hn (fun j v hv => by
  obtain ⟨hj, rfl⟩ := List.getElem?_eq_some_iff.1 hv
  obtain ⟨b, off, ha, hc⟩ := hsrc j hj
  simp only [Option.some.injEq] at ha
  subst ha
  rw [addr_add]; exact hc)
 have hst := run_storeCells_at P g pre.length e cs 0 _ w hb (by simp; omega) h1
 have e1 : ((pre ++ mid ++ post).take (pre.length + 0)) ++ cs ++ ((pre ++ mid ++ post).drop (pre.length + 0 + cs.length)) = pre ++ cs ++ post := by
  rw [← hm, List.append_assoc pre mid post]
  simp
 have hst' : (storeCells ⟨g, 0 + k * i.size, none⟩ cs 0).run P w = .ok () (setBlk w g (pre ++ cs ++ post)) := by
  rw [Nat.zero_add, ← ho, hst]
  simp only [setBlk]
  rw [e1]
 simp [Builtin.append_, run_underlying ht, sizeOf, typeInfo, hi, Builtin.lenOf, hroom, hfc, Addr.add_lit]
 rw [Nat.zero_add] at hst'
 simp [hst']
end
section
variable {P : Program} {ops : Array Oper} {Q : Exit → Act → World → Prop} {a : Act} {w : World} {o : Oper} {B : Base} {H : List Res} {t e u : TypeId} {x y : Operand} {size : Nat} {J : List Value → World → Prop} {vals : List Value}
theorem mem_appendFit (i : Nat) {g k cap m sCap : Nat} {pre mid post cs : List Value} {ad : Addr} (hg : Region.wanted o (yielded ops a.tmps) = true) (ho : o.op = .call { callee := .builtin .append, args := #[x, y], argTypes := #[t, t] }) (hx : a.eval x = .slice (some ⟨g, 0, none⟩) k cap) (hy : a.eval y = .slice (some ad) m sCap)
  (hu : P.underlying t = some (.slice u)) (hs : (P.info? u).map (·.size) = some size) (hv : Inv B H w) {L : List Value} (hi : H[i]? = some (Res.cell g L e)) (hL : L = pre ++ mid ++ post) (hoff : pre.length = k * size) (hm : mid.length = cs.length) (hn : cs.length = m * size) (hsrc : Src w (some ad) cs) (h1 : ∀ v ∈ cs, v.oneCell' = true) (hroom : k + m ≤ cap)
  (h : ∀ w', Inv B (H.set i (Res.cell g (pre ++ cs ++ post) e)) w' → J (vals ++ [.slice (some ⟨g, 0, none⟩) (k + m) cap]) w') : StepMem P ops J Q o a w vals := by
 subst hL
 have hr := run_appendFit (ty := o.type) (sCap := sCap) hu hs (hv.get i hi : Blk w g _ e) hoff hm hn hsrc h1 hroom
 exact Ex.mem (by unfold Ex; simp [execOp, ho, resolve, invoke, builtin, hx, hy, hr]) hg (h _ (hv.putAt i hi _))
end
end Go.Pm
/- slices.Delete of one element, of entries and of blocks. -/
namespace Go.Proofs.Ytffmbdagjpdieaa
open Go.RowKit Go.Pm
theorem s19mk92 : (Try.prog.info? 92).map (fun i => (i.zero, i.size, i.bytes)) = some (some (.agg #[.string ⟨([] : List UInt8).toArray⟩, .slice none 0 0]), 2, 40) := by kernel_rfl
theorem s19el93 : Elem Try.prog 93 92 (.agg #[.string ⟨([] : List UInt8).toArray⟩, .slice none 0 0]) 2 40 := elem_of Try.underlying93 s19mk92 (by rfl) (by decide)
set_option maxHeartbeats 4000000 in
theorem delEnt (B : Base) (H : List Res) (w : World) (b c k r : Nat) (p x d : List Value) (hp : p.length = k * 2) (hx : x.length = 2) (hd : d.length = r * 2) (n j : Nat) (hj : j = k + 1) (hn : n = j + r) (hm : n ≤ 100000000) (h1 : ∀ u ∈ d, u.oneCell' = true) (hv : Inv B (Res.row 92 2 (.slice (some ⟨b, 0, none⟩) n c) n (p ++ x ++ d) :: H) w) :
  Calls Try.prog 60 #[.slice (some ⟨b, 0, none⟩) n c, .int .i64 (k : Int), .int .i64 (j : Int)] w fun e w' => e = .returned (.slice (some ⟨b, 0, none⟩) (k + r) c) ∧ Inv B (Res.row 92 2 (.slice (some ⟨b, 0, none⟩) (k + r) c) (k + r) (p ++ d) :: H) w' := by
 obtain ⟨L, hL1, hL2, hL3, hL4, hv⟩ := hv.rowCell
 obtain ⟨tl, hLe⟩ : ∃ tl, L = p ++ x ++ d ++ tl := ⟨L.drop (n * 2), by rw [← hL2, List.take_append_drop]⟩
 subst hLe
 refine (callsIn_wide (n := 5)).1 ?_
 refine callsIn_of_wp Try.func60 rfl trivial ?_
 simp only [Try.ntmps60, List.size_toArray, List.length_cons, List.length_nil, Nat.reduceAdd, Nat.reduceSub, Array.replicate_succ, Array.replicate_zero, List.push_toArray, List.append_toArray, List.nil_append, List.cons_append]
 refine sK fun K1 hK1 => rL ?_
 refine xA (.slice none 0 0) rfl rfl rfl ?_
 refine wL ?_
 simp only [zP, zI, zS, zO]
 refine tN (hK1 _ _ ?_)
 clear hK1 K1
 refine sK fun K2 hK2 => rL ?_
 refine xM (.slice (some ⟨b, 0, none⟩) n c) rfl rfl rfl ?_
 refine xM (.int .i64 (k : Int)) rfl rfl rfl ?_
 refine xM (.int .i64 (j : Int)) rfl rfl rfl ?_
 simp only [zP, zI, zS, zO]
 refine xM (.slice (some ⟨b, 0, none⟩) n c) rfl rfl rfl ?_
 refine xG (.int .i64 (n : Int)) rfl rfl (ex_len0 Try.underlying93 rfl rfl) ?_
 refine xG (sliced (some ⟨b, 0, none⟩) k j n 2) rfl rfl (ex_slice (lo' := some (.int .i64 (k : Int))) (hi' := some (.int .i64 (j : Int))) (mx' := some (.int .i64 (n : Int))) rfl rfl (congrArg some rfl) (congrArg some rfl) (congrArg some rfl) (run_lhm3 Try.underlying93 s3es93 (by omega) (by omega) (by omega))) ?_
 refine wL ?_
 simp only [zP, zI, zS, zO]
 refine tN (hK2 _ _ ?_)
 clear hK2 K2
 refine sK fun K3 hK3 => ?_
 refine sK fun K4 hK4 => rL ?_
 refine xM (.int .i64 (k : Int)) rfl rfl rfl ?_
 refine xM (.int .i64 (j : Int)) rfl rfl rfl ?_
 refine xG (.bool false) rfl rfl (ex_eql (k := .i64) (m := (k : Int)) (n := (j : Int)) rfl rfl rfl (decide_eq_false (by omega))) ?_
 refine wL ?_
 simp only [zP, zI, zS, zO]
 refine tN (hK4 _ _ ?_)
 clear hK4 K4
 refine wpIn_cond_false rfl ?_
 refine wpIn_skip ?_
 refine tN (hK3 _ _ ?_)
 clear hK3 K3
 refine sK fun K5 hK5 => rL ?_
 refine xM (.slice (some ⟨b, 0, none⟩) n c) rfl rfl rfl ?_
 refine xG (.int .i64 (n : Int)) rfl rfl (ex_len0 Try.underlying93 rfl rfl) ?_
 refine xA (.int .i64 (n : Int)) rfl rfl rfl ?_
 refine wL ?_
 simp only [zP, zI, zS, zO]
 refine tN (hK5 _ _ ?_)
 clear hK5 K5
 refine sK fun K6 hK6 => ?_
 obtain ⟨a2, ha2, hsrc2⟩ := sliced_rest b j n r c 2 (by omega)
 refine region_st mixed [.slice (some ⟨b, 0, none⟩) n c, .int .i64 (k : Int), .slice (some ⟨b, 0, none⟩) k c, .slice (some ⟨b, 0, none⟩) n c, .int .i64 (j : Int), sliced (some ⟨b, 0, none⟩) j n c 2, undef, .slice (some ⟨b, 0, none⟩) (k + r : Nat) c] [6] [⟨fun vals w => vals = [] ∧ Inv B (Res.cell b (p ++ x ++ d ++ tl) 92 :: H) w, fun _ _ _ ⟨h, hi⟩ he => ⟨h, hi.ext he⟩⟩, ⟨fun vals w => vals = [.slice (some ⟨b, 0, none⟩) (k + r : Nat) c] ∧ Inv B (Res.cell b (p ++ d ++ ((x ++ d).drop d.length ++ tl)) 92 :: H) w, fun _ _ _ ⟨h, hi⟩ he => ⟨h, hi.ext he⟩⟩] 33 rfl (by kernel_rfl) ⟨rfl, hv⟩ ⟨?_, ?_, ?_, ?_, ?_, ?_, ?_, ?_, trivial⟩ ?_
 ·intro aa ww vals hJ hR
  exact xD rfl (ex_move rfl (show aa.eval (.tmp 0) = _ from hR.keep 0 rfl)) rfl rfl
 ·intro aa ww vals hJ hR
  exact xD rfl (ex_move rfl (show aa.eval (.tmp 1) = _ from hR.keep 1 rfl)) rfl rfl
 ·intro aa ww vals hJ hR
  exact xD rfl (ex_slice (hi' := some (.int .i64 (k : Int))) rfl (hR.w 0 20 rfl rfl rfl rfl) rfl (congrArg some (hR.w 1 21 rfl rfl rfl rfl)) rfl (run_hi Try.underlying93 s3es93 (by omega))) rfl rfl
 ·intro aa ww vals hJ hR
  exact xD rfl (ex_move rfl (show aa.eval (.tmp 0) = _ from hR.keep 0 rfl)) rfl rfl
 ·intro aa ww vals hJ hR
  exact xD rfl (ex_move rfl (show aa.eval (.tmp 2) = _ from hR.keep 2 rfl)) rfl rfl
 ·intro aa ww vals hJ hR
  exact xD rfl (ex_slice (lo' := some (.int .i64 (j : Int))) rfl (hR.w 3 23 rfl rfl rfl rfl) (congrArg some (hR.w 4 24 rfl rfl rfl rfl)) rfl rfl (run_fromAny Try.underlying93 s3es93 (by omega))) rfl rfl
 ·intro aa ww vals hJ hR
  refine mem_step' rfl fun hvl => ?_
  have hl : vals.length = 0 := hvl
  obtain ⟨hvals, hv⟩ := hJ.at0 hl
  refine mem_appendFit 0 (pre := p) (mid := (x ++ d).take d.length) (post := (x ++ d).drop d.length ++ tl) (cs := d) (ad := a2) (m := r) (wn rfl) rfl (hR.w 2 22 rfl rfl rfl rfl) (Eq.trans (hR.w 5 25 rfl rfl rfl rfl) ha2) Try.underlying93 s4sz92 hv rfl (del_split p x d tl) hp (by rw [List.length_take, List.length_append]; omega) hd (by have h9 := hsrc2 _ _ (rd_all (hv.get 0 rfl)) (by rw [hL1]; exact Nat.le_refl _); rw [del_drop (by rw [hp, hx]; omega)] at h9; exact h9.pre) h1 (by omega) (fun w7 hv => ?_)
  exact JS.next hl ⟨by rw [hvals]; rfl, hv⟩
 ·intro aa ww vals hJ hR
  have h1 : 0 < vals.length := hR.lo 6 (by simp) rfl
  have hl : vals.length = 1 := by have := JS.le (n := 1) (by rfl) hJ; omega
  obtain ⟨hvals, hv⟩ := hJ.at0 hl
  exact xD rfl (ex_assign rfl (show aa.eval (.tmp 26) = _ from (hR.val 6 26 rfl rfl rfl).trans (by rw [hvals] <;> rfl))) rfl rfl
 rintro w8 vals ⟨rfl, hv⟩
 rw [show mixV [6] [.slice (some ⟨b, 0, none⟩) (k + r : Nat) c] 0 [.slice (some ⟨b, 0, none⟩) n c, .int .i64 (k : Int), .slice (some ⟨b, 0, none⟩) k c, .slice (some ⟨b, 0, none⟩) n c, .int .i64 (j : Int), sliced (some ⟨b, 0, none⟩) j n c 2, undef, .slice (some ⟨b, 0, none⟩) (k + r : Nat) c] = [.slice (some ⟨b, 0, none⟩) n c, .int .i64 (k : Int), .slice (some ⟨b, 0, none⟩) k c, .slice (some ⟨b, 0, none⟩) n c, .int .i64 (j : Int), sliced (some ⟨b, 0, none⟩) j n c 2, .slice (some ⟨b, 0, none⟩) (k + r : Nat) c, .slice (some ⟨b, 0, none⟩) (k + r : Nat) c] from rfl]
 simp only [putAll, zP, zI, zS, zO]
 refine tN (hK6 _ _ ?_)
 clear hK6 K6
 refine sK fun K9 hK9 => rL ?_
 refine xM (.slice (some ⟨b, 0, none⟩) (k + r : Nat) c) rfl rfl rfl ?_
 refine xM (.slice (some ⟨b, 0, none⟩) (k + r : Nat) c) rfl rfl rfl ?_
 refine xG (.int .i64 ((k + r : Nat) : Int)) rfl rfl (ex_len0 Try.underlying93 rfl rfl) ?_
 simp only [zP, zI, zS, zO]
 refine xM (.int .i64 (n : Int)) rfl rfl rfl ?_
 refine xG (.slice (some ⟨b, 0 + (k + r : Nat) * 2, none⟩) (n - (k + r : Nat)) (c - (k + r : Nat))) rfl rfl (ex_slice (lo' := some (.int .i64 ((k + r : Nat) : Int))) (hi' := some (.int .i64 (n : Int))) rfl rfl (congrArg some rfl) (congrArg some rfl) rfl (run_lohi (size := 2) Try.underlying93 s3es93 (by omega) (by omega) (by omega))) ?_
 refine sl_clearAt 0 (pre := p ++ d) (mid := (x ++ d).drop d.length) (post := tl) (m := n - (k + r)) tV (wn rfl) rfl rfl s19el93 (one_cons rfl (one_cons rfl one_nil)) hv rfl (by simp only [List.append_assoc]) (by rw [List.length_append, hp, hd]; omega) (by rw [List.length_drop, List.length_append, hx]; omega) (fun zs w10 hzs hv => ?_)
 simp only [List.set_cons_zero] at hv
 refine wL ?_
 simp only [zP, zN, zI, zS, zO]
 refine tN (hK9 _ _ ?_)
 clear hK9 K9
 refine sK fun K11 hK11 => rL ?_
 refine xM (.slice (some ⟨b, 0, none⟩) (k + r : Nat) c) rfl rfl rfl ?_
 refine xA (.slice (some ⟨b, 0, none⟩) (k + r : Nat) c) rfl rfl rfl ?_
 refine wL ?_
 simp only [zP, zI, zS, zO]
 refine tN (hK11 _ _ ?_)
 clear hK11 K11
 refine wpIn_ret ?_
 refine bR rfl rfl ?_
 have h8 := hv.cellRow (n := k + r) (c := c) (size := 2) (by simp only [List.length_append, List.length_drop, hp, hd, hx] at hL1 hzs ⊢; omega) (by omega) hL4
 rw [List.append_assoc (p ++ d), List.take_left' (by rw [List.length_append, hp, hd]; omega)] at h8
 exact ⟨rfl, h8⟩
theorem s19mk93 : (Try.prog.info? 93).map (fun i => (i.zero, i.size, i.bytes)) = some (some (.slice none 0 0), 1, 24) := by kernel_rfl
theorem s19el79 : Elem Try.prog 79 93 (.slice none 0 0) 1 24 := elem_of Try.underlying79 s19mk93 (by rfl) (by decide)
set_option maxHeartbeats 4000000 in
theorem delBlk (B : Base) (H : List Res) (w : World) (b c k r : Nat) (p x d : List Value) (hp : p.length = k * 1) (hx : x.length = 1) (hd : d.length = r * 1) (n j : Nat) (hj : j = k + 1) (hn : n = j + r) (hm : n ≤ 100000000) (h1 : ∀ u ∈ d, u.oneCell' = true) (hv : Inv B (Res.row 93 1 (.slice (some ⟨b, 0, none⟩) n c) n (p ++ x ++ d) :: H) w) :
  Calls Try.prog 61 #[.slice (some ⟨b, 0, none⟩) n c, .int .i64 (k : Int), .int .i64 (j : Int)] w fun e w' => e = .returned (.slice (some ⟨b, 0, none⟩) (k + r) c) ∧ Inv B (Res.row 93 1 (.slice (some ⟨b, 0, none⟩) (k + r) c) (k + r) (p ++ d) :: H) w' := by
 obtain ⟨L, hL1, hL2, hL3, hL4, hv⟩ := hv.rowCell
 obtain ⟨tl, hLe⟩ : ∃ tl, L = p ++ x ++ d ++ tl := ⟨L.drop (n * 1), by rw [← hL2, List.take_append_drop]⟩
 subst hLe
 refine (callsIn_wide (n := 5)).1 ?_
 refine callsIn_of_wp Try.func61 rfl trivial ?_
 simp only [Try.ntmps61, List.size_toArray, List.length_cons, List.length_nil, Nat.reduceAdd, Nat.reduceSub, Array.replicate_succ, Array.replicate_zero, List.push_toArray, List.append_toArray, List.nil_append, List.cons_append]
 refine sK fun K1 hK1 => rL ?_
 refine xA (.slice none 0 0) rfl rfl rfl ?_
 refine wL ?_
 simp only [zP, zI, zS, zO]
 refine tN (hK1 _ _ ?_)
 clear hK1 K1
 refine sK fun K2 hK2 => rL ?_
 refine xM (.slice (some ⟨b, 0, none⟩) n c) rfl rfl rfl ?_
 refine xM (.int .i64 (k : Int)) rfl rfl rfl ?_
 refine xM (.int .i64 (j : Int)) rfl rfl rfl ?_
 simp only [zP, zI, zS, zO]
 refine xM (.slice (some ⟨b, 0, none⟩) n c) rfl rfl rfl ?_
 refine xG (.int .i64 (n : Int)) rfl rfl (ex_len0 Try.underlying79 rfl rfl) ?_
 refine xG (sliced (some ⟨b, 0, none⟩) k j n 1) rfl rfl (ex_slice (lo' := some (.int .i64 (k : Int))) (hi' := some (.int .i64 (j : Int))) (mx' := some (.int .i64 (n : Int))) rfl rfl (congrArg some rfl) (congrArg some rfl) (congrArg some rfl) (run_lhm3 Try.underlying79 s3es79 (by omega) (by omega) (by omega))) ?_
 refine wL ?_
 simp only [zP, zI, zS, zO]
 refine tN (hK2 _ _ ?_)
 clear hK2 K2
 refine sK fun K3 hK3 => ?_
 refine sK fun K4 hK4 => rL ?_
 refine xM (.int .i64 (k : Int)) rfl rfl rfl ?_
 refine xM (.int .i64 (j : Int)) rfl rfl rfl ?_
 refine xG (.bool false) rfl rfl (ex_eql (k := .i64) (m := (k : Int)) (n := (j : Int)) rfl rfl rfl (decide_eq_false (by omega))) ?_
 refine wL ?_
 simp only [zP, zI, zS, zO]
 refine tN (hK4 _ _ ?_)
 clear hK4 K4
 refine wpIn_cond_false rfl ?_
 refine wpIn_skip ?_
 refine tN (hK3 _ _ ?_)
 clear hK3 K3
 refine sK fun K5 hK5 => rL ?_
 refine xM (.slice (some ⟨b, 0, none⟩) n c) rfl rfl rfl ?_
 refine xG (.int .i64 (n : Int)) rfl rfl (ex_len0 Try.underlying79 rfl rfl) ?_
 refine xA (.int .i64 (n : Int)) rfl rfl rfl ?_
 refine wL ?_
 simp only [zP, zI, zS, zO]
 refine tN (hK5 _ _ ?_)
 clear hK5 K5
 refine sK fun K6 hK6 => ?_
 obtain ⟨a2, ha2, hsrc2⟩ := sliced_rest b j n r c 1 (by omega)
 refine region_st mixed [.slice (some ⟨b, 0, none⟩) n c, .int .i64 (k : Int), .slice (some ⟨b, 0, none⟩) k c, .slice (some ⟨b, 0, none⟩) n c, .int .i64 (j : Int), sliced (some ⟨b, 0, none⟩) j n c 1, undef, .slice (some ⟨b, 0, none⟩) (k + r : Nat) c] [6] [⟨fun vals w => vals = [] ∧ Inv B (Res.cell b (p ++ x ++ d ++ tl) 93 :: H) w, fun _ _ _ ⟨h, hi⟩ he => ⟨h, hi.ext he⟩⟩, ⟨fun vals w => vals = [.slice (some ⟨b, 0, none⟩) (k + r : Nat) c] ∧ Inv B (Res.cell b (p ++ d ++ ((x ++ d).drop d.length ++ tl)) 93 :: H) w, fun _ _ _ ⟨h, hi⟩ he => ⟨h, hi.ext he⟩⟩] 33 rfl (by kernel_rfl) ⟨rfl, hv⟩ ⟨?_, ?_, ?_, ?_, ?_, ?_, ?_, ?_, trivial⟩ ?_
 ·intro aa ww vals hJ hR
  exact xD rfl (ex_move rfl (show aa.eval (.tmp 0) = _ from hR.keep 0 rfl)) rfl rfl
 ·intro aa ww vals hJ hR
  exact xD rfl (ex_move rfl (show aa.eval (.tmp 1) = _ from hR.keep 1 rfl)) rfl rfl
 ·intro aa ww vals hJ hR
  exact xD rfl (ex_slice (hi' := some (.int .i64 (k : Int))) rfl (hR.w 0 20 rfl rfl rfl rfl) rfl (congrArg some (hR.w 1 21 rfl rfl rfl rfl)) rfl (run_hi Try.underlying79 s3es79 (by omega))) rfl rfl
 ·intro aa ww vals hJ hR
  exact xD rfl (ex_move rfl (show aa.eval (.tmp 0) = _ from hR.keep 0 rfl)) rfl rfl
 ·intro aa ww vals hJ hR
  exact xD rfl (ex_move rfl (show aa.eval (.tmp 2) = _ from hR.keep 2 rfl)) rfl rfl
 ·intro aa ww vals hJ hR
  exact xD rfl (ex_slice (lo' := some (.int .i64 (j : Int))) rfl (hR.w 3 23 rfl rfl rfl rfl) (congrArg some (hR.w 4 24 rfl rfl rfl rfl)) rfl rfl (run_fromAny Try.underlying79 s3es79 (by omega))) rfl rfl
 ·intro aa ww vals hJ hR
  refine mem_step' rfl fun hvl => ?_
  have hl : vals.length = 0 := hvl
  obtain ⟨hvals, hv⟩ := hJ.at0 hl
  refine mem_appendFit 0 (pre := p) (mid := (x ++ d).take d.length) (post := (x ++ d).drop d.length ++ tl) (cs := d) (ad := a2) (m := r) (wn rfl) rfl (hR.w 2 22 rfl rfl rfl rfl) (Eq.trans (hR.w 5 25 rfl rfl rfl rfl) ha2) Try.underlying79 s3sz93 hv rfl (del_split p x d tl) hp (by rw [List.length_take, List.length_append]; omega) hd (by have h9 := hsrc2 _ _ (rd_all (hv.get 0 rfl)) (by rw [hL1]; exact Nat.le_refl _); rw [del_drop (by rw [hp, hx]; omega)] at h9; exact h9.pre) h1 (by omega) (fun w7 hv => ?_)
  exact JS.next hl ⟨by rw [hvals]; rfl, hv⟩
 ·intro aa ww vals hJ hR
  have h1 : 0 < vals.length := hR.lo 6 (by simp) rfl
  have hl : vals.length = 1 := by have := JS.le (n := 1) (by rfl) hJ; omega
  obtain ⟨hvals, hv⟩ := hJ.at0 hl
  exact xD rfl (ex_assign rfl (show aa.eval (.tmp 26) = _ from (hR.val 6 26 rfl rfl rfl).trans (by rw [hvals] <;> rfl))) rfl rfl
 rintro w8 vals ⟨rfl, hv⟩
 rw [show mixV [6] [.slice (some ⟨b, 0, none⟩) (k + r : Nat) c] 0 [.slice (some ⟨b, 0, none⟩) n c, .int .i64 (k : Int), .slice (some ⟨b, 0, none⟩) k c, .slice (some ⟨b, 0, none⟩) n c, .int .i64 (j : Int), sliced (some ⟨b, 0, none⟩) j n c 1, undef, .slice (some ⟨b, 0, none⟩) (k + r : Nat) c] = [.slice (some ⟨b, 0, none⟩) n c, .int .i64 (k : Int), .slice (some ⟨b, 0, none⟩) k c, .slice (some ⟨b, 0, none⟩) n c, .int .i64 (j : Int), sliced (some ⟨b, 0, none⟩) j n c 1, .slice (some ⟨b, 0, none⟩) (k + r : Nat) c, .slice (some ⟨b, 0, none⟩) (k + r : Nat) c] from rfl]
 simp only [putAll, zP, zI, zS, zO]
 refine tN (hK6 _ _ ?_)
 clear hK6 K6
 refine sK fun K9 hK9 => rL ?_
 refine xM (.slice (some ⟨b, 0, none⟩) (k + r : Nat) c) rfl rfl rfl ?_
 refine xM (.slice (some ⟨b, 0, none⟩) (k + r : Nat) c) rfl rfl rfl ?_
 refine xG (.int .i64 ((k + r : Nat) : Int)) rfl rfl (ex_len0 Try.underlying79 rfl rfl) ?_
 simp only [zP, zI, zS, zO]
 refine xM (.int .i64 (n : Int)) rfl rfl rfl ?_
 refine xG (.slice (some ⟨b, 0 + (k + r : Nat), none⟩) (n - (k + r : Nat)) (c - (k + r : Nat))) rfl rfl (ex_slice (lo' := some (.int .i64 ((k + r : Nat) : Int))) (hi' := some (.int .i64 (n : Int))) rfl rfl (congrArg some rfl) (congrArg some rfl) rfl (run_lohi1 Try.underlying79 s3es79 (by omega) (by omega) (by omega))) ?_
 refine sl_clearAt 0 (pre := p ++ d) (mid := (x ++ d).drop d.length) (post := tl) (m := n - (k + r)) tV (wn rfl) rfl rfl s19el79 (one_cons rfl one_nil) hv rfl (by simp only [List.append_assoc]) (by rw [List.length_append, hp, hd]; omega) (by rw [List.length_drop, List.length_append, hx]; omega) (fun zs w10 hzs hv => ?_)
 simp only [List.set_cons_zero] at hv
 refine wL ?_
 simp only [zP, zN, zI, zS, zO]
 refine tN (hK9 _ _ ?_)
 clear hK9 K9
 refine sK fun K11 hK11 => rL ?_
 refine xM (.slice (some ⟨b, 0, none⟩) (k + r : Nat) c) rfl rfl rfl ?_
 refine xA (.slice (some ⟨b, 0, none⟩) (k + r : Nat) c) rfl rfl rfl ?_
 refine wL ?_
 simp only [zP, zI, zS, zO]
 refine tN (hK11 _ _ ?_)
 clear hK11 K11
 refine wpIn_ret ?_
 refine bR rfl rfl ?_
 have h8 := hv.cellRow (n := k + r) (c := c) (size := 1) (by simp only [List.length_append, List.length_drop, hp, hd, hx] at hL1 hzs ⊢; omega) (by omega) hL4
 rw [List.append_assoc (p ++ d), List.take_left' (by rw [List.length_append, hp, hd]; omega)] at h8
 exact ⟨rfl, h8⟩
end Go.Proofs.Ytffmbdagjpdieaa
/- The index's model, a key taken out; a model is what its keys have. -/
namespace Go.Pm
open Go.RowKit
section
variable {B : Base} {X X' : List (List Ent)} {M : Model} {key : List UInt8} {i j : Nat}
theorem flat_rem1 {es : List Ent} (hes : X[i]? = some es) (hj : j < es.length) : (X.set i (es.take j ++ es.drop (j + 1))).flatten = X.flatten.take (posOf X i j) ++ X.flatten.drop (posOf X i j + 1) := by
 rw [flatten_set hes]
 have ht : X.flatten.take (posOf X i j) = (X.take i).flatten ++ es.take j := by
  rw [posOf, flatten_at hes, List.take_append, List.take_of_length_le (by omega), Nat.add_sub_cancel_left, List.take_append_of_le_length (by omega)]
 have hd : X.flatten.drop (posOf X i j + 1) = es.drop (j + 1) ++ (X.drop (i + 1)).flatten := by
  rw [posOf, flatten_at hes, Nat.add_assoc, List.drop_append, List.drop_of_length_le (by omega), Nat.add_sub_cancel_left, List.nil_append, List.drop_append_of_le_length (by omega)]
 rw [ht, hd]
 simp only [List.append_assoc]
theorem flat_rem2 {es : List Ent} (hes : X[i]? = some es) (hl : es.length = 1) : (X.take i ++ X.drop (i + 1)).flatten = X.flatten.take (posOf X i 0) ++ X.flatten.drop (posOf X i 0 + 1) := by
 have h := flat_rem1 hes (j := 0) (by omega)
 have hd : es.drop (0 + 1) = [] := List.drop_of_length_le (by omega)
 rw [← h, flatten_set hes, List.take_zero, List.nil_append, hd, List.nil_append, List.flatten_append]
def remM (M : Model) (k : Nat) : Model := M.take k ++ M.drop (k + 1)
theorem ixm_remove (h : IxM B X M) (hfi : FindI X key i j true) (hfl : X'.flatten = X.flatten.take (posOf X i j) ++ X.flatten.drop (posOf X i j + 1)) (hne : ∀ es ∈ X', es ≠ []) :
  IxM B X' (remM M (posOf X i j)) ∧ (∀ k, getM (remM M (posOf X i j)) k = if k = key then [] else getM M k) ∧ (remM M (posOf X i j)).length + 1 = M.length := by
 have hp := hfi.pos h.so
 obtain ⟨e, m, h1, h2, h3, h4, h5, h6⟩ := hp.some h.mo
 have hk : posOf X i j < M.length := (List.getElem?_eq_some_iff.1 h2).1
 have hlen : (remM M (posOf X i j)).length + 1 = M.length := by
  unfold remM
  simp only [List.length_append, List.length_take, List.length_drop]
  omega
 have hs := h.so
 unfold IxSorted at hs
 have hgt := (pw_take_lt hs h1).2
 have hmem : ∀ m ∈ remM M (posOf X i j), m ∈ M := fun m hm => by
  unfold remM at hm
  rcases List.mem_append.1 hm with h7 | h7
  ·exact List.mem_of_mem_take h7
  exact List.mem_of_mem_drop h7
 refine ⟨⟨hne, ?_, ?_, fun m hm => h.ch m (hmem m hm), by have := h.sm; omega⟩, fun k => ?_, hlen⟩
 ·unfold IxSorted
  rw [hfl]
  have hs2 := hs
  rw [split_at h1, List.pairwise_append] at hs2
  rw [List.pairwise_append]
  exact ⟨hs2.1, (List.pairwise_cons.1 hs2.2.1).2, fun a ha b hb => hs2.2.2 a ha b (List.mem_cons_of_mem _ hb)⟩
 ·rw [hfl]
  exact Mods.append (h.mo.drop _) (h.mo.take _)
 unfold remM
 by_cases hkk : k = key
 ·subst hkk
  rw [if_pos rfl, getM_split (hp.takeNe h.mo)]
  refine getM_none fun m hm => ?_
  obtain ⟨f, hf, hfk⟩ := (h.mo.drop _).keys hm
  have := hgt f hf
  rw [h3] at this
  rw [← hfk]
  exact fun e => lt_ne this e.symm
 rw [if_neg hkk]
 have hM := split_at h2
 have app : ∀ (a x y : Model), getM x k = getM y k → getM (a ++ x) k = getM (a ++ y) k := fun a x y hxy => by
  unfold getM at hxy ⊢
  rw [List.find?_append, List.find?_append]
  cases a.find? fun m => m.1 == k with
  | some z => rfl
  | none => exact hxy
 conv => rhs; rw [hM]
 refine app _ _ _ ?_
 rw [show m = (key, m.2) by rw [← h4], getM_cons_ne (fun e => hkk e.symm)]
end
theorem set_split {α : Type} {l : List α} {i : Nat} (hi : i < l.length) (x : α) : l.set i x = l.take i ++ [x] ++ l.drop (i + 1) := by
 rw [List.set_eq_take_append_cons_drop, if_pos hi, List.append_assoc]; rfl
section
variable {ti tb te : TypeId} {p : Nat} {n : Int} {X : List (List Ent)} {bvs : List Value} {B : Base} {H : List Res} {w : World}
theorem Inv.ixClose0 {i : Nat} {v' : Value} (hlen : bvs.length = X.length) (hi : i < X.length)
  (hv : Inv B (Res.cell p [v', .int .i64 n] ti :: Res.row tb 1 v' (X.length - 1) (bvs.take i ++ bvs.drop (i + 1)) :: (blkRes te (bvs.take i) (X.take i) ++ (blkRes te (bvs.drop (i + 1)) (X.drop (i + 1)) ++ H))) w) : Inv B (ixS ti tb te p v' n (X.take i ++ X.drop (i + 1)) (bvs.take i ++ bvs.drop (i + 1)) :: H) w := by
 refine Inv.star ?_
 rw [blkRes_append te (bvs.take i) (X.take i) _ _ (by rw [List.length_take, List.length_take, hlen])]
 have hl : (X.take i ++ X.drop (i + 1)).length = X.length - 1 := by simp only [List.length_append, List.length_take, List.length_drop]; omega
 rw [hl]
 simpa only [List.append_assoc, List.cons_append, List.nil_append] using hv
end
theorem sorted_ext : ∀ {l1 l2 : List (List UInt8)}, l1.Pairwise (fun a b => Op.bytesLess a b = true) → l2.Pairwise (fun a b => Op.bytesLess a b = true) → (∀ k, k ∈ l1 ↔ k ∈ l2) → l1 = l2
 | [], [], _, _, _ => rfl
 | [], b :: l2, _, _, h => by have := (h b).2 List.mem_cons_self; cases this
 | a :: l1, [], _, _, h => by have := (h a).1 List.mem_cons_self; cases this
 | a :: l1, b :: l2, h1, h2, h => by
  obtain ⟨h1a, h1b⟩ := List.pairwise_cons.1 h1
  obtain ⟨h2a, h2b⟩ := List.pairwise_cons.1 h2
  have e : a = b := by
   rcases List.mem_cons.1 ((h a).1 List.mem_cons_self) with h3 | h3
   ·exact h3
   rcases List.mem_cons.1 ((h b).2 List.mem_cons_self) with h4 | h4
   ·exact h4.symm
   have h5 := h2a a h3
   rw [lt_asymm (h1a b h4)] at h5
   cases h5
  subst e
  rw [sorted_ext h1b h2b (fun k => ?_)]
  constructor
  ·intro hk
   rcases List.mem_cons.1 ((h k).1 (List.mem_cons_of_mem _ hk)) with h3 | h3
   ·exact absurd h3.symm (lt_ne (h1a k hk))
   exact h3
  intro hk
  rcases List.mem_cons.1 ((h k).2 (List.mem_cons_of_mem _ hk)) with h3 | h3
  ·exact absurd h3.symm (lt_ne (h2a k hk))
  exact h3
abbrev keysM (M : Model) : List (List UInt8) := M.map (·.1)
def SortedT (l : List (List UInt8)) : Prop := l.Pairwise (fun a b => Op.bytesLess a b = true)
theorem Mods.keysEq {B : Base} : ∀ {l : List Ent} {M : Model}, Mods B l M → l.map (·.1) = keysM M
 | [], [], _ => rfl
 | e :: l, m :: M, h => by rw [List.map_cons, keysM, List.map_cons, h.1.1, Mods.keysEq h.2]
 | [], _ :: _, h => h.elim
 | _ :: _, [], h => h.elim
theorem IxM.sorted {B : Base} {X : List (List Ent)} {M : Model} (h : IxM B X M) : SortedT (keysM M) := by
 unfold SortedT
 rw [← h.mo.keysEq, List.pairwise_map]
 exact h.so
theorem getM_at {M : Model} (hs : SortedT (keysM M)) {m : List UInt8 × List Ver} (hm : m ∈ M) : getM M m.1 = m.2 := by
 obtain ⟨k, hk⟩ := List.mem_iff_getElem?.1 hm
 have hM := split_at hk
 unfold SortedT keysM at hs
 rw [hM] at hs ⊢
 rw [List.map_append, List.map_cons, List.pairwise_append] at hs
 rw [getM_split (fun q hq => lt_ne (hs.2.2 q.1 (List.mem_map.2 ⟨q, hq, rfl⟩) m.1 List.mem_cons_self))]
 exact getM_cons_self
theorem keysM_mem {B : Base} {X : List (List Ent)} {M : Model} (h : IxM B X M) (k : List UInt8) : k ∈ keysM M ↔ getM M k ≠ [] := by
 constructor
 ·intro hk
  obtain ⟨m, hm, rfl⟩ := List.mem_map.1 hk
  rw [getM_at h.sorted hm]
  exact (h.ch m hm).1
 intro hk
 exact List.mem_map.2 ⟨_, getM_mem hk, rfl⟩
theorem model_ext : ∀ {M M' : Model}, keysM M = keysM M' → SortedT (keysM M) → SortedT (keysM M') → (∀ k, getM M k = getM M' k) → M = M' := by
 intro M M' hk hs hs' h
 refine List.ext_getElem? fun n => ?_
 have hl : M.length = M'.length := by have := congrArg List.length hk; simpa using this
 rcases Nat.lt_or_ge n M.length with hn | hn
 ·obtain ⟨m, hm⟩ : ∃ m, M[n]? = some m := ⟨_, List.getElem?_eq_getElem hn⟩
  obtain ⟨m', hm'⟩ : ∃ m', M'[n]? = some m' := ⟨_, List.getElem?_eq_getElem (by omega)⟩
  have h1 : m.1 = m'.1 := by
   have := congrArg (fun l => l[n]?) hk
   simp only [keysM, List.getElem?_map, hm, hm', Option.map_some, Option.some.injEq] at this
   exact this
  have h2 := getM_at hs (List.mem_of_getElem? hm)
  have h3 := getM_at hs' (List.mem_of_getElem? hm')
  rw [hm, hm', ← Prod.eta m, ← Prod.eta m', ← h2, ← h3, h1, h]
 rw [List.getElem?_eq_none hn, List.getElem?_eq_none (by omega)]
theorem IxM.eq {B C : Base} {X Y : List (List Ent)} {M M' : Model} (h : IxM B X M) (h' : IxM C Y M') (hg : ∀ k, getM M k = getM M' k) : M = M' :=
 model_ext (sorted_ext h.sorted h'.sorted (fun k => by rw [keysM_mem h, keysM_mem h', hg])) h.sorted h'.sorted hg
end Go.Pm
/- index.remove; index.Set of an empty chain. -/
namespace Go.Proofs.Ytffmbdagjpdieaa
open Go.RowKit Go.Pm
theorem s20callable60 : Callable Try.prog 60 := ⟨_, Try.func60, by kernel_rfl, by kernel_rfl⟩
theorem s20callable61 : Callable Try.prog 61 := ⟨_, Try.func61, by kernel_rfl, by kernel_rfl⟩
set_option maxHeartbeats 4000000 in
theorem ixRemove0 (B : Base) (H : List Res) (w : World) (p0 a N ca b m c i j r : Nat) (n : Int) (bvs p x d : List Value) (hN : N ≤ 1000000) (hi : i < N) (hm0 : m = j + 1 + r) (hm : m ≤ 1000000) (hn : 1 ≤ n ∧ n ≤ 1000000) (hp : p.length = j * 2) (hx : x.length = 2) (hd : d.length = r * 2) (h1d : ∀ u ∈ d, u.oneCell' = true) (h1b : ∀ u ∈ bvs, u.oneCell' = true) (hbl : bvs.length = N) (hbi : bvs[i]? = some (.slice (some ⟨b, 0, none⟩) m c)) (hv : Inv B (Res.row 92 2 (.slice (some ⟨b, 0, none⟩) m c) m (p ++ x ++ d) :: Res.cell p0 [.slice (some ⟨a, 0, none⟩) N ca, .int .i64 n] 81 :: Res.row 93 1 (.slice (some ⟨a, 0, none⟩) N ca) N bvs :: H) w) :
  Calls Try.prog 45 #[.pointer (some ⟨p0, 0, none⟩), .int .i64 (i : Int), .int .i64 (j : Int)] w fun e w' => e = .returned (.tuple #[]) ∧ ((j + r ≠ 0 ∧ Inv B (Res.row 92 2 (.slice (some ⟨b, 0, none⟩) (j + r) c) (j + r) (p ++ d) :: Res.cell p0 [.slice (some ⟨a, 0, none⟩) N ca, .int .i64 (n - 1)] 81 :: Res.row 93 1 (.slice (some ⟨a, 0, none⟩) N ca) N (bvs.set i (.slice (some ⟨b, 0, none⟩) (j + r) c)) :: H) w') ∨ (j + r = 0 ∧ Inv B (Res.cell p0 [.slice (some ⟨a, 0, none⟩) (N - 1) ca, .int .i64 (n - 1)] 81 :: Res.row 93 1 (.slice (some ⟨a, 0, none⟩) (N - 1) ca) (N - 1) (bvs.take i ++ bvs.drop (i + 1)) :: H) w')) := by
 refine (callsIn_wide (n := 5)).1 ?_
 refine callsIn_of_wp Try.func45 rfl trivial ?_
 simp only [Try.ntmps45, List.size_toArray, List.length_cons, List.length_nil, Nat.reduceAdd, Nat.reduceSub, Array.replicate_succ, Array.replicate_zero, List.push_toArray, List.append_toArray, List.nil_append, List.cons_append]
 refine sK fun K1 hK1 => rL ?_
 refine xM (.pointer (some ⟨p0, 0, none⟩)) rfl rfl rfl ?_
 refine xG (.pointer (some ⟨p0, 0, none⟩)) rfl rfl (ex_nil rfl rfl) ?_
 refine xF (.pointer (some ⟨p0, 1, none⟩)) rfl rfl rfl (s3fa81_1 _ _ _) ?_
 simp only [zP, zI, zS, zO]
 refine xL (.int .i64 n) rfl rfl rfl (run_load1 s2na3 (hv.load 1 1 rfl rfl)) ?_
 refine xG (.int .i64 (n - 1)) rfl rfl (ex_sub (m := n) (n := 1) rfl rfl rfl (i64_in (by omega))) ?_
 refine xG (.pointer (some ⟨p0, 0, none⟩)) rfl rfl (ex_nil rfl rfl) ?_
 simp only [zP, zI, zS, zO]
 refine xF (.pointer (some ⟨p0, 1, none⟩)) rfl rfl rfl (s3fa81_1 _ _ _) ?_
 refine sl_storeAt 1 (v := .int .i64 (n - 1)) (L' := [.slice (some ⟨a, 0, none⟩) N ca, .int .i64 (n - 1)]) tV (wn rfl) rfl rfl rfl hv rfl s5sz3 (by simp) rfl rfl rfl (fun w2 hv => ?_)
 simp only [List.set_cons_succ, List.set_cons_zero] at hv
 refine wL ?_
 simp only [zP, zN, zI, zS, zO]
 refine tN (hK1 _ _ ?_)
 clear hK1 K1
 refine sK fun K3 hK3 => rL ?_
 refine xM (.pointer (some ⟨p0, 0, none⟩)) rfl rfl rfl ?_
 refine xG (.pointer (some ⟨p0, 0, none⟩)) rfl rfl (ex_nil rfl rfl) ?_
 refine xF (.pointer (some ⟨p0, 0, none⟩)) rfl rfl rfl (s3fa81_0 _ _ _) ?_
 simp only [zP, zI, zS, zO]
 refine xL (.slice (some ⟨a, 0, none⟩) N ca) rfl rfl rfl (run_load1 s3na79 (hv.load 1 0 rfl rfl)) ?_
 refine xM (.int .i64 (i : Int)) rfl rfl rfl ?_
 refine xG (.pointer (some ⟨a, 0 + i, none⟩)) rfl rfl (ex_index rfl rfl rfl (run_idx1 (k := i) Try.underlying79 s3es79 (by omega))) ?_
 simp only [zP, zI, zS, zO]
 refine xL (.slice (some ⟨b, 0, none⟩) m c) rfl rfl rfl (run_load1 s3na93 (row_load (hv.get 2 rfl) hbi)) ?_
 refine xM (.int .i64 (j : Int)) rfl rfl rfl ?_
 refine xM (.int .i64 (j : Int)) rfl rfl rfl ?_
 simp only [zP, zI, zS, zO]
 refine xG (.int .i64 ((j + 1 : Nat) : Int)) rfl rfl (ex_add (m := (j : Int)) (n := 1) rfl rfl rfl (by rw [i64_in (by omega)]; omega)) ?_
 refine xC s20callable60 rfl rfl (l := [.slice (some ⟨b, 0, none⟩) m c, .int .i64 (j : Int), .int .i64 ((j + 1 : Nat) : Int)]) rfl ((delEnt B _ _ b c j r p x d hp hx hd m (j + 1) rfl hm0 (by omega) h1d hv).mono ?_)
 rintro e w4 ⟨rfl, hv⟩
 refine ⟨_, rfl, ?_⟩
 refine xA (.slice (some ⟨b, 0, none⟩) (j + r) c) rfl rfl rfl ?_
 refine wL ?_
 simp only [zP, zI, zS, zO]
 refine tN (hK3 _ _ ?_)
 clear hK3 K3
 refine sK fun K5 hK5 => rL ?_
 refine xM (.pointer (some ⟨p0, 0, none⟩)) rfl rfl rfl ?_
 refine xG (.pointer (some ⟨p0, 0, none⟩)) rfl rfl (ex_nil rfl rfl) ?_
 refine xF (.pointer (some ⟨p0, 0, none⟩)) rfl rfl rfl (s3fa81_0 _ _ _) ?_
 simp only [zP, zI, zS, zO]
 refine xL (.slice (some ⟨a, 0, none⟩) N ca) rfl rfl rfl (run_load1 s3na79 (hv.load 1 0 rfl rfl)) ?_
 refine xM (.int .i64 (i : Int)) rfl rfl rfl ?_
 refine xM (.slice (some ⟨b, 0, none⟩) (j + r) c) rfl rfl rfl ?_
 simp only [zP, zI, zS, zO]
 refine xG (.pointer (some ⟨a, 0 + i, none⟩)) rfl rfl (ex_index rfl rfl rfl (run_idx1 (k := i) Try.underlying79 s3es79 (by omega))) ?_
 replace hv := hv.front 2 rfl
 simp only [List.eraseIdx_cons_succ, List.eraseIdx_cons_zero] at hv
 refine sl_storeRow (v := .slice (some ⟨b, 0, none⟩) (j + r) c) tV (wn rfl) rfl rfl rfl hv s3sz93 (by rw [hbl]; omega) rfl rfl (fun w6 hv => ?_)
 rw [Nat.zero_add] at hv
 refine wL ?_
 simp only [zP, zN, zI, zS, zO]
 refine tN (hK5 _ _ ?_)
 clear hK5 K5
 refine sK fun K7 hK7 => rL ?_
 refine xM (.slice (some ⟨b, 0, none⟩) (j + r) c) rfl rfl rfl ?_
 refine xG (.int .i64 ((j + r) : Int)) rfl rfl (ex_len0 Try.underlying93 rfl rfl) ?_
 by_cases hb8 : ((j + r) : Int) = 0
 ·refine xG (.bool true) rfl rfl (ex_eql (k := .i64) (m := ((j + r) : Int)) (n := 0) rfl rfl rfl (decide_eq_true hb8)) ?_
  refine wL ?_
  simp only [zP, zI, zS, zO]
  refine tN (hK7 _ _ ?_)
  clear hK7 K7
  refine wpIn_cond_true rfl ?_
  rw [set_split (by omega)] at hv
  have h1bd : ∀ u ∈ bvs.drop (i + 1), u.oneCell' = true := fun u hu => h1b u (List.mem_of_mem_drop hu)
  refine rL ?_
  refine xM (.pointer (some ⟨p0, 0, none⟩)) rfl rfl rfl ?_
  refine xM (.pointer (some ⟨p0, 0, none⟩)) rfl rfl rfl ?_
  refine xG (.pointer (some ⟨p0, 0, none⟩)) rfl rfl (ex_nil rfl rfl) ?_
  simp only [zP, zI, zS, zO]
  refine xF (.pointer (some ⟨p0, 0, none⟩)) rfl rfl rfl (s3fa81_0 _ _ _) ?_
  refine xL (.slice (some ⟨a, 0, none⟩) N ca) rfl rfl rfl (run_load1 s3na79 (hv.load 2 0 rfl rfl)) ?_
  refine xM (.int .i64 (i : Int)) rfl rfl rfl ?_
  simp only [zP, zI, zS, zO]
  refine xM (.int .i64 (i : Int)) rfl rfl rfl ?_
  refine xG (.int .i64 ((i + 1 : Nat) : Int)) rfl rfl (ex_add (m := (i : Int)) (n := 1) rfl rfl rfl (by rw [i64_in (by omega)]; omega)) ?_
  refine xC s20callable61 rfl rfl (l := [.slice (some ⟨a, 0, none⟩) N ca, .int .i64 (i : Int), .int .i64 ((i + 1 : Nat) : Int)]) rfl ((delBlk B _ _ a ca i (N - (i + 1)) _ _ _ (by rw [List.length_take, hbl]; omega) rfl (by rw [List.length_drop, hbl]; omega) N (i + 1) rfl (by omega) (by omega) h1bd hv).mono ?_)
  rintro e w9 ⟨rfl, hv⟩
  refine ⟨_, rfl, ?_⟩
  rw [show i + (N - (i + 1)) = N - 1 by omega] at hv ⊢
  simp only [zP, zI, zS, zO]
  refine xG (.pointer (some ⟨p0, 0, none⟩)) rfl rfl (ex_nil rfl rfl) ?_
  refine xF (.pointer (some ⟨p0, 0, none⟩)) rfl rfl rfl (s3fa81_0 _ _ _) ?_
  refine sl_storeAt 2 (v := .slice (some ⟨a, 0, none⟩) (N - 1) ca) (L' := [.slice (some ⟨a, 0, none⟩) (N - 1) ca, .int .i64 (n - 1)]) tV (wn rfl) rfl rfl rfl hv rfl s5sz79 (by simp) rfl rfl rfl (fun w10 hv => ?_)
  simp only [List.set_cons_succ, List.set_cons_zero] at hv
  refine wL ?_
  simp only [zP, zN, zI, zS, zO]
  go_end0
  exact ⟨rfl, .inr ⟨by omega, ((hv.front 2 rfl).sub (List.Sublist.cons_cons _ (List.Sublist.cons_cons _ (List.Sublist.cons _ (List.Sublist.refl _)))))⟩⟩
 refine xG (.bool false) rfl rfl (ex_eql (k := .i64) (m := ((j + r) : Int)) (n := 0) rfl rfl rfl (decide_eq_false hb8)) ?_
 refine wL ?_
 simp only [zP, zI, zS, zO]
 refine tN (hK7 _ _ ?_)
 clear hK7 K7
 refine wpIn_cond_false rfl ?_
 refine wpIn_skip ?_
 go_end0
 exact ⟨rfl, .inl ⟨by omega, ((hv.front 2 rfl).front 2 rfl)⟩⟩
end Go.Proofs.Ytffmbdagjpdieaa
