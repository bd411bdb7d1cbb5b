/- The reference's Same of texts, pairs, members, values; Small; small. -/
import Derived.Test.YtffmbdagjpdieaaStB
import Derived.Test.YtffmbdagjpdieaaStG
import Derived.Test.YtffmbdagjpdieaaRows
set_option maxRecDepth 100000
namespace Go.Proofs.Ytffmbdagjpdieaa
open Go.RowKit Go.Pm
theorem pairEq (d : Nat) (w : World) (a b : List UInt8) : (Op.equalIn (d + 2) 83 (.agg #[strV a, strV b]) (.agg #[strV a, strV b])).run Try.prog w = .ok true w := by
  have hf : Try.prog.stoodInHeld 83 = false := by kernel_rfl
  have hfs : (Try.prog.fieldsOf 83).toList = [{ name := "Field", type := 9, offset := 0, embedded := false, tag := "", pkgPath := "", byteOffset := 0 }, { name := "Text", type := 9, offset := 1, embedded := false, tag := "", pkgPath := "", byteOffset := 16 }] := by kernel_rfl
  have hag : ∀ w, (isAgg 9).run Try.prog w = .ok false w := fun w => by kernel_rfl
  have hs : ∀ w, (sizeOf 9).run Try.prog w = .ok 1 w := fun w => by kernel_rfl
  have h9 : Try.prog.underlying 9 = some .string := Try.underlying9
  rw [run_equalIn_struct w (d + 1) 83 _ _ (by kernel_rfl) hf, hfs]
  simp [Op.eqFields, part, hag, hs, run_equalIn_string w d 9 _ _ h9]
theorem memEq (d : Nat) (w : World) (a : Int) (b : List UInt8) : (Op.equalIn (d + 2) 85 (.agg #[.int .i64 a, strV b]) (.agg #[.int .i64 a, strV b])).run Try.prog w = .ok true w := by
  have hf : Try.prog.stoodInHeld 85 = false := by kernel_rfl
  have hfs : (Try.prog.fieldsOf 85).toList = [{ name := "Score", type := 3, offset := 0, embedded := false, tag := "", pkgPath := "", byteOffset := 0 }, { name := "Name", type := 9, offset := 1, embedded := false, tag := "", pkgPath := "", byteOffset := 8 }] := by kernel_rfl
  have hag : ∀ w, (isAgg 9).run Try.prog w = .ok false w := fun w => by kernel_rfl
  have hs : ∀ w, (sizeOf 9).run Try.prog w = .ok 1 w := fun w => by kernel_rfl
  have h9 : Try.prog.underlying 9 = some .string := Try.underlying9
  have hag3 : ∀ w, (isAgg 3).run Try.prog w = .ok false w := fun w => by kernel_rfl
  have hs3 : ∀ w, (sizeOf 3).run Try.prog w = .ok 1 w := fun w => by kernel_rfl
  have h3 : Try.prog.underlying 3 = some (.int .i64) := Try.underlying3
  rw [run_equalIn_struct w (d + 1) 85 _ _ (by kernel_rfl) hf, hfs]
  simp [Op.eqFields, part, hag, hs, hag3, hs3, run_equalIn_string w d 9 _ _ h9, run_equalIn_int w d 3 _ _ _ _ h3]
set_option maxHeartbeats 2000000 in
theorem refWords (B : Base) (H : List Res) (w : World) (ad ad' : Option Addr) (c c' : Nat) (l : List (List UInt8)) (hr : RdV B [] ad (textCells l)) (hr' : RdV B [] ad' (textCells l)) (hm : l.length ≤ 1000000) (hv : Inv B H w) :
    Calls Try.prog 18 #[.slice ad l.length c, .slice ad' l.length c'] w fun e w' => e = .returned (.bool true) ∧ Inv B H w' := by
  refine (callsIn_wide (n := 5)).1 ?_
  refine callsIn_of_wp Try.func18 rfl trivial ?_
  simp only [Try.ntmps18, List.size_toArray, List.length_cons, List.length_nil, Nat.reduceAdd, Nat.reduceSub, Array.replicate_succ, Array.replicate_zero, List.push_toArray, List.append_toArray, List.nil_append, List.cons_append]
  refine sK fun K1 hK1 => rL ?_
  refine xA (.bool false) rfl rfl rfl ?_
  refine wL ?_
  simp only [zP, zI, zS, zO]
  refine tN (hK1 _ _ ?_)
  clear hK1 K1
  refine sK fun K2 hK2 => ?_
  refine sK fun K3 hK3 => rL ?_
  refine xM (.slice ad l.length c) rfl rfl rfl ?_
  refine xG (.int .i64 (l.length : Int)) rfl rfl (ex_len0 Try.underlying33 rfl rfl) ?_
  refine xM (.slice ad' l.length c') rfl rfl rfl ?_
  simp only [zP, zI, zS, zO]
  refine xG (.int .i64 (l.length : Int)) rfl rfl (ex_len0 Try.underlying33 rfl rfl) ?_
  refine xG (.bool false) rfl rfl (ex_neq (k := .i64) (m := (l.length : Int)) (n := (l.length : Int)) rfl rfl rfl (decide_eq_false (fun h => h rfl))) ?_
  refine wL ?_
  simp only [zP, zI, zS, zO]
  refine tN (hK3 _ _ ?_)
  clear hK3 K3
  refine wpIn_cond_false rfl ?_
  refine wpIn_skip ?_
  refine tN (hK2 _ _ ?_)
  clear hK2 K2
  refine sK fun K4 hK4 => ?_
  refine sK fun K5 hK5 => rL ?_
  refine xA (.int .i64 0) rfl rfl rfl ?_
  refine wL ?_
  simp only [zP, zI, zS, zO]
  refine tN (hK5 _ _ ?_)
  clear hK5 K5
  refine wpIn_block ?_
  gi_loopw [5] (fun x5 wr => ∃ (i : Nat), x5 = .int .i64 (i : Int) ∧ i ≤ l.length ∧ Inv B H wr) (fun x5 _ => l.length - (intOf x5).toNat)
  case atStart => exact ⟨0, rfl, Nat.zero_le _, hv⟩
  case round =>
    obtain ⟨i, rfl, hi, hv⟩ := hrel
    refine sK fun K7 hK7 => ?_
    refine sK fun K8 hK8 => rL ?_
    refine xM (.int .i64 (i : Int)) rfl rfl rfl ?_
    refine xM (.slice ad l.length c) rfl rfl rfl ?_
    refine xG (.int .i64 (l.length : Int)) rfl rfl (ex_len0 Try.underlying33 rfl rfl) ?_
    simp only [zP, zI, zS, zO]
    by_cases hb9 : (i : Int) < (l.length : Int)
    · refine xG (.bool true) rfl rfl (ex_lss (k := .i64) (m := (i : Int)) (n := (l.length : Int)) rfl rfl rfl (decide_eq_true hb9)) ?_
      refine wL ?_
      simp only [zP, zI, zS, zO]
      refine tN (hK8 _ _ ?_)
      clear hK8 K8
      refine wpIn_cond_true rfl ?_
      refine wpIn_skip ?_
      refine tN (hK7 _ _ ?_)
      clear hK7 K7
      refine sK fun K10 hK10 => ?_
      refine wpIn_block ?_
      refine sK fun K11 hK11 => ?_
      obtain ⟨x, hx⟩ : ∃ x, l[i]? = some x := ⟨_, List.getElem?_eq_getElem (show i < l.length by omega)⟩
      obtain ⟨bb, bo, had, hrdx⟩ := text_reads hr hx
      subst had
      obtain ⟨b2, o2, hadb2, hrdb2⟩ := text_reads hr' hx
      subst hadb2
      refine region_st mixed [.slice (some ⟨bb, bo, none⟩) l.length c, .int .i64 (i : Int), .pointer (some ⟨bb, bo + i, none⟩), .string ⟨x.toArray⟩, .slice (some ⟨b2, o2, none⟩) l.length c', .int .i64 (i : Int), .pointer (some ⟨b2, o2 + i, none⟩), .string ⟨x.toArray⟩, .bool false] [] [⟨fun vals w => vals = [] ∧ Inv B (H) w, fun _ _ _ ⟨h, hi⟩ he => ⟨h, hi.ext he⟩⟩] 26 rfl (by kernel_rfl) ⟨rfl, hv⟩ ⟨?_, ?_, ?_, ?_, ?_, ?_, ?_, ?_, ?_, trivial⟩ ?_
      · intro aa ww vals hJ hR
        exact xD rfl (ex_move rfl (show aa.eval (.tmp 0) = _ from hR.keep 0 rfl)) rfl rfl
      · intro aa ww vals hJ hR
        exact xD rfl (ex_move rfl (show aa.eval (.tmp 5) = _ from hR.keep 5 rfl)) rfl rfl
      · intro aa ww vals hJ hR
        exact xD rfl (ex_index rfl (hR.w 0 17 rfl rfl rfl rfl) (hR.w 1 18 rfl rfl rfl rfl) (run_idx1 (k := i) Try.underlying33 s9es33 (by omega))) rfl rfl
      · intro aa ww vals hJ hR
        have hl : vals.length = 0 := by have := JS.le (n := 0) (by rfl) hJ; omega
        obtain ⟨hvals, hv⟩ := hJ.at0 hl
        exact xD rfl (ex_load rfl (hR.w 2 19 rfl rfl rfl rfl) (run_load1 s3na9 (hrdx _ _ _ (Base.Le.refl _) no_res hv 0 _ rfl))) rfl rfl
      · intro aa ww vals hJ hR
        exact xD rfl (ex_move rfl (show aa.eval (.tmp 1) = _ from hR.keep 1 rfl)) rfl rfl
      · intro aa ww vals hJ hR
        exact xD rfl (ex_move rfl (show aa.eval (.tmp 5) = _ from hR.keep 5 rfl)) rfl rfl
      · intro aa ww vals hJ hR
        exact xD rfl (ex_index rfl (hR.w 4 21 rfl rfl rfl rfl) (hR.w 5 22 rfl rfl rfl rfl) (run_idx1 (k := i) Try.underlying33 s9es33 (by omega))) rfl rfl
      · intro aa ww vals hJ hR
        have hl : vals.length = 0 := by have := JS.le (n := 0) (by rfl) hJ; omega
        obtain ⟨hvals, hv⟩ := hJ.at0 hl
        exact xD rfl (ex_load rfl (hR.w 6 23 rfl rfl rfl rfl) (run_load1 s3na9 (hrdb2 _ _ _ (Base.Le.refl _) no_res hv 0 _ rfl))) rfl rfl
      · intro aa ww vals hJ hR
        exact xD rfl (ex_sneq (s := x) (s' := x) rfl (hR.w 3 20 rfl rfl rfl rfl) (hR.w 7 24 rfl rfl rfl rfl) (decide_eq_false (fun h => h rfl))) rfl rfl
      rintro w12 vals ⟨rfl, hv⟩
      rw [show mixV [] [] 0 [.slice (some ⟨bb, bo, none⟩) l.length c, .int .i64 (i : Int), .pointer (some ⟨bb, bo + i, none⟩), .string ⟨x.toArray⟩, .slice (some ⟨b2, o2, none⟩) l.length c', .int .i64 (i : Int), .pointer (some ⟨b2, o2 + i, none⟩), .string ⟨x.toArray⟩, .bool false] = [.slice (some ⟨bb, bo, none⟩) l.length c, .int .i64 (i : Int), .pointer (some ⟨bb, bo + i, none⟩), .string ⟨x.toArray⟩, .slice (some ⟨b2, o2, none⟩) l.length c', .int .i64 (i : Int), .pointer (some ⟨b2, o2 + i, none⟩), .string ⟨x.toArray⟩, .bool false] from rfl]
      simp only [putAll, zP, zI, zS, zO]
      refine tN (hK11 _ _ ?_)
      clear hK11 K11
      refine wpIn_cond_false rfl ?_
      refine wpIn_skip ?_
      refine blk_normal ?_
      refine tN (hK10 _ _ ?_)
      clear hK10 K10
      refine rL ?_
      refine xM (.int .i64 (i : Int)) rfl rfl rfl ?_
      refine xG (.int .i64 ((i + 1 : Nat) : Int)) rfl rfl (ex_add (m := (i : Int)) (n := 1) rfl rfl rfl (by rw [i64_in (by omega)]; omega)) ?_
      refine xA (.int .i64 ((i + 1 : Nat) : Int)) rfl rfl rfl ?_
      refine wL ?_
      simp only [zP, zI, zS, zO]
      refine then_normal ?_
      go_roundw
      case rel => exact ⟨i + 1, rfl, by omega, hv⟩
      case measure => show l.length - (((i + 1 : Nat) : Int)).toNat < l.length - ((i : Int)).toNat; omega
    refine xG (.bool false) rfl rfl (ex_lss (k := .i64) (m := (i : Int)) (n := (l.length : Int)) rfl rfl rfl (decide_eq_false hb9)) ?_
    refine wL ?_
    simp only [zP, zI, zS, zO]
    refine tN (hK8 _ _ ?_)
    clear hK8 K8
    refine wpIn_cond_false rfl ?_
    refine wpIn_exit ?_
    refine then_exit ?_
    clear hK7 K7
    refine then_exit ?_
    refine blk_hit ?_
    refine tN (hK4 _ _ ?_)
    clear hK4 K4
    refine sK fun K13 hK13 => rL ?_
    refine xA (.bool true) rfl rfl rfl ?_
    refine wL ?_
    simp only [zP, zI, zS, zO]
    refine tN (hK13 _ _ ?_)
    clear hK13 K13
    refine wpIn_ret ?_
    refine bR rfl rfl ?_
    exact ⟨rfl, hv⟩
set_option maxHeartbeats 2000000 in
theorem refPairs (B : Base) (H : List Res) (w : World) (ad ad' : Option Addr) (c c' : Nat) (l : List (List UInt8 × List UInt8)) (hr : RdV B [] ad (pairCells l)) (hr' : RdV B [] ad' (pairCells l)) (hm : l.length ≤ 1000000) (hv : Inv B H w) :
    Calls Try.prog 29 #[.slice ad l.length c, .slice ad' l.length c'] w fun e w' => e = .returned (.bool true) ∧ Inv B H w' := by
  refine (callsIn_wide (n := 5)).1 ?_
  refine callsIn_of_wp Try.func29 rfl trivial ?_
  simp only [Try.ntmps29, List.size_toArray, List.length_cons, List.length_nil, Nat.reduceAdd, Nat.reduceSub, Array.replicate_succ, Array.replicate_zero, List.push_toArray, List.append_toArray, List.nil_append, List.cons_append]
  refine sK fun K1 hK1 => rL ?_
  refine xA (.bool false) rfl rfl rfl ?_
  refine wL ?_
  simp only [zP, zI, zS, zO]
  refine tN (hK1 _ _ ?_)
  clear hK1 K1
  refine sK fun K2 hK2 => ?_
  refine sK fun K3 hK3 => rL ?_
  refine xM (.slice ad l.length c) rfl rfl rfl ?_
  refine xG (.int .i64 (l.length : Int)) rfl rfl (ex_len0 Try.underlying32 rfl rfl) ?_
  refine xM (.slice ad' l.length c') rfl rfl rfl ?_
  simp only [zP, zI, zS, zO]
  refine xG (.int .i64 (l.length : Int)) rfl rfl (ex_len0 Try.underlying32 rfl rfl) ?_
  refine xG (.bool false) rfl rfl (ex_neq (k := .i64) (m := (l.length : Int)) (n := (l.length : Int)) rfl rfl rfl (decide_eq_false (fun h => h rfl))) ?_
  refine wL ?_
  simp only [zP, zI, zS, zO]
  refine tN (hK3 _ _ ?_)
  clear hK3 K3
  refine wpIn_cond_false rfl ?_
  refine wpIn_skip ?_
  refine tN (hK2 _ _ ?_)
  clear hK2 K2
  refine sK fun K4 hK4 => ?_
  refine sK fun K5 hK5 => rL ?_
  refine xA (.int .i64 0) rfl rfl rfl ?_
  refine wL ?_
  simp only [zP, zI, zS, zO]
  refine tN (hK5 _ _ ?_)
  clear hK5 K5
  refine wpIn_block ?_
  gi_loopw [5] (fun x5 wr => ∃ (i : Nat), x5 = .int .i64 (i : Int) ∧ i ≤ l.length ∧ Inv B H wr) (fun x5 _ => l.length - (intOf x5).toNat)
  case atStart => exact ⟨0, rfl, Nat.zero_le _, hv⟩
  case round =>
    obtain ⟨i, rfl, hi, hv⟩ := hrel
    refine sK fun K7 hK7 => ?_
    refine sK fun K8 hK8 => rL ?_
    refine xM (.int .i64 (i : Int)) rfl rfl rfl ?_
    refine xM (.slice ad l.length c) rfl rfl rfl ?_
    refine xG (.int .i64 (l.length : Int)) rfl rfl (ex_len0 Try.underlying32 rfl rfl) ?_
    simp only [zP, zI, zS, zO]
    by_cases hb9 : (i : Int) < (l.length : Int)
    · refine xG (.bool true) rfl rfl (ex_lss (k := .i64) (m := (i : Int)) (n := (l.length : Int)) rfl rfl rfl (decide_eq_true hb9)) ?_
      refine wL ?_
      simp only [zP, zI, zS, zO]
      refine tN (hK8 _ _ ?_)
      clear hK8 K8
      refine wpIn_cond_true rfl ?_
      refine wpIn_skip ?_
      refine tN (hK7 _ _ ?_)
      clear hK7 K7
      refine sK fun K10 hK10 => ?_
      refine wpIn_block ?_
      refine sK fun K11 hK11 => ?_
      obtain ⟨x, hx⟩ : ∃ x, l[i]? = some x := ⟨_, List.getElem?_eq_getElem (show i < l.length by omega)⟩
      obtain ⟨bb, bo, had, hrdx⟩ := pair_reads hr hx
      subst had
      obtain ⟨b2, o2, hadb2, hrdb2⟩ := pair_reads hr' hx
      subst hadb2
      refine region_st mixed [.slice (some ⟨bb, bo, none⟩) l.length c, .int .i64 (i : Int), .pointer (some ⟨bb, bo + i * 2, none⟩), .agg #[.string ⟨x.1.toArray⟩, .string ⟨x.2.toArray⟩], .slice (some ⟨b2, o2, none⟩) l.length c', .int .i64 (i : Int), .pointer (some ⟨b2, o2 + i * 2, none⟩), .agg #[.string ⟨x.1.toArray⟩, .string ⟨x.2.toArray⟩], .bool false] [] [⟨fun vals w => vals = [] ∧ Inv B (H) w, fun _ _ _ ⟨h, hi⟩ he => ⟨h, hi.ext he⟩⟩] 26 rfl (by kernel_rfl) ⟨rfl, hv⟩ ⟨?_, ?_, ?_, ?_, ?_, ?_, ?_, ?_, ?_, trivial⟩ ?_
      · intro aa ww vals hJ hR
        exact xD rfl (ex_move rfl (show aa.eval (.tmp 0) = _ from hR.keep 0 rfl)) rfl rfl
      · intro aa ww vals hJ hR
        exact xD rfl (ex_move rfl (show aa.eval (.tmp 5) = _ from hR.keep 5 rfl)) rfl rfl
      · intro aa ww vals hJ hR
        exact xD rfl (ex_index rfl (hR.w 0 17 rfl rfl rfl rfl) (hR.w 1 18 rfl rfl rfl rfl) (run_idx (k := i) Try.underlying32 s10es32 (by omega))) rfl rfl
      · intro aa ww vals hJ hR
        have hl : vals.length = 0 := by have := JS.le (n := 0) (by rfl) hJ; omega
        obtain ⟨hvals, hv⟩ := hJ.at0 hl
        exact xD rfl (ex_load rfl (hR.w 2 19 rfl rfl rfl rfl) (run_loadR (cs := [.string ⟨x.1.toArray⟩, .string ⟨x.2.toArray⟩]) s10wd83 (Reads.mid (pre := []) (mid := [.string ⟨x.1.toArray⟩, .string ⟨x.2.toArray⟩]) (post := []) hrdx _ _ _ (Base.Le.refl _) no_res hv))) rfl rfl
      · intro aa ww vals hJ hR
        exact xD rfl (ex_move rfl (show aa.eval (.tmp 1) = _ from hR.keep 1 rfl)) rfl rfl
      · intro aa ww vals hJ hR
        exact xD rfl (ex_move rfl (show aa.eval (.tmp 5) = _ from hR.keep 5 rfl)) rfl rfl
      · intro aa ww vals hJ hR
        exact xD rfl (ex_index rfl (hR.w 4 21 rfl rfl rfl rfl) (hR.w 5 22 rfl rfl rfl rfl) (run_idx (k := i) Try.underlying32 s10es32 (by omega))) rfl rfl
      · intro aa ww vals hJ hR
        have hl : vals.length = 0 := by have := JS.le (n := 0) (by rfl) hJ; omega
        obtain ⟨hvals, hv⟩ := hJ.at0 hl
        exact xD rfl (ex_load rfl (hR.w 6 23 rfl rfl rfl rfl) (run_loadR (cs := [.string ⟨x.1.toArray⟩, .string ⟨x.2.toArray⟩]) s10wd83 (Reads.mid (pre := []) (mid := [.string ⟨x.1.toArray⟩, .string ⟨x.2.toArray⟩]) (post := []) hrdb2 _ _ _ (Base.Le.refl _) no_res hv))) rfl rfl
      · intro aa ww vals hJ hR
        exact xD rfl (ex_neqSame (L := [.string ⟨x.1.toArray⟩, .string ⟨x.2.toArray⟩]) rfl (hR.w 3 20 rfl rfl rfl rfl) (hR.w 7 24 rfl rfl rfl rfl) (by kernel_rfl) (fun w => pairEq 9998 w x.1 x.2)) rfl rfl
      rintro w12 vals ⟨rfl, hv⟩
      rw [show mixV [] [] 0 [.slice (some ⟨bb, bo, none⟩) l.length c, .int .i64 (i : Int), .pointer (some ⟨bb, bo + i * 2, none⟩), .agg #[.string ⟨x.1.toArray⟩, .string ⟨x.2.toArray⟩], .slice (some ⟨b2, o2, none⟩) l.length c', .int .i64 (i : Int), .pointer (some ⟨b2, o2 + i * 2, none⟩), .agg #[.string ⟨x.1.toArray⟩, .string ⟨x.2.toArray⟩], .bool false] = [.slice (some ⟨bb, bo, none⟩) l.length c, .int .i64 (i : Int), .pointer (some ⟨bb, bo + i * 2, none⟩), .agg #[.string ⟨x.1.toArray⟩, .string ⟨x.2.toArray⟩], .slice (some ⟨b2, o2, none⟩) l.length c', .int .i64 (i : Int), .pointer (some ⟨b2, o2 + i * 2, none⟩), .agg #[.string ⟨x.1.toArray⟩, .string ⟨x.2.toArray⟩], .bool false] from rfl]
      simp only [putAll, zP, zI, zS, zO]
      refine tN (hK11 _ _ ?_)
      clear hK11 K11
      refine wpIn_cond_false rfl ?_
      refine wpIn_skip ?_
      refine blk_normal ?_
      refine tN (hK10 _ _ ?_)
      clear hK10 K10
      refine rL ?_
      refine xM (.int .i64 (i : Int)) rfl rfl rfl ?_
      refine xG (.int .i64 ((i + 1 : Nat) : Int)) rfl rfl (ex_add (m := (i : Int)) (n := 1) rfl rfl rfl (by rw [i64_in (by omega)]; omega)) ?_
      refine xA (.int .i64 ((i + 1 : Nat) : Int)) rfl rfl rfl ?_
      refine wL ?_
      simp only [zP, zI, zS, zO]
      refine then_normal ?_
      go_roundw
      case rel => exact ⟨i + 1, rfl, by omega, hv⟩
      case measure => show l.length - (((i + 1 : Nat) : Int)).toNat < l.length - ((i : Int)).toNat; omega
    refine xG (.bool false) rfl rfl (ex_lss (k := .i64) (m := (i : Int)) (n := (l.length : Int)) rfl rfl rfl (decide_eq_false hb9)) ?_
    refine wL ?_
    simp only [zP, zI, zS, zO]
    refine tN (hK8 _ _ ?_)
    clear hK8 K8
    refine wpIn_cond_false rfl ?_
    refine wpIn_exit ?_
    refine then_exit ?_
    clear hK7 K7
    refine then_exit ?_
    refine blk_hit ?_
    refine tN (hK4 _ _ ?_)
    clear hK4 K4
    refine sK fun K13 hK13 => rL ?_
    refine xA (.bool true) rfl rfl rfl ?_
    refine wL ?_
    simp only [zP, zI, zS, zO]
    refine tN (hK13 _ _ ?_)
    clear hK13 K13
    refine wpIn_ret ?_
    refine bR rfl rfl ?_
    exact ⟨rfl, hv⟩
set_option maxHeartbeats 2000000 in
theorem refMems (B : Base) (H : List Res) (w : World) (ad ad' : Option Addr) (c c' : Nat) (l : List (Int × List UInt8)) (hr : RdV B [] ad (memCells l)) (hr' : RdV B [] ad' (memCells l)) (hm : l.length ≤ 1000000) (hv : Inv B H w) :
    Calls Try.prog 30 #[.slice ad l.length c, .slice ad' l.length c'] w fun e w' => e = .returned (.bool true) ∧ Inv B H w' := by
  refine (callsIn_wide (n := 5)).1 ?_
  refine callsIn_of_wp Try.func30 rfl trivial ?_
  simp only [Try.ntmps30, List.size_toArray, List.length_cons, List.length_nil, Nat.reduceAdd, Nat.reduceSub, Array.replicate_succ, Array.replicate_zero, List.push_toArray, List.append_toArray, List.nil_append, List.cons_append]
  refine sK fun K1 hK1 => rL ?_
  refine xA (.bool false) rfl rfl rfl ?_
  refine wL ?_
  simp only [zP, zI, zS, zO]
  refine tN (hK1 _ _ ?_)
  clear hK1 K1
  refine sK fun K2 hK2 => ?_
  refine sK fun K3 hK3 => rL ?_
  refine xM (.slice ad l.length c) rfl rfl rfl ?_
  refine xG (.int .i64 (l.length : Int)) rfl rfl (ex_len0 Try.underlying34 rfl rfl) ?_
  refine xM (.slice ad' l.length c') rfl rfl rfl ?_
  simp only [zP, zI, zS, zO]
  refine xG (.int .i64 (l.length : Int)) rfl rfl (ex_len0 Try.underlying34 rfl rfl) ?_
  refine xG (.bool false) rfl rfl (ex_neq (k := .i64) (m := (l.length : Int)) (n := (l.length : Int)) rfl rfl rfl (decide_eq_false (fun h => h rfl))) ?_
  refine wL ?_
  simp only [zP, zI, zS, zO]
  refine tN (hK3 _ _ ?_)
  clear hK3 K3
  refine wpIn_cond_false rfl ?_
  refine wpIn_skip ?_
  refine tN (hK2 _ _ ?_)
  clear hK2 K2
  refine sK fun K4 hK4 => ?_
  refine sK fun K5 hK5 => rL ?_
  refine xA (.int .i64 0) rfl rfl rfl ?_
  refine wL ?_
  simp only [zP, zI, zS, zO]
  refine tN (hK5 _ _ ?_)
  clear hK5 K5
  refine wpIn_block ?_
  gi_loopw [5] (fun x5 wr => ∃ (i : Nat), x5 = .int .i64 (i : Int) ∧ i ≤ l.length ∧ Inv B H wr) (fun x5 _ => l.length - (intOf x5).toNat)
  case atStart => exact ⟨0, rfl, Nat.zero_le _, hv⟩
  case round =>
    obtain ⟨i, rfl, hi, hv⟩ := hrel
    refine sK fun K7 hK7 => ?_
    refine sK fun K8 hK8 => rL ?_
    refine xM (.int .i64 (i : Int)) rfl rfl rfl ?_
    refine xM (.slice ad l.length c) rfl rfl rfl ?_
    refine xG (.int .i64 (l.length : Int)) rfl rfl (ex_len0 Try.underlying34 rfl rfl) ?_
    simp only [zP, zI, zS, zO]
    by_cases hb9 : (i : Int) < (l.length : Int)
    · refine xG (.bool true) rfl rfl (ex_lss (k := .i64) (m := (i : Int)) (n := (l.length : Int)) rfl rfl rfl (decide_eq_true hb9)) ?_
      refine wL ?_
      simp only [zP, zI, zS, zO]
      refine tN (hK8 _ _ ?_)
      clear hK8 K8
      refine wpIn_cond_true rfl ?_
      refine wpIn_skip ?_
      refine tN (hK7 _ _ ?_)
      clear hK7 K7
      refine sK fun K10 hK10 => ?_
      refine wpIn_block ?_
      refine sK fun K11 hK11 => ?_
      obtain ⟨x, hx⟩ : ∃ x, l[i]? = some x := ⟨_, List.getElem?_eq_getElem (show i < l.length by omega)⟩
      obtain ⟨bb, bo, had, hrdx⟩ := mem_reads hr hx
      subst had
      obtain ⟨b2, o2, hadb2, hrdb2⟩ := mem_reads hr' hx
      subst hadb2
      refine region_st mixed [.slice (some ⟨bb, bo, none⟩) l.length c, .int .i64 (i : Int), .pointer (some ⟨bb, bo + i * 2, none⟩), .agg #[.int .i64 x.1, .string ⟨x.2.toArray⟩], .slice (some ⟨b2, o2, none⟩) l.length c', .int .i64 (i : Int), .pointer (some ⟨b2, o2 + i * 2, none⟩), .agg #[.int .i64 x.1, .string ⟨x.2.toArray⟩], .bool false] [] [⟨fun vals w => vals = [] ∧ Inv B (H) w, fun _ _ _ ⟨h, hi⟩ he => ⟨h, hi.ext he⟩⟩] 26 rfl (by kernel_rfl) ⟨rfl, hv⟩ ⟨?_, ?_, ?_, ?_, ?_, ?_, ?_, ?_, ?_, trivial⟩ ?_
      · intro aa ww vals hJ hR
        exact xD rfl (ex_move rfl (show aa.eval (.tmp 0) = _ from hR.keep 0 rfl)) rfl rfl
      · intro aa ww vals hJ hR
        exact xD rfl (ex_move rfl (show aa.eval (.tmp 5) = _ from hR.keep 5 rfl)) rfl rfl
      · intro aa ww vals hJ hR
        exact xD rfl (ex_index rfl (hR.w 0 17 rfl rfl rfl rfl) (hR.w 1 18 rfl rfl rfl rfl) (run_idx (k := i) Try.underlying34 s9es34 (by omega))) rfl rfl
      · intro aa ww vals hJ hR
        have hl : vals.length = 0 := by have := JS.le (n := 0) (by rfl) hJ; omega
        obtain ⟨hvals, hv⟩ := hJ.at0 hl
        exact xD rfl (ex_load rfl (hR.w 2 19 rfl rfl rfl rfl) (run_loadR (cs := [.int .i64 x.1, .string ⟨x.2.toArray⟩]) s9wd85 (Reads.mid (pre := []) (mid := [.int .i64 x.1, .string ⟨x.2.toArray⟩]) (post := []) hrdx _ _ _ (Base.Le.refl _) no_res hv))) rfl rfl
      · intro aa ww vals hJ hR
        exact xD rfl (ex_move rfl (show aa.eval (.tmp 1) = _ from hR.keep 1 rfl)) rfl rfl
      · intro aa ww vals hJ hR
        exact xD rfl (ex_move rfl (show aa.eval (.tmp 5) = _ from hR.keep 5 rfl)) rfl rfl
      · intro aa ww vals hJ hR
        exact xD rfl (ex_index rfl (hR.w 4 21 rfl rfl rfl rfl) (hR.w 5 22 rfl rfl rfl rfl) (run_idx (k := i) Try.underlying34 s9es34 (by omega))) rfl rfl
      · intro aa ww vals hJ hR
        have hl : vals.length = 0 := by have := JS.le (n := 0) (by rfl) hJ; omega
        obtain ⟨hvals, hv⟩ := hJ.at0 hl
        exact xD rfl (ex_load rfl (hR.w 6 23 rfl rfl rfl rfl) (run_loadR (cs := [.int .i64 x.1, .string ⟨x.2.toArray⟩]) s9wd85 (Reads.mid (pre := []) (mid := [.int .i64 x.1, .string ⟨x.2.toArray⟩]) (post := []) hrdb2 _ _ _ (Base.Le.refl _) no_res hv))) rfl rfl
      · intro aa ww vals hJ hR
        exact xD rfl (ex_neqSame (L := [.int .i64 x.1, .string ⟨x.2.toArray⟩]) rfl (hR.w 3 20 rfl rfl rfl rfl) (hR.w 7 24 rfl rfl rfl rfl) (by kernel_rfl) (fun w => memEq 9998 w x.1 x.2)) rfl rfl
      rintro w12 vals ⟨rfl, hv⟩
      rw [show mixV [] [] 0 [.slice (some ⟨bb, bo, none⟩) l.length c, .int .i64 (i : Int), .pointer (some ⟨bb, bo + i * 2, none⟩), .agg #[.int .i64 x.1, .string ⟨x.2.toArray⟩], .slice (some ⟨b2, o2, none⟩) l.length c', .int .i64 (i : Int), .pointer (some ⟨b2, o2 + i * 2, none⟩), .agg #[.int .i64 x.1, .string ⟨x.2.toArray⟩], .bool false] = [.slice (some ⟨bb, bo, none⟩) l.length c, .int .i64 (i : Int), .pointer (some ⟨bb, bo + i * 2, none⟩), .agg #[.int .i64 x.1, .string ⟨x.2.toArray⟩], .slice (some ⟨b2, o2, none⟩) l.length c', .int .i64 (i : Int), .pointer (some ⟨b2, o2 + i * 2, none⟩), .agg #[.int .i64 x.1, .string ⟨x.2.toArray⟩], .bool false] from rfl]
      simp only [putAll, zP, zI, zS, zO]
      refine tN (hK11 _ _ ?_)
      clear hK11 K11
      refine wpIn_cond_false rfl ?_
      refine wpIn_skip ?_
      refine blk_normal ?_
      refine tN (hK10 _ _ ?_)
      clear hK10 K10
      refine rL ?_
      refine xM (.int .i64 (i : Int)) rfl rfl rfl ?_
      refine xG (.int .i64 ((i + 1 : Nat) : Int)) rfl rfl (ex_add (m := (i : Int)) (n := 1) rfl rfl rfl (by rw [i64_in (by omega)]; omega)) ?_
      refine xA (.int .i64 ((i + 1 : Nat) : Int)) rfl rfl rfl ?_
      refine wL ?_
      simp only [zP, zI, zS, zO]
      refine then_normal ?_
      go_roundw
      case rel => exact ⟨i + 1, rfl, by omega, hv⟩
      case measure => show l.length - (((i + 1 : Nat) : Int)).toNat < l.length - ((i : Int)).toNat; omega
    refine xG (.bool false) rfl rfl (ex_lss (k := .i64) (m := (i : Int)) (n := (l.length : Int)) rfl rfl rfl (decide_eq_false hb9)) ?_
    refine wL ?_
    simp only [zP, zI, zS, zO]
    refine tN (hK8 _ _ ?_)
    clear hK8 K8
    refine wpIn_cond_false rfl ?_
    refine wpIn_exit ?_
    refine then_exit ?_
    clear hK7 K7
    refine then_exit ?_
    refine blk_hit ?_
    refine tN (hK4 _ _ ?_)
    clear hK4 K4
    refine sK fun K13 hK13 => rL ?_
    refine xA (.bool true) rfl rfl rfl ?_
    refine wL ?_
    simp only [zP, zI, zS, zO]
    refine tN (hK13 _ _ ?_)
    clear hK13 K13
    refine wpIn_ret ?_
    refine bR rfl rfl ?_
    exact ⟨rfl, hv⟩
theorem s18callable29 : Callable Try.prog 29 := ⟨_, Try.func29, by kernel_rfl, by kernel_rfl⟩
theorem s18callable18 : Callable Try.prog 18 := ⟨_, Try.func18, by kernel_rfl, by kernel_rfl⟩
theorem s18callable30 : Callable Try.prog 30 := ⟨_, Try.func30, by kernel_rfl, by kernel_rfl⟩
set_option maxHeartbeats 2000000 in
theorem refSame0 (B : Base) (H : List Res) (w : World) (v : Val) (ap at2 az ap' at2' az' : Option Addr) (cp ct cz cp' ct' cz' : Nat) (hrp : RdV B [] ap (pairCells v.pairs)) (hrt : RdV B [] at2 (textCells v.texts)) (hrz : RdV B [] az (memCells v.zset)) (hrp' : RdV B [] ap' (pairCells v.pairs)) (hrt' : RdV B [] at2' (textCells v.texts)) (hrz' : RdV B [] az' (memCells v.zset)) (hpm : v.pairs.length ≤ 1000000) (htm : v.texts.length ≤ 1000000) (hzm : v.zset.length ≤ 1000000) (hv : Inv B H w) :
    Calls Try.prog 12 #[.agg #[.int .i64 v.kind, .string ⟨v.text.toArray⟩, .slice ap v.pairs.length cp, .slice at2 v.texts.length ct, .slice az v.zset.length cz], .agg #[.int .i64 v.kind, .string ⟨v.text.toArray⟩, .slice ap' v.pairs.length cp', .slice at2' v.texts.length ct', .slice az' v.zset.length cz']] w fun e w' => e = .returned (.bool true) ∧ Inv B H w' := by
  refine (callsIn_wide (n := 5)).1 ?_
  refine callsIn_of_wp Try.func12 rfl trivial ?_
  simp only [Try.ntmps12, List.size_toArray, List.length_cons, List.length_nil, Nat.reduceAdd, Nat.reduceSub, Array.replicate_succ, Array.replicate_zero, List.push_toArray, List.append_toArray, List.nil_append, List.cons_append]
  refine sK fun K1 hK1 => rL ?_
  refine sl_box (L := [.int .i64 v.kind, .string ⟨v.text.toArray⟩, .slice ap v.pairs.length cp, .slice at2 v.texts.length ct, .slice az v.zset.length cz]) tV (wn rfl) rfl (p := .agg #[.int .i64 v.kind, .string ⟨v.text.toArray⟩, .slice ap v.pairs.length cp, .slice at2 v.texts.length ct, .slice az v.zset.length cz]) rfl hv (fun w => by kernel_rfl) (fun b2 w3 hv => ?_)
  refine sl_box (L := [.int .i64 v.kind, .string ⟨v.text.toArray⟩, .slice ap' v.pairs.length cp', .slice at2' v.texts.length ct', .slice az' v.zset.length cz']) tV (wn rfl) rfl (p := .agg #[.int .i64 v.kind, .string ⟨v.text.toArray⟩, .slice ap' v.pairs.length cp', .slice at2' v.texts.length ct', .slice az' v.zset.length cz']) rfl hv (fun w => by kernel_rfl) (fun b4 w5 hv => ?_)
  refine xA (.bool false) rfl rfl rfl ?_
  refine wL ?_
  simp only [zP, zI, zS, zO]
  refine tN (hK1 _ _ ?_)
  clear hK1 K1
  refine sK fun K6 hK6 => rL ?_
  refine xF (.pointer (some ⟨b2, 0, none⟩)) rfl rfl rfl (s12fa36_0 _ _ _) ?_
  refine xL (.int .i64 v.kind) rfl rfl rfl (run_load1 s2na3 (hv.load 1 0 rfl rfl)) ?_
  refine xF (.pointer (some ⟨b4, 0, none⟩)) rfl rfl rfl (s12fa36_0 _ _ _) ?_
  simp only [zP, zI, zS, zO]
  refine xL (.int .i64 v.kind) rfl rfl rfl (run_load1 s2na3 (hv.load 0 0 rfl rfl)) ?_
  refine xG (.bool true) rfl rfl (ex_eql (k := .i64) (m := v.kind) (n := v.kind) rfl rfl rfl (decide_eq_true (rfl))) ?_
  refine xM (.bool true) rfl rfl rfl ?_
  simp only [zP, zI, zS, zO]
  refine xH 5 10 true (.pointer (some ⟨b2, 1, none⟩)) rfl rfl rfl rfl (ex_field rfl rfl (s12fa36_1 _ _ _)) ?_
  refine xH 5 10 true (.string ⟨v.text.toArray⟩) rfl rfl rfl rfl (ex_load rfl rfl (run_load1 s3na9 (hv.load 1 1 rfl rfl))) ?_
  refine xH 5 10 true (.pointer (some ⟨b4, 1, none⟩)) rfl rfl rfl rfl (ex_field rfl rfl (s12fa36_1 _ _ _)) ?_
  simp only [zP, zI, zS, zO]
  refine xH 5 10 true (.string ⟨v.text.toArray⟩) rfl rfl rfl rfl (ex_load rfl rfl (run_load1 s3na9 (hv.load 0 1 rfl rfl))) ?_
  refine xH 5 10 true (.bool true) rfl rfl rfl rfl (ex_seql (s := v.text) (s' := v.text) rfl rfl rfl (decide_eq_true (rfl))) ?_
  refine xK true (.bool true) rfl rfl rfl rfl ?_
  simp only [zP, zI, zS, zO]
  refine xM (.bool true) rfl rfl rfl ?_
  refine xH 12 17 true (.pointer (some ⟨b2, 2, none⟩)) rfl rfl rfl rfl (ex_field rfl rfl (s1fa36_2 _ _ _)) ?_
  refine xH 12 17 true (.slice ap v.pairs.length cp) rfl rfl rfl rfl (ex_load rfl rfl (run_load1 s1na32 (hv.load 1 2 rfl rfl))) ?_
  simp only [zP, zI, zS, zO]
  refine xH 12 17 true (.pointer (some ⟨b4, 2, none⟩)) rfl rfl rfl rfl (ex_field rfl rfl (s1fa36_2 _ _ _)) ?_
  refine xH 12 17 true (.slice ap' v.pairs.length cp') rfl rfl rfl rfl (ex_load rfl rfl (run_load1 s1na32 (hv.load 0 2 rfl rfl))) ?_
  refine wpi_callG s18callable29 tV wideC rfl (wanted_of (j := 12) (d := 17) (b := true) rfl rfl rfl) rfl (args := #[.slice ap v.pairs.length cp, .slice ap' v.pairs.length cp']) (by simp only [yA, yB, yC]; rfl) ((refPairs B _ _ _ _ _ _ _ hrp hrp' (by omega) hv).mono ?_)
  rintro e w7 ⟨rfl, hv⟩
  refine ⟨_, rfl, ?_⟩
  simp only [zP, zI, zS, zO]
  refine xK true (.bool true) rfl rfl rfl rfl ?_
  refine xM (.bool true) rfl rfl rfl ?_
  refine xH 19 24 true (.pointer (some ⟨b2, 3, none⟩)) rfl rfl rfl rfl (ex_field rfl rfl (s1fa36_3 _ _ _)) ?_
  simp only [zP, zI, zS, zO]
  refine xH 19 24 true (.slice at2 v.texts.length ct) rfl rfl rfl rfl (ex_load rfl rfl (run_load1 s1na33 (hv.load 1 3 rfl rfl))) ?_
  refine xH 19 24 true (.pointer (some ⟨b4, 3, none⟩)) rfl rfl rfl rfl (ex_field rfl rfl (s1fa36_3 _ _ _)) ?_
  refine xH 19 24 true (.slice at2' v.texts.length ct') rfl rfl rfl rfl (ex_load rfl rfl (run_load1 s1na33 (hv.load 0 3 rfl rfl))) ?_
  simp only [zP, zI, zS, zO]
  refine wpi_callG s18callable18 tV wideC rfl (wanted_of (j := 19) (d := 24) (b := true) rfl rfl rfl) rfl (args := #[.slice at2 v.texts.length ct, .slice at2' v.texts.length ct']) (by simp only [yA, yB, yC]; rfl) ((refWords B _ _ _ _ _ _ _ hrt hrt' (by omega) hv).mono ?_)
  rintro e w8 ⟨rfl, hv⟩
  refine ⟨_, rfl, ?_⟩
  refine xK true (.bool true) rfl rfl rfl rfl ?_
  refine xM (.bool true) rfl rfl rfl ?_
  simp only [zP, zI, zS, zO]
  refine xH 26 31 true (.pointer (some ⟨b2, 4, none⟩)) rfl rfl rfl rfl (ex_field rfl rfl (s1fa36_4 _ _ _)) ?_
  refine xH 26 31 true (.slice az v.zset.length cz) rfl rfl rfl rfl (ex_load rfl rfl (run_load1 s1na34 (hv.load 1 4 rfl rfl))) ?_
  refine xH 26 31 true (.pointer (some ⟨b4, 4, none⟩)) rfl rfl rfl rfl (ex_field rfl rfl (s1fa36_4 _ _ _)) ?_
  simp only [zP, zI, zS, zO]
  refine xH 26 31 true (.slice az' v.zset.length cz') rfl rfl rfl rfl (ex_load rfl rfl (run_load1 s1na34 (hv.load 0 4 rfl rfl))) ?_
  refine wpi_callG s18callable30 tV wideC rfl (wanted_of (j := 26) (d := 31) (b := true) rfl rfl rfl) rfl (args := #[.slice az v.zset.length cz, .slice az' v.zset.length cz']) (by simp only [yA, yB, yC]; rfl) ((refMems B _ _ _ _ _ _ _ hrz hrz' (by omega) hv).mono ?_)
  rintro e w9 ⟨rfl, hv⟩
  refine ⟨_, rfl, ?_⟩
  refine xK true (.bool true) rfl rfl rfl rfl ?_
  simp only [zP, zI, zS, zO]
  refine xA (.bool true) rfl rfl rfl ?_
  refine wL ?_
  simp only [zP, zI, zS, zO]
  refine tN (hK6 _ _ ?_)
  clear hK6 K6
  refine wpIn_ret ?_
  refine bR rfl rfl ?_
  exact ⟨rfl, (hv.sub (List.Sublist.cons _ (List.Sublist.cons _ (List.Sublist.refl _))))⟩
theorem refSameV (B : Base) (H : List Res) (w : World) (v : Val) (p t z p' t' z' : Value) (h : ValRd B v p t z) (h' : ValRd B v p' t' z') (hpm : v.pairs.length ≤ 1000000) (htm : v.texts.length ≤ 1000000) (hzm : v.zset.length ≤ 1000000) (hv : Inv B H w) : Calls Try.prog 12 #[.agg (valCells v p t z).toArray, .agg (valCells v p' t' z').toArray] w fun e w' => e = .returned (.bool true) ∧ Inv B H w' := by
  obtain ⟨⟨ap, cp, rfl, -, hrp⟩, ⟨at2, ct, rfl, -, hrt⟩, ⟨az, cz, rfl, -, hrz⟩⟩ := h
  obtain ⟨⟨ap', cp', rfl, -, hrp'⟩, ⟨at2', ct', rfl, -, hrt'⟩, ⟨az', cz', rfl, -, hrz'⟩⟩ := h'
  exact refSame0 B H w v ap at2 az ap' at2' az' cp ct cz cp' ct' cz' hrp hrt hrz hrp' hrt' hrz' hpm htm hzm hv
set_option maxHeartbeats 4000000 in
theorem refSmall0 (B : Base) (H : List Res) (w : World) (v : Val) (ap at2 az : Option Addr) (cp ct cz : Nat) (hrp : RdV B [] ap (pairCells v.pairs)) (hrt : RdV B [] at2 (textCells v.texts)) (hrz : RdV B [] az (memCells v.zset)) (hv : Inv B H w) :
    Calls Try.prog 23 #[.agg #[.int .i64 v.kind, .string ⟨v.text.toArray⟩, .slice ap v.pairs.length cp, .slice at2 v.texts.length ct, .slice az v.zset.length cz]] w fun e w' => ∃ b, e = .returned (.bool b) ∧ (b = true → ValSm v) ∧ Inv B H w' := by
  refine (callsIn_wide (n := 5)).1 ?_
  refine callsIn_of_wp Try.func23 rfl trivial ?_
  simp only [Try.ntmps23, List.size_toArray, List.length_cons, List.length_nil, Nat.reduceAdd, Nat.reduceSub, Array.replicate_succ, Array.replicate_zero, List.push_toArray, List.append_toArray, List.nil_append, List.cons_append]
  refine sK fun K1 hK1 => rL ?_
  refine sl_box (L := [.int .i64 v.kind, .string ⟨v.text.toArray⟩, .slice ap v.pairs.length cp, .slice at2 v.texts.length ct, .slice az v.zset.length cz]) tV (wn rfl) rfl (p := .agg #[.int .i64 v.kind, .string ⟨v.text.toArray⟩, .slice ap v.pairs.length cp, .slice at2 v.texts.length ct, .slice az v.zset.length cz]) rfl hv (fun w => by kernel_rfl) (fun b2 w3 hv => ?_)
  refine xA (.bool false) rfl rfl rfl ?_
  refine wL ?_
  simp only [zP, zI, zS, zO]
  refine tN (hK1 _ _ ?_)
  clear hK1 K1
  refine sK fun K4 hK4 => ?_
  refine sK fun K5 hK5 => rL ?_
  refine xF (.pointer (some ⟨b2, 1, none⟩)) rfl rfl rfl (s12fa36_1 _ _ _) ?_
  refine xL (.string ⟨v.text.toArray⟩) rfl rfl rfl (run_load1 s3na9 (hv.load 0 1 rfl rfl)) ?_
  refine xG (.int .i64 (v.text.length : Int)) rfl rfl (ex_lenStr Try.underlying9 rfl rfl) ?_
  simp only [zP, zI, zS, zO]
  by_cases hb6 : (v.text.length : Int) > 5000
  · refine xG (.bool true) rfl rfl (ex_gtr (k := .i64) (m := (v.text.length : Int)) (n := 5000) rfl rfl rfl (decide_eq_true hb6)) ?_
    refine xM (.bool true) rfl rfl rfl ?_
    refine xT 4 10 false true rfl rfl rfl rfl rfl rfl rfl (by decide) ?_
    simp only [zP, zI, zS, zO]
    refine xN 4 10 false true rfl rfl rfl (by decide) ?_
    simp only [zP, zI, zS, zO]
    refine xK true (.bool true) rfl rfl rfl rfl ?_
    refine xM (.bool true) rfl rfl rfl ?_
    refine xT 10 16 false true rfl rfl rfl rfl rfl rfl rfl (by decide) ?_
    simp only [zP, zI, zS, zO]
    refine xN 10 16 false true rfl rfl rfl (by decide) ?_
    simp only [zP, zI, zS, zO]
    refine xK true (.bool true) rfl rfl rfl rfl ?_
    refine xM (.bool true) rfl rfl rfl ?_
    refine xT 16 22 false true rfl rfl rfl rfl rfl rfl rfl (by decide) ?_
    simp only [zP, zI, zS, zO]
    refine xN 16 22 false true rfl rfl rfl (by decide) ?_
    simp only [zP, zI, zS, zO]
    refine xK true (.bool true) rfl rfl rfl rfl ?_
    refine wL ?_
    simp only [zP, zI, zS, zO]
    refine tN (hK5 _ _ ?_)
    clear hK5 K5
    refine wpIn_cond_true rfl ?_
    refine sK fun K7 hK7 => rL ?_
    refine xA (.bool false) rfl rfl rfl ?_
    refine wL ?_
    simp only [zP, zI, zS, zO]
    refine tN (hK7 _ _ ?_)
    clear hK7 K7
    refine wpIn_ret ?_
    refine then_ret ?_
    clear hK4 K4
    refine bR rfl rfl ?_
    exact ⟨false, rfl, fun h => (by cases h), (hv.sub (List.Sublist.cons _ (List.Sublist.refl _)))⟩
  refine xG (.bool false) rfl rfl (ex_gtr (k := .i64) (m := (v.text.length : Int)) (n := 5000) rfl rfl rfl (decide_eq_false hb6)) ?_
  refine xM (.bool false) rfl rfl rfl ?_
  refine xH 4 10 false (.pointer (some ⟨b2, 2, none⟩)) rfl rfl rfl rfl (ex_field rfl rfl (s1fa36_2 _ _ _)) ?_
  simp only [zP, zI, zS, zO]
  refine xH 4 10 false (.slice ap v.pairs.length cp) rfl rfl rfl rfl (ex_load rfl rfl (run_load1 s1na32 (hv.load 0 2 rfl rfl))) ?_
  refine xH 4 10 false (.int .i64 (v.pairs.length : Int)) rfl rfl rfl rfl (ex_len0 Try.underlying32 rfl rfl) ?_
  by_cases hb8 : (v.pairs.length : Int) > 60
  · refine xH 4 10 false (.bool true) rfl rfl rfl rfl (ex_gtr (k := .i64) (m := (v.pairs.length : Int)) (n := 60) rfl rfl rfl (decide_eq_true hb8)) ?_
    simp only [zP, zI, zS, zO]
    refine xK false (.bool true) rfl rfl rfl rfl ?_
    refine xM (.bool true) rfl rfl rfl ?_
    refine xT 10 16 false true rfl rfl rfl rfl rfl rfl rfl (by decide) ?_
    simp only [zP, zI, zS, zO]
    refine xN 10 16 false true rfl rfl rfl (by decide) ?_
    simp only [zP, zI, zS, zO]
    refine xK true (.bool true) rfl rfl rfl rfl ?_
    refine xM (.bool true) rfl rfl rfl ?_
    refine xT 16 22 false true rfl rfl rfl rfl rfl rfl rfl (by decide) ?_
    simp only [zP, zI, zS, zO]
    refine xN 16 22 false true rfl rfl rfl (by decide) ?_
    simp only [zP, zI, zS, zO]
    refine xK true (.bool true) rfl rfl rfl rfl ?_
    refine wL ?_
    simp only [zP, zI, zS, zO]
    refine tN (hK5 _ _ ?_)
    clear hK5 K5
    refine wpIn_cond_true rfl ?_
    refine sK fun K9 hK9 => rL ?_
    refine xA (.bool false) rfl rfl rfl ?_
    refine wL ?_
    simp only [zP, zI, zS, zO]
    refine tN (hK9 _ _ ?_)
    clear hK9 K9
    refine wpIn_ret ?_
    refine then_ret ?_
    clear hK4 K4
    refine bR rfl rfl ?_
    exact ⟨false, rfl, fun h => (by cases h), (hv.sub (List.Sublist.cons _ (List.Sublist.refl _)))⟩
  refine xH 4 10 false (.bool false) rfl rfl rfl rfl (ex_gtr (k := .i64) (m := (v.pairs.length : Int)) (n := 60) rfl rfl rfl (decide_eq_false hb8)) ?_
  simp only [zP, zI, zS, zO]
  refine xK false (.bool false) rfl rfl rfl rfl ?_
  refine xM (.bool false) rfl rfl rfl ?_
  refine xH 10 16 false (.pointer (some ⟨b2, 3, none⟩)) rfl rfl rfl rfl (ex_field rfl rfl (s1fa36_3 _ _ _)) ?_
  simp only [zP, zI, zS, zO]
  refine xH 10 16 false (.slice at2 v.texts.length ct) rfl rfl rfl rfl (ex_load rfl rfl (run_load1 s1na33 (hv.load 0 3 rfl rfl))) ?_
  refine xH 10 16 false (.int .i64 (v.texts.length : Int)) rfl rfl rfl rfl (ex_len0 Try.underlying33 rfl rfl) ?_
  by_cases hb10 : (v.texts.length : Int) > 600
  · refine xH 10 16 false (.bool true) rfl rfl rfl rfl (ex_gtr (k := .i64) (m := (v.texts.length : Int)) (n := 600) rfl rfl rfl (decide_eq_true hb10)) ?_
    simp only [zP, zI, zS, zO]
    refine xK false (.bool true) rfl rfl rfl rfl ?_
    refine xM (.bool true) rfl rfl rfl ?_
    refine xT 16 22 false true rfl rfl rfl rfl rfl rfl rfl (by decide) ?_
    simp only [zP, zI, zS, zO]
    refine xN 16 22 false true rfl rfl rfl (by decide) ?_
    simp only [zP, zI, zS, zO]
    refine xK true (.bool true) rfl rfl rfl rfl ?_
    refine wL ?_
    simp only [zP, zI, zS, zO]
    refine tN (hK5 _ _ ?_)
    clear hK5 K5
    refine wpIn_cond_true rfl ?_
    refine sK fun K11 hK11 => rL ?_
    refine xA (.bool false) rfl rfl rfl ?_
    refine wL ?_
    simp only [zP, zI, zS, zO]
    refine tN (hK11 _ _ ?_)
    clear hK11 K11
    refine wpIn_ret ?_
    refine then_ret ?_
    clear hK4 K4
    refine bR rfl rfl ?_
    exact ⟨false, rfl, fun h => (by cases h), (hv.sub (List.Sublist.cons _ (List.Sublist.refl _)))⟩
  refine xH 10 16 false (.bool false) rfl rfl rfl rfl (ex_gtr (k := .i64) (m := (v.texts.length : Int)) (n := 600) rfl rfl rfl (decide_eq_false hb10)) ?_
  simp only [zP, zI, zS, zO]
  refine xK false (.bool false) rfl rfl rfl rfl ?_
  refine xM (.bool false) rfl rfl rfl ?_
  refine xH 16 22 false (.pointer (some ⟨b2, 4, none⟩)) rfl rfl rfl rfl (ex_field rfl rfl (s1fa36_4 _ _ _)) ?_
  simp only [zP, zI, zS, zO]
  refine xH 16 22 false (.slice az v.zset.length cz) rfl rfl rfl rfl (ex_load rfl rfl (run_load1 s1na34 (hv.load 0 4 rfl rfl))) ?_
  refine xH 16 22 false (.int .i64 (v.zset.length : Int)) rfl rfl rfl rfl (ex_len0 Try.underlying34 rfl rfl) ?_
  by_cases hb12 : (v.zset.length : Int) > 60
  · refine xH 16 22 false (.bool true) rfl rfl rfl rfl (ex_gtr (k := .i64) (m := (v.zset.length : Int)) (n := 60) rfl rfl rfl (decide_eq_true hb12)) ?_
    simp only [zP, zI, zS, zO]
    refine xK false (.bool true) rfl rfl rfl rfl ?_
    refine wL ?_
    simp only [zP, zI, zS, zO]
    refine tN (hK5 _ _ ?_)
    clear hK5 K5
    refine wpIn_cond_true rfl ?_
    refine sK fun K13 hK13 => rL ?_
    refine xA (.bool false) rfl rfl rfl ?_
    refine wL ?_
    simp only [zP, zI, zS, zO]
    refine tN (hK13 _ _ ?_)
    clear hK13 K13
    refine wpIn_ret ?_
    refine then_ret ?_
    clear hK4 K4
    refine bR rfl rfl ?_
    exact ⟨false, rfl, fun h => (by cases h), (hv.sub (List.Sublist.cons _ (List.Sublist.refl _)))⟩
  refine xH 16 22 false (.bool false) rfl rfl rfl rfl (ex_gtr (k := .i64) (m := (v.zset.length : Int)) (n := 60) rfl rfl rfl (decide_eq_false hb12)) ?_
  simp only [zP, zI, zS, zO]
  refine xK false (.bool false) rfl rfl rfl rfl ?_
  refine wL ?_
  simp only [zP, zI, zS, zO]
  refine tN (hK5 _ _ ?_)
  clear hK5 K5
  refine wpIn_cond_false rfl ?_
  refine wpIn_skip ?_
  refine tN (hK4 _ _ ?_)
  clear hK4 K4
  refine sK fun K14 hK14 => ?_
  refine sK fun K15 hK15 => rL ?_
  refine xA (.int .i64 0) rfl rfl rfl ?_
  refine wL ?_
  simp only [zP, zI, zS, zO]
  refine tN (hK15 _ _ ?_)
  clear hK15 K15
  refine wpIn_block ?_
  gi_loopw [3] (fun x3 wr => ∃ (i : Nat), x3 = .int .i64 (i : Int) ∧ i ≤ v.pairs.length ∧ Inv B (Res.cell b2 [.int .i64 v.kind, .string ⟨v.text.toArray⟩, .slice ap v.pairs.length cp, .slice at2 v.texts.length ct, .slice az v.zset.length cz] 36 :: H) wr) (fun x3 _ => v.pairs.length - (intOf x3).toNat)
  case atStart => exact ⟨0, rfl, Nat.zero_le _, hv⟩
  case round =>
    obtain ⟨i, rfl, hi, hv⟩ := hrel
    refine sK fun K17 hK17 => ?_
    refine sK fun K18 hK18 => rL ?_
    refine xM (.int .i64 (i : Int)) rfl rfl rfl ?_
    refine xF (.pointer (some ⟨b2, 2, none⟩)) rfl rfl rfl (s1fa36_2 _ _ _) ?_
    refine xL (.slice ap v.pairs.length cp) rfl rfl rfl (run_load1 s1na32 (hv.load 0 2 rfl rfl)) ?_
    simp only [zP, zI, zS, zO]
    refine xG (.int .i64 (v.pairs.length : Int)) rfl rfl (ex_len0 Try.underlying32 rfl rfl) ?_
    by_cases hb19 : (i : Int) < (v.pairs.length : Int)
    · refine xG (.bool true) rfl rfl (ex_lss (k := .i64) (m := (i : Int)) (n := (v.pairs.length : Int)) rfl rfl rfl (decide_eq_true hb19)) ?_
      refine wL ?_
      simp only [zP, zI, zS, zO]
      refine tN (hK18 _ _ ?_)
      clear hK18 K18
      refine wpIn_cond_true rfl ?_
      refine wpIn_skip ?_
      refine tN (hK17 _ _ ?_)
      clear hK17 K17
      refine sK fun K20 hK20 => ?_
      refine wpIn_block ?_
      refine sK fun K21 hK21 => ?_
      obtain ⟨x, hx⟩ : ∃ x, v.pairs[i]? = some x := ⟨_, List.getElem?_eq_getElem (show i < v.pairs.length by omega)⟩
      obtain ⟨bb, bo, had, hrdx⟩ := pair_reads hrp hx
      subst had
      refine rL ?_
      refine xF (.pointer (some ⟨b2, 2, none⟩)) rfl rfl rfl (s1fa36_2 _ _ _) ?_
      refine xL (.slice (some ⟨bb, bo, none⟩) v.pairs.length cp) rfl rfl rfl (run_load1 s1na32 (hv.load 0 2 rfl rfl)) ?_
      refine xM (.int .i64 (i : Int)) rfl rfl rfl ?_
      simp only [zP, zI, zS, zO]
      refine xG (.pointer (some ⟨bb, bo + i * 2, none⟩)) rfl rfl (ex_index rfl rfl rfl (run_idx (k := i) Try.underlying32 s10es32 (by omega))) ?_
      refine xF (.pointer (some ⟨bb, bo + i * 2, none⟩)) rfl rfl rfl (s10fa83_0 _ _ _) ?_
      refine xL (.string ⟨x.1.toArray⟩) rfl rfl rfl (run_load1 s3na9 (hrdx _ _ _ (Base.Le.refl _) no_res hv 0 _ rfl)) ?_
      simp only [zP, zI, zS, zO]
      refine xG (.int .i64 (x.1.length : Int)) rfl rfl (ex_lenStr Try.underlying9 rfl rfl) ?_
      by_cases hb22 : (x.1.length : Int) > 200
      · refine xG (.bool true) rfl rfl (ex_gtr (k := .i64) (m := (x.1.length : Int)) (n := 200) rfl rfl rfl (decide_eq_true hb22)) ?_
        refine xM (.bool true) rfl rfl rfl ?_
        simp only [zP, zI, zS, zO]
        refine xT 8 43 false true rfl rfl rfl rfl rfl rfl rfl (by decide) ?_
        simp only [zP, zI, zS, zO]
        refine xT 8 43 false true rfl rfl rfl rfl rfl rfl rfl (by decide) ?_
        simp only [zP, zI, zS, zO]
        refine xN 8 43 false true rfl rfl rfl (by decide) ?_
        refine xN 8 43 false true rfl rfl rfl (by decide) ?_
        refine xK true (.bool true) rfl rfl rfl rfl ?_
        refine wL ?_
        simp only [zP, zI, zS, zO]
        refine tN (hK21 _ _ ?_)
        clear hK21 K21
        refine wpIn_cond_true rfl ?_
        refine sK fun K23 hK23 => rL ?_
        refine xA (.bool false) rfl rfl rfl ?_
        refine wL ?_
        simp only [zP, zI, zS, zO]
        refine tN (hK23 _ _ ?_)
        clear hK23 K23
        refine wpIn_ret ?_
        refine blk_ret ?_
        refine then_ret ?_
        clear hK20 K20
        refine then_ret ?_
        refine blk_ret ?_
        refine then_ret ?_
        clear hK14 K14
        refine bR rfl rfl ?_
        exact ⟨false, rfl, fun h => (by cases h), (hv.sub (List.Sublist.cons _ (List.Sublist.refl _)))⟩
      refine xG (.bool false) rfl rfl (ex_gtr (k := .i64) (m := (x.1.length : Int)) (n := 200) rfl rfl rfl (decide_eq_false hb22)) ?_
      refine xM (.bool false) rfl rfl rfl ?_
      simp only [zP, zI, zS, zO]
      refine xH 8 43 false (.pointer (some ⟨b2, 2, none⟩)) rfl rfl rfl rfl (ex_field rfl rfl (s1fa36_2 _ _ _)) ?_
      refine xH 8 43 false (.slice (some ⟨bb, bo, none⟩) v.pairs.length cp) rfl rfl rfl rfl (ex_load rfl rfl (run_load1 s1na32 (hv.load 0 2 rfl rfl))) ?_
      refine xH 8 43 false (.int .i64 (i : Int)) rfl rfl rfl rfl (ex_move rfl rfl) ?_
      simp only [zP, zI, zS, zO]
      refine xH 8 43 false (.pointer (some ⟨bb, bo + i * 2, none⟩)) rfl rfl rfl rfl (ex_index rfl rfl rfl (run_idx (k := i) Try.underlying32 s10es32 (by omega))) ?_
      refine xH 8 43 false (.pointer (some ⟨bb, bo + i * 2 + 1, none⟩)) rfl rfl rfl rfl (ex_field rfl rfl (s10fa83_1 _ _ _)) ?_
      refine xH 8 43 false (.string ⟨x.2.toArray⟩) rfl rfl rfl rfl (ex_load rfl rfl (run_load1 s3na9 (hrdx _ _ _ (Base.Le.refl _) no_res hv 1 _ rfl))) ?_
      simp only [zP, zI, zS, zO]
      refine xH 8 43 false (.int .i64 (x.2.length : Int)) rfl rfl rfl rfl (ex_lenStr Try.underlying9 rfl rfl) ?_
      by_cases hb24 : (x.2.length : Int) > 5000
      · refine xH 8 43 false (.bool true) rfl rfl rfl rfl (ex_gtr (k := .i64) (m := (x.2.length : Int)) (n := 5000) rfl rfl rfl (decide_eq_true hb24)) ?_
        refine xK false (.bool true) rfl rfl rfl rfl ?_
        refine wL ?_
        simp only [zP, zI, zS, zO]
        refine tN (hK21 _ _ ?_)
        clear hK21 K21
        refine wpIn_cond_true rfl ?_
        refine sK fun K25 hK25 => rL ?_
        refine xA (.bool false) rfl rfl rfl ?_
        refine wL ?_
        simp only [zP, zI, zS, zO]
        refine tN (hK25 _ _ ?_)
        clear hK25 K25
        refine wpIn_ret ?_
        refine blk_ret ?_
        refine then_ret ?_
        clear hK20 K20
        refine then_ret ?_
        refine blk_ret ?_
        refine then_ret ?_
        clear hK14 K14
        refine bR rfl rfl ?_
        exact ⟨false, rfl, fun h => (by cases h), (hv.sub (List.Sublist.cons _ (List.Sublist.refl _)))⟩
      refine xH 8 43 false (.bool false) rfl rfl rfl rfl (ex_gtr (k := .i64) (m := (x.2.length : Int)) (n := 5000) rfl rfl rfl (decide_eq_false hb24)) ?_
      refine xK false (.bool false) rfl rfl rfl rfl ?_
      refine wL ?_
      simp only [zP, zI, zS, zO]
      refine tN (hK21 _ _ ?_)
      clear hK21 K21
      refine wpIn_cond_false rfl ?_
      refine wpIn_skip ?_
      refine blk_normal ?_
      refine tN (hK20 _ _ ?_)
      clear hK20 K20
      refine rL ?_
      refine xM (.int .i64 (i : Int)) rfl rfl rfl ?_
      refine xG (.int .i64 ((i + 1 : Nat) : Int)) rfl rfl (ex_add (m := (i : Int)) (n := 1) rfl rfl rfl (by rw [i64_in (by omega)]; omega)) ?_
      refine xA (.int .i64 ((i + 1 : Nat) : Int)) rfl rfl rfl ?_
      refine wL ?_
      simp only [zP, zI, zS, zO]
      refine then_normal ?_
      go_roundw
      case rel => exact ⟨i + 1, rfl, by omega, hv⟩
      case measure => show v.pairs.length - (((i + 1 : Nat) : Int)).toNat < v.pairs.length - ((i : Int)).toNat; omega
    refine xG (.bool false) rfl rfl (ex_lss (k := .i64) (m := (i : Int)) (n := (v.pairs.length : Int)) rfl rfl rfl (decide_eq_false hb19)) ?_
    refine wL ?_
    simp only [zP, zI, zS, zO]
    refine tN (hK18 _ _ ?_)
    clear hK18 K18
    refine wpIn_cond_false rfl ?_
    refine wpIn_exit ?_
    refine then_exit ?_
    clear hK17 K17
    refine then_exit ?_
    refine blk_hit ?_
    refine tN (hK14 _ _ ?_)
    clear hK14 K14
    refine sK fun K26 hK26 => ?_
    refine sK fun K27 hK27 => rL ?_
    refine xA (.int .i64 0) rfl rfl rfl ?_
    refine wL ?_
    simp only [zP, zI, zS, zO]
    refine tN (hK27 _ _ ?_)
    clear hK27 K27
    refine wpIn_block ?_
    gi_loopw [4] (fun x4 wr => ∃ (i : Nat), x4 = .int .i64 (i : Int) ∧ i ≤ v.texts.length ∧ Inv B (Res.cell b2 [.int .i64 v.kind, .string ⟨v.text.toArray⟩, .slice ap v.pairs.length cp, .slice at2 v.texts.length ct, .slice az v.zset.length cz] 36 :: H) wr) (fun x4 _ => v.texts.length - (intOf x4).toNat)
    case atStart => exact ⟨0, rfl, Nat.zero_le _, hv⟩
    case round =>
      obtain ⟨i, rfl, hi, hv⟩ := hrel
      refine sK fun K29 hK29 => ?_
      refine sK fun K30 hK30 => rL ?_
      refine xM (.int .i64 (i : Int)) rfl rfl rfl ?_
      refine xF (.pointer (some ⟨b2, 3, none⟩)) rfl rfl rfl (s1fa36_3 _ _ _) ?_
      refine xL (.slice at2 v.texts.length ct) rfl rfl rfl (run_load1 s1na33 (hv.load 0 3 rfl rfl)) ?_
      simp only [zP, zI, zS, zO]
      refine xG (.int .i64 (v.texts.length : Int)) rfl rfl (ex_len0 Try.underlying33 rfl rfl) ?_
      by_cases hb31 : (i : Int) < (v.texts.length : Int)
      · refine xG (.bool true) rfl rfl (ex_lss (k := .i64) (m := (i : Int)) (n := (v.texts.length : Int)) rfl rfl rfl (decide_eq_true hb31)) ?_
        refine wL ?_
        simp only [zP, zI, zS, zO]
        refine tN (hK30 _ _ ?_)
        clear hK30 K30
        refine wpIn_cond_true rfl ?_
        refine wpIn_skip ?_
        refine tN (hK29 _ _ ?_)
        clear hK29 K29
        refine sK fun K32 hK32 => ?_
        refine wpIn_block ?_
        refine sK fun K33 hK33 => ?_
        obtain ⟨x, hx⟩ : ∃ x, v.texts[i]? = some x := ⟨_, List.getElem?_eq_getElem (show i < v.texts.length by omega)⟩
        obtain ⟨b3, o3, had, hrdx⟩ := text_reads hrt hx
        subst had
        refine rL ?_
        refine xF (.pointer (some ⟨b2, 3, none⟩)) rfl rfl rfl (s1fa36_3 _ _ _) ?_
        refine xL (.slice (some ⟨b3, o3, none⟩) v.texts.length ct) rfl rfl rfl (run_load1 s1na33 (hv.load 0 3 rfl rfl)) ?_
        refine xM (.int .i64 (i : Int)) rfl rfl rfl ?_
        simp only [zP, zI, zS, zO]
        refine xG (.pointer (some ⟨b3, o3 + i, none⟩)) rfl rfl (ex_index rfl rfl rfl (run_idx1 (k := i) Try.underlying33 s9es33 (by omega))) ?_
        refine xL (.string ⟨x.toArray⟩) rfl rfl rfl (run_load1 s3na9 (hrdx _ _ _ (Base.Le.refl _) no_res hv 0 _ rfl)) ?_
        refine xG (.int .i64 (x.length : Int)) rfl rfl (ex_lenStr Try.underlying9 rfl rfl) ?_
        simp only [zP, zI, zS, zO]
        by_cases hb34 : (x.length : Int) > 200
        · refine xG (.bool true) rfl rfl (ex_gtr (k := .i64) (m := (x.length : Int)) (n := 200) rfl rfl rfl (decide_eq_true hb34)) ?_
          refine wL ?_
          simp only [zP, zI, zS, zO]
          refine tN (hK33 _ _ ?_)
          clear hK33 K33
          refine wpIn_cond_true rfl ?_
          refine sK fun K35 hK35 => rL ?_
          refine xA (.bool false) rfl rfl rfl ?_
          refine wL ?_
          simp only [zP, zI, zS, zO]
          refine tN (hK35 _ _ ?_)
          clear hK35 K35
          refine wpIn_ret ?_
          refine blk_ret ?_
          refine then_ret ?_
          clear hK32 K32
          refine then_ret ?_
          refine blk_ret ?_
          refine then_ret ?_
          clear hK26 K26
          refine bR rfl rfl ?_
          exact ⟨false, rfl, fun h => (by cases h), (hv.sub (List.Sublist.cons _ (List.Sublist.refl _)))⟩
        refine xG (.bool false) rfl rfl (ex_gtr (k := .i64) (m := (x.length : Int)) (n := 200) rfl rfl rfl (decide_eq_false hb34)) ?_
        refine wL ?_
        simp only [zP, zI, zS, zO]
        refine tN (hK33 _ _ ?_)
        clear hK33 K33
        refine wpIn_cond_false rfl ?_
        refine wpIn_skip ?_
        refine blk_normal ?_
        refine tN (hK32 _ _ ?_)
        clear hK32 K32
        refine rL ?_
        refine xM (.int .i64 (i : Int)) rfl rfl rfl ?_
        refine xG (.int .i64 ((i + 1 : Nat) : Int)) rfl rfl (ex_add (m := (i : Int)) (n := 1) rfl rfl rfl (by rw [i64_in (by omega)]; omega)) ?_
        refine xA (.int .i64 ((i + 1 : Nat) : Int)) rfl rfl rfl ?_
        refine wL ?_
        simp only [zP, zI, zS, zO]
        refine then_normal ?_
        go_roundw
        case rel => exact ⟨i + 1, rfl, by omega, hv⟩
        case measure => show v.texts.length - (((i + 1 : Nat) : Int)).toNat < v.texts.length - ((i : Int)).toNat; omega
      refine xG (.bool false) rfl rfl (ex_lss (k := .i64) (m := (i : Int)) (n := (v.texts.length : Int)) rfl rfl rfl (decide_eq_false hb31)) ?_
      refine wL ?_
      simp only [zP, zI, zS, zO]
      refine tN (hK30 _ _ ?_)
      clear hK30 K30
      refine wpIn_cond_false rfl ?_
      refine wpIn_exit ?_
      refine then_exit ?_
      clear hK29 K29
      refine then_exit ?_
      refine blk_hit ?_
      refine tN (hK26 _ _ ?_)
      clear hK26 K26
      refine sK fun K36 hK36 => ?_
      refine sK fun K37 hK37 => rL ?_
      refine xA (.int .i64 0) rfl rfl rfl ?_
      refine wL ?_
      simp only [zP, zI, zS, zO]
      refine tN (hK37 _ _ ?_)
      clear hK37 K37
      refine wpIn_block ?_
      gi_loopw [5] (fun x5 wr => ∃ (i : Nat), x5 = .int .i64 (i : Int) ∧ i ≤ v.zset.length ∧ Inv B (Res.cell b2 [.int .i64 v.kind, .string ⟨v.text.toArray⟩, .slice ap v.pairs.length cp, .slice at2 v.texts.length ct, .slice az v.zset.length cz] 36 :: H) wr) (fun x5 _ => v.zset.length - (intOf x5).toNat)
      case atStart => exact ⟨0, rfl, Nat.zero_le _, hv⟩
      case round =>
        obtain ⟨i, rfl, hi, hv⟩ := hrel
        refine sK fun K39 hK39 => ?_
        refine sK fun K40 hK40 => rL ?_
        refine xM (.int .i64 (i : Int)) rfl rfl rfl ?_
        refine xF (.pointer (some ⟨b2, 4, none⟩)) rfl rfl rfl (s1fa36_4 _ _ _) ?_
        refine xL (.slice az v.zset.length cz) rfl rfl rfl (run_load1 s1na34 (hv.load 0 4 rfl rfl)) ?_
        simp only [zP, zI, zS, zO]
        refine xG (.int .i64 (v.zset.length : Int)) rfl rfl (ex_len0 Try.underlying34 rfl rfl) ?_
        by_cases hb41 : (i : Int) < (v.zset.length : Int)
        · refine xG (.bool true) rfl rfl (ex_lss (k := .i64) (m := (i : Int)) (n := (v.zset.length : Int)) rfl rfl rfl (decide_eq_true hb41)) ?_
          refine wL ?_
          simp only [zP, zI, zS, zO]
          refine tN (hK40 _ _ ?_)
          clear hK40 K40
          refine wpIn_cond_true rfl ?_
          refine wpIn_skip ?_
          refine tN (hK39 _ _ ?_)
          clear hK39 K39
          refine sK fun K42 hK42 => ?_
          refine wpIn_block ?_
          refine sK fun K43 hK43 => ?_
          obtain ⟨x, hx⟩ : ∃ x, v.zset[i]? = some x := ⟨_, List.getElem?_eq_getElem (show i < v.zset.length by omega)⟩
          obtain ⟨b4, o4, had, hrdx⟩ := mem_reads hrz hx
          subst had
          refine rL ?_
          refine xF (.pointer (some ⟨b2, 4, none⟩)) rfl rfl rfl (s1fa36_4 _ _ _) ?_
          refine xL (.slice (some ⟨b4, o4, none⟩) v.zset.length cz) rfl rfl rfl (run_load1 s1na34 (hv.load 0 4 rfl rfl)) ?_
          refine xM (.int .i64 (i : Int)) rfl rfl rfl ?_
          simp only [zP, zI, zS, zO]
          refine xG (.pointer (some ⟨b4, o4 + i * 2, none⟩)) rfl rfl (ex_index rfl rfl rfl (run_idx (k := i) Try.underlying34 s9es34 (by omega))) ?_
          refine xF (.pointer (some ⟨b4, o4 + i * 2 + 1, none⟩)) rfl rfl rfl (s9fa85_1 _ _ _) ?_
          refine xL (.string ⟨x.2.toArray⟩) rfl rfl rfl (run_load1 s3na9 (hrdx _ _ _ (Base.Le.refl _) no_res hv 1 _ rfl)) ?_
          simp only [zP, zI, zS, zO]
          refine xG (.int .i64 (x.2.length : Int)) rfl rfl (ex_lenStr Try.underlying9 rfl rfl) ?_
          by_cases hb44 : (x.2.length : Int) > 200
          · refine xG (.bool true) rfl rfl (ex_gtr (k := .i64) (m := (x.2.length : Int)) (n := 200) rfl rfl rfl (decide_eq_true hb44)) ?_
            refine wL ?_
            simp only [zP, zI, zS, zO]
            refine tN (hK43 _ _ ?_)
            clear hK43 K43
            refine wpIn_cond_true rfl ?_
            refine sK fun K45 hK45 => rL ?_
            refine xA (.bool false) rfl rfl rfl ?_
            refine wL ?_
            simp only [zP, zI, zS, zO]
            refine tN (hK45 _ _ ?_)
            clear hK45 K45
            refine wpIn_ret ?_
            refine blk_ret ?_
            refine then_ret ?_
            clear hK42 K42
            refine then_ret ?_
            refine blk_ret ?_
            refine then_ret ?_
            clear hK36 K36
            refine bR rfl rfl ?_
            exact ⟨false, rfl, fun h => (by cases h), (hv.sub (List.Sublist.cons _ (List.Sublist.refl _)))⟩
          refine xG (.bool false) rfl rfl (ex_gtr (k := .i64) (m := (x.2.length : Int)) (n := 200) rfl rfl rfl (decide_eq_false hb44)) ?_
          refine wL ?_
          simp only [zP, zI, zS, zO]
          refine tN (hK43 _ _ ?_)
          clear hK43 K43
          refine wpIn_cond_false rfl ?_
          refine wpIn_skip ?_
          refine blk_normal ?_
          refine tN (hK42 _ _ ?_)
          clear hK42 K42
          refine rL ?_
          refine xM (.int .i64 (i : Int)) rfl rfl rfl ?_
          refine xG (.int .i64 ((i + 1 : Nat) : Int)) rfl rfl (ex_add (m := (i : Int)) (n := 1) rfl rfl rfl (by rw [i64_in (by omega)]; omega)) ?_
          refine xA (.int .i64 ((i + 1 : Nat) : Int)) rfl rfl rfl ?_
          refine wL ?_
          simp only [zP, zI, zS, zO]
          refine then_normal ?_
          go_roundw
          case rel => exact ⟨i + 1, rfl, by omega, hv⟩
          case measure => show v.zset.length - (((i + 1 : Nat) : Int)).toNat < v.zset.length - ((i : Int)).toNat; omega
        refine xG (.bool false) rfl rfl (ex_lss (k := .i64) (m := (i : Int)) (n := (v.zset.length : Int)) rfl rfl rfl (decide_eq_false hb41)) ?_
        refine wL ?_
        simp only [zP, zI, zS, zO]
        refine tN (hK40 _ _ ?_)
        clear hK40 K40
        refine wpIn_cond_false rfl ?_
        refine wpIn_exit ?_
        refine then_exit ?_
        clear hK39 K39
        refine then_exit ?_
        refine blk_hit ?_
        refine tN (hK36 _ _ ?_)
        clear hK36 K36
        refine sK fun K46 hK46 => rL ?_
        refine xA (.bool true) rfl rfl rfl ?_
        refine wL ?_
        simp only [zP, zI, zS, zO]
        refine tN (hK46 _ _ ?_)
        clear hK46 K46
        refine wpIn_ret ?_
        refine bR rfl rfl ?_
        exact ⟨true, rfl, fun _ => ⟨by omega, by omega, by omega⟩, (hv.sub (List.Sublist.cons _ (List.Sublist.refl _)))⟩
theorem refSmall (B : Base) (H : List Res) (w : World) (v : Val) (p t z : Value) (h : ValRd B v p t z) (hv : Inv B H w) : Calls Try.prog 23 #[.agg (valCells v p t z).toArray] w fun e w' => ∃ b, e = .returned (.bool b) ∧ (b = true → ValSm v) ∧ Inv B H w' := by
  obtain ⟨⟨ap, cp, rfl, -, hrp⟩, ⟨at2, ct, rfl, -, hrt⟩, ⟨az, cz, rfl, -, hrz⟩⟩ := h
  exact refSmall0 B H w v ap at2 az cp ct cz hrp hrt hrz hv
theorem s18callable23 : Callable Try.prog 23 := ⟨_, Try.func23, by kernel_rfl, by kernel_rfl⟩
set_option maxHeartbeats 2000000 in
theorem lawSmall (B : Base) (H : List Res) (w : World) (ad : Option Addr) (c : Nat) (l : List Wr) (xs : List Value) (hr : RdV B [] ad xs) (hxs : WrsRd B l xs) (hv : Inv B H w) :
    Calls Try.prog 8 #[.slice ad l.length c] w fun e w' => ∃ b, e = .returned (.bool b) ∧ (b = true → l.length ≤ 12 ∧ ∀ x ∈ l, ValSm x.ver.val) ∧ Inv B H w' := by
  refine (callsIn_wide (n := 5)).1 ?_
  refine callsIn_of_wp Try.func8 rfl trivial ?_
  simp only [Try.ntmps8, List.size_toArray, List.length_cons, List.length_nil, Nat.reduceAdd, Nat.reduceSub, Array.replicate_succ, Array.replicate_zero, List.push_toArray, List.append_toArray, List.nil_append, List.cons_append]
  refine sK fun K1 hK1 => rL ?_
  refine xA (.bool false) rfl rfl rfl ?_
  refine wL ?_
  simp only [zP, zI, zS, zO]
  refine tN (hK1 _ _ ?_)
  clear hK1 K1
  refine sK fun K2 hK2 => ?_
  refine sK fun K3 hK3 => rL ?_
  refine xM (.slice ad l.length c) rfl rfl rfl ?_
  refine xG (.int .i64 (l.length : Int)) rfl rfl (ex_len0 Try.underlying27 rfl rfl) ?_
  by_cases hb4 : (l.length : Int) > 12
  · refine xG (.bool true) rfl rfl (ex_gtr (k := .i64) (m := (l.length : Int)) (n := 12) rfl rfl rfl (decide_eq_true hb4)) ?_
    refine wL ?_
    simp only [zP, zI, zS, zO]
    refine tN (hK3 _ _ ?_)
    clear hK3 K3
    refine wpIn_cond_true rfl ?_
    refine sK fun K5 hK5 => rL ?_
    refine xA (.bool false) rfl rfl rfl ?_
    refine wL ?_
    simp only [zP, zI, zS, zO]
    refine tN (hK5 _ _ ?_)
    clear hK5 K5
    refine wpIn_ret ?_
    refine then_ret ?_
    clear hK2 K2
    refine bR rfl rfl ?_
    exact ⟨false, rfl, fun h => (by cases h), hv⟩
  refine xG (.bool false) rfl rfl (ex_gtr (k := .i64) (m := (l.length : Int)) (n := 12) rfl rfl rfl (decide_eq_false hb4)) ?_
  refine wL ?_
  simp only [zP, zI, zS, zO]
  refine tN (hK3 _ _ ?_)
  clear hK3 K3
  refine wpIn_cond_false rfl ?_
  refine wpIn_skip ?_
  refine tN (hK2 _ _ ?_)
  clear hK2 K2
  refine sK fun K6 hK6 => ?_
  refine sK fun K7 hK7 => rL ?_
  refine xA (.int .i64 0) rfl rfl rfl ?_
  refine wL ?_
  simp only [zP, zI, zS, zO]
  refine tN (hK7 _ _ ?_)
  clear hK7 K7
  refine wpIn_block ?_
  gi_loopw [3] (fun x3 wr => ∃ (i : Nat), x3 = .int .i64 (i : Int) ∧ i ≤ l.length ∧ (∀ j x, j < i → l[j]? = some x → ValSm x.ver.val) ∧ Inv B H wr) (fun x3 _ => l.length - (intOf x3).toNat)
  case atStart => exact ⟨0, rfl, Nat.zero_le _, fun j x h => by omega, hv⟩
  case round =>
    obtain ⟨i, rfl, hi, hall, hv⟩ := hrel
    refine sK fun K9 hK9 => ?_
    refine sK fun K10 hK10 => rL ?_
    refine xM (.int .i64 (i : Int)) rfl rfl rfl ?_
    refine xM (.slice ad l.length c) rfl rfl rfl ?_
    refine xG (.int .i64 (l.length : Int)) rfl rfl (ex_len0 Try.underlying27 rfl rfl) ?_
    simp only [zP, zI, zS, zO]
    by_cases hb11 : (i : Int) < (l.length : Int)
    · refine xG (.bool true) rfl rfl (ex_lss (k := .i64) (m := (i : Int)) (n := (l.length : Int)) rfl rfl rfl (decide_eq_true hb11)) ?_
      refine wL ?_
      simp only [zP, zI, zS, zO]
      refine tN (hK10 _ _ ?_)
      clear hK10 K10
      refine wpIn_cond_true rfl ?_
      refine wpIn_skip ?_
      refine tN (hK9 _ _ ?_)
      clear hK9 K9
      refine sK fun K12 hK12 => ?_
      refine wpIn_block ?_
      refine sK fun K13 hK13 => ?_
      obtain ⟨x, hx⟩ : ∃ x, l[i]? = some x := ⟨_, List.getElem?_eq_getElem (show i < l.length by omega)⟩
      obtain ⟨bb, bo, xp, xt, xz, had, hvalx, hrdx⟩ := WrsRd.reads hxs hr hx
      subst had
      refine rL ?_
      refine xM (.slice (some ⟨bb, bo, none⟩) l.length c) rfl rfl rfl ?_
      refine xM (.int .i64 (i : Int)) rfl rfl rfl ?_
      refine xG (.pointer (some ⟨bb, bo + i * 9, none⟩)) rfl rfl (ex_index rfl rfl rfl (run_idx (k := i) Try.underlying27 s8es27 (by omega))) ?_
      simp only [zP, zI, zS, zO]
      refine xF (.pointer (some ⟨bb, bo + i * 9, none⟩)) rfl rfl rfl (s8fa40_0 _ _ _) ?_
      refine xL (.string ⟨x.key.toArray⟩) rfl rfl rfl (run_load1 s3na9 (hrdx _ _ _ (Base.Le.refl _) no_res hv 0 _ rfl)) ?_
      refine xG (.int .i64 (x.key.length : Int)) rfl rfl (ex_lenStr Try.underlying9 rfl rfl) ?_
      simp only [zP, zI, zS, zO]
      by_cases hb14 : (x.key.length : Int) > 300
      · refine xG (.bool true) rfl rfl (ex_gtr (k := .i64) (m := (x.key.length : Int)) (n := 300) rfl rfl rfl (decide_eq_true hb14)) ?_
        refine xM (.bool true) rfl rfl rfl ?_
        refine xT 7 20 false true rfl rfl rfl rfl rfl rfl rfl (by decide) ?_
        simp only [zP, zI, zS, zO]
        refine xT 7 20 false true rfl rfl rfl rfl rfl rfl rfl (by decide) ?_
        simp only [zP, zI, zS, zO]
        refine xN 7 20 false true rfl rfl rfl (by decide) ?_
        refine xN 7 20 false true rfl rfl rfl (by decide) ?_
        refine xK true (.bool true) rfl rfl rfl rfl ?_
        refine wL ?_
        simp only [zP, zI, zS, zO]
        refine tN (hK13 _ _ ?_)
        clear hK13 K13
        refine wpIn_cond_true rfl ?_
        refine sK fun K15 hK15 => rL ?_
        refine xA (.bool false) rfl rfl rfl ?_
        refine wL ?_
        simp only [zP, zI, zS, zO]
        refine tN (hK15 _ _ ?_)
        clear hK15 K15
        refine wpIn_ret ?_
        refine blk_ret ?_
        refine then_ret ?_
        clear hK12 K12
        refine then_ret ?_
        refine blk_ret ?_
        refine then_ret ?_
        clear hK6 K6
        refine bR rfl rfl ?_
        exact ⟨false, rfl, fun h => (by cases h), hv⟩
      refine xG (.bool false) rfl rfl (ex_gtr (k := .i64) (m := (x.key.length : Int)) (n := 300) rfl rfl rfl (decide_eq_false hb14)) ?_
      refine xM (.bool false) rfl rfl rfl ?_
      refine xH 7 20 false (.slice (some ⟨bb, bo, none⟩) l.length c) rfl rfl rfl rfl (ex_move rfl rfl) ?_
      simp only [zP, zI, zS, zO]
      refine xH 7 20 false (.int .i64 (i : Int)) rfl rfl rfl rfl (ex_move rfl rfl) ?_
      refine xH 7 20 false (.pointer (some ⟨bb, bo + i * 9, none⟩)) rfl rfl rfl rfl (ex_index rfl rfl rfl (run_idx (k := i) Try.underlying27 s8es27 (by omega))) ?_
      refine xH 7 20 false (.pointer (some ⟨bb, bo + i * 9 + 1, none⟩)) rfl rfl rfl rfl (ex_field rfl rfl (s14fa40_1 _ _ _)) ?_
      simp only [zP, zI, zS, zO]
      refine xH 7 20 false (.pointer (some ⟨bb, bo + i * 9 + 1 + 3, none⟩)) rfl rfl rfl rfl (ex_field rfl rfl (s1fa38_3 _ _ _)) ?_
      refine xH 7 20 false (.agg #[.int .i64 x.ver.val.kind, .string ⟨x.ver.val.text.toArray⟩, xp, xt, xz]) rfl rfl rfl rfl (ex_load rfl rfl (run_loadR (cs := [.int .i64 x.ver.val.kind, .string ⟨x.ver.val.text.toArray⟩, xp, xt, xz]) s1wd36 (Reads.mid (pre := [.string ⟨x.key.toArray⟩, .int .i64 x.ver.stamp, .bool x.ver.gone, .int .i64 x.ver.expire]) (mid := [.int .i64 x.ver.val.kind, .string ⟨x.ver.val.text.toArray⟩, xp, xt, xz]) (post := []) hrdx _ _ _ (Base.Le.refl _) no_res hv))) ?_
      refine wpi_callG s18callable23 tV wideC rfl (wanted_of (j := 7) (d := 20) (b := false) rfl rfl rfl) rfl (args := #[.agg #[.int .i64 x.ver.val.kind, .string ⟨x.ver.val.text.toArray⟩, xp, xt, xz]]) (by simp only [yA, yB, yC]; rfl) ((refSmall B _ _ x.ver.val xp xt xz hvalx hv).mono ?_)
      rintro e w17 ⟨bl16, rfl, hbl16, hv⟩
      refine ⟨_, rfl, ?_⟩
      cases bl16
      · simp only [zP, zI, zS, zO]
        refine xH 7 20 false (.bool true) rfl rfl rfl rfl (ex_not (b := false) rfl rfl rfl) ?_
        refine xK false (.bool true) rfl rfl rfl rfl ?_
        refine wL ?_
        simp only [zP, zI, zS, zO]
        refine tN (hK13 _ _ ?_)
        clear hK13 K13
        refine wpIn_cond_true rfl ?_
        refine sK fun K18 hK18 => rL ?_
        refine xA (.bool false) rfl rfl rfl ?_
        refine wL ?_
        simp only [zP, zI, zS, zO]
        refine tN (hK18 _ _ ?_)
        clear hK18 K18
        refine wpIn_ret ?_
        refine blk_ret ?_
        refine then_ret ?_
        clear hK12 K12
        refine then_ret ?_
        refine blk_ret ?_
        refine then_ret ?_
        clear hK6 K6
        refine bR rfl rfl ?_
        exact ⟨false, rfl, fun h => (by cases h), hv⟩
      simp only [zP, zI, zS, zO]
      refine xH 7 20 false (.bool false) rfl rfl rfl rfl (ex_not (b := true) rfl rfl rfl) ?_
      refine xK false (.bool false) rfl rfl rfl rfl ?_
      refine wL ?_
      simp only [zP, zI, zS, zO]
      refine tN (hK13 _ _ ?_)
      clear hK13 K13
      refine wpIn_cond_false rfl ?_
      refine wpIn_skip ?_
      refine blk_normal ?_
      refine tN (hK12 _ _ ?_)
      clear hK12 K12
      refine rL ?_
      refine xM (.int .i64 (i : Int)) rfl rfl rfl ?_
      refine xG (.int .i64 ((i + 1 : Nat) : Int)) rfl rfl (ex_add (m := (i : Int)) (n := 1) rfl rfl rfl (by rw [i64_in (by omega)]; omega)) ?_
      refine xA (.int .i64 ((i + 1 : Nat) : Int)) rfl rfl rfl ?_
      refine wL ?_
      simp only [zP, zI, zS, zO]
      refine then_normal ?_
      go_roundw
      case rel => exact ⟨i + 1, rfl, by omega, fun j x' hj hx' => (by
            rcases Nat.lt_or_ge j i with h | h
            · exact hall j x' h hx'
            obtain rfl : j = i := by omega
            rw [hx] at hx'; cases hx'
            exact hbl16 rfl), hv⟩
      case measure => show l.length - (((i + 1 : Nat) : Int)).toNat < l.length - ((i : Int)).toNat; omega
    refine xG (.bool false) rfl rfl (ex_lss (k := .i64) (m := (i : Int)) (n := (l.length : Int)) rfl rfl rfl (decide_eq_false hb11)) ?_
    refine wL ?_
    simp only [zP, zI, zS, zO]
    refine tN (hK10 _ _ ?_)
    clear hK10 K10
    refine wpIn_cond_false rfl ?_
    refine wpIn_exit ?_
    refine then_exit ?_
    clear hK9 K9
    refine then_exit ?_
    refine blk_hit ?_
    refine tN (hK6 _ _ ?_)
    clear hK6 K6
    refine sK fun K19 hK19 => rL ?_
    refine xA (.bool true) rfl rfl rfl ?_
    refine wL ?_
    simp only [zP, zI, zS, zO]
    refine tN (hK19 _ _ ?_)
    clear hK19 K19
    refine wpIn_ret ?_
    refine bR rfl rfl ?_
    obtain rfl : i = l.length := by omega
    exact ⟨true, rfl, fun _ => ⟨by omega, fun x hx => (by obtain ⟨j, hj⟩ := List.mem_iff_getElem?.1 hx; exact hall j x (List.getElem?_eq_some_iff.1 hj).1 hj)⟩, hv⟩
end Go.Proofs.Ytffmbdagjpdieaa
/- The store's laws in plain data: what is read back of what was written. -/
namespace Go.Proofs.Ytffmbdagjpdieaa
open Go.RowKit Go.Pm
theorem ChainOk.up {l : List Ver} (h : ChainOk l) : ∀ (i j : Nat) (x y : Ver), i < j → l[i]? = some x → l[j]? = some y → x.stamp < y.stamp
  | i, 0, _, _, hij, _, _ => by omega
  | i, j + 1, x, y, hij, hx, hy => by
    have hj : j < l.length := by have := (List.getElem?_eq_some_iff.1 hy).1; omega
    have h1 := (h (j + 1) y hy).2.2.2 j l[j] rfl (List.getElem?_eq_getElem hj)
    rcases Nat.lt_or_ge i j with h2 | h2
    · have := ChainOk.up h i j x l[j] h2 hx (List.getElem?_eq_getElem hj)
      omega
    obtain rfl : i = j := by omega
    rw [List.getElem?_eq_getElem hj] at hx
    cases hx
    exact h1
theorem snoc_get {α : Type} (l : List α) (x : α) : (l ++ [x])[l.length]? = some x := by simp
theorem upto_last {l : List Ver} {x : Ver} (hc : ChainOk (l ++ [x])) {i : Nat} {s : Int} (hs : x.stamp ≤ s) (h : UptoI (l ++ [x]) s i) : i = l.length + 1 := by
  have h1 := h.1
  rw [List.length_append, List.length_singleton] at h1
  refine Classical.byContradiction fun hne => ?_
  obtain ⟨y, hy⟩ : ∃ y, (l ++ [x])[i]? = some y := ⟨_, List.getElem?_eq_getElem (by rw [List.length_append, List.length_singleton]; omega)⟩
  have h2 := h.2.1 y hy
  rcases Nat.lt_or_ge i l.length with h3 | h3
  · have := hc.up i l.length y x h3 hy (snoc_get l x)
    omega
  obtain rfl : i = l.length := by omega
  rw [snoc_get] at hy
  cases hy
  omega
theorem at_last {l : List Ver} {x y : Ver} {ok : Bool} {s : Int} (hc : ChainOk (l ++ [x])) (hs : x.stamp ≤ s) (h : AtI (l ++ [x]) s y ok) : ok = true ∧ y = x := by
  rcases h with ⟨-, -, h⟩ | ⟨rfl, j, hj, h⟩
  · have := upto_last hc hs h
    omega
  have := upto_last hc hs h
  obtain rfl : j = l.length := by omega
  rw [snoc_get] at hj
  cases hj
  exact ⟨rfl, rfl⟩
theorem verOk_alive {x : Ver} (h : VerOk x) : aliveB x 0 = !x.gone := by
  unfold aliveB
  rcases h with ⟨h1, -⟩ | ⟨h1, h2, -⟩
  · rw [h1]; rfl
  rw [h1]
  rcases Int.lt_or_eq_of_le h2 with h3 | h3
  · simp [h3]
  simp [← h3]
theorem read_last {l : List Ver} {x y : Ver} {ok : Bool} {s : Int} (hc : ChainOk (l ++ [x])) (hs : x.stamp ≤ s) (h : ReadI (l ++ [x]) s 0 y ok) : (x.gone = true ∧ ok = false) ∨ (x.gone = false ∧ ok = true ∧ y = x) := by
  have ha := verOk_alive ((hc l.length x (snoc_get l x)).1)
  rcases h with ⟨rfl, h1, h2⟩ | ⟨rfl, -, z, b, h2, h3⟩
  · obtain ⟨-, rfl⟩ := at_last hc hs h2
    rw [h1] at ha
    exact .inr ⟨by simpa using ha, rfl, rfl⟩
  obtain ⟨rfl, rfl⟩ := at_last hc hs h2
  rw [h3 rfl] at ha
  exact .inl ⟨by simpa using ha, rfl⟩
end Go.Proofs.Ytffmbdagjpdieaa
/- Arguments of the store's laws: rows of rows of writes. -/
namespace Go.Pm
open Go.RowKit
def All2 {α β : Type} (R : α → β → Prop) : List α → List β → Prop
  | [], [] => True
  | a :: k, b :: l => R a b ∧ All2 R k l
  | _, _ => False
theorem rep_rowAux {W : World} {S : Nat → Prop} {t : Ty} {a : Option Addr} : ∀ (l : List t.den) (k : Nat), (∀ i (h : i < l.length), ∃ b off xs, a = some ⟨b, off, none⟩ ∧ S b ∧ xs.length = t.size ∧ (∀ j (h : j < xs.length), W.cell? ⟨b, off + (k + i) * t.size + j, none⟩ = some xs[j]) ∧ Rep W S t xs l[i]) →
    ∃ xss : List (List Value), All2 (fun xs d => xs.length = t.size ∧ Rep W S t xs d) xss l ∧ ∀ j (h : j < xss.flatten.length), ∃ b off, a = some ⟨b, off, none⟩ ∧ W.cell? ⟨b, off + k * t.size + j, none⟩ = some xss.flatten[j]
  | [], k, _ => ⟨[], trivial, fun j h => by simp at h⟩
  | d :: l, k, h => by
    obtain ⟨xss, h1, h2⟩ := rep_rowAux l (k + 1) (fun i hi => by
      obtain ⟨b, off, xs, e1, e2, e3, e4, e5⟩ := h (i + 1) (by simpa using hi)
      refine ⟨b, off, xs, e1, e2, e3, fun j hj => ?_, e5⟩
      rw [show k + 1 + i = k + (i + 1) by omega]
      exact e4 j hj)
    obtain ⟨b, off, xs, e1, e2, e3, e4, e5⟩ := h 0 (by simp)
    refine ⟨xs :: xss, ⟨⟨e3, e5⟩, h1⟩, fun j hj => ?_⟩
    rcases Nat.lt_or_ge j xs.length with hx | hx
    · refine ⟨b, off, e1, ?_⟩
      have := e4 j hx
      rw [Nat.add_zero] at this
      rw [this]
      simp only [List.flatten_cons]
      rw [List.getElem_append_left hx]
    have hj' : j - xs.length < xss.flatten.length := by
      simp only [List.flatten_cons, List.length_append] at hj
      omega
    obtain ⟨b', off', f1, f2⟩ := h2 (j - xs.length) hj'
    refine ⟨b', off', f1, ?_⟩
    rw [show off' + k * t.size + j = off' + (k + 1) * t.size + (j - xs.length) by rw [Nat.succ_mul]; omega, f2]
    simp only [List.flatten_cons]
    rw [List.getElem_append_right hx]
theorem rep_row {W : World} {S : Nat → Prop} {t : Ty} {cs : List Value} {l : List t.den} (h : Rep W S (.slice t) cs l) :
    ∃ a cap xss, cs = [.slice a l.length cap] ∧ SliceOk a l.length cap ∧ RdV (Base.of W) [] a xss.flatten ∧ All2 (fun xs d => xs.length = t.size ∧ Rep W S t xs d) xss l := by
  obtain ⟨a, cap, h1, h2, h4⟩ := h
  obtain ⟨xss, h5, h6⟩ := rep_rowAux (t := t) l 0 (fun i hi => by
    obtain ⟨b, off, xs, e1, e2, e3, e4, e5⟩ := h4 i hi
    refine ⟨b, off, xs, e1, e2, e3, fun j hj => ?_, e5⟩
    rw [Nat.zero_add]
    exact e4 j hj)
  refine ⟨a, cap, xss, h1, h2, rdV_of W fun j hj => ?_, h5⟩
  obtain ⟨b, off, f1, f2⟩ := h6 j hj
  exact ⟨b, off, f1, by rw [← f2, Nat.zero_mul, Nat.add_zero]⟩
abbrev pairTy : Ty := .pair .str (.pair .str .unit)
abbrev memTy : Ty := .pair (.int .i64) (.pair .str .unit)
abbrev valTy : Ty := .pair (.int .i64) (.pair .str (.pair (.slice pairTy) (.pair (.slice .str) (.pair (.slice memTy) .unit))))
abbrev verTy : Ty := .pair (.int .i64) (.pair .bool (.pair (.int .i64) (.pair valTy .unit)))
abbrev wrTy : Ty := .pair .str (.pair verTy .unit)
def valOf (d : valTy.den) : Val := ⟨d.1, d.2.1, d.2.2.1.map fun p => (p.1, p.2.1), d.2.2.2.1, d.2.2.2.2.1.map fun p => (p.1, p.2.1)⟩
def verOf (d : verTy.den) : Ver := ⟨d.1, d.2.1, d.2.2.1, valOf d.2.2.2.1⟩
def wrOf (d : wrTy.den) : Wr := ⟨d.1, verOf d.2.1⟩
theorem rep_pairs {W : World} {S : Nat → Prop} : ∀ {xss : List (List Value)} {l : List pairTy.den}, All2 (fun xs d => xs.length = pairTy.size ∧ Rep W S pairTy xs d) xss l → xss.flatten = pairCells (l.map fun p => (p.1, p.2.1))
  | [], [], _ => rfl
  | xs :: xss, d :: l, ⟨⟨h1, h2⟩, h⟩ => by
    have := rep_pairs h
    match xs, h1 with
    | [x0, x1], _ =>
      obtain ⟨⟨k1, _⟩, ⟨k2, _⟩, _⟩ := h2
      have k1' : [x0] = _ := k1
      have k2' : [x1] = _ := k2
      simp only [List.cons.injEq, and_true] at k1' k2'
      subst k1' k2'
      simp only [List.flatten_cons, this, List.map_cons, pairCells, List.flatMap_cons]
theorem rep_mems {W : World} {S : Nat → Prop} : ∀ {xss : List (List Value)} {l : List memTy.den}, All2 (fun xs d => xs.length = memTy.size ∧ Rep W S memTy xs d) xss l → xss.flatten = memCells (l.map fun p => (p.1, p.2.1))
  | [], [], _ => rfl
  | xs :: xss, d :: l, ⟨⟨h1, h2⟩, h⟩ => by
    have := rep_mems h
    match xs, h1 with
    | [x0, x1], _ =>
      obtain ⟨⟨k1, _⟩, ⟨k2, _⟩, _⟩ := h2
      have k1' : [x0] = _ := k1
      have k2' : [x1] = _ := k2
      simp only [List.cons.injEq, and_true] at k1' k2'
      subst k1' k2'
      simp only [List.flatten_cons, this, List.map_cons, memCells, List.flatMap_cons]
      rfl
theorem rep_texts {W : World} {S : Nat → Prop} : ∀ {xss : List (List Value)} {l : List (List UInt8)}, All2 (fun xs (d : Ty.str.den) => xs.length = Ty.str.size ∧ Rep W S .str xs d) xss l → xss.flatten = textCells l
  | [], [], _ => rfl
  | xs :: xss, d :: l, ⟨⟨h1, h2⟩, h⟩ => by
    have := rep_texts h
    match xs, h1 with
    | [x0], _ =>
      obtain ⟨k1, _⟩ := h2
      have k1' : [x0] = _ := k1
      simp only [List.cons.injEq, and_true] at k1'
      subst k1'
      simp only [List.flatten_cons, this, textCells, List.map_cons]
      rfl
theorem rep_val {W : World} {S : Nat → Prop} {k0 k1 k2 k3 k4 : Value} {d : valTy.den} (h : Rep W S valTy [k0, k1, k2, k3, k4] d) : k0 = .int .i64 (valOf d).kind ∧ k1 = strV (valOf d).text ∧ ValRd (Base.of W) (valOf d) k2 k3 k4 := by
  obtain ⟨⟨e0, _⟩, ⟨e1, _⟩, e2, e3, e4, _⟩ := h
  have e0' : [k0] = _ := e0
  have e1' : [k1] = _ := e1
  simp only [List.cons.injEq, and_true] at e0' e1'
  obtain ⟨a2, c2, x2, f2, g2, i2, j2⟩ := rep_row e2
  obtain ⟨a3, c3, x3, f3, g3, i3, j3⟩ := rep_row e3
  obtain ⟨a4, c4, x4, f4, g4, i4, j4⟩ := rep_row e4
  have f2' : [k2] = _ := f2
  have f3' : [k3] = _ := f3
  have f4' : [k4] = _ := f4
  simp only [List.cons.injEq, and_true] at f2' f3' f4'
  rw [rep_pairs j2] at i2
  rw [rep_texts j3] at i3
  rw [rep_mems j4] at i4
  refine ⟨e0', e1', ⟨a2, c2, ?_, ?_, i2⟩, ⟨a3, c3, f3', g3, i3⟩, ⟨a4, c4, ?_, ?_, i4⟩⟩
  · rw [f2']; simp [valOf]
  · simpa [valOf] using g2
  · rw [f4']; simp [valOf]
  simpa [valOf] using g4
theorem rep_wrs {W : World} {S : Nat → Prop} : ∀ {xss : List (List Value)} {l : List wrTy.den}, All2 (fun xs d => xs.length = wrTy.size ∧ Rep W S wrTy xs d) xss l → WrsRd (Base.of W) (l.map wrOf) xss.flatten
  | [], [], _ => rfl
  | xs :: xss, d :: l, ⟨⟨h1, h2⟩, h⟩ => by
    have := rep_wrs h
    match xs, h1 with
    | [x0, x1, x2, x3, x4, x5, x6, x7, x8], _ =>
      obtain ⟨⟨k1, _⟩, ⟨⟨s1, _⟩, g1, ⟨p1, _⟩, v1, _⟩, _⟩ := h2
      have k1' : [x0] = _ := k1
      have s1' : [x1] = _ := s1
      have g1' : [x2] = _ := g1
      have p1' : [x3] = _ := p1
      simp only [List.cons.injEq, and_true] at k1' s1' g1' p1'
      obtain ⟨q1, q2, q3⟩ := rep_val (k0 := x4) (k1 := x5) (k2 := x6) (k3 := x7) (k4 := x8) v1
      subst k1' s1' g1' p1' q1 q2
      exact ⟨x6, x7, x8, _, rfl, q3, this⟩
def WssRd (B : Base) (ll : List (List Wr)) (xs : List Value) : Prop := ∀ (i : Nat) (l : List Wr), ll[i]? = some l → ∃ (ad : Option Addr) (c : Nat) (ys : List Value), xs[i]? = some (Value.slice ad l.length c) ∧ SliceOk ad l.length c ∧ RdV B [] ad ys ∧ WrsRd B l ys
theorem rep_wss0 {W : World} {S : Nat → Prop} : ∀ {xss : List (List Value)} {ll : List (List wrTy.den)}, All2 (fun xs (d : (Ty.slice wrTy).den) => xs.length = (Ty.slice wrTy).size ∧ Rep W S (Ty.slice wrTy) xs d) xss ll → WssRd (Base.of W) (ll.map (·.map wrOf)) xss.flatten
  | [], [], _ => by intro i l h; simp at h
  | xs :: xss, d :: ll, ⟨⟨h1, h2⟩, h⟩ => by
    have ih := rep_wss0 h
    obtain ⟨a, c, ys, e1, e2, e3, e4⟩ := rep_row h2
    subst e1
    intro i l hl
    cases i with
    | zero =>
      simp only [List.map_cons, List.getElem?_cons_zero, Option.some.injEq] at hl
      subst hl
      exact ⟨a, c, _, by simp, by simpa using e2, e3, rep_wrs e4⟩
    | succ i =>
      obtain ⟨ad, c', ys', f1, f2⟩ := ih i l (by simpa using hl)
      exact ⟨ad, c', ys', by simpa using f1, f2⟩
theorem rep_wss {W : World} {S : Nat → Prop} {cs : List Value} {ll : List (List wrTy.den)} (h : Rep W S (.slice (.slice wrTy)) cs ll) :
    ∃ a cap xs, cs = [.slice a ll.length cap] ∧ SliceOk a ll.length cap ∧ RdV (Base.of W) [] a xs ∧ WssRd (Base.of W) (ll.map (·.map wrOf)) xs := by
  obtain ⟨a, cap, xss, h1, h2, h3, h4⟩ := rep_row h
  exact ⟨a, cap, _, h1, h2, h3, rep_wss0 h4⟩
theorem rep_wssL {W : World} {S : Nat → Prop} {cs : List Value} {ll : List (List wrTy.den)} (h : Rep W S (.slice (.slice wrTy)) cs ll) :
    ∃ (a : Option Addr) (cap : Nat) (xs : List Value) (wss : List (List Wr)), cs = [.slice a wss.length cap] ∧ RdV (Base.of W) [] a xs ∧ WssRd (Base.of W) wss xs := by
  obtain ⟨a, cap, xs, h1, -, h3, h4⟩ := rep_wss h
  exact ⟨a, cap, xs, _, by rw [List.length_map]; exact h1, h3, h4⟩
end Go.Pm
