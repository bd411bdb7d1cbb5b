/- pentimentoref07.Same -/
import Derived.Test.YtkannfkjnohdlaaMgH
import Derived.Test.YtkannfkjnohdlaaMgI
namespace Go.Proofs.Ytkannfkjnohdlaa
open Go.RowKit Go.Pm
theorem ents_get {C : Base} : ∀ {l : List (List UInt8)} {st : Nat} {xs : List Value}, EntsAt C st l xs → ∀ i (hi : i < l.length), ∃ ad c, xs[i * 2]? = some (.int .i64 ((st + i + 1 : Nat) : Int)) ∧ xs[i * 2 + 1]? = some (.slice ad l[i].length c) ∧ SliceOk ad l[i].length c ∧ RdV C [] ad (l[i].map B8)
  | [], _, _, _, i, hi => by simp at hi
  | b :: l, st, xs, h, 0, _ => by
    obtain ⟨ad, c, r, rfl, h2, h3, -⟩ := h
    exact ⟨ad, c, rfl, rfl, h2, h3⟩
  | b :: l, st, xs, h, i + 1, hi => by
    obtain ⟨ad, c, r, rfl, -, -, h4⟩ := h
    obtain ⟨ad', c', e1, e2, e3, e4⟩ := ents_get h4 i (by simpa using hi)
    refine ⟨ad', c', ?_, ?_, e3, e4⟩
    · rw [show (i + 1) * 2 = i * 2 + 1 + 1 by omega, List.getElem?_cons_succ, List.getElem?_cons_succ, e1]
      congr 2
      omega
    · rw [show (i + 1) * 2 + 1 = i * 2 + 1 + 1 + 1 by omega, List.getElem?_cons_succ, List.getElem?_cons_succ, e2]
      rfl
theorem rd_at {B : Base} {H : List Res} {ab aoff i : Nat} {xs : List Value} {w : World} {v : Value} (hr : RdV B H (some ⟨ab, aoff, none⟩) xs) (hv : Pm.Inv B H w) (hx : xs[i]? = some v) : w.cell? ⟨ab, aoff + i, none⟩ = some v := by
  obtain ⟨hi, rfl⟩ := List.getElem?_eq_some_iff.1 hx
  obtain ⟨b, off, h1, h2⟩ := hr.cellAt hv i hi
  cases h1
  exact h2
theorem rd_addr {B : Base} {H : List Res} {a : Option Addr} {i : Nat} {xs : List Value} {v : Value} (hr : RdV B H a xs) (hx : xs[i]? = some v) : ∃ ab aoff, a = some ⟨ab, aoff, none⟩ := by
  obtain ⟨hi, rfl⟩ := List.getElem?_eq_some_iff.1 hx
  obtain ⟨b, off, h1, -⟩ := hr i hi
  exact ⟨b, off, h1⟩
theorem rd_bytes {B : Base} {H : List Res} {a : Option Addr} {l : List UInt8} {w : World} (hr : RdV B [] a (l.map B8)) (hv : Pm.Inv B H w) : Bytes w (fun _ => True) a l := fun i hi => by
  obtain ⟨b, off, h1, h2⟩ := (hr.more (Base.Le.refl _) (fun r h => by cases h)).cellAt hv i (by simpa using hi)
  exact ⟨b, off, h1, trivial, by simpa using h2⟩

theorem g6es73 (w : World) : (sizeOf (Try.prog.elem 73)).run Try.prog w = .ok 2 w := by kernel_rfl
theorem g6fa55_0 (w : World) (b o : Nat) : (Instr.fieldAt 55 (.pointer (some ⟨b, o, none⟩)) 0).run Try.prog w = .ok (.pointer (some ⟨b, o + 0, none⟩)) w := by kernel_rfl
theorem g6na3 (w : World) : (isAgg 3).run Try.prog w = .ok false w := by kernel_rfl
theorem g6fa55_1 (w : World) (b o : Nat) : (Instr.fieldAt 55 (.pointer (some ⟨b, o, none⟩)) 1).run Try.prog w = .ok (.pointer (some ⟨b, o + 1, none⟩)) w := by kernel_rfl
theorem g6na24 (w : World) : (isAgg 24).run Try.prog w = .ok false w := by kernel_rfl
set_option maxRecDepth 100000 in
set_option maxHeartbeats 2000000 in
theorem refSame (B : Base) (H : List Res) (w : World) (a b : Option Addr) (c1 c2 st : Nat) (es fs : List (List UInt8)) (xs ys : List Value) (hxs : EntsAt B st es xs) (hys : EntsAt B st fs ys) (hra : RdV B H a xs) (hrb : RdV B H b ys) (hm : es.length ≤ 1000000) (hm2 : fs.length ≤ 1000000) (hv : Inv B H w) :
    Calls Try.prog 43 #[.slice a es.length c1, .slice b fs.length c2] w fun e w' => e = .returned (.bool (decide (es = fs))) ∧ Inv B H w' := by
  refine (callsIn_wide (n := 5)).1 ?_
  refine callsIn_of_wp Try.func43 rfl trivial ?_
  simp only [Try.ntmps43, List.size_toArray, List.length_cons, List.length_nil, Nat.reduceAdd, Nat.reduceSub, Array.replicate_succ, Array.replicate_zero, List.push_toArray, List.append_toArray, List.nil_append, List.cons_append]
  refine wpIn_seq_k (fun K1 hK1 => ?_)
  refine wpIn_region_lit ?_
  refine wpi_exG (v := .bool false) (fun _ => trivial) (wn rfl) rfl (ex_assign rfl rfl) ?_
  refine wpListIn_nil ?_
  simp only [Act.put, List.setIfInBounds_toArray, List.set_cons_succ, List.set_cons_zero]
  refine then_normal (hK1 _ _ ?_)
  clear hK1 K1
  refine wpIn_seq_k (fun K2 hK2 => ?_)
  refine wpIn_seq_k (fun K3 hK3 => ?_)
  refine wpIn_region_lit ?_
  refine wpi_exG (v := .slice a es.length c1) (fun _ => trivial) (wn rfl) rfl (ex_move rfl rfl) ?_
  refine wpi_exG (v := .int .i64 (es.length : Int)) (fun _ => trivial) (wn rfl) rfl (ex_len0 Try.underlying73 rfl rfl) ?_
  refine wpi_exG (v := .slice b fs.length c2) (fun _ => trivial) (wn rfl) rfl (ex_move rfl rfl) ?_
  simp only [Act.put, List.setIfInBounds_toArray, List.set_cons_succ, List.set_cons_zero]
  refine wpi_exG (v := .int .i64 (fs.length : Int)) (fun _ => trivial) (wn rfl) rfl (ex_len0 Try.underlying73 rfl rfl) ?_
  by_cases hb4 : (es.length : Int) ≠ (fs.length : Int)
  · refine wpi_exG (v := .bool true) (fun _ => trivial) (wn rfl) rfl (ex_neq (k := .i64) (m := (es.length : Int)) (n := (fs.length : Int)) rfl rfl rfl (decide_eq_true hb4)) ?_
    refine wpListIn_nil ?_
    simp only [Act.put, List.setIfInBounds_toArray, List.set_cons_succ, List.set_cons_zero]
    refine then_normal (hK3 _ _ ?_)
    clear hK3 K3
    refine wpIn_cond_true rfl ?_
    refine wpIn_seq_k (fun K5 hK5 => ?_)
    refine wpIn_region_lit ?_
    refine wpi_exG (v := .bool false) (fun _ => trivial) (wn rfl) rfl (ex_assign rfl rfl) ?_
    refine wpListIn_nil ?_
    simp only [Act.put, List.setIfInBounds_toArray, List.set_cons_succ, List.set_cons_zero]
    refine then_normal (hK5 _ _ ?_)
    clear hK5 K5
    refine wpIn_ret ?_
    refine then_ret ?_
    clear hK2 K2
    refine bodyPost_ret (results_tmp rfl _ _ _) rfl ?_
    rw [decide_eq_false (fun e => by subst e; omega)]; exact ⟨rfl, hv⟩
  · refine wpi_exG (v := .bool false) (fun _ => trivial) (wn rfl) rfl (ex_neq (k := .i64) (m := (es.length : Int)) (n := (fs.length : Int)) rfl rfl rfl (decide_eq_false hb4)) ?_
    refine wpListIn_nil ?_
    simp only [Act.put, List.setIfInBounds_toArray, List.set_cons_succ, List.set_cons_zero]
    refine then_normal (hK3 _ _ ?_)
    clear hK3 K3
    refine wpIn_cond_false rfl ?_
    refine wpIn_skip ?_
    refine then_normal (hK2 _ _ ?_)
    clear hK2 K2
    refine wpIn_seq_k (fun K6 hK6 => ?_)
    refine wpIn_seq_k (fun K7 hK7 => ?_)
    refine wpIn_region_lit ?_
    refine wpi_exG (v := .int .i64 0) (fun _ => trivial) (wn rfl) rfl (ex_assign rfl rfl) ?_
    refine wpListIn_nil ?_
    simp only [Act.put, List.setIfInBounds_toArray, List.set_cons_succ, List.set_cons_zero]
    refine then_normal (hK7 _ _ ?_)
    clear hK7 K7
    refine wpIn_block ?_
    gi_loopw [5] (fun x5 wr => ∃ i : Nat, x5 = .int .i64 (i : Int) ∧ i ≤ es.length ∧ es.take i = fs.take i ∧ Inv B H wr) (fun x5 _ => es.length - (intOf x5).toNat)
    case atStart => exact ⟨0, rfl, by omega, rfl, hv⟩
    case round =>
      obtain ⟨i, rfl, hi, heq, hv⟩ := hrel
      refine wpIn_seq_k (fun K9 hK9 => ?_)
      refine wpIn_seq_k (fun K10 hK10 => ?_)
      refine wpIn_region_lit ?_
      refine wpi_exG (v := .int .i64 (i : Int)) (fun _ => trivial) (wn rfl) rfl (ex_move rfl rfl) ?_
      refine wpi_exG (v := .slice a es.length c1) (fun _ => trivial) (wn rfl) rfl (ex_move rfl rfl) ?_
      refine wpi_exG (v := .int .i64 (es.length : Int)) (fun _ => trivial) (wn rfl) rfl (ex_len0 Try.underlying73 rfl rfl) ?_
      simp only [Act.put, List.setIfInBounds_toArray, List.set_cons_succ, List.set_cons_zero]
      by_cases hb11 : (i : Int) < (es.length : Int)
      · have hi2 : i < fs.length := by omega
        obtain ⟨ad, c, ex1, ex2, hok1, hb1⟩ := ents_get hxs i (by omega)
        obtain ⟨bd, d, ey1, ey2, hok2, hb2⟩ := ents_get hys i hi2
        obtain ⟨ab, aoff, rfl⟩ := rd_addr hra ex1
        obtain ⟨bb, boff, rfl⟩ := rd_addr hrb ey1
        have htk : es.take (i + 1) = es.take i ++ [es[i]] := by rw [List.take_succ_eq_append_getElem (by omega)]
        have htk2 : fs.take (i + 1) = fs.take i ++ [fs[i]] := by rw [List.take_succ_eq_append_getElem hi2]
        skip
        refine wpi_exG (v := .bool true) (fun _ => trivial) (wn rfl) rfl (ex_lss (k := .i64) (m := (i : Int)) (n := (es.length : Int)) rfl rfl rfl (decide_eq_true hb11)) ?_
        refine wpListIn_nil ?_
        simp only [Act.put, List.setIfInBounds_toArray, List.set_cons_succ, List.set_cons_zero]
        refine then_normal (hK10 _ _ ?_)
        clear hK10 K10
        refine wpIn_cond_true rfl ?_
        refine wpIn_skip ?_
        refine then_normal (hK9 _ _ ?_)
        clear hK9 K9
        refine wpIn_seq_k (fun K12 hK12 => ?_)
        refine wpIn_block ?_
        refine wpIn_seq_k (fun K13 hK13 => ?_)
        by_cases hb14 : (es[i]) ≠ (fs[i])
        · refine region_st mixed [.slice (some ⟨ab, aoff, none⟩) es.length c1, .int .i64 (i : Int), .pointer (some ⟨ab, aoff + i * 2, none⟩), .pointer (some ⟨ab, aoff + i * 2, none⟩), .int .i64 ((st + i + 1 : Nat) : Int), .slice (some ⟨bb, boff, none⟩) fs.length c2, .int .i64 (i : Int), .pointer (some ⟨bb, boff + i * 2, none⟩), .pointer (some ⟨bb, boff + i * 2, none⟩), .int .i64 ((st + i + 1 : Nat) : Int), .bool false, .bool false, .slice (some ⟨ab, aoff, none⟩) es.length c1, .int .i64 (i : Int), .pointer (some ⟨ab, aoff + i * 2, none⟩), .pointer (some ⟨ab, aoff + i * 2 + 1, none⟩), .slice ad (es[i].length) c, .string ⟨(es[i]).toArray⟩, .slice (some ⟨bb, boff, none⟩) fs.length c2, .int .i64 (i : Int), .pointer (some ⟨bb, boff + i * 2, none⟩), .pointer (some ⟨bb, boff + i * 2 + 1, none⟩), .slice bd (fs[i].length) d, .string ⟨(fs[i]).toArray⟩, .bool true, .bool true] [] [⟨fun vals w => vals = [] ∧ Inv B (H) w, fun _ _ _ ⟨h, hi⟩ he => ⟨h, hi.ext he⟩⟩] 43 rfl (by kernel_rfl) ⟨rfl, hv⟩ ⟨?_, ?_, ?_, ?_, ?_, ?_, ?_, ?_, ?_, ?_, ?_, ?_, ?_, ?_, ?_, ?_, ?_, ?_, ?_, ?_, ?_, ?_, ?_, ?_, ?_, ?_, trivial⟩ ?_
          · intro aa ww vals hJ hR
            exact add_step' rfl (Ex.adds' (ex_move rfl (show aa.eval (.tmp 0) = _ from hR.keep 0 rfl)) (wn rfl) rfl)
          · intro aa ww vals hJ hR
            exact add_step' rfl (Ex.adds' (ex_move rfl (show aa.eval (.tmp 5) = _ from hR.keep 5 rfl)) (wn rfl) rfl)
          · intro aa ww vals hJ hR
            exact add_step' rfl (Ex.adds' (ex_index rfl (show aa.eval (.tmp 17) = _ from hR.v 0 17 rfl rfl rfl rfl) (show aa.eval (.tmp 18) = _ from hR.v 1 18 rfl rfl rfl rfl) (run_idx (k := i) Try.underlying73 g6es73 (by omega))) (wn rfl) rfl)
          · intro aa ww vals hJ hR
            exact add_step' rfl (Ex.adds' (ex_field rfl (show aa.eval (.tmp 19) = _ from hR.v 2 19 rfl rfl rfl rfl) (g6fa55_0 _ _ _)) (wn rfl) rfl)
          · intro aa ww vals hJ hR
            have hl : vals.length = 0 := by have := JS.le (n := 0) (by rfl) hJ; omega
            obtain ⟨hvals, hv⟩ := hJ.at0 hl
            exact add_step' rfl (Ex.adds' (ex_load rfl (show aa.eval (.tmp 20) = _ from hR.v 3 20 rfl rfl rfl rfl) (run_load1 g6na3 (rd_at hra hv ex1))) (wn rfl) rfl)
          · intro aa ww vals hJ hR
            exact add_step' rfl (Ex.adds' (ex_move rfl (show aa.eval (.tmp 1) = _ from hR.keep 1 rfl)) (wn rfl) rfl)
          · intro aa ww vals hJ hR
            exact add_step' rfl (Ex.adds' (ex_move rfl (show aa.eval (.tmp 5) = _ from hR.keep 5 rfl)) (wn rfl) rfl)
          · intro aa ww vals hJ hR
            exact add_step' rfl (Ex.adds' (ex_index rfl (show aa.eval (.tmp 22) = _ from hR.v 5 22 rfl rfl rfl rfl) (show aa.eval (.tmp 23) = _ from hR.v 6 23 rfl rfl rfl rfl) (run_idx (k := i) Try.underlying73 g6es73 (by omega))) (wn rfl) rfl)
          · intro aa ww vals hJ hR
            exact add_step' rfl (Ex.adds' (ex_field rfl (show aa.eval (.tmp 24) = _ from hR.v 7 24 rfl rfl rfl rfl) (g6fa55_0 _ _ _)) (wn rfl) rfl)
          · intro aa ww vals hJ hR
            have hl : vals.length = 0 := by have := JS.le (n := 0) (by rfl) hJ; omega
            obtain ⟨hvals, hv⟩ := hJ.at0 hl
            exact add_step' rfl (Ex.adds' (ex_load rfl (show aa.eval (.tmp 25) = _ from hR.v 8 25 rfl rfl rfl rfl) (run_load1 g6na3 (rd_at hrb hv ey1))) (wn rfl) rfl)
          · intro aa ww vals hJ hR
            exact add_step' rfl (Ex.adds' (ex_neq (k := .i64) (m := ((st + i + 1 : Nat) : Int)) (n := ((st + i + 1 : Nat) : Int)) rfl (show aa.eval (.tmp 21) = _ from hR.v 4 21 rfl rfl rfl rfl) (show aa.eval (.tmp 26) = _ from hR.v 9 26 rfl rfl rfl rfl) (decide_eq_false (by omega))) (wn rfl) rfl)
          · intro aa ww vals hJ hR
            exact add_step' rfl (Ex.adds' (ex_move rfl (show aa.eval (.tmp 27) = _ from hR.v 10 27 rfl rfl rfl rfl)) (wn rfl) rfl)
          · intro aa ww vals hJ hR
            exact add_step' rfl (Ex.adds' (ex_move rfl (show aa.eval (.tmp 0) = _ from hR.keep 0 rfl)) (wanted_of (j := 11) (d := 28) (b := false) rfl rfl (hR.v 11 28 rfl rfl rfl rfl)) rfl)
          · intro aa ww vals hJ hR
            exact add_step' rfl (Ex.adds' (ex_move rfl (show aa.eval (.tmp 5) = _ from hR.keep 5 rfl)) (wanted_of (j := 11) (d := 28) (b := false) rfl rfl (hR.v 11 28 rfl rfl rfl rfl)) rfl)
          · intro aa ww vals hJ hR
            exact add_step' rfl (Ex.adds' (ex_index rfl (show aa.eval (.tmp 29) = _ from hR.v 12 29 rfl rfl rfl rfl) (show aa.eval (.tmp 30) = _ from hR.v 13 30 rfl rfl rfl rfl) (run_idx (k := i) Try.underlying73 g6es73 (by omega))) (wanted_of (j := 11) (d := 28) (b := false) rfl rfl (hR.v 11 28 rfl rfl rfl rfl)) rfl)
          · intro aa ww vals hJ hR
            exact add_step' rfl (Ex.adds' (ex_field rfl (show aa.eval (.tmp 31) = _ from hR.v 14 31 rfl rfl rfl rfl) (g6fa55_1 _ _ _)) (wanted_of (j := 11) (d := 28) (b := false) rfl rfl (hR.v 11 28 rfl rfl rfl rfl)) rfl)
          · intro aa ww vals hJ hR
            have hl : vals.length = 0 := by have := JS.le (n := 0) (by rfl) hJ; omega
            obtain ⟨hvals, hv⟩ := hJ.at0 hl
            exact add_step' rfl (Ex.adds' (ex_load rfl (show aa.eval (.tmp 32) = _ from hR.v 15 32 rfl rfl rfl rfl) (run_load1 g6na24 (by have h9 := rd_at hra hv ex2; rw [← Nat.add_assoc] at h9; exact h9))) (wanted_of (j := 11) (d := 28) (b := false) rfl rfl (hR.v 11 28 rfl rfl rfl rfl)) rfl)
          · intro aa ww vals hJ hR
            have hl : vals.length = 0 := by have := JS.le (n := 0) (by rfl) hJ; omega
            obtain ⟨hvals, hv⟩ := hJ.at0 hl
            exact add_step' rfl (Ex.adds' (ex_str Try.underlying24 Try.underlying5 Try.underlying9 rfl (show aa.eval (.tmp 33) = _ from hR.v 16 33 rfl rfl rfl rfl) (rd_bytes hb1 hv) (rfl)) (wanted_of (j := 11) (d := 28) (b := false) rfl rfl (hR.v 11 28 rfl rfl rfl rfl)) rfl)
          · intro aa ww vals hJ hR
            exact add_step' rfl (Ex.adds' (ex_move rfl (show aa.eval (.tmp 1) = _ from hR.keep 1 rfl)) (wanted_of (j := 11) (d := 28) (b := false) rfl rfl (hR.v 11 28 rfl rfl rfl rfl)) rfl)
          · intro aa ww vals hJ hR
            exact add_step' rfl (Ex.adds' (ex_move rfl (show aa.eval (.tmp 5) = _ from hR.keep 5 rfl)) (wanted_of (j := 11) (d := 28) (b := false) rfl rfl (hR.v 11 28 rfl rfl rfl rfl)) rfl)
          · intro aa ww vals hJ hR
            exact add_step' rfl (Ex.adds' (ex_index rfl (show aa.eval (.tmp 35) = _ from hR.v 18 35 rfl rfl rfl rfl) (show aa.eval (.tmp 36) = _ from hR.v 19 36 rfl rfl rfl rfl) (run_idx (k := i) Try.underlying73 g6es73 (by omega))) (wanted_of (j := 11) (d := 28) (b := false) rfl rfl (hR.v 11 28 rfl rfl rfl rfl)) rfl)
          · intro aa ww vals hJ hR
            exact add_step' rfl (Ex.adds' (ex_field rfl (show aa.eval (.tmp 37) = _ from hR.v 20 37 rfl rfl rfl rfl) (g6fa55_1 _ _ _)) (wanted_of (j := 11) (d := 28) (b := false) rfl rfl (hR.v 11 28 rfl rfl rfl rfl)) rfl)
          · intro aa ww vals hJ hR
            have hl : vals.length = 0 := by have := JS.le (n := 0) (by rfl) hJ; omega
            obtain ⟨hvals, hv⟩ := hJ.at0 hl
            exact add_step' rfl (Ex.adds' (ex_load rfl (show aa.eval (.tmp 38) = _ from hR.v 21 38 rfl rfl rfl rfl) (run_load1 g6na24 (by have h9 := rd_at hrb hv ey2; rw [← Nat.add_assoc] at h9; exact h9))) (wanted_of (j := 11) (d := 28) (b := false) rfl rfl (hR.v 11 28 rfl rfl rfl rfl)) rfl)
          · intro aa ww vals hJ hR
            have hl : vals.length = 0 := by have := JS.le (n := 0) (by rfl) hJ; omega
            obtain ⟨hvals, hv⟩ := hJ.at0 hl
            exact add_step' rfl (Ex.adds' (ex_str Try.underlying24 Try.underlying5 Try.underlying9 rfl (show aa.eval (.tmp 39) = _ from hR.v 22 39 rfl rfl rfl rfl) (rd_bytes hb2 hv) (rfl)) (wanted_of (j := 11) (d := 28) (b := false) rfl rfl (hR.v 11 28 rfl rfl rfl rfl)) rfl)
          · intro aa ww vals hJ hR
            exact add_step' rfl (Ex.adds' (ex_sneq (s := (es[i])) (s' := (fs[i])) rfl (show aa.eval (.tmp 34) = _ from hR.v 17 34 rfl rfl rfl rfl) (show aa.eval (.tmp 40) = _ from hR.v 23 40 rfl rfl rfl rfl) (decide_eq_true hb14)) (wanted_of (j := 11) (d := 28) (b := false) rfl rfl (hR.v 11 28 rfl rfl rfl rfl)) rfl)
          · intro aa ww vals hJ hR
            exact add_step' rfl (Ex.adds' (ex_pick (b := false) rfl (show aa.eval (.tmp 28) = _ from hR.v 11 28 rfl rfl rfl rfl) (show aa.eval (.tmp 41) = _ from hR.v 24 41 rfl rfl rfl rfl)) (wn rfl) rfl)
          rintro w15 vals ⟨rfl, hv⟩
          rw [show mixV [] [] 0 [.slice (some ⟨ab, aoff, none⟩) es.length c1, .int .i64 (i : Int), .pointer (some ⟨ab, aoff + i * 2, none⟩), .pointer (some ⟨ab, aoff + i * 2, none⟩), .int .i64 ((st + i + 1 : Nat) : Int), .slice (some ⟨bb, boff, none⟩) fs.length c2, .int .i64 (i : Int), .pointer (some ⟨bb, boff + i * 2, none⟩), .pointer (some ⟨bb, boff + i * 2, none⟩), .int .i64 ((st + i + 1 : Nat) : Int), .bool false, .bool false, .slice (some ⟨ab, aoff, none⟩) es.length c1, .int .i64 (i : Int), .pointer (some ⟨ab, aoff + i * 2, none⟩), .pointer (some ⟨ab, aoff + i * 2 + 1, none⟩), .slice ad (es[i].length) c, .string ⟨(es[i]).toArray⟩, .slice (some ⟨bb, boff, none⟩) fs.length c2, .int .i64 (i : Int), .pointer (some ⟨bb, boff + i * 2, none⟩), .pointer (some ⟨bb, boff + i * 2 + 1, none⟩), .slice bd (fs[i].length) d, .string ⟨(fs[i]).toArray⟩, .bool true, .bool true] = [.slice (some ⟨ab, aoff, none⟩) es.length c1, .int .i64 (i : Int), .pointer (some ⟨ab, aoff + i * 2, none⟩), .pointer (some ⟨ab, aoff + i * 2, none⟩), .int .i64 ((st + i + 1 : Nat) : Int), .slice (some ⟨bb, boff, none⟩) fs.length c2, .int .i64 (i : Int), .pointer (some ⟨bb, boff + i * 2, none⟩), .pointer (some ⟨bb, boff + i * 2, none⟩), .int .i64 ((st + i + 1 : Nat) : Int), .bool false, .bool false, .slice (some ⟨ab, aoff, none⟩) es.length c1, .int .i64 (i : Int), .pointer (some ⟨ab, aoff + i * 2, none⟩), .pointer (some ⟨ab, aoff + i * 2 + 1, none⟩), .slice ad (es[i].length) c, .string ⟨(es[i]).toArray⟩, .slice (some ⟨bb, boff, none⟩) fs.length c2, .int .i64 (i : Int), .pointer (some ⟨bb, boff + i * 2, none⟩), .pointer (some ⟨bb, boff + i * 2 + 1, none⟩), .slice bd (fs[i].length) d, .string ⟨(fs[i]).toArray⟩, .bool true, .bool true] from rfl]
          simp only [putAll, Act.put, List.setIfInBounds_toArray, List.set_cons_succ, List.set_cons_zero]
          refine then_normal (hK13 _ _ ?_)
          clear hK13 K13
          refine wpIn_cond_true rfl ?_
          refine wpIn_seq_k (fun K16 hK16 => ?_)
          refine wpIn_region_lit ?_
          refine wpi_exG (v := .bool false) (fun _ => trivial) (wn rfl) rfl (ex_assign rfl rfl) ?_
          refine wpListIn_nil ?_
          simp only [Act.put, List.setIfInBounds_toArray, List.set_cons_succ, List.set_cons_zero]
          refine then_normal (hK16 _ _ ?_)
          clear hK16 K16
          refine wpIn_ret ?_
          refine blk_ret ?_
          refine then_ret ?_
          clear hK12 K12
          refine then_ret ?_
          refine blk_ret ?_
          refine then_ret ?_
          clear hK6 K6
          refine bodyPost_ret (results_tmp rfl _ _ _) rfl ?_
          rw [decide_eq_false (fun e => by subst e; simp at *)]; exact ⟨rfl, hv⟩
        · refine region_st mixed [.slice (some ⟨ab, aoff, none⟩) es.length c1, .int .i64 (i : Int), .pointer (some ⟨ab, aoff + i * 2, none⟩), .pointer (some ⟨ab, aoff + i * 2, none⟩), .int .i64 ((st + i + 1 : Nat) : Int), .slice (some ⟨bb, boff, none⟩) fs.length c2, .int .i64 (i : Int), .pointer (some ⟨bb, boff + i * 2, none⟩), .pointer (some ⟨bb, boff + i * 2, none⟩), .int .i64 ((st + i + 1 : Nat) : Int), .bool false, .bool false, .slice (some ⟨ab, aoff, none⟩) es.length c1, .int .i64 (i : Int), .pointer (some ⟨ab, aoff + i * 2, none⟩), .pointer (some ⟨ab, aoff + i * 2 + 1, none⟩), .slice ad (es[i].length) c, .string ⟨(es[i]).toArray⟩, .slice (some ⟨bb, boff, none⟩) fs.length c2, .int .i64 (i : Int), .pointer (some ⟨bb, boff + i * 2, none⟩), .pointer (some ⟨bb, boff + i * 2 + 1, none⟩), .slice bd (fs[i].length) d, .string ⟨(fs[i]).toArray⟩, .bool false, .bool false] [] [⟨fun vals w => vals = [] ∧ Inv B (H) w, fun _ _ _ ⟨h, hi⟩ he => ⟨h, hi.ext he⟩⟩] 43 rfl (by kernel_rfl) ⟨rfl, hv⟩ ⟨?_, ?_, ?_, ?_, ?_, ?_, ?_, ?_, ?_, ?_, ?_, ?_, ?_, ?_, ?_, ?_, ?_, ?_, ?_, ?_, ?_, ?_, ?_, ?_, ?_, ?_, trivial⟩ ?_
          · intro aa ww vals hJ hR
            exact add_step' rfl (Ex.adds' (ex_move rfl (show aa.eval (.tmp 0) = _ from hR.keep 0 rfl)) (wn rfl) rfl)
          · intro aa ww vals hJ hR
            exact add_step' rfl (Ex.adds' (ex_move rfl (show aa.eval (.tmp 5) = _ from hR.keep 5 rfl)) (wn rfl) rfl)
          · intro aa ww vals hJ hR
            exact add_step' rfl (Ex.adds' (ex_index rfl (show aa.eval (.tmp 17) = _ from hR.v 0 17 rfl rfl rfl rfl) (show aa.eval (.tmp 18) = _ from hR.v 1 18 rfl rfl rfl rfl) (run_idx (k := i) Try.underlying73 g6es73 (by omega))) (wn rfl) rfl)
          · intro aa ww vals hJ hR
            exact add_step' rfl (Ex.adds' (ex_field rfl (show aa.eval (.tmp 19) = _ from hR.v 2 19 rfl rfl rfl rfl) (g6fa55_0 _ _ _)) (wn rfl) rfl)
          · intro aa ww vals hJ hR
            have hl : vals.length = 0 := by have := JS.le (n := 0) (by rfl) hJ; omega
            obtain ⟨hvals, hv⟩ := hJ.at0 hl
            exact add_step' rfl (Ex.adds' (ex_load rfl (show aa.eval (.tmp 20) = _ from hR.v 3 20 rfl rfl rfl rfl) (run_load1 g6na3 (rd_at hra hv ex1))) (wn rfl) rfl)
          · intro aa ww vals hJ hR
            exact add_step' rfl (Ex.adds' (ex_move rfl (show aa.eval (.tmp 1) = _ from hR.keep 1 rfl)) (wn rfl) rfl)
          · intro aa ww vals hJ hR
            exact add_step' rfl (Ex.adds' (ex_move rfl (show aa.eval (.tmp 5) = _ from hR.keep 5 rfl)) (wn rfl) rfl)
          · intro aa ww vals hJ hR
            exact add_step' rfl (Ex.adds' (ex_index rfl (show aa.eval (.tmp 22) = _ from hR.v 5 22 rfl rfl rfl rfl) (show aa.eval (.tmp 23) = _ from hR.v 6 23 rfl rfl rfl rfl) (run_idx (k := i) Try.underlying73 g6es73 (by omega))) (wn rfl) rfl)
          · intro aa ww vals hJ hR
            exact add_step' rfl (Ex.adds' (ex_field rfl (show aa.eval (.tmp 24) = _ from hR.v 7 24 rfl rfl rfl rfl) (g6fa55_0 _ _ _)) (wn rfl) rfl)
          · intro aa ww vals hJ hR
            have hl : vals.length = 0 := by have := JS.le (n := 0) (by rfl) hJ; omega
            obtain ⟨hvals, hv⟩ := hJ.at0 hl
            exact add_step' rfl (Ex.adds' (ex_load rfl (show aa.eval (.tmp 25) = _ from hR.v 8 25 rfl rfl rfl rfl) (run_load1 g6na3 (rd_at hrb hv ey1))) (wn rfl) rfl)
          · intro aa ww vals hJ hR
            exact add_step' rfl (Ex.adds' (ex_neq (k := .i64) (m := ((st + i + 1 : Nat) : Int)) (n := ((st + i + 1 : Nat) : Int)) rfl (show aa.eval (.tmp 21) = _ from hR.v 4 21 rfl rfl rfl rfl) (show aa.eval (.tmp 26) = _ from hR.v 9 26 rfl rfl rfl rfl) (decide_eq_false (by omega))) (wn rfl) rfl)
          · intro aa ww vals hJ hR
            exact add_step' rfl (Ex.adds' (ex_move rfl (show aa.eval (.tmp 27) = _ from hR.v 10 27 rfl rfl rfl rfl)) (wn rfl) rfl)
          · intro aa ww vals hJ hR
            exact add_step' rfl (Ex.adds' (ex_move rfl (show aa.eval (.tmp 0) = _ from hR.keep 0 rfl)) (wanted_of (j := 11) (d := 28) (b := false) rfl rfl (hR.v 11 28 rfl rfl rfl rfl)) rfl)
          · intro aa ww vals hJ hR
            exact add_step' rfl (Ex.adds' (ex_move rfl (show aa.eval (.tmp 5) = _ from hR.keep 5 rfl)) (wanted_of (j := 11) (d := 28) (b := false) rfl rfl (hR.v 11 28 rfl rfl rfl rfl)) rfl)
          · intro aa ww vals hJ hR
            exact add_step' rfl (Ex.adds' (ex_index rfl (show aa.eval (.tmp 29) = _ from hR.v 12 29 rfl rfl rfl rfl) (show aa.eval (.tmp 30) = _ from hR.v 13 30 rfl rfl rfl rfl) (run_idx (k := i) Try.underlying73 g6es73 (by omega))) (wanted_of (j := 11) (d := 28) (b := false) rfl rfl (hR.v 11 28 rfl rfl rfl rfl)) rfl)
          · intro aa ww vals hJ hR
            exact add_step' rfl (Ex.adds' (ex_field rfl (show aa.eval (.tmp 31) = _ from hR.v 14 31 rfl rfl rfl rfl) (g6fa55_1 _ _ _)) (wanted_of (j := 11) (d := 28) (b := false) rfl rfl (hR.v 11 28 rfl rfl rfl rfl)) rfl)
          · intro aa ww vals hJ hR
            have hl : vals.length = 0 := by have := JS.le (n := 0) (by rfl) hJ; omega
            obtain ⟨hvals, hv⟩ := hJ.at0 hl
            exact add_step' rfl (Ex.adds' (ex_load rfl (show aa.eval (.tmp 32) = _ from hR.v 15 32 rfl rfl rfl rfl) (run_load1 g6na24 (by have h9 := rd_at hra hv ex2; rw [← Nat.add_assoc] at h9; exact h9))) (wanted_of (j := 11) (d := 28) (b := false) rfl rfl (hR.v 11 28 rfl rfl rfl rfl)) rfl)
          · intro aa ww vals hJ hR
            have hl : vals.length = 0 := by have := JS.le (n := 0) (by rfl) hJ; omega
            obtain ⟨hvals, hv⟩ := hJ.at0 hl
            exact add_step' rfl (Ex.adds' (ex_str Try.underlying24 Try.underlying5 Try.underlying9 rfl (show aa.eval (.tmp 33) = _ from hR.v 16 33 rfl rfl rfl rfl) (rd_bytes hb1 hv) (rfl)) (wanted_of (j := 11) (d := 28) (b := false) rfl rfl (hR.v 11 28 rfl rfl rfl rfl)) rfl)
          · intro aa ww vals hJ hR
            exact add_step' rfl (Ex.adds' (ex_move rfl (show aa.eval (.tmp 1) = _ from hR.keep 1 rfl)) (wanted_of (j := 11) (d := 28) (b := false) rfl rfl (hR.v 11 28 rfl rfl rfl rfl)) rfl)
          · intro aa ww vals hJ hR
            exact add_step' rfl (Ex.adds' (ex_move rfl (show aa.eval (.tmp 5) = _ from hR.keep 5 rfl)) (wanted_of (j := 11) (d := 28) (b := false) rfl rfl (hR.v 11 28 rfl rfl rfl rfl)) rfl)
          · intro aa ww vals hJ hR
            exact add_step' rfl (Ex.adds' (ex_index rfl (show aa.eval (.tmp 35) = _ from hR.v 18 35 rfl rfl rfl rfl) (show aa.eval (.tmp 36) = _ from hR.v 19 36 rfl rfl rfl rfl) (run_idx (k := i) Try.underlying73 g6es73 (by omega))) (wanted_of (j := 11) (d := 28) (b := false) rfl rfl (hR.v 11 28 rfl rfl rfl rfl)) rfl)
          · intro aa ww vals hJ hR
            exact add_step' rfl (Ex.adds' (ex_field rfl (show aa.eval (.tmp 37) = _ from hR.v 20 37 rfl rfl rfl rfl) (g6fa55_1 _ _ _)) (wanted_of (j := 11) (d := 28) (b := false) rfl rfl (hR.v 11 28 rfl rfl rfl rfl)) rfl)
          · intro aa ww vals hJ hR
            have hl : vals.length = 0 := by have := JS.le (n := 0) (by rfl) hJ; omega
            obtain ⟨hvals, hv⟩ := hJ.at0 hl
            exact add_step' rfl (Ex.adds' (ex_load rfl (show aa.eval (.tmp 38) = _ from hR.v 21 38 rfl rfl rfl rfl) (run_load1 g6na24 (by have h9 := rd_at hrb hv ey2; rw [← Nat.add_assoc] at h9; exact h9))) (wanted_of (j := 11) (d := 28) (b := false) rfl rfl (hR.v 11 28 rfl rfl rfl rfl)) rfl)
          · intro aa ww vals hJ hR
            have hl : vals.length = 0 := by have := JS.le (n := 0) (by rfl) hJ; omega
            obtain ⟨hvals, hv⟩ := hJ.at0 hl
            exact add_step' rfl (Ex.adds' (ex_str Try.underlying24 Try.underlying5 Try.underlying9 rfl (show aa.eval (.tmp 39) = _ from hR.v 22 39 rfl rfl rfl rfl) (rd_bytes hb2 hv) (rfl)) (wanted_of (j := 11) (d := 28) (b := false) rfl rfl (hR.v 11 28 rfl rfl rfl rfl)) rfl)
          · intro aa ww vals hJ hR
            exact add_step' rfl (Ex.adds' (ex_sneq (s := (es[i])) (s' := (fs[i])) rfl (show aa.eval (.tmp 34) = _ from hR.v 17 34 rfl rfl rfl rfl) (show aa.eval (.tmp 40) = _ from hR.v 23 40 rfl rfl rfl rfl) (decide_eq_false hb14)) (wanted_of (j := 11) (d := 28) (b := false) rfl rfl (hR.v 11 28 rfl rfl rfl rfl)) rfl)
          · intro aa ww vals hJ hR
            exact add_step' rfl (Ex.adds' (ex_pick (b := false) rfl (show aa.eval (.tmp 28) = _ from hR.v 11 28 rfl rfl rfl rfl) (show aa.eval (.tmp 41) = _ from hR.v 24 41 rfl rfl rfl rfl)) (wn rfl) rfl)
          rintro w17 vals ⟨rfl, hv⟩
          rw [show mixV [] [] 0 [.slice (some ⟨ab, aoff, none⟩) es.length c1, .int .i64 (i : Int), .pointer (some ⟨ab, aoff + i * 2, none⟩), .pointer (some ⟨ab, aoff + i * 2, none⟩), .int .i64 ((st + i + 1 : Nat) : Int), .slice (some ⟨bb, boff, none⟩) fs.length c2, .int .i64 (i : Int), .pointer (some ⟨bb, boff + i * 2, none⟩), .pointer (some ⟨bb, boff + i * 2, none⟩), .int .i64 ((st + i + 1 : Nat) : Int), .bool false, .bool false, .slice (some ⟨ab, aoff, none⟩) es.length c1, .int .i64 (i : Int), .pointer (some ⟨ab, aoff + i * 2, none⟩), .pointer (some ⟨ab, aoff + i * 2 + 1, none⟩), .slice ad (es[i].length) c, .string ⟨(es[i]).toArray⟩, .slice (some ⟨bb, boff, none⟩) fs.length c2, .int .i64 (i : Int), .pointer (some ⟨bb, boff + i * 2, none⟩), .pointer (some ⟨bb, boff + i * 2 + 1, none⟩), .slice bd (fs[i].length) d, .string ⟨(fs[i]).toArray⟩, .bool false, .bool false] = [.slice (some ⟨ab, aoff, none⟩) es.length c1, .int .i64 (i : Int), .pointer (some ⟨ab, aoff + i * 2, none⟩), .pointer (some ⟨ab, aoff + i * 2, none⟩), .int .i64 ((st + i + 1 : Nat) : Int), .slice (some ⟨bb, boff, none⟩) fs.length c2, .int .i64 (i : Int), .pointer (some ⟨bb, boff + i * 2, none⟩), .pointer (some ⟨bb, boff + i * 2, none⟩), .int .i64 ((st + i + 1 : Nat) : Int), .bool false, .bool false, .slice (some ⟨ab, aoff, none⟩) es.length c1, .int .i64 (i : Int), .pointer (some ⟨ab, aoff + i * 2, none⟩), .pointer (some ⟨ab, aoff + i * 2 + 1, none⟩), .slice ad (es[i].length) c, .string ⟨(es[i]).toArray⟩, .slice (some ⟨bb, boff, none⟩) fs.length c2, .int .i64 (i : Int), .pointer (some ⟨bb, boff + i * 2, none⟩), .pointer (some ⟨bb, boff + i * 2 + 1, none⟩), .slice bd (fs[i].length) d, .string ⟨(fs[i]).toArray⟩, .bool false, .bool false] from rfl]
          simp only [putAll, Act.put, List.setIfInBounds_toArray, List.set_cons_succ, List.set_cons_zero]
          refine then_normal (hK13 _ _ ?_)
          clear hK13 K13
          refine wpIn_cond_false rfl ?_
          refine wpIn_skip ?_
          refine blk_normal ?_
          refine then_normal (hK12 _ _ ?_)
          clear hK12 K12
          refine wpIn_region_lit ?_
          refine wpi_exG (v := .int .i64 (i : Int)) (fun _ => trivial) (wn rfl) rfl (ex_move rfl rfl) ?_
          refine wpi_exG (v := .int .i64 ((i : Int) + 1)) (fun _ => trivial) (wn rfl) rfl (ex_add (m := (i : Int)) (n := 1) rfl rfl rfl (i64_in (by omega))) ?_
          refine wpi_exG (v := .int .i64 ((i : Int) + 1)) (fun _ => trivial) (wn rfl) rfl (ex_assign rfl rfl) ?_
          refine wpListIn_nil ?_
          simp only [Act.put, List.setIfInBounds_toArray, List.set_cons_succ, List.set_cons_zero]
          refine then_normal ?_
          go_roundw
          case rel => 
            have heqi : es[i] = fs[i] := by simpa using hb14
            exact ⟨i + 1, by simp, by omega, by rw [htk, htk2, heq, heqi], hv⟩
          case measure => show es.length - ((i : Int) + 1).toNat < es.length - (i : Int).toNat; omega
      · refine wpi_exG (v := .bool false) (fun _ => trivial) (wn rfl) rfl (ex_lss (k := .i64) (m := (i : Int)) (n := (es.length : Int)) rfl rfl rfl (decide_eq_false hb11)) ?_
        refine wpListIn_nil ?_
        simp only [Act.put, List.setIfInBounds_toArray, List.set_cons_succ, List.set_cons_zero]
        refine then_normal (hK10 _ _ ?_)
        clear hK10 K10
        refine wpIn_cond_false rfl ?_
        refine wpIn_exit ?_
        refine then_exit ?_
        clear hK9 K9
        refine then_exit ?_
        refine blk_hit ?_
        refine then_normal (hK6 _ _ ?_)
        clear hK6 K6
        refine wpIn_seq_k (fun K18 hK18 => ?_)
        refine wpIn_region_lit ?_
        refine wpi_exG (v := .bool true) (fun _ => trivial) (wn rfl) rfl (ex_assign rfl rfl) ?_
        refine wpListIn_nil ?_
        simp only [Act.put, List.setIfInBounds_toArray, List.set_cons_succ, List.set_cons_zero]
        refine then_normal (hK18 _ _ ?_)
        clear hK18 K18
        refine wpIn_ret ?_
        refine bodyPost_ret (results_tmp rfl _ _ _) rfl ?_
        have e : es = fs := by
          rw [List.take_of_length_le (by omega), List.take_of_length_le (by omega)] at heq; exact heq
        rw [decide_eq_true e]; exact ⟨rfl, hv⟩
end Go.Proofs.Ytkannfkjnohdlaa
/- awake, of the log's laws -/
namespace Go.Proofs.Ytkannfkjnohdlaa
open Go.RowKit Go.Pm

theorem l7fa111_5 (w : World) (b o : Nat) : (Instr.fieldAt 111 (.pointer (some ⟨b, o, none⟩)) 5).run Try.prog w = .ok (.pointer (some ⟨b, o + 5, none⟩)) w := by kernel_rfl
theorem l7na4 (w : World) : (isAgg 4).run Try.prog w = .ok false w := by kernel_rfl
theorem l7fa111_4 (w : World) (b o : Nat) : (Instr.fieldAt 111 (.pointer (some ⟨b, o, none⟩)) 4).run Try.prog w = .ok (.pointer (some ⟨b, o + 4, none⟩)) w := by kernel_rfl
theorem l7na3 (w : World) : (isAgg 3).run Try.prog w = .ok false w := by kernel_rfl
set_option maxRecDepth 100000 in
set_option maxHeartbeats 2000000 in
theorem logAppendArg (B : Base) (H : List Res) (w : World) (q p from_ kn used last : Nat) (D : Disk) (F : List Nat) (a : Option Addr) (nb cap : Nat) (st : Int) (hst : st ≠ (last : Int) + 1) (hl : last ≤ 1000000000) (hv : Inv B (Res.cell q [.pointer (some ⟨p, 0, none⟩), .int .i64 (from_ : Int), .int .i64 (kn : Int), .int .i64 (used : Int), .int .i64 (last : Int), .bool false] 111 :: diskR p D F :: H) w) :
    Calls Try.prog 40 #[.pointer (some ⟨q, 0, none⟩), .int .i64 st, .slice a nb cap] w fun e w' => e = .returned (.int .i64 2) ∧ w = w' := by
  refine (callsIn_wide (n := 5)).1 ?_
  refine callsIn_of_wp Try.func40 rfl trivial ?_
  simp only [Try.ntmps40, List.size_toArray, List.length_cons, List.length_nil, Nat.reduceAdd, Nat.reduceSub, Array.replicate_succ, Array.replicate_zero, List.push_toArray, List.append_toArray, List.nil_append, List.cons_append]
  refine wpIn_seq_k (fun K1 hK1 => ?_)
  refine wpIn_region_lit ?_
  refine wpi_exG (v := .int .i64 0) (fun _ => trivial) (wn rfl) rfl (ex_assign rfl rfl) ?_
  refine wpListIn_nil ?_
  simp only [Act.put, List.setIfInBounds_toArray, List.set_cons_succ, List.set_cons_zero]
  refine then_normal (hK1 _ _ ?_)
  clear hK1 K1
  refine wpIn_seq_k (fun K2 hK2 => ?_)
  refine wpIn_block ?_
  refine wpIn_seq_k (fun K3 hK3 => ?_)
  refine wpIn_region_lit ?_
  refine wpi_exG (v := .pointer (some ⟨q, 0, none⟩)) (fun _ => trivial) (wn rfl) rfl (ex_move rfl rfl) ?_
  refine wpi_exG (v := .pointer (some ⟨q, 0, none⟩)) (fun _ => trivial) (wn rfl) rfl (ex_nil rfl rfl) ?_
  refine wpi_exG (v := .pointer (some ⟨q, 5, none⟩)) (fun _ => trivial) (wn rfl) rfl (ex_field rfl rfl (l7fa111_5 _ _ _)) ?_
  simp only [Act.put, List.setIfInBounds_toArray, List.set_cons_succ, List.set_cons_zero]
  refine wpi_exG (v := .bool false) (fun _ => trivial) (wn rfl) rfl (ex_load rfl rfl (run_load1 l7na4 (hv.load 0 5 rfl rfl))) ?_
  refine wpi_exG (v := .bool false) (fun _ => trivial) (wn rfl) rfl (ex_assign rfl rfl) ?_
  refine wpListIn_nil ?_
  simp only [Act.put, List.setIfInBounds_toArray, List.set_cons_succ, List.set_cons_zero]
  refine then_normal (hK3 _ _ ?_)
  clear hK3 K3
  refine wpIn_cond_false rfl ?_
  refine wpIn_seq_k (fun K4 hK4 => ?_)
  refine wpIn_region_lit ?_
  refine wpi_exG (v := .int .i64 st) (fun _ => trivial) (wn rfl) rfl (ex_move rfl rfl) ?_
  refine wpi_exG (v := .pointer (some ⟨q, 0, none⟩)) (fun _ => trivial) (wn rfl) rfl (ex_move rfl rfl) ?_
  refine wpi_exG (v := .pointer (some ⟨q, 0, none⟩)) (fun _ => trivial) (wn rfl) rfl (ex_nil rfl rfl) ?_
  simp only [Act.put, List.setIfInBounds_toArray, List.set_cons_succ, List.set_cons_zero]
  refine wpi_exG (v := .pointer (some ⟨q, 4, none⟩)) (fun _ => trivial) (wn rfl) rfl (ex_field rfl rfl (l7fa111_4 _ _ _)) ?_
  refine wpi_exG (v := .int .i64 (last : Int)) (fun _ => trivial) (wn rfl) rfl (ex_load rfl rfl (run_load1 l7na3 (hv.load 0 4 rfl rfl))) ?_
  refine wpi_exG (v := .int .i64 ((last + 1 : Nat) : Int)) (fun _ => trivial) (wn rfl) rfl (ex_add (m := (last : Int)) (n := 1) rfl rfl rfl (by rw [i64_in (by omega)]; omega)) ?_
  simp only [Act.put, List.setIfInBounds_toArray, List.set_cons_succ, List.set_cons_zero]
  refine wpi_exG (v := .bool true) (fun _ => trivial) (wn rfl) rfl (ex_neq (k := .i64) (m := st) (n := ((last + 1 : Nat) : Int)) rfl rfl rfl (decide_eq_true (by omega))) ?_
  refine wpi_exG (v := .bool true) (fun _ => trivial) (wn rfl) rfl (ex_move rfl rfl) ?_
  refine wpi_not (fun _ => trivial) (wanted_not (j := 7) (d := 21) (b := false) (b' := true) rfl rfl rfl (by decide)) ?_
  simp only [Act.put, List.setIfInBounds_toArray, List.set_cons_succ, List.set_cons_zero]
  refine wpi_not (fun _ => trivial) (wanted_not (j := 7) (d := 21) (b := false) (b' := true) rfl rfl rfl (by decide)) ?_
  refine wpi_exG (v := .bool true) (fun _ => trivial) (wn rfl) rfl (ex_pick (b := true) rfl rfl rfl) ?_
  refine wpi_exG (v := .bool true) (fun _ => trivial) (wn rfl) rfl (ex_assign rfl rfl) ?_
  refine wpListIn_nil ?_
  simp only [Act.put, List.setIfInBounds_toArray, List.set_cons_succ, List.set_cons_zero]
  refine then_normal (hK4 _ _ ?_)
  clear hK4 K4
  refine wpIn_cond_true rfl ?_
  refine wpIn_seq_k (fun K5 hK5 => ?_)
  refine wpIn_region_lit ?_
  refine wpi_exG (v := .int .i64 2) (fun _ => trivial) (wn rfl) rfl (ex_assign rfl rfl) ?_
  refine wpListIn_nil ?_
  simp only [Act.put, List.setIfInBounds_toArray, List.set_cons_succ, List.set_cons_zero]
  refine then_normal (hK5 _ _ ?_)
  clear hK5 K5
  refine wpIn_ret ?_
  refine blk_ret ?_
  refine then_ret ?_
  clear hK2 K2
  refine bodyPost_ret (results_tmp rfl _ _ _) rfl ?_
  exact ⟨rfl, rfl⟩
theorem sl_row2 {F : Fence} {n : Nat} {P : Program} {ops : Array Oper} {Q : Exit → Act → World → Prop} {a : Act} {w : World} {rest : List Oper} {o : Oper} {B : Base} {H : List Res} {t e : TypeId} {x y : Operand} {u v : Value} (hF : ∀ f, F.fn f) (hg : Region.wanted o (yielded ops a.tmps) = true) (ho : o.op = .buildSlice t 2 #[(0, x), (1, y)]) (hx : a.eval x = u) (hy : a.eval y = v) (hv : Pm.Inv B H w)
    (hr : ∀ w, (Instr.buildSlice t 2 #[(0, u), (1, v)]).run P w = .ok (.slice (some ⟨w.heap.size, 0, none⟩) 2 2) (w.alloc (.cells [u, v].toArray e)))
    (h : ∀ b w', Pm.Inv B (Res.cell b [u, v] e :: H) w' → wpListIn F n P ops Q rest (a.put o.dst (.slice (some ⟨b, 0, none⟩) 2 2)) w') : wpListIn F n P ops Q (o :: rest) a w :=
  wpi_exG hF hg (by unfold isDefer; rw [ho]) (by unfold Ex; simp [execOp, ho, hx, hy, hr]) (h _ _ (hv.alloc [u, v] e))
theorem row_ab (w : World) : (Instr.buildSlice 24 2 #[(0, .int .u8 97), (1, .int .u8 98)]).run Try.prog w = .ok (.slice (some ⟨w.heap.size, 0, none⟩) 2 2) (w.alloc (.cells [Value.int .u8 97, .int .u8 98].toArray 5)) := by kernel_rfl
def LA1 : Disk := (putAll' (Disk.zero 6) 1 (logText [97, 98]) (logHdr 1 [97, 98])).2
def LA2 : Disk := LA1.crash []
theorem la_0 : (Disk.zero 6).view (Disk.zero 6).pend 1 5 = (Disk.zero 5).dur := by kernel_rfl
theorem la_1 : (putAll' (Disk.zero 6) 1 (logText [97, 98]) (logHdr 1 [97, 98])).1 = 0 := by kernel_rfl
theorem la_2 : LA2.view LA2.pend 1 5 = (putAll' (Disk.zero 5) 0 (logText [97, 98]) (logHdr 1 [97, 98])).2.dur := by kernel_rfl
theorem la_3 : (putAll' (Disk.zero 5) 0 (logText [97, 98]) (logHdr 1 [97, 98])).1 = 0 := by kernel_rfl
theorem la_p : LA1.pend = [] := by kernel_rfl
theorem la_l : LA1.dur.length = 6 := by kernel_rfl
theorem la_l2 : LA2.dur.length = 6 := by kernel_rfl
theorem la_p2 : LA2.pend = [] := rfl
theorem la_h : LHead (putAll' (Disk.zero 5) 0 (logText [97, 98]) (logHdr 1 [97, 98])).2.dur 5 2 1 0 [[97, 98]] := by
  rcases LState.append (b := [97, 98]) (lstate_zero 5) (by decide) (by decide) (by decide) with ⟨-, h⟩ | ⟨h, -⟩
  · exact h.head
  · exact absurd (la_3.symm.trans h) (by decide)

theorem l7callable21 : Callable Try.prog 21 := ⟨_, Try.func21, by kernel_rfl, by kernel_rfl⟩
theorem l7callable39 : Callable Try.prog 39 := ⟨_, Try.func39, by kernel_rfl, by kernel_rfl⟩
theorem l7callable40 : Callable Try.prog 40 := ⟨_, Try.func40, by kernel_rfl, by kernel_rfl⟩
theorem l7callable25 : Callable Try.prog 25 := ⟨_, Try.func25, by kernel_rfl, by kernel_rfl⟩
theorem l7mk55 : (Try.prog.info? 55).map (fun i => (i.zero, i.size, i.bytes)) = some (some (.agg #[.int .i64 0, .slice none 0 0]), 2, 32) := by kernel_rfl
theorem l7el73 : Elem Try.prog 73 55 (.agg #[.int .i64 0, .slice none 0 0]) 2 32 := elem_of Try.underlying73 l7mk55 (by rfl) (by decide)
theorem l7callable43 : Callable Try.prog 43 := ⟨_, Try.func43, by kernel_rfl, by kernel_rfl⟩
theorem l7callable54 : Callable Try.prog 54 := ⟨_, Try.func54, by kernel_rfl, by kernel_rfl⟩
set_option maxRecDepth 100000 in
set_option maxHeartbeats 2000000 in
theorem lawAwake07 (B : Base) (H : List Res) (w : World) (hv : Inv B H w) :
    Calls Try.prog 38 #[] w fun e w' => e = .returned (.bool true) ∧ Inv B H w' := by
  refine (callsIn_wide (n := 5)).1 ?_
  refine callsIn_of_wp Try.func38 rfl trivial ?_
  simp only [Try.ntmps38, List.size_toArray, List.length_cons, List.length_nil, Nat.reduceAdd, Nat.reduceSub, Array.replicate_succ, Array.replicate_zero, List.push_toArray, List.append_toArray, List.nil_append, List.cons_append]
  refine wpIn_seq_k (fun K1 hK1 => ?_)
  refine wpIn_region_lit ?_
  refine wpi_exG (v := .bool false) (fun _ => trivial) (wn rfl) rfl (ex_assign rfl rfl) ?_
  refine wpListIn_nil ?_
  simp only [Act.put, List.setIfInBounds_toArray, List.set_cons_succ, List.set_cons_zero]
  refine then_normal (hK1 _ _ ?_)
  clear hK1 K1
  refine wpIn_seq_k (fun K2 hK2 => ?_)
  refine wpIn_region_lit ?_
  refine wpi_callG l7callable21 (fun _ => trivial) wideC rfl (wn rfl) rfl (args := #[.int .i64 6]) (by simp only [List.map_toArray, List.map_cons, List.map_nil]; rfl) ((diskNewSl _ _ _ 6 (by omega) (by omega) hv).mono ?_)
  rintro e w5 ⟨p3, F4, rfl, hv⟩
  refine ⟨_, rfl, ?_⟩
  refine wpi_exG (v := .tuple #[.pointer (some ⟨p3, 0, none⟩), .int .i64 0]) (fun _ => trivial) (wn rfl) rfl (ex_move rfl rfl) ?_
  refine wpi_exG (v := .pointer (some ⟨p3, 0, none⟩)) (fun _ => trivial) (wn rfl) rfl (ex_extract rfl rfl rfl) ?_
  simp only [Act.put, List.setIfInBounds_toArray, List.set_cons_succ, List.set_cons_zero]
  refine wpi_exG (v := .int .i64 0) (fun _ => trivial) (wn rfl) rfl (ex_extract rfl rfl rfl) ?_
  refine wpi_exG (v := .pointer (some ⟨p3, 0, none⟩)) (fun _ => trivial) (wn rfl) rfl (ex_assign rfl rfl) ?_
  refine wpi_exG (v := .int .i64 0) (fun _ => trivial) (wn rfl) rfl (ex_assign rfl rfl) ?_
  refine wpListIn_nil ?_
  simp only [Act.put, List.setIfInBounds_toArray, List.set_cons_succ, List.set_cons_zero]
  refine then_normal (hK2 _ _ ?_)
  clear hK2 K2
  refine wpIn_seq_k (fun K6 hK6 => ?_)
  refine wpIn_seq_k (fun K7 hK7 => ?_)
  refine wpIn_region_lit ?_
  refine wpi_exG (v := .pointer (some ⟨p3, 0, none⟩)) (fun _ => trivial) (wn rfl) rfl (ex_move rfl rfl) ?_
  refine wpi_exG (v := .bool false) (fun _ => trivial) (wn rfl) rfl (ex_pisnil Try.underlying36 rfl rfl rfl rfl) ?_
  refine wpListIn_nil ?_
  simp only [Act.put, List.setIfInBounds_toArray, List.set_cons_succ, List.set_cons_zero]
  refine then_normal (hK7 _ _ ?_)
  clear hK7 K7
  refine wpIn_cond_false rfl ?_
  refine wpIn_skip ?_
  refine then_normal (hK6 _ _ ?_)
  clear hK6 K6
  refine wpIn_seq_k (fun K8 hK8 => ?_)
  refine wpIn_region_lit ?_
  refine wpi_exG (v := .pointer (some ⟨p3, 0, none⟩)) (fun _ => trivial) (wn rfl) rfl (ex_move rfl rfl) ?_
  refine wpi_callG l7callable39 (fun _ => trivial) wideC rfl (wn rfl) rfl (args := #[.pointer (some ⟨p3, 0, none⟩), .int .i64 1, .int .i64 5, .int .i64 0]) (by simp only [List.map_toArray, List.map_cons, List.map_nil]; rfl) ((logOpen _ _ _ p3 1 5 0 (Disk.zero 6) (Disk.zero 6) _ rfl (by decide) (by kernel_rfl) (by decide) (by decide) (by decide) (by decide) (by decide) (by decide) hv).mono ?_)
  rintro e w19 ⟨C16, q9, us10, es11, ad12, c13, xs14, F15, hB17, hop, hstop, hun, hen18, rfl, hv⟩
  refine ⟨_, rfl, ?_⟩
  rw [la_0] at hop hstop
  obtain ⟨rfl, rfl⟩ := open_all (lstate_zero 5).head hop hstop
  refine wpi_exG (v := .tuple #[.pointer (some ⟨q9, 0, none⟩), .slice ad12 0 c13, .int .i64 0]) (fun _ => trivial) (wn rfl) rfl (ex_move rfl rfl) ?_
  simp only [Act.put, List.setIfInBounds_toArray, List.set_cons_succ, List.set_cons_zero]
  refine wpi_exG (v := .pointer (some ⟨q9, 0, none⟩)) (fun _ => trivial) (wn rfl) rfl (ex_extract rfl rfl rfl) ?_
  refine wpi_exG (v := .slice ad12 0 c13) (fun _ => trivial) (wn rfl) rfl (ex_extract rfl rfl rfl) ?_
  refine wpi_exG (v := .int .i64 0) (fun _ => trivial) (wn rfl) rfl (ex_extract rfl rfl rfl) ?_
  simp only [Act.put, List.setIfInBounds_toArray, List.set_cons_succ, List.set_cons_zero]
  refine wpi_exG (v := .pointer (some ⟨q9, 0, none⟩)) (fun _ => trivial) (wn rfl) rfl (ex_assign rfl rfl) ?_
  refine wpi_exG (v := .slice ad12 0 c13) (fun _ => trivial) (wn rfl) rfl (ex_assign rfl rfl) ?_
  refine wpi_exG (v := .int .i64 0) (fun _ => trivial) (wn rfl) rfl (ex_assign rfl rfl) ?_
  refine wpListIn_nil ?_
  simp only [Act.put, List.setIfInBounds_toArray, List.set_cons_succ, List.set_cons_zero]
  refine then_normal (hK8 _ _ ?_)
  clear hK8 K8
  refine wpIn_seq_k (fun K20 hK20 => ?_)
  refine wpIn_seq_k (fun K21 hK21 => ?_)
  refine wpIn_region_lit ?_
  refine wpi_exG (v := .pointer (some ⟨q9, 0, none⟩)) (fun _ => trivial) (wn rfl) rfl (ex_move rfl rfl) ?_
  refine wpi_exG (v := .bool false) (fun _ => trivial) (wn rfl) rfl (ex_pisnil Try.underlying72 rfl rfl rfl rfl) ?_
  refine wpi_exG (v := .bool false) (fun _ => trivial) (wn rfl) rfl (ex_move rfl rfl) ?_
  simp only [Act.put, List.setIfInBounds_toArray, List.set_cons_succ, List.set_cons_zero]
  refine wpi_exG (v := .slice ad12 0 c13) (fun _ => trivial) (wanted_of (j := 2) (d := 23) (b := false) rfl rfl rfl) rfl (ex_move rfl rfl) ?_
  refine wpi_exG (v := .int .i64 0) (fun _ => trivial) (wanted_of (j := 2) (d := 23) (b := false) rfl rfl rfl) rfl (ex_len0 Try.underlying73 rfl rfl) ?_
  refine wpi_exG (v := .bool false) (fun _ => trivial) (wanted_of (j := 2) (d := 23) (b := false) rfl rfl rfl) rfl (ex_neq (k := .i64) (m := 0) (n := 0) rfl rfl rfl (by decide)) ?_
  simp only [Act.put, List.setIfInBounds_toArray, List.set_cons_succ, List.set_cons_zero]
  refine wpi_exG (v := .bool false) (fun _ => trivial) (wn rfl) rfl (ex_pick (b := false) rfl rfl rfl) ?_
  refine wpi_exG (v := .bool false) (fun _ => trivial) (wn rfl) rfl (ex_move rfl rfl) ?_
  refine wpi_exG (v := .int .i64 0) (fun _ => trivial) (wanted_of (j := 7) (d := 28) (b := false) rfl rfl rfl) rfl (ex_move rfl rfl) ?_
  simp only [Act.put, List.setIfInBounds_toArray, List.set_cons_succ, List.set_cons_zero]
  refine wpi_exG (v := .bool false) (fun _ => trivial) (wanted_of (j := 7) (d := 28) (b := false) rfl rfl rfl) rfl (ex_neq (k := .i64) (m := 0) (n := 0) rfl rfl rfl (by decide)) ?_
  refine wpi_exG (v := .bool false) (fun _ => trivial) (wn rfl) rfl (ex_pick (b := false) rfl rfl rfl) ?_
  refine wpi_exG (v := .bool false) (fun _ => trivial) (wn rfl) rfl (ex_move rfl rfl) ?_
  simp only [Act.put, List.setIfInBounds_toArray, List.set_cons_succ, List.set_cons_zero]
  refine wpi_exG (v := .pointer (some ⟨q9, 0, none⟩)) (fun _ => trivial) (wanted_of (j := 11) (d := 32) (b := false) rfl rfl rfl) rfl (ex_move rfl rfl) ?_
  refine sl_row2 (fun _ => trivial) (wanted_of (j := 11) (d := 32) (b := false) rfl rfl rfl) rfl rfl rfl hv row_ab (fun b22 w23 hv => ?_)
  refine sl_mark (fun _ => trivial) (wanted_of (j := 11) (d := 32) (b := false) rfl rfl rfl) rfl rfl Try.underlying24 Try.underlying5 hv (fun B24 w26 hB25 hv hrd27 => ?_)
  simp only [Act.put, List.setIfInBounds_toArray, List.set_cons_succ, List.set_cons_zero]
  replace hv := hv.front 2 rfl
  simp only [List.eraseIdx_cons_succ, List.eraseIdx_cons_zero] at hv
  replace hv := hv.front 1 rfl
  simp only [List.eraseIdx_cons_succ, List.eraseIdx_cons_zero] at hv
  refine wpi_callG l7callable40 (fun _ => trivial) wideC rfl (wanted_of (j := 11) (d := 32) (b := false) rfl rfl rfl) rfl (args := #[.pointer (some ⟨q9, 0, none⟩), .int .i64 1, .slice (some ⟨b22, 0, none⟩) 2 2]) (by simp only [List.map_toArray, List.map_cons, List.map_nil]; rfl) ((logAppend _ _ _ q9 p3 1 5 0 0 (Disk.zero 6) _ _ 2 2 [97, 98] (by decide) (by decide) (by decide) (by decide) (by decide) rfl (by decide) (ok_full (by decide)) hrd27.any' hv).mono ?_)
  rintro e w29 (⟨h, -, -⟩ | ⟨-, h, -⟩ | ⟨-, -, F28, rfl, hv⟩)
  · exact absurd h (by decide)
  · exact absurd la_1 h
  refine ⟨_, rfl, ?_⟩
  replace hv : Pm.Inv _ (_ :: diskR p3 LA1 F28 :: _) _ := hv
  refine wpi_exG (v := .bool false) (fun _ => trivial) (wanted_of (j := 11) (d := 32) (b := false) rfl rfl rfl) rfl (ex_neq (k := .i64) (m := 0) (n := 0) rfl rfl rfl (by decide)) ?_
  refine wpi_exG (v := .bool false) (fun _ => trivial) (wn rfl) rfl (ex_pick (b := false) rfl rfl rfl) ?_
  simp only [Act.put, List.setIfInBounds_toArray, List.set_cons_succ, List.set_cons_zero]
  refine wpi_exG (v := .bool false) (fun _ => trivial) (wn rfl) rfl (ex_move rfl rfl) ?_
  refine wpi_exG (v := .pointer (some ⟨q9, 0, none⟩)) (fun _ => trivial) (wanted_of (j := 18) (d := 39) (b := false) rfl rfl rfl) rfl (ex_move rfl rfl) ?_
  replace hv := hv.front 1 rfl
  simp only [List.eraseIdx_cons_succ, List.eraseIdx_cons_zero] at hv
  replace hv := hv.front 1 rfl
  simp only [List.eraseIdx_cons_succ, List.eraseIdx_cons_zero] at hv
  refine wpi_callG l7callable40 (fun _ => trivial) wideC rfl (wanted_of (j := 18) (d := 39) (b := false) rfl rfl rfl) rfl (args := #[.pointer (some ⟨q9, 0, none⟩), .int .i64 3, .slice none 0 0]) (by simp only [List.map_toArray, List.map_cons, List.map_nil]; rfl) ((logAppendArg _ _ _ q9 p3 1 5 2 1 LA1 _ none 0 0 3 (by decide) (by decide) hv).mono ?_)
  rintro e w30 ⟨rfl, rfl⟩
  refine ⟨_, rfl, ?_⟩
  simp only [Act.put, List.setIfInBounds_toArray, List.set_cons_succ, List.set_cons_zero]
  refine wpi_exG (v := .bool false) (fun _ => trivial) (wanted_of (j := 18) (d := 39) (b := false) rfl rfl rfl) rfl (ex_neq (k := .i64) (m := 2) (n := 2) rfl rfl rfl (by decide)) ?_
  refine wpi_exG (v := .bool false) (fun _ => trivial) (wn rfl) rfl (ex_pick (b := false) rfl rfl rfl) ?_
  refine wpListIn_nil ?_
  simp only [Act.put, List.setIfInBounds_toArray, List.set_cons_succ, List.set_cons_zero]
  refine then_normal (hK21 _ _ ?_)
  clear hK21 K21
  refine wpIn_cond_false rfl ?_
  refine wpIn_skip ?_
  refine then_normal (hK20 _ _ ?_)
  clear hK20 K20
  refine wpIn_seq_k (fun K31 hK31 => ?_)
  refine wpIn_region_lit ?_
  refine wpi_exG (v := .pointer (some ⟨p3, 0, none⟩)) (fun _ => trivial) (wn rfl) rfl (ex_move rfl rfl) ?_
  replace hv := hv.front 1 rfl
  simp only [List.eraseIdx_cons_succ, List.eraseIdx_cons_zero] at hv
  refine wpi_callG l7callable25 (fun _ => trivial) wideC rfl (wn rfl) rfl (args := #[.pointer (some ⟨p3, 0, none⟩), .slice none 0 0]) (by simp only [List.map_toArray, List.map_cons, List.map_nil]; rfl) ((diskCrashSl _ _ _ p3 _ _ _ _ _ [] hv (by rw [la_p]; decide) rfl (by decide) rdV_nil (by decide)).mono ?_)
  rintro e w33 ⟨F32, rfl, hv⟩
  refine ⟨_, rfl, ?_⟩
  refine wpListIn_nil ?_
  simp only [Act.put, List.setIfInBounds_toArray, List.set_cons_succ, List.set_cons_zero]
  refine then_normal (hK31 _ _ ?_)
  clear hK31 K31
  refine wpIn_seq_k (fun K34 hK34 => ?_)
  refine wpIn_region_lit ?_
  refine wpi_exG (v := .pointer (some ⟨p3, 0, none⟩)) (fun _ => trivial) (wn rfl) rfl (ex_move rfl rfl) ?_
  refine wpi_callG l7callable39 (fun _ => trivial) wideC rfl (wn rfl) rfl (args := #[.pointer (some ⟨p3, 0, none⟩), .int .i64 1, .int .i64 5, .int .i64 0]) (by simp only [List.map_toArray, List.map_cons, List.map_nil]; rfl) ((logOpen _ _ _ p3 1 5 0 LA2 (LA2) _ rfl (by decide) (by kernel_rfl) (by decide) (by decide) (by decide) (by rw [la_l2]; decide) (by rw [la_l2]; decide) (by decide) hv).mono ?_)
  rintro e w45 ⟨C42, q35, us36, es37, ad38, c39, xs40, F41, hB43, hop, hstop, hun, hen44, rfl, hv⟩
  refine ⟨_, rfl, ?_⟩
  rw [la_2] at hop hstop
  obtain ⟨rfl, rfl⟩ := open_all la_h hop hstop
  refine wpi_exG (v := .tuple #[.pointer (some ⟨q35, 0, none⟩), .slice ad38 1 c39, .int .i64 0]) (fun _ => trivial) (wn rfl) rfl (ex_move rfl rfl) ?_
  simp only [Act.put, List.setIfInBounds_toArray, List.set_cons_succ, List.set_cons_zero]
  refine wpi_exG (v := .pointer (some ⟨q35, 0, none⟩)) (fun _ => trivial) (wn rfl) rfl (ex_extract rfl rfl rfl) ?_
  refine wpi_exG (v := .slice ad38 1 c39) (fun _ => trivial) (wn rfl) rfl (ex_extract rfl rfl rfl) ?_
  refine wpi_exG (v := .int .i64 0) (fun _ => trivial) (wn rfl) rfl (ex_extract rfl rfl rfl) ?_
  simp only [Act.put, List.setIfInBounds_toArray, List.set_cons_succ, List.set_cons_zero]
  refine wpi_exG (v := .pointer (some ⟨q35, 0, none⟩)) (fun _ => trivial) (wn rfl) rfl (ex_assign rfl rfl) ?_
  refine wpi_exG (v := .slice ad38 1 c39) (fun _ => trivial) (wn rfl) rfl (ex_assign rfl rfl) ?_
  refine wpi_exG (v := .int .i64 0) (fun _ => trivial) (wn rfl) rfl (ex_assign rfl rfl) ?_
  refine wpListIn_nil ?_
  simp only [Act.put, List.setIfInBounds_toArray, List.set_cons_succ, List.set_cons_zero]
  refine then_normal (hK34 _ _ ?_)
  clear hK34 K34
  refine wpIn_seq_k (fun K46 hK46 => ?_)
  refine wpIn_region_lit ?_
  refine wpi_exG (v := .int .i64 0) (fun _ => trivial) (wn rfl) rfl (ex_move rfl rfl) ?_
  refine wpi_exG (v := .bool true) (fun _ => trivial) (wn rfl) rfl (ex_eql (k := .i64) (m := 0) (n := 0) rfl rfl rfl (by decide)) ?_
  refine wpi_exG (v := .bool true) (fun _ => trivial) (wn rfl) rfl (ex_move rfl rfl) ?_
  simp only [Act.put, List.setIfInBounds_toArray, List.set_cons_succ, List.set_cons_zero]
  refine wpi_exG (v := .slice ad38 1 c39) (fun _ => trivial) (wanted_of (j := 2) (d := 54) (b := true) rfl rfl rfl) rfl (ex_move rfl rfl) ?_
  refine sl_row2 (fun _ => trivial) (wanted_of (j := 2) (d := 54) (b := true) rfl rfl rfl) rfl rfl rfl hv row_ab (fun b47 w48 hv => ?_)
  refine sl_mark (fun _ => trivial) (wanted_of (j := 2) (d := 54) (b := true) rfl rfl rfl) rfl rfl Try.underlying24 Try.underlying5 hv (fun B49 w51 hB50 hv hrd52 => ?_)
  simp only [Act.put, List.setIfInBounds_toArray, List.set_cons_succ, List.set_cons_zero]
  refine wpi_exG (v := .agg #[.int .i64 1, .slice (some ⟨b47, 0, none⟩) 2 2]) (fun _ => trivial) (wanted_of (j := 2) (d := 54) (b := true) rfl rfl rfl) rfl (ex_buildN (vs := #[(0, .int .i64 1), (1, .slice (some ⟨b47, 0, none⟩) 2 2)]) rfl (by simp only [List.map_toArray, List.map_cons, List.map_nil]; rfl) (by kernel_rfl)) ?_
  refine sl_rowAgg (L := [.int .i64 1, .slice (some ⟨b47, 0, none⟩) 2 2]) (fun _ => trivial) (wanted_of (j := 2) (d := 54) (b := true) rfl rfl rfl) rfl rfl hv l7el73 rfl (by decide) (fun b53 w54 hv => ?_)
  replace hv := hv.front 2 rfl
  simp only [List.eraseIdx_cons_succ, List.eraseIdx_cons_zero] at hv
  obtain ⟨C55, hB56, hv, hra, -, hback⟩ := hv.rowBy
  have hxe := (hen44.more hB50).more hB56
  have hye : EntsAt C55 0 [[97, 98]] [.int .i64 1, .slice (some ⟨b47, 0, none⟩) 2 2] := ⟨_, _, [], rfl, ok_full (by decide), hrd52.more hB56 (fun _ h => h), rfl⟩
  refine wpi_callG l7callable43 (fun _ => trivial) wideC rfl (wanted_of (j := 2) (d := 54) (b := true) rfl rfl rfl) rfl (args := #[.slice ad38 1 c39, .slice (some ⟨b53, 0, none⟩) 1 1]) (by simp only [List.map_toArray, List.map_cons, List.map_nil]; rfl) ((refSame _ _ _ _ _ _ _ 0 [[97, 98]] [[97, 98]] _ _ hxe hye hra.any' (rdV_cell 0 (List.mem_of_getElem? (show _[0]? = some (Res.cell b53 [.int .i64 1, .slice (some ⟨b47, 0, none⟩) 2 2] 55) from rfl)) (fun i hi => by simp [hi])) (by decide) (by decide) hv).mono ?_)
  rintro e w57 ⟨rfl, hv⟩
  refine ⟨_, rfl, ?_⟩
  replace hv := hback _ _ hv
  simp only [Act.put, List.setIfInBounds_toArray, List.set_cons_succ, List.set_cons_zero]
  refine wpi_exG (v := .bool true) (fun _ => trivial) (wn rfl) rfl (ex_pick (b := true) rfl rfl rfl) ?_
  refine wpi_exG (v := .bool true) (fun _ => trivial) (wn rfl) rfl (ex_move rfl rfl) ?_
  refine wpi_callG l7callable54 (fun _ => trivial) wideC rfl (wanted_of (j := 10) (d := 62) (b := true) rfl rfl rfl) rfl (args := #[.int .i64 2]) (by simp only [List.map_toArray, List.map_cons, List.map_nil]; rfl) ((logSectors _ 2 (by omega)).mono ?_)
  rintro e w58 ⟨rfl, rfl⟩
  refine ⟨_, rfl, ?_⟩
  simp only [Act.put, List.setIfInBounds_toArray, List.set_cons_succ, List.set_cons_zero]
  refine wpi_exG (v := .bool true) (fun _ => trivial) (wanted_of (j := 10) (d := 62) (b := true) rfl rfl rfl) rfl (ex_eql (k := .i64) (m := 2) (n := 2) rfl rfl rfl (by decide)) ?_
  refine wpi_exG (v := .bool true) (fun _ => trivial) (wn rfl) rfl (ex_pick (b := true) rfl rfl rfl) ?_
  refine wpi_exG (v := .bool true) (fun _ => trivial) (wn rfl) rfl (ex_assign rfl rfl) ?_
  refine wpListIn_nil ?_
  simp only [Act.put, List.setIfInBounds_toArray, List.set_cons_succ, List.set_cons_zero]
  refine then_normal (hK46 _ _ ?_)
  clear hK46 K46
  refine wpIn_ret ?_
  refine bodyPost_ret (results_tmp rfl _ _ _) rfl ?_
  exact ⟨rfl, (hv.tail 6).weak (((hB17.trans hB25).trans hB43).trans hB50)⟩
end Go.Proofs.Ytkannfkjnohdlaa
