/- pentimentoref01.Add: the sum, or that it does not fit. -/
import Derived.Test.YtkhggadoagdhfaaGreatDoorOps5
import Derived.Test.YtkhggadoagdhfaaGreatDoorMonoSl
import Derived.Test.YtkhggadoagdhfaaGreatDoorRefPrint
import Derived.Test.YtkhggadoagdhfaaGreatDoorUndef
import Derived.Test.YtkhggadoagdhfaaGreatDoorRows
namespace Go.Proofs.YtkhggadoagdhfaaGreatDoor
open Go.RowKit Go.Pm
theorem i64_back (n s : Int) (h : s = n ∨ s = n + 18446744073709551616 ∨ s = n - 18446744073709551616) (h0 : -9223372036854775808 ≤ s) (h1 : s ≤ 9223372036854775807) : IntKind.i64.wrap (n % 18446744073709551616) = s := by
  rcases h with rfl | rfl | rfl <;> simp [IntKind.wrap, IntKind.signed, IntKind.bits] <;> split <;> omega

set_option maxRecDepth 100000 in
set_option maxHeartbeats 2000000 in
theorem refAdd (B : Base) (H : List Res) (w : World) (a b r : Int) (ok : Bool) (a0 : -9223372036854775808 ≤ a) (a1 : a ≤ 9223372036854775807) (b0 : -9223372036854775808 ≤ b) (b1 : b ≤ 9223372036854775807) (hr : (-9223372036854775808 ≤ a + b ∧ a + b ≤ 9223372036854775807 ∧ r = a + b ∧ ok = true) ∨ ((a + b < -9223372036854775808 ∨ 9223372036854775807 < a + b) ∧ r = 0 ∧ ok = false)) (hv : Inv B H w) :
    Calls Tryz.prog 9 #[.int .i64 a, .int .i64 b] w fun e w' => e = .returned (.tuple #[.int .i64 r, .bool ok]) ∧ Inv B H w' := by
  obtain ⟨s, hs, s0, s1⟩ : ∃ s : Int, (s = a + b ∨ s = a + b + 18446744073709551616 ∨ s = a + b - 18446744073709551616) ∧ -9223372036854775808 ≤ s ∧ s ≤ 9223372036854775807 := by
    by_cases h1 : a + b < -9223372036854775808
    · exact ⟨a + b + 18446744073709551616, by omega, by omega, by omega⟩
    · by_cases h2 : 9223372036854775807 < a + b
      · exact ⟨a + b - 18446744073709551616, by omega, by omega, by omega⟩
      · exact ⟨a + b, by omega, by omega, by omega⟩
  refine (callsIn_wide (n := 5)).1 ?_
  refine callsIn_of_wp Tryz.func9 rfl trivial ?_
  simp only [Tryz.ntmps9, List.size_toArray, List.length_cons, List.length_nil, Nat.reduceAdd, Nat.reduceSub, Array.replicate_succ, Array.replicate_zero, List.push_toArray, List.append_toArray, List.nil_append, List.cons_append]
  refine wpIn_seq_k (fun K1 hK1 => ?_)
  refine wpIn_region_lit ?_
  refine wpi_exG (v := .int .i64 0) (fun _ => trivial) (wn rfl) rfl (ex_assign rfl rfl) ?_
  refine wpi_exG (v := .bool false) (fun _ => trivial) (wn rfl) rfl (ex_assign rfl rfl) ?_
  refine wpListIn_nil ?_
  simp only [Act.put, List.setIfInBounds_toArray, List.set_cons_succ, List.set_cons_zero]
  refine then_normal (hK1 _ _ ?_)
  clear hK1 K1
  refine wpIn_seq_k (fun K2 hK2 => ?_)
  refine wpIn_region_lit ?_
  refine wpi_exG (v := .int .i64 a) (fun _ => trivial) (wn rfl) rfl (ex_move rfl rfl) ?_
  refine wpi_exG (v := .int .u64 (a % 18446744073709551616)) (fun _ => trivial) (wn rfl) rfl (ex_int (m := a) Tryz.underlying3 Tryz.underlying62 rfl rfl (u64_mod a)) ?_
  refine wpi_exG (v := .int .i64 b) (fun _ => trivial) (wn rfl) rfl (ex_move rfl rfl) ?_
  simp only [Act.put, List.setIfInBounds_toArray, List.set_cons_succ, List.set_cons_zero]
  refine wpi_exG (v := .int .u64 (b % 18446744073709551616)) (fun _ => trivial) (wn rfl) rfl (ex_int (m := b) Tryz.underlying3 Tryz.underlying62 rfl rfl (u64_mod b)) ?_
  refine wpi_exG (v := .int .u64 ((a + b) % 18446744073709551616)) (fun _ => trivial) (wn rfl) rfl (ex_add (m := (a % 18446744073709551616)) (n := (b % 18446744073709551616)) rfl rfl rfl (by rw [u64_mod]; omega)) ?_
  refine wpi_exG (v := .int .i64 s) (fun _ => trivial) (wn rfl) rfl (ex_int (m := ((a + b) % 18446744073709551616)) Tryz.underlying62 Tryz.underlying3 rfl rfl (i64_back (a + b) s hs s0 s1)) ?_
  simp only [Act.put, List.setIfInBounds_toArray, List.set_cons_succ, List.set_cons_zero]
  refine wpi_exG (v := .int .i64 s) (fun _ => trivial) (wn rfl) rfl (ex_assign rfl rfl) ?_
  refine wpListIn_nil ?_
  simp only [Act.put, List.setIfInBounds_toArray, List.set_cons_succ, List.set_cons_zero]
  refine then_normal (hK2 _ _ ?_)
  clear hK2 K2
  refine wpIn_seq_k (fun K3 hK3 => ?_)
  refine wpIn_seq_k (fun K4 hK4 => ?_)
  refine wpIn_region_lit ?_
  refine wpi_exG (v := .int .i64 a) (fun _ => trivial) (wn rfl) rfl (ex_move rfl rfl) ?_
  by_cases hb5 : a ≥ 0
  · refine wpi_exG (v := .bool true) (fun _ => trivial) (wn rfl) rfl (ex_geq (k := .i64) (m := a) (n := 0) rfl rfl rfl (decide_eq_true hb5)) ?_
    refine wpi_exG (v := .bool true) (fun _ => trivial) (wn rfl) rfl (ex_move rfl rfl) ?_
    simp only [Act.put, List.setIfInBounds_toArray, List.set_cons_succ, List.set_cons_zero]
    refine wpi_exG (v := .int .i64 b) (fun _ => trivial) (wanted_of (j := 2) (d := 15) (b := true) rfl rfl rfl) rfl (ex_move rfl rfl) ?_
    by_cases hb6 : b ≥ 0
    · refine wpi_exG (v := .bool true) (fun _ => trivial) (wanted_of (j := 2) (d := 15) (b := true) rfl rfl rfl) rfl (ex_geq (k := .i64) (m := b) (n := 0) rfl rfl rfl (decide_eq_true hb6)) ?_
      refine wpi_exG (v := .bool true) (fun _ => trivial) (wn rfl) rfl (ex_pick (b := true) rfl rfl rfl) ?_
      simp only [Act.put, List.setIfInBounds_toArray, List.set_cons_succ, List.set_cons_zero]
      refine wpi_exG (v := .bool true) (fun _ => trivial) (wn rfl) rfl (ex_move rfl rfl) ?_
      refine wpi_exG (v := .int .i64 s) (fun _ => trivial) (wanted_of (j := 6) (d := 19) (b := true) rfl rfl rfl) rfl (ex_move rfl rfl) ?_
      by_cases hb7 : s < 0
      · refine wpi_exG (v := .bool true) (fun _ => trivial) (wanted_of (j := 6) (d := 19) (b := true) rfl rfl rfl) rfl (ex_lss (k := .i64) (m := s) (n := 0) rfl rfl rfl (decide_eq_true hb7)) ?_
        simp only [Act.put, List.setIfInBounds_toArray, List.set_cons_succ, List.set_cons_zero]
        refine wpi_exG (v := .bool true) (fun _ => trivial) (wn rfl) rfl (ex_pick (b := true) rfl rfl rfl) ?_
        refine wpi_exG (v := .bool true) (fun _ => trivial) (wn rfl) rfl (ex_move rfl rfl) ?_
        refine wpi_not (fun _ => trivial) (wanted_not (j := 10) (d := 23) (b := false) (b' := true) rfl rfl rfl (by decide)) ?_
        simp only [Act.put, List.setIfInBounds_toArray, List.set_cons_succ, List.set_cons_zero]
        refine wpi_not (fun _ => trivial) (wanted_not (j := 10) (d := 23) (b := false) (b' := true) rfl rfl rfl (by decide)) ?_
        refine wpi_not (fun _ => trivial) (wanted_not (j := 10) (d := 23) (b := false) (b' := true) rfl rfl rfl (by decide)) ?_
        refine wpi_not (fun _ => trivial) (wanted_undef (j := 13) (d := 26) rfl rfl rfl) ?_
        simp only [Act.put, List.setIfInBounds_toArray, List.set_cons_succ, List.set_cons_zero]
        refine wpi_not (fun _ => trivial) (wanted_undef (j := 13) (d := 26) rfl rfl rfl) ?_
        refine wpi_not (fun _ => trivial) (wanted_not (j := 10) (d := 23) (b := false) (b' := true) rfl rfl rfl (by decide)) ?_
        refine wpi_not (fun _ => trivial) (wanted_not (j := 10) (d := 23) (b := false) (b' := true) rfl rfl rfl (by decide)) ?_
        simp only [Act.put, List.setIfInBounds_toArray, List.set_cons_succ, List.set_cons_zero]
        refine wpi_not (fun _ => trivial) (wanted_undef (j := 17) (d := 30) rfl rfl rfl) ?_
        refine wpi_not (fun _ => trivial) (wanted_undef (j := 17) (d := 30) rfl rfl rfl) ?_
        refine wpi_not (fun _ => trivial) (wanted_not (j := 10) (d := 23) (b := false) (b' := true) rfl rfl rfl (by decide)) ?_
        simp only [Act.put, List.setIfInBounds_toArray, List.set_cons_succ, List.set_cons_zero]
        refine wpi_exG (v := .bool true) (fun _ => trivial) (wn rfl) rfl (ex_pick (b := true) rfl rfl rfl) ?_
        refine wpListIn_nil ?_
        simp only [Act.put, List.setIfInBounds_toArray, List.set_cons_succ, List.set_cons_zero]
        refine then_normal (hK4 _ _ ?_)
        clear hK4 K4
        refine wpIn_cond_true rfl ?_
        refine wpIn_seq_k (fun K8 hK8 => ?_)
        refine wpIn_region_lit ?_
        refine wpi_exG (v := .int .i64 0) (fun _ => trivial) (wn rfl) rfl (ex_assign rfl rfl) ?_
        refine wpi_exG (v := .bool false) (fun _ => trivial) (wn rfl) rfl (ex_assign rfl rfl) ?_
        refine wpListIn_nil ?_
        simp only [Act.put, List.setIfInBounds_toArray, List.set_cons_succ, List.set_cons_zero]
        refine then_normal (hK8 _ _ ?_)
        clear hK8 K8
        refine wpIn_ret ?_
        refine then_ret ?_
        clear hK3 K3
        refine bodyPost_ret (results_tmp2 rfl _ _ _) rfl ?_
        have hrr : r = 0 ∧ ok = false := by
          rcases hr with ⟨x1, x2, x3, x4⟩ | ⟨x1, x3, x4⟩
          · first | exact ⟨by omega, x4⟩ | (exfalso; omega)
          · first | exact ⟨by omega, x4⟩ | (exfalso; omega)
        rw [hrr.1, hrr.2]; exact ⟨rfl, hv⟩
      · refine wpi_exG (v := .bool false) (fun _ => trivial) (wanted_of (j := 6) (d := 19) (b := true) rfl rfl rfl) rfl (ex_lss (k := .i64) (m := s) (n := 0) rfl rfl rfl (decide_eq_false hb7)) ?_
        simp only [Act.put, List.setIfInBounds_toArray, List.set_cons_succ, List.set_cons_zero]
        refine wpi_exG (v := .bool false) (fun _ => trivial) (wn rfl) rfl (ex_pick (b := true) rfl rfl rfl) ?_
        refine wpi_exG (v := .bool false) (fun _ => trivial) (wn rfl) rfl (ex_move rfl rfl) ?_
        refine wpi_exG (v := .int .i64 a) (fun _ => trivial) (wanted_of (j := 10) (d := 23) (b := false) rfl rfl rfl) rfl (ex_move rfl rfl) ?_
        simp only [Act.put, List.setIfInBounds_toArray, List.set_cons_succ, List.set_cons_zero]
        by_cases hb9 : a < 0
        · refine wpi_exG (v := .bool true) (fun _ => trivial) (wanted_of (j := 10) (d := 23) (b := false) rfl rfl rfl) rfl (ex_lss (k := .i64) (m := a) (n := 0) rfl rfl rfl (decide_eq_true hb9)) ?_
          refine wpi_exG (v := .bool true) (fun _ => trivial) (wanted_of (j := 10) (d := 23) (b := false) rfl rfl rfl) rfl (ex_move rfl rfl) ?_
          refine wpi_exG (v := .int .i64 b) (fun _ => trivial) (wanted_of (j := 13) (d := 26) (b := true) rfl rfl rfl) rfl (ex_move rfl rfl) ?_
          simp only [Act.put, List.setIfInBounds_toArray, List.set_cons_succ, List.set_cons_zero]
          by_cases hb10 : b < 0
          · refine wpi_exG (v := .bool true) (fun _ => trivial) (wanted_of (j := 13) (d := 26) (b := true) rfl rfl rfl) rfl (ex_lss (k := .i64) (m := b) (n := 0) rfl rfl rfl (decide_eq_true hb10)) ?_
            refine wpi_exG (v := .bool true) (fun _ => trivial) (wanted_of (j := 10) (d := 23) (b := false) rfl rfl rfl) rfl (ex_pick (b := true) rfl rfl rfl) ?_
            refine wpi_exG (v := .bool true) (fun _ => trivial) (wanted_of (j := 10) (d := 23) (b := false) rfl rfl rfl) rfl (ex_move rfl rfl) ?_
            simp only [Act.put, List.setIfInBounds_toArray, List.set_cons_succ, List.set_cons_zero]
            refine wpi_exG (v := .int .i64 s) (fun _ => trivial) (wanted_of (j := 17) (d := 30) (b := true) rfl rfl rfl) rfl (ex_move rfl rfl) ?_
            by_cases hb11 : s ≥ 0
            · refine wpi_exG (v := .bool true) (fun _ => trivial) (wanted_of (j := 17) (d := 30) (b := true) rfl rfl rfl) rfl (ex_geq (k := .i64) (m := s) (n := 0) rfl rfl rfl (decide_eq_true hb11)) ?_
              refine wpi_exG (v := .bool true) (fun _ => trivial) (wanted_of (j := 10) (d := 23) (b := false) rfl rfl rfl) rfl (ex_pick (b := true) rfl rfl rfl) ?_
              simp only [Act.put, List.setIfInBounds_toArray, List.set_cons_succ, List.set_cons_zero]
              refine wpi_exG (v := .bool true) (fun _ => trivial) (wn rfl) rfl (ex_pick (b := false) rfl rfl rfl) ?_
              refine wpListIn_nil ?_
              simp only [Act.put, List.setIfInBounds_toArray, List.set_cons_succ, List.set_cons_zero]
              refine then_normal (hK4 _ _ ?_)
              clear hK4 K4
              refine wpIn_cond_true rfl ?_
              refine wpIn_seq_k (fun K12 hK12 => ?_)
              refine wpIn_region_lit ?_
              refine wpi_exG (v := .int .i64 0) (fun _ => trivial) (wn rfl) rfl (ex_assign rfl rfl) ?_
              refine wpi_exG (v := .bool false) (fun _ => trivial) (wn rfl) rfl (ex_assign rfl rfl) ?_
              refine wpListIn_nil ?_
              simp only [Act.put, List.setIfInBounds_toArray, List.set_cons_succ, List.set_cons_zero]
              refine then_normal (hK12 _ _ ?_)
              clear hK12 K12
              refine wpIn_ret ?_
              refine then_ret ?_
              clear hK3 K3
              refine bodyPost_ret (results_tmp2 rfl _ _ _) rfl ?_
              have hrr : r = 0 ∧ ok = false := by
                rcases hr with ⟨x1, x2, x3, x4⟩ | ⟨x1, x3, x4⟩
                · first | exact ⟨by omega, x4⟩ | (exfalso; omega)
                · first | exact ⟨by omega, x4⟩ | (exfalso; omega)
              rw [hrr.1, hrr.2]; exact ⟨rfl, hv⟩
            · refine wpi_exG (v := .bool false) (fun _ => trivial) (wanted_of (j := 17) (d := 30) (b := true) rfl rfl rfl) rfl (ex_geq (k := .i64) (m := s) (n := 0) rfl rfl rfl (decide_eq_false hb11)) ?_
              refine wpi_exG (v := .bool false) (fun _ => trivial) (wanted_of (j := 10) (d := 23) (b := false) rfl rfl rfl) rfl (ex_pick (b := true) rfl rfl rfl) ?_
              simp only [Act.put, List.setIfInBounds_toArray, List.set_cons_succ, List.set_cons_zero]
              refine wpi_exG (v := .bool false) (fun _ => trivial) (wn rfl) rfl (ex_pick (b := false) rfl rfl rfl) ?_
              refine wpListIn_nil ?_
              simp only [Act.put, List.setIfInBounds_toArray, List.set_cons_succ, List.set_cons_zero]
              refine then_normal (hK4 _ _ ?_)
              clear hK4 K4
              refine wpIn_cond_false rfl ?_
              refine wpIn_skip ?_
              refine then_normal (hK3 _ _ ?_)
              clear hK3 K3
              refine wpIn_seq_k (fun K13 hK13 => ?_)
              refine wpIn_region_lit ?_
              refine wpi_exG (v := .int .i64 s) (fun _ => trivial) (wn rfl) rfl (ex_move rfl rfl) ?_
              refine wpi_exG (v := .int .i64 s) (fun _ => trivial) (wn rfl) rfl (ex_assign rfl rfl) ?_
              refine wpi_exG (v := .bool true) (fun _ => trivial) (wn rfl) rfl (ex_assign rfl rfl) ?_
              refine wpListIn_nil ?_
              simp only [Act.put, List.setIfInBounds_toArray, List.set_cons_succ, List.set_cons_zero]
              refine then_normal (hK13 _ _ ?_)
              clear hK13 K13
              refine wpIn_ret ?_
              refine bodyPost_ret (results_tmp2 rfl _ _ _) rfl ?_
              have hrr : r = s ∧ ok = true := by
                rcases hr with ⟨x1, x2, x3, x4⟩ | ⟨x1, x3, x4⟩
                · first | exact ⟨by omega, x4⟩ | (exfalso; omega)
                · first | exact ⟨by omega, x4⟩ | (exfalso; omega)
              rw [hrr.1, hrr.2]; exact ⟨rfl, hv⟩
          · refine wpi_exG (v := .bool false) (fun _ => trivial) (wanted_of (j := 13) (d := 26) (b := true) rfl rfl rfl) rfl (ex_lss (k := .i64) (m := b) (n := 0) rfl rfl rfl (decide_eq_false hb10)) ?_
            refine wpi_exG (v := .bool false) (fun _ => trivial) (wanted_of (j := 10) (d := 23) (b := false) rfl rfl rfl) rfl (ex_pick (b := true) rfl rfl rfl) ?_
            refine wpi_exG (v := .bool false) (fun _ => trivial) (wanted_of (j := 10) (d := 23) (b := false) rfl rfl rfl) rfl (ex_move rfl rfl) ?_
            simp only [Act.put, List.setIfInBounds_toArray, List.set_cons_succ, List.set_cons_zero]
            refine wpi_not (fun _ => trivial) (wanted_not (j := 17) (d := 30) (b := true) (b' := false) rfl rfl rfl (by decide)) ?_
            refine wpi_not (fun _ => trivial) (wanted_not (j := 17) (d := 30) (b := true) (b' := false) rfl rfl rfl (by decide)) ?_
            refine wpi_exG (v := .bool false) (fun _ => trivial) (wanted_of (j := 10) (d := 23) (b := false) rfl rfl rfl) rfl (ex_pick (b := false) rfl rfl rfl) ?_
            simp only [Act.put, List.setIfInBounds_toArray, List.set_cons_succ, List.set_cons_zero]
            refine wpi_exG (v := .bool false) (fun _ => trivial) (wn rfl) rfl (ex_pick (b := false) rfl rfl rfl) ?_
            refine wpListIn_nil ?_
            simp only [Act.put, List.setIfInBounds_toArray, List.set_cons_succ, List.set_cons_zero]
            refine then_normal (hK4 _ _ ?_)
            clear hK4 K4
            refine wpIn_cond_false rfl ?_
            refine wpIn_skip ?_
            refine then_normal (hK3 _ _ ?_)
            clear hK3 K3
            refine wpIn_seq_k (fun K14 hK14 => ?_)
            refine wpIn_region_lit ?_
            refine wpi_exG (v := .int .i64 s) (fun _ => trivial) (wn rfl) rfl (ex_move rfl rfl) ?_
            refine wpi_exG (v := .int .i64 s) (fun _ => trivial) (wn rfl) rfl (ex_assign rfl rfl) ?_
            refine wpi_exG (v := .bool true) (fun _ => trivial) (wn rfl) rfl (ex_assign rfl rfl) ?_
            refine wpListIn_nil ?_
            simp only [Act.put, List.setIfInBounds_toArray, List.set_cons_succ, List.set_cons_zero]
            refine then_normal (hK14 _ _ ?_)
            clear hK14 K14
            refine wpIn_ret ?_
            refine bodyPost_ret (results_tmp2 rfl _ _ _) rfl ?_
            have hrr : r = s ∧ ok = true := by
              rcases hr with ⟨x1, x2, x3, x4⟩ | ⟨x1, x3, x4⟩
              · first | exact ⟨by omega, x4⟩ | (exfalso; omega)
              · first | exact ⟨by omega, x4⟩ | (exfalso; omega)
            rw [hrr.1, hrr.2]; exact ⟨rfl, hv⟩
        · refine wpi_exG (v := .bool false) (fun _ => trivial) (wanted_of (j := 10) (d := 23) (b := false) rfl rfl rfl) rfl (ex_lss (k := .i64) (m := a) (n := 0) rfl rfl rfl (decide_eq_false hb9)) ?_
          refine wpi_exG (v := .bool false) (fun _ => trivial) (wanted_of (j := 10) (d := 23) (b := false) rfl rfl rfl) rfl (ex_move rfl rfl) ?_
          refine wpi_not (fun _ => trivial) (wanted_not (j := 13) (d := 26) (b := true) (b' := false) rfl rfl rfl (by decide)) ?_
          simp only [Act.put, List.setIfInBounds_toArray, List.set_cons_succ, List.set_cons_zero]
          refine wpi_not (fun _ => trivial) (wanted_not (j := 13) (d := 26) (b := true) (b' := false) rfl rfl rfl (by decide)) ?_
          refine wpi_exG (v := .bool false) (fun _ => trivial) (wanted_of (j := 10) (d := 23) (b := false) rfl rfl rfl) rfl (ex_pick (b := false) rfl rfl rfl) ?_
          refine wpi_exG (v := .bool false) (fun _ => trivial) (wanted_of (j := 10) (d := 23) (b := false) rfl rfl rfl) rfl (ex_move rfl rfl) ?_
          simp only [Act.put, List.setIfInBounds_toArray, List.set_cons_succ, List.set_cons_zero]
          refine wpi_not (fun _ => trivial) (wanted_not (j := 17) (d := 30) (b := true) (b' := false) rfl rfl rfl (by decide)) ?_
          refine wpi_not (fun _ => trivial) (wanted_not (j := 17) (d := 30) (b := true) (b' := false) rfl rfl rfl (by decide)) ?_
          refine wpi_exG (v := .bool false) (fun _ => trivial) (wanted_of (j := 10) (d := 23) (b := false) rfl rfl rfl) rfl (ex_pick (b := false) rfl rfl rfl) ?_
          simp only [Act.put, List.setIfInBounds_toArray, List.set_cons_succ, List.set_cons_zero]
          refine wpi_exG (v := .bool false) (fun _ => trivial) (wn rfl) rfl (ex_pick (b := false) rfl rfl rfl) ?_
          refine wpListIn_nil ?_
          simp only [Act.put, List.setIfInBounds_toArray, List.set_cons_succ, List.set_cons_zero]
          refine then_normal (hK4 _ _ ?_)
          clear hK4 K4
          refine wpIn_cond_false rfl ?_
          refine wpIn_skip ?_
          refine then_normal (hK3 _ _ ?_)
          clear hK3 K3
          refine wpIn_seq_k (fun K15 hK15 => ?_)
          refine wpIn_region_lit ?_
          refine wpi_exG (v := .int .i64 s) (fun _ => trivial) (wn rfl) rfl (ex_move rfl rfl) ?_
          refine wpi_exG (v := .int .i64 s) (fun _ => trivial) (wn rfl) rfl (ex_assign rfl rfl) ?_
          refine wpi_exG (v := .bool true) (fun _ => trivial) (wn rfl) rfl (ex_assign rfl rfl) ?_
          refine wpListIn_nil ?_
          simp only [Act.put, List.setIfInBounds_toArray, List.set_cons_succ, List.set_cons_zero]
          refine then_normal (hK15 _ _ ?_)
          clear hK15 K15
          refine wpIn_ret ?_
          refine bodyPost_ret (results_tmp2 rfl _ _ _) rfl ?_
          have hrr : r = s ∧ ok = true := by
            rcases hr with ⟨x1, x2, x3, x4⟩ | ⟨x1, x3, x4⟩
            · first | exact ⟨by omega, x4⟩ | (exfalso; omega)
            · first | exact ⟨by omega, x4⟩ | (exfalso; omega)
          rw [hrr.1, hrr.2]; exact ⟨rfl, hv⟩
    · refine wpi_exG (v := .bool false) (fun _ => trivial) (wanted_of (j := 2) (d := 15) (b := true) rfl rfl rfl) rfl (ex_geq (k := .i64) (m := b) (n := 0) rfl rfl rfl (decide_eq_false hb6)) ?_
      refine wpi_exG (v := .bool false) (fun _ => trivial) (wn rfl) rfl (ex_pick (b := true) rfl rfl rfl) ?_
      simp only [Act.put, List.setIfInBounds_toArray, List.set_cons_succ, List.set_cons_zero]
      refine wpi_exG (v := .bool false) (fun _ => trivial) (wn rfl) rfl (ex_move rfl rfl) ?_
      refine wpi_not (fun _ => trivial) (wanted_not (j := 6) (d := 19) (b := true) (b' := false) rfl rfl rfl (by decide)) ?_
      refine wpi_not (fun _ => trivial) (wanted_not (j := 6) (d := 19) (b := true) (b' := false) rfl rfl rfl (by decide)) ?_
      simp only [Act.put, List.setIfInBounds_toArray, List.set_cons_succ, List.set_cons_zero]
      refine wpi_exG (v := .bool false) (fun _ => trivial) (wn rfl) rfl (ex_pick (b := false) rfl rfl rfl) ?_
      refine wpi_exG (v := .bool false) (fun _ => trivial) (wn rfl) rfl (ex_move rfl rfl) ?_
      refine wpi_exG (v := .int .i64 a) (fun _ => trivial) (wanted_of (j := 10) (d := 23) (b := false) rfl rfl rfl) rfl (ex_move rfl rfl) ?_
      simp only [Act.put, List.setIfInBounds_toArray, List.set_cons_succ, List.set_cons_zero]
      by_cases hb16 : a < 0
      · refine wpi_exG (v := .bool true) (fun _ => trivial) (wanted_of (j := 10) (d := 23) (b := false) rfl rfl rfl) rfl (ex_lss (k := .i64) (m := a) (n := 0) rfl rfl rfl (decide_eq_true hb16)) ?_
        refine wpi_exG (v := .bool true) (fun _ => trivial) (wanted_of (j := 10) (d := 23) (b := false) rfl rfl rfl) rfl (ex_move rfl rfl) ?_
        refine wpi_exG (v := .int .i64 b) (fun _ => trivial) (wanted_of (j := 13) (d := 26) (b := true) rfl rfl rfl) rfl (ex_move rfl rfl) ?_
        simp only [Act.put, List.setIfInBounds_toArray, List.set_cons_succ, List.set_cons_zero]
        by_cases hb17 : b < 0
        · refine wpi_exG (v := .bool true) (fun _ => trivial) (wanted_of (j := 13) (d := 26) (b := true) rfl rfl rfl) rfl (ex_lss (k := .i64) (m := b) (n := 0) rfl rfl rfl (decide_eq_true hb17)) ?_
          refine wpi_exG (v := .bool true) (fun _ => trivial) (wanted_of (j := 10) (d := 23) (b := false) rfl rfl rfl) rfl (ex_pick (b := true) rfl rfl rfl) ?_
          refine wpi_exG (v := .bool true) (fun _ => trivial) (wanted_of (j := 10) (d := 23) (b := false) rfl rfl rfl) rfl (ex_move rfl rfl) ?_
          simp only [Act.put, List.setIfInBounds_toArray, List.set_cons_succ, List.set_cons_zero]
          refine wpi_exG (v := .int .i64 s) (fun _ => trivial) (wanted_of (j := 17) (d := 30) (b := true) rfl rfl rfl) rfl (ex_move rfl rfl) ?_
          by_cases hb18 : s ≥ 0
          · refine wpi_exG (v := .bool true) (fun _ => trivial) (wanted_of (j := 17) (d := 30) (b := true) rfl rfl rfl) rfl (ex_geq (k := .i64) (m := s) (n := 0) rfl rfl rfl (decide_eq_true hb18)) ?_
            refine wpi_exG (v := .bool true) (fun _ => trivial) (wanted_of (j := 10) (d := 23) (b := false) rfl rfl rfl) rfl (ex_pick (b := true) rfl rfl rfl) ?_
            simp only [Act.put, List.setIfInBounds_toArray, List.set_cons_succ, List.set_cons_zero]
            refine wpi_exG (v := .bool true) (fun _ => trivial) (wn rfl) rfl (ex_pick (b := false) rfl rfl rfl) ?_
            refine wpListIn_nil ?_
            simp only [Act.put, List.setIfInBounds_toArray, List.set_cons_succ, List.set_cons_zero]
            refine then_normal (hK4 _ _ ?_)
            clear hK4 K4
            refine wpIn_cond_true rfl ?_
            refine wpIn_seq_k (fun K19 hK19 => ?_)
            refine wpIn_region_lit ?_
            refine wpi_exG (v := .int .i64 0) (fun _ => trivial) (wn rfl) rfl (ex_assign rfl rfl) ?_
            refine wpi_exG (v := .bool false) (fun _ => trivial) (wn rfl) rfl (ex_assign rfl rfl) ?_
            refine wpListIn_nil ?_
            simp only [Act.put, List.setIfInBounds_toArray, List.set_cons_succ, List.set_cons_zero]
            refine then_normal (hK19 _ _ ?_)
            clear hK19 K19
            refine wpIn_ret ?_
            refine then_ret ?_
            clear hK3 K3
            refine bodyPost_ret (results_tmp2 rfl _ _ _) rfl ?_
            have hrr : r = 0 ∧ ok = false := by
              rcases hr with ⟨x1, x2, x3, x4⟩ | ⟨x1, x3, x4⟩
              · first | exact ⟨by omega, x4⟩ | (exfalso; omega)
              · first | exact ⟨by omega, x4⟩ | (exfalso; omega)
            rw [hrr.1, hrr.2]; exact ⟨rfl, hv⟩
          · refine wpi_exG (v := .bool false) (fun _ => trivial) (wanted_of (j := 17) (d := 30) (b := true) rfl rfl rfl) rfl (ex_geq (k := .i64) (m := s) (n := 0) rfl rfl rfl (decide_eq_false hb18)) ?_
            refine wpi_exG (v := .bool false) (fun _ => trivial) (wanted_of (j := 10) (d := 23) (b := false) rfl rfl rfl) rfl (ex_pick (b := true) rfl rfl rfl) ?_
            simp only [Act.put, List.setIfInBounds_toArray, List.set_cons_succ, List.set_cons_zero]
            refine wpi_exG (v := .bool false) (fun _ => trivial) (wn rfl) rfl (ex_pick (b := false) rfl rfl rfl) ?_
            refine wpListIn_nil ?_
            simp only [Act.put, List.setIfInBounds_toArray, List.set_cons_succ, List.set_cons_zero]
            refine then_normal (hK4 _ _ ?_)
            clear hK4 K4
            refine wpIn_cond_false rfl ?_
            refine wpIn_skip ?_
            refine then_normal (hK3 _ _ ?_)
            clear hK3 K3
            refine wpIn_seq_k (fun K20 hK20 => ?_)
            refine wpIn_region_lit ?_
            refine wpi_exG (v := .int .i64 s) (fun _ => trivial) (wn rfl) rfl (ex_move rfl rfl) ?_
            refine wpi_exG (v := .int .i64 s) (fun _ => trivial) (wn rfl) rfl (ex_assign rfl rfl) ?_
            refine wpi_exG (v := .bool true) (fun _ => trivial) (wn rfl) rfl (ex_assign rfl rfl) ?_
            refine wpListIn_nil ?_
            simp only [Act.put, List.setIfInBounds_toArray, List.set_cons_succ, List.set_cons_zero]
            refine then_normal (hK20 _ _ ?_)
            clear hK20 K20
            refine wpIn_ret ?_
            refine bodyPost_ret (results_tmp2 rfl _ _ _) rfl ?_
            have hrr : r = s ∧ ok = true := by
              rcases hr with ⟨x1, x2, x3, x4⟩ | ⟨x1, x3, x4⟩
              · first | exact ⟨by omega, x4⟩ | (exfalso; omega)
              · first | exact ⟨by omega, x4⟩ | (exfalso; omega)
            rw [hrr.1, hrr.2]; exact ⟨rfl, hv⟩
        · refine wpi_exG (v := .bool false) (fun _ => trivial) (wanted_of (j := 13) (d := 26) (b := true) rfl rfl rfl) rfl (ex_lss (k := .i64) (m := b) (n := 0) rfl rfl rfl (decide_eq_false hb17)) ?_
          refine wpi_exG (v := .bool false) (fun _ => trivial) (wanted_of (j := 10) (d := 23) (b := false) rfl rfl rfl) rfl (ex_pick (b := true) rfl rfl rfl) ?_
          refine wpi_exG (v := .bool false) (fun _ => trivial) (wanted_of (j := 10) (d := 23) (b := false) rfl rfl rfl) rfl (ex_move rfl rfl) ?_
          simp only [Act.put, List.setIfInBounds_toArray, List.set_cons_succ, List.set_cons_zero]
          refine wpi_not (fun _ => trivial) (wanted_not (j := 17) (d := 30) (b := true) (b' := false) rfl rfl rfl (by decide)) ?_
          refine wpi_not (fun _ => trivial) (wanted_not (j := 17) (d := 30) (b := true) (b' := false) rfl rfl rfl (by decide)) ?_
          refine wpi_exG (v := .bool false) (fun _ => trivial) (wanted_of (j := 10) (d := 23) (b := false) rfl rfl rfl) rfl (ex_pick (b := false) rfl rfl rfl) ?_
          simp only [Act.put, List.setIfInBounds_toArray, List.set_cons_succ, List.set_cons_zero]
          refine wpi_exG (v := .bool false) (fun _ => trivial) (wn rfl) rfl (ex_pick (b := false) rfl rfl rfl) ?_
          refine wpListIn_nil ?_
          simp only [Act.put, List.setIfInBounds_toArray, List.set_cons_succ, List.set_cons_zero]
          refine then_normal (hK4 _ _ ?_)
          clear hK4 K4
          refine wpIn_cond_false rfl ?_
          refine wpIn_skip ?_
          refine then_normal (hK3 _ _ ?_)
          clear hK3 K3
          refine wpIn_seq_k (fun K21 hK21 => ?_)
          refine wpIn_region_lit ?_
          refine wpi_exG (v := .int .i64 s) (fun _ => trivial) (wn rfl) rfl (ex_move rfl rfl) ?_
          refine wpi_exG (v := .int .i64 s) (fun _ => trivial) (wn rfl) rfl (ex_assign rfl rfl) ?_
          refine wpi_exG (v := .bool true) (fun _ => trivial) (wn rfl) rfl (ex_assign rfl rfl) ?_
          refine wpListIn_nil ?_
          simp only [Act.put, List.setIfInBounds_toArray, List.set_cons_succ, List.set_cons_zero]
          refine then_normal (hK21 _ _ ?_)
          clear hK21 K21
          refine wpIn_ret ?_
          refine bodyPost_ret (results_tmp2 rfl _ _ _) rfl ?_
          have hrr : r = s ∧ ok = true := by
            rcases hr with ⟨x1, x2, x3, x4⟩ | ⟨x1, x3, x4⟩
            · first | exact ⟨by omega, x4⟩ | (exfalso; omega)
            · first | exact ⟨by omega, x4⟩ | (exfalso; omega)
          rw [hrr.1, hrr.2]; exact ⟨rfl, hv⟩
      · refine wpi_exG (v := .bool false) (fun _ => trivial) (wanted_of (j := 10) (d := 23) (b := false) rfl rfl rfl) rfl (ex_lss (k := .i64) (m := a) (n := 0) rfl rfl rfl (decide_eq_false hb16)) ?_
        refine wpi_exG (v := .bool false) (fun _ => trivial) (wanted_of (j := 10) (d := 23) (b := false) rfl rfl rfl) rfl (ex_move rfl rfl) ?_
        refine wpi_not (fun _ => trivial) (wanted_not (j := 13) (d := 26) (b := true) (b' := false) rfl rfl rfl (by decide)) ?_
        simp only [Act.put, List.setIfInBounds_toArray, List.set_cons_succ, List.set_cons_zero]
        refine wpi_not (fun _ => trivial) (wanted_not (j := 13) (d := 26) (b := true) (b' := false) rfl rfl rfl (by decide)) ?_
        refine wpi_exG (v := .bool false) (fun _ => trivial) (wanted_of (j := 10) (d := 23) (b := false) rfl rfl rfl) rfl (ex_pick (b := false) rfl rfl rfl) ?_
        refine wpi_exG (v := .bool false) (fun _ => trivial) (wanted_of (j := 10) (d := 23) (b := false) rfl rfl rfl) rfl (ex_move rfl rfl) ?_
        simp only [Act.put, List.setIfInBounds_toArray, List.set_cons_succ, List.set_cons_zero]
        refine wpi_not (fun _ => trivial) (wanted_not (j := 17) (d := 30) (b := true) (b' := false) rfl rfl rfl (by decide)) ?_
        refine wpi_not (fun _ => trivial) (wanted_not (j := 17) (d := 30) (b := true) (b' := false) rfl rfl rfl (by decide)) ?_
        refine wpi_exG (v := .bool false) (fun _ => trivial) (wanted_of (j := 10) (d := 23) (b := false) rfl rfl rfl) rfl (ex_pick (b := false) rfl rfl rfl) ?_
        simp only [Act.put, List.setIfInBounds_toArray, List.set_cons_succ, List.set_cons_zero]
        refine wpi_exG (v := .bool false) (fun _ => trivial) (wn rfl) rfl (ex_pick (b := false) rfl rfl rfl) ?_
        refine wpListIn_nil ?_
        simp only [Act.put, List.setIfInBounds_toArray, List.set_cons_succ, List.set_cons_zero]
        refine then_normal (hK4 _ _ ?_)
        clear hK4 K4
        refine wpIn_cond_false rfl ?_
        refine wpIn_skip ?_
        refine then_normal (hK3 _ _ ?_)
        clear hK3 K3
        refine wpIn_seq_k (fun K22 hK22 => ?_)
        refine wpIn_region_lit ?_
        refine wpi_exG (v := .int .i64 s) (fun _ => trivial) (wn rfl) rfl (ex_move rfl rfl) ?_
        refine wpi_exG (v := .int .i64 s) (fun _ => trivial) (wn rfl) rfl (ex_assign rfl rfl) ?_
        refine wpi_exG (v := .bool true) (fun _ => trivial) (wn rfl) rfl (ex_assign rfl rfl) ?_
        refine wpListIn_nil ?_
        simp only [Act.put, List.setIfInBounds_toArray, List.set_cons_succ, List.set_cons_zero]
        refine then_normal (hK22 _ _ ?_)
        clear hK22 K22
        refine wpIn_ret ?_
        refine bodyPost_ret (results_tmp2 rfl _ _ _) rfl ?_
        have hrr : r = s ∧ ok = true := by
          rcases hr with ⟨x1, x2, x3, x4⟩ | ⟨x1, x3, x4⟩
          · first | exact ⟨by omega, x4⟩ | (exfalso; omega)
          · first | exact ⟨by omega, x4⟩ | (exfalso; omega)
        rw [hrr.1, hrr.2]; exact ⟨rfl, hv⟩
  · refine wpi_exG (v := .bool false) (fun _ => trivial) (wn rfl) rfl (ex_geq (k := .i64) (m := a) (n := 0) rfl rfl rfl (decide_eq_false hb5)) ?_
    refine wpi_exG (v := .bool false) (fun _ => trivial) (wn rfl) rfl (ex_move rfl rfl) ?_
    simp only [Act.put, List.setIfInBounds_toArray, List.set_cons_succ, List.set_cons_zero]
    refine wpi_not (fun _ => trivial) (wanted_not (j := 2) (d := 15) (b := true) (b' := false) rfl rfl rfl (by decide)) ?_
    refine wpi_not (fun _ => trivial) (wanted_not (j := 2) (d := 15) (b := true) (b' := false) rfl rfl rfl (by decide)) ?_
    refine wpi_exG (v := .bool false) (fun _ => trivial) (wn rfl) rfl (ex_pick (b := false) rfl rfl rfl) ?_
    simp only [Act.put, List.setIfInBounds_toArray, List.set_cons_succ, List.set_cons_zero]
    refine wpi_exG (v := .bool false) (fun _ => trivial) (wn rfl) rfl (ex_move rfl rfl) ?_
    refine wpi_not (fun _ => trivial) (wanted_not (j := 6) (d := 19) (b := true) (b' := false) rfl rfl rfl (by decide)) ?_
    refine wpi_not (fun _ => trivial) (wanted_not (j := 6) (d := 19) (b := true) (b' := false) rfl rfl rfl (by decide)) ?_
    simp only [Act.put, List.setIfInBounds_toArray, List.set_cons_succ, List.set_cons_zero]
    refine wpi_exG (v := .bool false) (fun _ => trivial) (wn rfl) rfl (ex_pick (b := false) rfl rfl rfl) ?_
    refine wpi_exG (v := .bool false) (fun _ => trivial) (wn rfl) rfl (ex_move rfl rfl) ?_
    refine wpi_exG (v := .int .i64 a) (fun _ => trivial) (wanted_of (j := 10) (d := 23) (b := false) rfl rfl rfl) rfl (ex_move rfl rfl) ?_
    simp only [Act.put, List.setIfInBounds_toArray, List.set_cons_succ, List.set_cons_zero]
    by_cases hb23 : a < 0
    · refine wpi_exG (v := .bool true) (fun _ => trivial) (wanted_of (j := 10) (d := 23) (b := false) rfl rfl rfl) rfl (ex_lss (k := .i64) (m := a) (n := 0) rfl rfl rfl (decide_eq_true hb23)) ?_
      refine wpi_exG (v := .bool true) (fun _ => trivial) (wanted_of (j := 10) (d := 23) (b := false) rfl rfl rfl) rfl (ex_move rfl rfl) ?_
      refine wpi_exG (v := .int .i64 b) (fun _ => trivial) (wanted_of (j := 13) (d := 26) (b := true) rfl rfl rfl) rfl (ex_move rfl rfl) ?_
      simp only [Act.put, List.setIfInBounds_toArray, List.set_cons_succ, List.set_cons_zero]
      by_cases hb24 : b < 0
      · refine wpi_exG (v := .bool true) (fun _ => trivial) (wanted_of (j := 13) (d := 26) (b := true) rfl rfl rfl) rfl (ex_lss (k := .i64) (m := b) (n := 0) rfl rfl rfl (decide_eq_true hb24)) ?_
        refine wpi_exG (v := .bool true) (fun _ => trivial) (wanted_of (j := 10) (d := 23) (b := false) rfl rfl rfl) rfl (ex_pick (b := true) rfl rfl rfl) ?_
        refine wpi_exG (v := .bool true) (fun _ => trivial) (wanted_of (j := 10) (d := 23) (b := false) rfl rfl rfl) rfl (ex_move rfl rfl) ?_
        simp only [Act.put, List.setIfInBounds_toArray, List.set_cons_succ, List.set_cons_zero]
        refine wpi_exG (v := .int .i64 s) (fun _ => trivial) (wanted_of (j := 17) (d := 30) (b := true) rfl rfl rfl) rfl (ex_move rfl rfl) ?_
        by_cases hb25 : s ≥ 0
        · refine wpi_exG (v := .bool true) (fun _ => trivial) (wanted_of (j := 17) (d := 30) (b := true) rfl rfl rfl) rfl (ex_geq (k := .i64) (m := s) (n := 0) rfl rfl rfl (decide_eq_true hb25)) ?_
          refine wpi_exG (v := .bool true) (fun _ => trivial) (wanted_of (j := 10) (d := 23) (b := false) rfl rfl rfl) rfl (ex_pick (b := true) rfl rfl rfl) ?_
          simp only [Act.put, List.setIfInBounds_toArray, List.set_cons_succ, List.set_cons_zero]
          refine wpi_exG (v := .bool true) (fun _ => trivial) (wn rfl) rfl (ex_pick (b := false) rfl rfl rfl) ?_
          refine wpListIn_nil ?_
          simp only [Act.put, List.setIfInBounds_toArray, List.set_cons_succ, List.set_cons_zero]
          refine then_normal (hK4 _ _ ?_)
          clear hK4 K4
          refine wpIn_cond_true rfl ?_
          refine wpIn_seq_k (fun K26 hK26 => ?_)
          refine wpIn_region_lit ?_
          refine wpi_exG (v := .int .i64 0) (fun _ => trivial) (wn rfl) rfl (ex_assign rfl rfl) ?_
          refine wpi_exG (v := .bool false) (fun _ => trivial) (wn rfl) rfl (ex_assign rfl rfl) ?_
          refine wpListIn_nil ?_
          simp only [Act.put, List.setIfInBounds_toArray, List.set_cons_succ, List.set_cons_zero]
          refine then_normal (hK26 _ _ ?_)
          clear hK26 K26
          refine wpIn_ret ?_
          refine then_ret ?_
          clear hK3 K3
          refine bodyPost_ret (results_tmp2 rfl _ _ _) rfl ?_
          have hrr : r = 0 ∧ ok = false := by
            rcases hr with ⟨x1, x2, x3, x4⟩ | ⟨x1, x3, x4⟩
            · first | exact ⟨by omega, x4⟩ | (exfalso; omega)
            · first | exact ⟨by omega, x4⟩ | (exfalso; omega)
          rw [hrr.1, hrr.2]; exact ⟨rfl, hv⟩
        · refine wpi_exG (v := .bool false) (fun _ => trivial) (wanted_of (j := 17) (d := 30) (b := true) rfl rfl rfl) rfl (ex_geq (k := .i64) (m := s) (n := 0) rfl rfl rfl (decide_eq_false hb25)) ?_
          refine wpi_exG (v := .bool false) (fun _ => trivial) (wanted_of (j := 10) (d := 23) (b := false) rfl rfl rfl) rfl (ex_pick (b := true) rfl rfl rfl) ?_
          simp only [Act.put, List.setIfInBounds_toArray, List.set_cons_succ, List.set_cons_zero]
          refine wpi_exG (v := .bool false) (fun _ => trivial) (wn rfl) rfl (ex_pick (b := false) rfl rfl rfl) ?_
          refine wpListIn_nil ?_
          simp only [Act.put, List.setIfInBounds_toArray, List.set_cons_succ, List.set_cons_zero]
          refine then_normal (hK4 _ _ ?_)
          clear hK4 K4
          refine wpIn_cond_false rfl ?_
          refine wpIn_skip ?_
          refine then_normal (hK3 _ _ ?_)
          clear hK3 K3
          refine wpIn_seq_k (fun K27 hK27 => ?_)
          refine wpIn_region_lit ?_
          refine wpi_exG (v := .int .i64 s) (fun _ => trivial) (wn rfl) rfl (ex_move rfl rfl) ?_
          refine wpi_exG (v := .int .i64 s) (fun _ => trivial) (wn rfl) rfl (ex_assign rfl rfl) ?_
          refine wpi_exG (v := .bool true) (fun _ => trivial) (wn rfl) rfl (ex_assign rfl rfl) ?_
          refine wpListIn_nil ?_
          simp only [Act.put, List.setIfInBounds_toArray, List.set_cons_succ, List.set_cons_zero]
          refine then_normal (hK27 _ _ ?_)
          clear hK27 K27
          refine wpIn_ret ?_
          refine bodyPost_ret (results_tmp2 rfl _ _ _) rfl ?_
          have hrr : r = s ∧ ok = true := by
            rcases hr with ⟨x1, x2, x3, x4⟩ | ⟨x1, x3, x4⟩
            · first | exact ⟨by omega, x4⟩ | (exfalso; omega)
            · first | exact ⟨by omega, x4⟩ | (exfalso; omega)
          rw [hrr.1, hrr.2]; exact ⟨rfl, hv⟩
      · refine wpi_exG (v := .bool false) (fun _ => trivial) (wanted_of (j := 13) (d := 26) (b := true) rfl rfl rfl) rfl (ex_lss (k := .i64) (m := b) (n := 0) rfl rfl rfl (decide_eq_false hb24)) ?_
        refine wpi_exG (v := .bool false) (fun _ => trivial) (wanted_of (j := 10) (d := 23) (b := false) rfl rfl rfl) rfl (ex_pick (b := true) rfl rfl rfl) ?_
        refine wpi_exG (v := .bool false) (fun _ => trivial) (wanted_of (j := 10) (d := 23) (b := false) rfl rfl rfl) rfl (ex_move rfl rfl) ?_
        simp only [Act.put, List.setIfInBounds_toArray, List.set_cons_succ, List.set_cons_zero]
        refine wpi_not (fun _ => trivial) (wanted_not (j := 17) (d := 30) (b := true) (b' := false) rfl rfl rfl (by decide)) ?_
        refine wpi_not (fun _ => trivial) (wanted_not (j := 17) (d := 30) (b := true) (b' := false) rfl rfl rfl (by decide)) ?_
        refine wpi_exG (v := .bool false) (fun _ => trivial) (wanted_of (j := 10) (d := 23) (b := false) rfl rfl rfl) rfl (ex_pick (b := false) rfl rfl rfl) ?_
        simp only [Act.put, List.setIfInBounds_toArray, List.set_cons_succ, List.set_cons_zero]
        refine wpi_exG (v := .bool false) (fun _ => trivial) (wn rfl) rfl (ex_pick (b := false) rfl rfl rfl) ?_
        refine wpListIn_nil ?_
        simp only [Act.put, List.setIfInBounds_toArray, List.set_cons_succ, List.set_cons_zero]
        refine then_normal (hK4 _ _ ?_)
        clear hK4 K4
        refine wpIn_cond_false rfl ?_
        refine wpIn_skip ?_
        refine then_normal (hK3 _ _ ?_)
        clear hK3 K3
        refine wpIn_seq_k (fun K28 hK28 => ?_)
        refine wpIn_region_lit ?_
        refine wpi_exG (v := .int .i64 s) (fun _ => trivial) (wn rfl) rfl (ex_move rfl rfl) ?_
        refine wpi_exG (v := .int .i64 s) (fun _ => trivial) (wn rfl) rfl (ex_assign rfl rfl) ?_
        refine wpi_exG (v := .bool true) (fun _ => trivial) (wn rfl) rfl (ex_assign rfl rfl) ?_
        refine wpListIn_nil ?_
        simp only [Act.put, List.setIfInBounds_toArray, List.set_cons_succ, List.set_cons_zero]
        refine then_normal (hK28 _ _ ?_)
        clear hK28 K28
        refine wpIn_ret ?_
        refine bodyPost_ret (results_tmp2 rfl _ _ _) rfl ?_
        have hrr : r = s ∧ ok = true := by
          rcases hr with ⟨x1, x2, x3, x4⟩ | ⟨x1, x3, x4⟩
          · first | exact ⟨by omega, x4⟩ | (exfalso; omega)
          · first | exact ⟨by omega, x4⟩ | (exfalso; omega)
        rw [hrr.1, hrr.2]; exact ⟨rfl, hv⟩
    · refine wpi_exG (v := .bool false) (fun _ => trivial) (wanted_of (j := 10) (d := 23) (b := false) rfl rfl rfl) rfl (ex_lss (k := .i64) (m := a) (n := 0) rfl rfl rfl (decide_eq_false hb23)) ?_
      refine wpi_exG (v := .bool false) (fun _ => trivial) (wanted_of (j := 10) (d := 23) (b := false) rfl rfl rfl) rfl (ex_move rfl rfl) ?_
      refine wpi_not (fun _ => trivial) (wanted_not (j := 13) (d := 26) (b := true) (b' := false) rfl rfl rfl (by decide)) ?_
      simp only [Act.put, List.setIfInBounds_toArray, List.set_cons_succ, List.set_cons_zero]
      refine wpi_not (fun _ => trivial) (wanted_not (j := 13) (d := 26) (b := true) (b' := false) rfl rfl rfl (by decide)) ?_
      refine wpi_exG (v := .bool false) (fun _ => trivial) (wanted_of (j := 10) (d := 23) (b := false) rfl rfl rfl) rfl (ex_pick (b := false) rfl rfl rfl) ?_
      refine wpi_exG (v := .bool false) (fun _ => trivial) (wanted_of (j := 10) (d := 23) (b := false) rfl rfl rfl) rfl (ex_move rfl rfl) ?_
      simp only [Act.put, List.setIfInBounds_toArray, List.set_cons_succ, List.set_cons_zero]
      refine wpi_not (fun _ => trivial) (wanted_not (j := 17) (d := 30) (b := true) (b' := false) rfl rfl rfl (by decide)) ?_
      refine wpi_not (fun _ => trivial) (wanted_not (j := 17) (d := 30) (b := true) (b' := false) rfl rfl rfl (by decide)) ?_
      refine wpi_exG (v := .bool false) (fun _ => trivial) (wanted_of (j := 10) (d := 23) (b := false) rfl rfl rfl) rfl (ex_pick (b := false) rfl rfl rfl) ?_
      simp only [Act.put, List.setIfInBounds_toArray, List.set_cons_succ, List.set_cons_zero]
      refine wpi_exG (v := .bool false) (fun _ => trivial) (wn rfl) rfl (ex_pick (b := false) rfl rfl rfl) ?_
      refine wpListIn_nil ?_
      simp only [Act.put, List.setIfInBounds_toArray, List.set_cons_succ, List.set_cons_zero]
      refine then_normal (hK4 _ _ ?_)
      clear hK4 K4
      refine wpIn_cond_false rfl ?_
      refine wpIn_skip ?_
      refine then_normal (hK3 _ _ ?_)
      clear hK3 K3
      refine wpIn_seq_k (fun K29 hK29 => ?_)
      refine wpIn_region_lit ?_
      refine wpi_exG (v := .int .i64 s) (fun _ => trivial) (wn rfl) rfl (ex_move rfl rfl) ?_
      refine wpi_exG (v := .int .i64 s) (fun _ => trivial) (wn rfl) rfl (ex_assign rfl rfl) ?_
      refine wpi_exG (v := .bool true) (fun _ => trivial) (wn rfl) rfl (ex_assign rfl rfl) ?_
      refine wpListIn_nil ?_
      simp only [Act.put, List.setIfInBounds_toArray, List.set_cons_succ, List.set_cons_zero]
      refine then_normal (hK29 _ _ ?_)
      clear hK29 K29
      refine wpIn_ret ?_
      refine bodyPost_ret (results_tmp2 rfl _ _ _) rfl ?_
      have hrr : r = s ∧ ok = true := by
        rcases hr with ⟨x1, x2, x3, x4⟩ | ⟨x1, x3, x4⟩
        · first | exact ⟨by omega, x4⟩ | (exfalso; omega)
        · first | exact ⟨by omega, x4⟩ | (exfalso; omega)
      rw [hrr.1, hrr.2]; exact ⟨rfl, hv⟩
end Go.Proofs.YtkhggadoagdhfaaGreatDoor
