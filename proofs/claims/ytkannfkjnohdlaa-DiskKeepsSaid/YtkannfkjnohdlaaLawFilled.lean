/- filled, of the disk's laws -/
import Derived.Test.YtkannfkjnohdlaaOps
import Derived.Test.YtkannfkjnohdlaaChecked
namespace Go.Proofs.Ytkannfkjnohdlaa
open Go.RowKit Go.Pm

theorem fillStep (c : UInt8) (m i : Nat) (h : i < m) : (List.replicate i (B8 c) ++ List.replicate (m - i) (Value.int .u8 0)).set (0 + i) (B8 c) = List.replicate (i + 1) (B8 c) ++ List.replicate (m - (i + 1)) (.int .u8 0) := by
  rw [Nat.zero_add, List.set_append_right _ _ (by simp), show m - i = (m - (i + 1)) + 1 by omega, List.replicate_succ]
  simp [List.replicate_succ']
theorem lfmk5 : (Try.prog.info? 5).map (fun i => (i.zero, i.size, i.bytes)) = some (some (.int .u8 0), 1, 1) := by kernel_rfl
theorem lfes24 (w : World) : (sizeOf (Try.prog.elem 24)).run Try.prog w = .ok 1 w := by kernel_rfl
theorem lfsz5 : (Try.prog.info? 5).map (·.size) = some 1 := by kernel_rfl
set_option maxRecDepth 100000 in
set_option maxHeartbeats 2000000 in
theorem lawFilled (B : Base) (H : List Res) (w : World) (c : UInt8) (ci : Int) (hc : (c.toNat : Int) = ci) (n less m : Nat) (hn : n ≤ 1000) (hm : less + m = 64 * n) (hv : Inv B H w) :
    Calls Try.prog 23 #[.int .u8 ci, .int .i64 (n : Int), .int .i64 (less : Int)] w fun e w' => ∃ b, e = .returned (.slice (some ⟨b, 0, none⟩) m m) ∧ Inv B (Res.cell b (List.replicate m (B8 c)) 5 :: H) w' := by
  subst hc
  refine (callsIn_wide (n := 5)).1 ?_
  refine callsIn_of_wp Try.func23 rfl trivial ?_
  simp only [Try.ntmps23, List.size_toArray, List.length_cons, List.length_nil, Nat.reduceAdd, Nat.reduceSub, Array.replicate_succ, Array.replicate_zero, List.push_toArray, List.append_toArray, List.nil_append, List.cons_append]
  refine wpIn_seq_k (fun K1 hK1 => ?_)
  refine wpIn_region_lit ?_
  refine wpi_exG (v := .slice none 0 0) (fun _ => trivial) (wn rfl) rfl (ex_assign rfl rfl) ?_
  refine wpListIn_nil ?_
  simp only [Act.put, List.setIfInBounds_toArray, List.set_cons_succ, List.set_cons_zero]
  refine then_normal (hK1 _ _ ?_)
  clear hK1 K1
  refine wpIn_seq_k (fun K2 hK2 => ?_)
  refine wpIn_region_lit ?_
  refine wpi_exG (v := .int .i64 (n : Int)) (fun _ => trivial) (wn rfl) rfl (ex_move rfl rfl) ?_
  refine wpi_exG (v := .int .i64 (64 * (n : Int))) (fun _ => trivial) (wn rfl) rfl (ex_mul (m := 64) (n := (n : Int)) rfl rfl rfl (i64_in (by omega))) ?_
  refine wpi_exG (v := .int .i64 (less : Int)) (fun _ => trivial) (wn rfl) rfl (ex_move rfl rfl) ?_
  simp only [Act.put, List.setIfInBounds_toArray, List.set_cons_succ, List.set_cons_zero]
  refine wpi_exG (v := .int .i64 (m : Int)) (fun _ => trivial) (wn rfl) rfl (ex_sub (m := (64 * (n : Int))) (n := (less : Int)) rfl rfl rfl (by rw [i64_in (by omega)]; omega)) ?_
  refine sl_make1 (len := m) (cap := m) (fun _ => trivial) (wn rfl) rfl rfl rfl Try.underlying24 lfmk5 rfl (by omega) (by unfold maxLen; omega) (by omega) hv (fun b3 w4 hv => ?_)
  refine wpi_exG (v := .slice (some ⟨b3, 0, none⟩) m m) (fun _ => trivial) (wn rfl) rfl (ex_assign rfl rfl) ?_
  refine wpListIn_nil ?_
  simp only [Act.put, List.setIfInBounds_toArray, List.set_cons_succ, List.set_cons_zero]
  refine then_normal (hK2 _ _ ?_)
  clear hK2 K2
  refine wpIn_seq_k (fun K5 hK5 => ?_)
  refine wpIn_seq_k (fun K6 hK6 => ?_)
  refine wpIn_region_lit ?_
  refine wpi_exG (v := .int .i64 0) (fun _ => trivial) (wn rfl) rfl (ex_assign rfl rfl) ?_
  refine wpListIn_nil ?_
  simp only [Act.put, List.setIfInBounds_toArray, List.set_cons_succ, List.set_cons_zero]
  refine then_normal (hK6 _ _ ?_)
  clear hK6 K6
  refine wpIn_block ?_
  gi_loopw [8] (fun x8 wr => ∃ i : Nat, x8 = .int .i64 (i : Int) ∧ i ≤ m ∧ Inv B (Res.cell b3 (List.replicate i (B8 c) ++ List.replicate (m - i) (.int .u8 0)) 5 :: H) wr) (fun x8 _ => m - (intOf x8).toNat)
  case atStart => exact ⟨0, rfl, by omega, by simpa using hv⟩
  case round =>
    obtain ⟨i, rfl, hi, hv⟩ := hrel
    refine wpIn_seq_k (fun K8 hK8 => ?_)
    refine wpIn_seq_k (fun K9 hK9 => ?_)
    refine wpIn_region_lit ?_
    refine wpi_exG (v := .int .i64 (i : Int)) (fun _ => trivial) (wn rfl) rfl (ex_move rfl rfl) ?_
    refine wpi_exG (v := .slice (some ⟨b3, 0, none⟩) m m) (fun _ => trivial) (wn rfl) rfl (ex_move rfl rfl) ?_
    refine wpi_exG (v := .int .i64 (m : Int)) (fun _ => trivial) (wn rfl) rfl (ex_len0 Try.underlying24 rfl rfl) ?_
    simp only [Act.put, List.setIfInBounds_toArray, List.set_cons_succ, List.set_cons_zero]
    by_cases hb10 : (i : Int) < (m : Int)
    · refine wpi_exG (v := .bool true) (fun _ => trivial) (wn rfl) rfl (ex_lss (k := .i64) (m := (i : Int)) (n := (m : Int)) rfl rfl rfl (decide_eq_true hb10)) ?_
      refine wpListIn_nil ?_
      simp only [Act.put, List.setIfInBounds_toArray, List.set_cons_succ, List.set_cons_zero]
      refine then_normal (hK9 _ _ ?_)
      clear hK9 K9
      refine wpIn_cond_true rfl ?_
      refine wpIn_skip ?_
      refine then_normal (hK8 _ _ ?_)
      clear hK8 K8
      refine wpIn_seq_k (fun K11 hK11 => ?_)
      refine wpIn_block ?_
      refine wpIn_region_lit ?_
      refine wpi_exG (v := .slice (some ⟨b3, 0, none⟩) m m) (fun _ => trivial) (wn rfl) rfl (ex_move rfl rfl) ?_
      refine wpi_exG (v := .int .i64 (i : Int)) (fun _ => trivial) (wn rfl) rfl (ex_move rfl rfl) ?_
      refine wpi_exG (v := B8 c) (fun _ => trivial) (wn rfl) rfl (ex_move rfl rfl) ?_
      simp only [Act.put, List.setIfInBounds_toArray, List.set_cons_succ, List.set_cons_zero]
      refine wpi_exG (v := .pointer (some ⟨b3, 0 + i, none⟩)) (fun _ => trivial) (wn rfl) rfl (ex_index rfl rfl rfl (run_idx1 Try.underlying24 lfes24 (by omega))) ?_
      refine sl_store (v := B8 c) (L' := List.replicate (i + 1) (B8 c) ++ List.replicate (m - (i + 1)) (.int .u8 0)) (fun _ => trivial) (wn rfl) rfl rfl rfl hv lfsz5 (by simp; omega) rfl rfl (fillStep _ _ _ (by omega)) (fun w12 hv => ?_)
      refine wpListIn_nil ?_
      simp only [Act.put, List.setIfInBounds_toArray, List.set_cons_succ, List.set_cons_zero]
      refine blk_normal ?_
      refine then_normal (hK11 _ _ ?_)
      clear hK11 K11
      refine wpIn_region_lit ?_
      refine wpi_exG (v := .int .i64 (i : Int)) (fun _ => trivial) (wn rfl) rfl (ex_move rfl rfl) ?_
      refine wpi_exG (v := .int .i64 ((i : Int) + 1)) (fun _ => trivial) (wn rfl) rfl (ex_add (m := (i : Int)) (n := 1) rfl rfl rfl (i64_in (by omega))) ?_
      refine wpi_exG (v := .int .i64 ((i : Int) + 1)) (fun _ => trivial) (wn rfl) rfl (ex_assign rfl rfl) ?_
      refine wpListIn_nil ?_
      simp only [Act.put, List.setIfInBounds_toArray, List.set_cons_succ, List.set_cons_zero]
      refine then_normal ?_
      go_roundw
      case rel => exact ⟨i + 1, by simp, by omega, hv⟩
      case measure => show m - ((i : Int) + 1).toNat < m - (i : Int).toNat; omega
    · refine wpi_exG (v := .bool false) (fun _ => trivial) (wn rfl) rfl (ex_lss (k := .i64) (m := (i : Int)) (n := (m : Int)) rfl rfl rfl (decide_eq_false hb10)) ?_
      refine wpListIn_nil ?_
      simp only [Act.put, List.setIfInBounds_toArray, List.set_cons_succ, List.set_cons_zero]
      refine then_normal (hK9 _ _ ?_)
      clear hK9 K9
      refine wpIn_cond_false rfl ?_
      refine wpIn_exit ?_
      refine then_exit ?_
      clear hK8 K8
      refine then_exit ?_
      refine blk_hit ?_
      refine then_normal (hK5 _ _ ?_)
      clear hK5 K5
      refine wpIn_seq_k (fun K13 hK13 => ?_)
      refine wpIn_region_lit ?_
      refine wpi_exG (v := .slice (some ⟨b3, 0, none⟩) m m) (fun _ => trivial) (wn rfl) rfl (ex_move rfl rfl) ?_
      refine wpi_exG (v := .slice (some ⟨b3, 0, none⟩) m m) (fun _ => trivial) (wn rfl) rfl (ex_assign rfl rfl) ?_
      refine wpListIn_nil ?_
      simp only [Act.put, List.setIfInBounds_toArray, List.set_cons_succ, List.set_cons_zero]
      refine then_normal (hK13 _ _ ?_)
      clear hK13 K13
      refine wpIn_ret ?_
      refine bodyPost_ret (results_tmp rfl _ _ _) rfl ?_
      obtain rfl : i = m := by omega
      exact ⟨_, rfl, by simpa using hv⟩
end Go.Proofs.Ytkannfkjnohdlaa
