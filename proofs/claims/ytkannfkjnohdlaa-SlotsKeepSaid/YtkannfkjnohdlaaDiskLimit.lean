/- disk.Limit -/
import Derived.Test.YtkannfkjnohdlaaDiskApi
import Derived.Test.YtkannfkjnohdlaaOps5
namespace Go.Proofs.Ytkannfkjnohdlaa
open Go.RowKit Go.Pm

theorem lifa87_2 (w : World) (b o : Nat) : (Instr.fieldAt 87 (.pointer (some ⟨b, o, none⟩)) 2).run Try.prog w = .ok (.pointer (some ⟨b, o + 2, none⟩)) w := by kernel_rfl
theorem lina3 (w : World) : (isAgg 3).run Try.prog w = .ok false w := by kernel_rfl
theorem lisz3 : (Try.prog.info? 3).map (·.size) = some 1 := by kernel_rfl
set_option maxRecDepth 100000 in
set_option maxHeartbeats 2000000 in
theorem diskLimitSl (B : Base) (H : List Res) (w : World) (p : Nat) (D : Disk) (F : List Nat) (m : Int) (hm : m ≤ 9223372036854775807) (hv : Inv B (diskR p D F :: H) w) :
    Calls Try.prog 37 #[.pointer (some ⟨p, 0, none⟩), .int .i64 m] w fun e w' => ∃ F', e = .returned (.tuple #[]) ∧ Inv B (diskR p (D.limit m) F' :: H) w' := by
  obtain ⟨gd, vad, vc, hok, hv⟩ := Inv.diskOpen hv
  refine (callsIn_wide (n := 5)).1 ?_
  refine callsIn_of_wp Try.func37 rfl trivial ?_
  simp only [Try.ntmps37, List.size_toArray, List.length_cons, List.length_nil, Nat.reduceAdd, Nat.reduceSub, Array.replicate_succ, Array.replicate_zero, List.push_toArray, List.append_toArray, List.nil_append, List.cons_append]
  refine wpIn_seq_k (fun K1 hK1 => ?_)
  refine wpIn_region_lit ?_
  refine wpi_exG (v := .pointer (some ⟨p, 0, none⟩)) (fun _ => trivial) (wn rfl) rfl (ex_move rfl rfl) ?_
  refine wpi_exG (v := .pointer (some ⟨p, 0, none⟩)) (fun _ => trivial) (wn rfl) rfl (ex_nil rfl rfl) ?_
  refine wpi_exG (v := .pointer (some ⟨p, 2, none⟩)) (fun _ => trivial) (wn rfl) rfl (ex_field rfl rfl (lifa87_2 _ _ _)) ?_
  simp only [Act.put, List.setIfInBounds_toArray, List.set_cons_succ, List.set_cons_zero]
  refine wpi_exG (v := .int .i64 D.left) (fun _ => trivial) (wn rfl) rfl (ex_load rfl rfl (run_load1 lina3 (hv.load 0 2 rfl rfl))) ?_
  by_cases hb2 : D.left ≠ 0
  · refine wpi_exG (v := .bool true) (fun _ => trivial) (wn rfl) rfl (ex_neq (k := .i64) (m := D.left) (n := 0) rfl rfl rfl (decide_eq_true hb2)) ?_
    refine wpListIn_nil ?_
    simp only [Act.put, List.setIfInBounds_toArray, List.set_cons_succ, List.set_cons_zero]
    refine then_normal (hK1 _ _ ?_)
    clear hK1 K1
    refine wpIn_cond_true rfl ?_
    refine wpIn_region_lit ?_
    refine wpi_exG (v := .pointer (some ⟨p, 0, none⟩)) (fun _ => trivial) (wn rfl) rfl (ex_move rfl rfl) ?_
    refine wpi_exG (v := .int .i64 m) (fun _ => trivial) (wn rfl) rfl (ex_move rfl rfl) ?_
    refine wpi_exG (v := .int .i64 (if m < -1 then -1 else m)) (fun _ => trivial) (wn rfl) rfl (ex_max2 (m := m) (n := (-1)) rfl rfl rfl rfl) ?_
    simp only [Act.put, List.setIfInBounds_toArray, List.set_cons_succ, List.set_cons_zero]
    refine wpi_exG (v := .pointer (some ⟨p, 0, none⟩)) (fun _ => trivial) (wn rfl) rfl (ex_nil rfl rfl) ?_
    refine wpi_exG (v := .pointer (some ⟨p, 2, none⟩)) (fun _ => trivial) (wn rfl) rfl (ex_field rfl rfl (lifa87_2 _ _ _)) ?_
    refine sl_storeAt 0 (v := .int .i64 (if m < -1 then -1 else m)) (L' := [.slice (some ⟨gd, 0, none⟩) D.dur.length D.dur.length, .slice vad D.pend.length vc, .int .i64 (if m < -1 then -1 else m)]) (fun _ => trivial) (wn rfl) rfl rfl rfl hv rfl lisz3 (by simp) rfl rfl rfl (fun w3 hv => ?_)
    simp only [List.set_cons_succ, List.set_cons_zero] at hv
    refine wpListIn_nil ?_
    simp only [Act.put, List.setIfInBounds_toArray, List.set_cons_succ, List.set_cons_zero]
    go_end0
    have e : D.limit m = { D with left := (if m < -1 then -1 else m) } := by unfold Disk.limit; rw [if_neg (by omega)]
    rw [e]
    obtain ⟨F2, hv⟩ := Inv.diskClose (D := { D with left := (if m < -1 then -1 else m) }) ⟨hok.dur, hok.pos, hok.max, hok.pend, by show -1 ≤ (if m < -1 then -1 else m); split <;> omega, by show (if m < -1 then -1 else m) ≤ _; split <;> omega⟩ hv
    exact ⟨F2, rfl, hv⟩
  · refine wpi_exG (v := .bool false) (fun _ => trivial) (wn rfl) rfl (ex_neq (k := .i64) (m := D.left) (n := 0) rfl rfl rfl (decide_eq_false hb2)) ?_
    refine wpListIn_nil ?_
    simp only [Act.put, List.setIfInBounds_toArray, List.set_cons_succ, List.set_cons_zero]
    refine then_normal (hK1 _ _ ?_)
    clear hK1 K1
    refine wpIn_cond_false rfl ?_
    refine wpIn_skip ?_
    go_end0
    have e : D.limit m = D := by unfold Disk.limit; rw [if_pos (by omega)]
    rw [e]
    obtain ⟨F2, hv⟩ := Inv.diskClose hok hv
    exact ⟨F2, rfl, hv⟩
end Go.Proofs.Ytkannfkjnohdlaa
