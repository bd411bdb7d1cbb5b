/- num.Print and num.Parse over strconv. -/
import Derived.Test.YtffmbdagjpdieaaGreatDoorOps5
import Derived.Test.YtffmbdagjpdieaaGreatDoorMonoSl
import Derived.Test.YtffmbdagjpdieaaGreatDoorDec
import Derived.Test.YtffmbdagjpdieaaGreatDoorRows
namespace Go.Proofs.YtffmbdagjpdieaaGreatDoor
open Go.RowKit Go.Pm
/-- what strconv.FormatInt answers in base ten, a held state kept -/
def FormatsInt (B : Base) (H : List Res) : Prop := ∀ (w : World) (n : Int), -9223372036854775808 ≤ n → n ≤ 9223372036854775807 → Inv B H w →
  Calls Tryz.prog 50 #[.int .i64 n, .int .i64 10] w fun e w' => e = .returned (.string ⟨(Lib.itoa n).toArray⟩) ∧ Inv B H w'
/-- what strconv.ParseInt answers to a decimal form -/
def ParsesInt (B : Base) (H : List Res) : Prop := ∀ (w : World) (n : Int), -9223372036854775808 ≤ n → n ≤ 9223372036854775807 → Inv B H w →
  Calls Tryz.prog 38 #[.string ⟨(Lib.itoa n).toArray⟩, .int .i64 10, .int .i64 64] w fun e w' => e = .returned (.tuple #[.int .i64 n, .nilIface]) ∧ Inv B H w'
theorem ex_ifaceNil {P : Program} {o : Oper} {a : Act} {w : World} {t u : TypeId} {x : Operand} {c : Value} (hu : P.underlying t = some (.interface (P.methodsAt t))) (ho : o.op = .binOp .neq t x (.const c) u) (hx : a.eval x = .nilIface) (hy : a.eval (.const c) = .nilIface) : Ex P a o w (.bool false) w := by
  have hg : (eqGuard .neq t x (.const c) .nilIface .nilIface).run P w = .ok () w := by simp [eqGuard]
  have hr : (binOp .neq t .nilIface .nilIface).run P w = .ok (.bool false) w := by simp [binOp, run_equal_nil_nil w t hu]
  unfold Ex; simp [execOp, ho, hx, hy, hg, hr]

theorem prcallable50 : Callable Tryz.prog 50 := ⟨_, Tryz.func50, by kernel_rfl, by kernel_rfl⟩
set_option maxRecDepth 100000 in
set_option maxHeartbeats 2000000 in
theorem numPrint (B : Base) (H : List Res) (hF : FormatsInt B H) (w : World) (n : Int) (h0 : -9223372036854775808 ≤ n) (h1 : n ≤ 9223372036854775807) (hv : Inv B H w) :
    Calls Tryz.prog 39 #[.int .i64 n] w fun e w' => e = .returned (.string ⟨(Lib.itoa n).toArray⟩) ∧ Inv B H w' := by
  refine (callsIn_wide (n := 5)).1 ?_
  refine callsIn_of_wp Tryz.func39 rfl trivial ?_
  simp only [Tryz.ntmps39, List.size_toArray, List.length_cons, List.length_nil, Nat.reduceAdd, Nat.reduceSub, Array.replicate_succ, Array.replicate_zero, List.push_toArray, List.append_toArray, List.nil_append, List.cons_append]
  refine wpIn_seq_k (fun K1 hK1 => ?_)
  refine wpIn_region_lit ?_
  refine wpi_exG (v := .string ⟨([] : List UInt8).toArray⟩) (fun _ => trivial) (wn rfl) rfl (ex_assign rfl rfl) ?_
  refine wpListIn_nil ?_
  simp only [Act.put, List.setIfInBounds_toArray, List.set_cons_succ, List.set_cons_zero]
  refine then_normal (hK1 _ _ ?_)
  clear hK1 K1
  refine wpIn_seq_k (fun K2 hK2 => ?_)
  refine wpIn_region_lit ?_
  refine wpi_exG (v := .int .i64 n) (fun _ => trivial) (wn rfl) rfl (ex_move rfl rfl) ?_
  refine wpi_callG prcallable50 (fun _ => trivial) wideC rfl (wn rfl) rfl (args := #[.int .i64 n, .int .i64 10]) (by simp only [List.map_toArray, List.map_cons, List.map_nil]; rfl) ((hF _ n h0 h1 hv).mono ?_)
  rintro e w3 ⟨rfl, hv⟩
  refine ⟨_, rfl, ?_⟩
  refine wpi_exG (v := .string ⟨(Lib.itoa n).toArray⟩) (fun _ => trivial) (wn rfl) rfl (ex_assign rfl rfl) ?_
  refine wpListIn_nil ?_
  simp only [Act.put, List.setIfInBounds_toArray, List.set_cons_succ, List.set_cons_zero]
  refine then_normal (hK2 _ _ ?_)
  clear hK2 K2
  refine wpIn_ret ?_
  refine bodyPost_ret (results_tmp rfl _ _ _) rfl ?_
  exact ⟨rfl, hv⟩
theorem prcallable38 : Callable Tryz.prog 38 := ⟨_, Tryz.func38, by kernel_rfl, by kernel_rfl⟩
theorem prcallable39 : Callable Tryz.prog 39 := ⟨_, Tryz.func39, by kernel_rfl, by kernel_rfl⟩
set_option maxRecDepth 100000 in
set_option maxHeartbeats 2000000 in
theorem numParse (B : Base) (H : List Res) (hF : FormatsInt B H) (hP : ParsesInt B H) (w : World) (n : Int) (h0 : -9223372036854775808 ≤ n) (h1 : n ≤ 9223372036854775807) (hv : Inv B H w) :
    Calls Tryz.prog 23 #[.string ⟨(Lib.itoa n).toArray⟩] w fun e w' => e = .returned (.tuple #[.int .i64 n, .bool true]) ∧ Inv B H w' := by
  have hlen := itoa_length n h0 h1
  refine (callsIn_wide (n := 5)).1 ?_
  refine callsIn_of_wp Tryz.func23 rfl trivial ?_
  simp only [Tryz.ntmps23, List.size_toArray, List.length_cons, List.length_nil, Nat.reduceAdd, Nat.reduceSub, Array.replicate_succ, Array.replicate_zero, List.push_toArray, List.append_toArray, List.nil_append, List.cons_append]
  refine wpIn_seq_k (fun K1 hK1 => ?_)
  refine wpIn_region_lit ?_
  refine wpi_exG (v := .int .i64 0) (fun _ => trivial) (wn rfl) rfl (ex_assign rfl rfl) ?_
  refine wpi_exG (v := .bool false) (fun _ => trivial) (wn rfl) rfl (ex_assign rfl rfl) ?_
  refine wpListIn_nil ?_
  simp only [Act.put, List.setIfInBounds_toArray, List.set_cons_succ, List.set_cons_zero]
  refine then_normal (hK1 _ _ ?_)
  clear hK1 K1
  refine wpIn_seq_k (fun K2 hK2 => ?_)
  refine wpIn_seq_k (fun K3 hK3 => ?_)
  refine wpIn_region_lit ?_
  refine wpi_exG (v := .string ⟨(Lib.itoa n).toArray⟩) (fun _ => trivial) (wn rfl) rfl (ex_move rfl rfl) ?_
  refine wpi_exG (v := .int .i64 ((Lib.itoa n).length : Int)) (fun _ => trivial) (wn rfl) rfl (ex_lenStr Tryz.underlying9 rfl rfl) ?_
  refine wpi_exG (v := .bool false) (fun _ => trivial) (wn rfl) rfl (ex_gtr (k := .i64) (m := ((Lib.itoa n).length : Int)) (n := 20) rfl rfl rfl (decide_eq_false (by omega))) ?_
  refine wpListIn_nil ?_
  simp only [Act.put, List.setIfInBounds_toArray, List.set_cons_succ, List.set_cons_zero]
  refine then_normal (hK3 _ _ ?_)
  clear hK3 K3
  refine wpIn_cond_false rfl ?_
  refine wpIn_skip ?_
  refine then_normal (hK2 _ _ ?_)
  clear hK2 K2
  refine wpIn_seq_k (fun K4 hK4 => ?_)
  refine wpIn_region_lit ?_
  refine wpi_exG (v := .string ⟨(Lib.itoa n).toArray⟩) (fun _ => trivial) (wn rfl) rfl (ex_move rfl rfl) ?_
  refine wpi_callG prcallable38 (fun _ => trivial) wideC rfl (wn rfl) rfl (args := #[.string ⟨(Lib.itoa n).toArray⟩, .int .i64 10, .int .i64 64]) (by simp only [List.map_toArray, List.map_cons, List.map_nil]; rfl) ((hP _ n h0 h1 hv).mono ?_)
  rintro e w5 ⟨rfl, hv⟩
  refine ⟨_, rfl, ?_⟩
  refine wpi_exG (v := .tuple #[.int .i64 n, .nilIface]) (fun _ => trivial) (wn rfl) rfl (ex_move rfl rfl) ?_
  simp only [Act.put, List.setIfInBounds_toArray, List.set_cons_succ, List.set_cons_zero]
  refine wpi_exG (v := .int .i64 n) (fun _ => trivial) (wn rfl) rfl (ex_extract rfl rfl rfl) ?_
  refine wpi_exG (v := .nilIface) (fun _ => trivial) (wn rfl) rfl (ex_extract rfl rfl rfl) ?_
  refine wpi_exG (v := .int .i64 n) (fun _ => trivial) (wn rfl) rfl (ex_assign rfl rfl) ?_
  simp only [Act.put, List.setIfInBounds_toArray, List.set_cons_succ, List.set_cons_zero]
  refine wpi_exG (v := .nilIface) (fun _ => trivial) (wn rfl) rfl (ex_assign rfl rfl) ?_
  refine wpListIn_nil ?_
  simp only [Act.put, List.setIfInBounds_toArray, List.set_cons_succ, List.set_cons_zero]
  refine then_normal (hK4 _ _ ?_)
  clear hK4 K4
  refine wpIn_seq_k (fun K6 hK6 => ?_)
  refine wpIn_seq_k (fun K7 hK7 => ?_)
  refine wpIn_region_lit ?_
  refine wpi_exG (v := .nilIface) (fun _ => trivial) (wn rfl) rfl (ex_move rfl rfl) ?_
  refine wpi_exG (v := .bool false) (fun _ => trivial) (wn rfl) rfl (ex_ifaceNil Tryz.underlying106 rfl rfl rfl) ?_
  refine wpListIn_nil ?_
  simp only [Act.put, List.setIfInBounds_toArray, List.set_cons_succ, List.set_cons_zero]
  refine then_normal (hK7 _ _ ?_)
  clear hK7 K7
  refine wpIn_cond_false rfl ?_
  refine wpIn_skip ?_
  refine then_normal (hK6 _ _ ?_)
  clear hK6 K6
  refine wpIn_seq_k (fun K8 hK8 => ?_)
  refine wpIn_region_lit ?_
  refine wpi_exG (v := .int .i64 n) (fun _ => trivial) (wn rfl) rfl (ex_move rfl rfl) ?_
  refine wpi_exG (v := .int .i64 n) (fun _ => trivial) (wn rfl) rfl (ex_assign rfl rfl) ?_
  refine wpListIn_nil ?_
  simp only [Act.put, List.setIfInBounds_toArray, List.set_cons_succ, List.set_cons_zero]
  refine then_normal (hK8 _ _ ?_)
  clear hK8 K8
  refine wpIn_seq_k (fun K9 hK9 => ?_)
  refine wpIn_seq_k (fun K10 hK10 => ?_)
  refine wpIn_region_lit ?_
  refine wpi_exG (v := .int .i64 n) (fun _ => trivial) (wn rfl) rfl (ex_move rfl rfl) ?_
  refine wpi_callG prcallable39 (fun _ => trivial) wideC rfl (wn rfl) rfl (args := #[.int .i64 n]) (by simp only [List.map_toArray, List.map_cons, List.map_nil]; rfl) ((numPrint B H hF _ n h0 h1 hv).mono ?_)
  rintro e w11 ⟨rfl, hv⟩
  refine ⟨_, rfl, ?_⟩
  refine wpi_exG (v := .string ⟨(Lib.itoa n).toArray⟩) (fun _ => trivial) (wn rfl) rfl (ex_move rfl rfl) ?_
  simp only [Act.put, List.setIfInBounds_toArray, List.set_cons_succ, List.set_cons_zero]
  refine wpi_exG (v := .bool false) (fun _ => trivial) (wn rfl) rfl (ex_sneq (s := (Lib.itoa n)) (s' := (Lib.itoa n)) rfl rfl rfl (decide_eq_false (by simp))) ?_
  refine wpListIn_nil ?_
  simp only [Act.put, List.setIfInBounds_toArray, List.set_cons_succ, List.set_cons_zero]
  refine then_normal (hK10 _ _ ?_)
  clear hK10 K10
  refine wpIn_cond_false rfl ?_
  refine wpIn_skip ?_
  refine then_normal (hK9 _ _ ?_)
  clear hK9 K9
  refine wpIn_seq_k (fun K12 hK12 => ?_)
  refine wpIn_region_lit ?_
  refine wpi_exG (v := .int .i64 n) (fun _ => trivial) (wn rfl) rfl (ex_move rfl rfl) ?_
  refine wpi_exG (v := .int .i64 n) (fun _ => trivial) (wn rfl) rfl (ex_assign rfl rfl) ?_
  refine wpi_exG (v := .bool true) (fun _ => trivial) (wn rfl) rfl (ex_assign rfl rfl) ?_
  refine wpListIn_nil ?_
  simp only [Act.put, List.setIfInBounds_toArray, List.set_cons_succ, List.set_cons_zero]
  refine then_normal (hK12 _ _ ?_)
  clear hK12 K12
  refine wpIn_ret ?_
  refine bodyPost_ret (results_tmp2 rfl _ _ _) rfl ?_
  exact ⟨rfl, hv⟩
end Go.Proofs.YtffmbdagjpdieaaGreatDoor
