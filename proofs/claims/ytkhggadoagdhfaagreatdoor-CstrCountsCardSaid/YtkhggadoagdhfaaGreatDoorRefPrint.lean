/- pentimentoref01.Print: the decimal form. -/
import Derived.Test.YtkhggadoagdhfaaGreatDoorOps5
import Derived.Test.YtkhggadoagdhfaaGreatDoorMonoSl
import Derived.Test.YtkhggadoagdhfaaGreatDoorDec
import Derived.Test.YtkhggadoagdhfaaGreatDoorRows
namespace Go.Proofs.YtkhggadoagdhfaaGreatDoor
open Go.RowKit Go.Pm
theorem u64_mod (n : Int) : IntKind.u64.wrap n = n % 18446744073709551616 := by simp [IntKind.wrap, IntKind.signed, IntKind.bits]
theorem u64_neg (n : Int) (h0 : -9223372036854775808 ≤ n) (h1 : n < 0) : IntKind.u64.wrap (-(n % 18446744073709551616)) = (n.natAbs : Int) := by
  rw [u64_mod]; omega
theorem ex_neg64 {P : Program} {o : Oper} {a : Act} {w : World} {t : TypeId} {x : Operand} {m s : Int} (ho : o.op = .unOp .neg t x) (hx : a.eval x = .int .u64 m) (hs : IntKind.u64.wrap (-m) = s) : Ex P a o w (.int .u64 s) w := by
  subst hs; unfold Ex; simp [execOp, ho, hx, Op.unary, Op.intArith]
theorem rem10 (u : Nat) : ((u : Int)).tmod 10 = ((u % 10 : Nat) : Int) := by rw [Int.tmod_eq_emod_of_nonneg (by omega)]; omega
theorem quo10 (u : Nat) (h : u ≤ 9223372036854775808) : IntKind.u64.wrap ((u : Int).tdiv 10) = ((u / 10 : Nat) : Int) := by
  rw [Int.tdiv_eq_ediv_of_nonneg (by omega), u64_in (by omega)]; omega
theorem dec_big (u : Nat) (h : ¬ u < 10) : Lib.decDigits u = Lib.decDigits (u / 10) ++ [UInt8.ofNat (48 + u % 10)] := by rw [Lib.decDigits, dif_neg h]
theorem dec_small (u : Nat) (h : u < 10) : Lib.decDigits u = [UInt8.ofNat (48 + u % 10)] := by rw [Lib.decDigits, dif_pos h, Nat.mod_eq_of_lt h]
theorem dec_len (u : Nat) (h : u ≤ 9223372036854775808) : (Lib.decDigits u).length ≤ 19 := by
  have hp : (10 : Nat) ^ 19 = 10000000000000000000 := by decide
  rw [Lib.decDigits_length]
  exact nDigits_le 18 u (by rw [hp]; omega)
theorem u8_dig (u : Nat) : IntKind.u8.wrap ((48 + u % 10 : Nat) : Int) = ((UInt8.ofNat (48 + u % 10)).toNat : Int) := by
  rw [dig_toNat (Nat.mod_lt _ (by decide)), u8_in (by omega)]

theorem prmk5 : (Tryz.prog.info? 5).map (fun i => (i.zero, i.size, i.bytes)) = some (some (.int .u8 0), 1, 1) := by kernel_rfl
theorem prel63 : Elem Tryz.prog 63 5 (.int .u8 0) 1 1 := elem_of Tryz.underlying63 prmk5 (by rfl) (by decide)
set_option maxRecDepth 100000 in
set_option maxHeartbeats 2000000 in
theorem refPrint (B : Base) (H : List Res) (w : World) (n : Int) (h0 : -9223372036854775808 ≤ n) (h1 : n ≤ 9223372036854775807) (hv : Inv B H w) :
    Calls Tryz.prog 8 #[.int .i64 n] w fun e w' => e = .returned (.string ⟨(Lib.itoa n).toArray⟩) ∧ Inv B H w' := by
  refine (callsIn_wide (n := 5)).1 ?_
  refine callsIn_of_wp Tryz.func8 rfl trivial ?_
  simp only [Tryz.ntmps8, List.size_toArray, List.length_cons, List.length_nil, Nat.reduceAdd, Nat.reduceSub, Array.replicate_succ, Array.replicate_zero, List.push_toArray, List.append_toArray, List.nil_append, List.cons_append]
  refine wpIn_seq_k (fun K1 hK1 => ?_)
  refine wpIn_region_lit ?_
  refine wpi_exG (v := .string ⟨([] : List UInt8).toArray⟩) (fun _ => trivial) (wn rfl) rfl (ex_assign rfl rfl) ?_
  refine wpListIn_nil ?_
  simp only [Act.put, List.setIfInBounds_toArray, List.set_cons_succ, List.set_cons_zero]
  refine then_normal (hK1 _ _ ?_)
  clear hK1 K1
  refine wpIn_seq_k (fun K2 hK2 => ?_)
  refine wpIn_region_lit ?_
  refine wpi_exG (v := .int .i64 n) (fun _ => trivial) (wn rfl) rfl (ex_move rfl rfl) ?_
  refine wpi_exG (v := .int .u64 (n % 18446744073709551616)) (fun _ => trivial) (wn rfl) rfl (ex_int (m := n) Tryz.underlying3 Tryz.underlying62 rfl rfl (u64_mod n)) ?_
  refine wpi_exG (v := .int .u64 (n % 18446744073709551616)) (fun _ => trivial) (wn rfl) rfl (ex_assign rfl rfl) ?_
  refine wpListIn_nil ?_
  simp only [Act.put, List.setIfInBounds_toArray, List.set_cons_succ, List.set_cons_zero]
  refine then_normal (hK2 _ _ ?_)
  clear hK2 K2
  refine wpIn_seq_k (fun K3 hK3 => ?_)
  refine wpIn_region_lit ?_
  refine wpi_exG (v := .string ⟨([] : List UInt8).toArray⟩) (fun _ => trivial) (wn rfl) rfl (ex_assign rfl rfl) ?_
  refine wpListIn_nil ?_
  simp only [Act.put, List.setIfInBounds_toArray, List.set_cons_succ, List.set_cons_zero]
  refine then_normal (hK3 _ _ ?_)
  clear hK3 K3
  refine wpIn_seq_k (fun K4 hK4 => ?_)
  refine wpIn_seq_k (fun K5 hK5 => ?_)
  refine wpIn_region_lit ?_
  refine wpi_exG (v := .int .i64 n) (fun _ => trivial) (wn rfl) rfl (ex_move rfl rfl) ?_
  by_cases hb6 : n < 0
  · refine wpi_exG (v := .bool true) (fun _ => trivial) (wn rfl) rfl (ex_lss (k := .i64) (m := n) (n := 0) rfl rfl rfl (decide_eq_true hb6)) ?_
    refine wpListIn_nil ?_
    simp only [Act.put, List.setIfInBounds_toArray, List.set_cons_succ, List.set_cons_zero]
    refine then_normal (hK5 _ _ ?_)
    clear hK5 K5
    refine wpIn_cond_true rfl ?_
    refine wpIn_seq_k (fun K7 hK7 => ?_)
    refine wpIn_region_lit ?_
    refine wpi_exG (v := .int .u64 (n % 18446744073709551616)) (fun _ => trivial) (wn rfl) rfl (ex_move rfl rfl) ?_
    refine wpi_exG (v := .int .u64 (n.natAbs : Int)) (fun _ => trivial) (wn rfl) rfl (ex_neg64 (m := (n % 18446744073709551616)) rfl rfl (u64_neg n h0 (by assumption))) ?_
    refine wpi_exG (v := .int .u64 (n.natAbs : Int)) (fun _ => trivial) (wn rfl) rfl (ex_assign rfl rfl) ?_
    refine wpListIn_nil ?_
    simp only [Act.put, List.setIfInBounds_toArray, List.set_cons_succ, List.set_cons_zero]
    refine then_normal (hK7 _ _ ?_)
    clear hK7 K7
    refine wpIn_region_lit ?_
    refine wpi_exG (v := .string ⟨([45] : List UInt8).toArray⟩) (fun _ => trivial) (wn rfl) rfl (ex_assign rfl rfl) ?_
    refine wpListIn_nil ?_
    simp only [Act.put, List.setIfInBounds_toArray, List.set_cons_succ, List.set_cons_zero]
    refine then_normal (hK4 _ _ ?_)
    clear hK4 K4
    refine wpIn_seq_k (fun K8 hK8 => ?_)
    refine wpIn_region_lit ?_
    refine wpi_exG (v := .string ⟨([] : List UInt8).toArray⟩) (fun _ => trivial) (wn rfl) rfl (ex_assign rfl rfl) ?_
    refine wpListIn_nil ?_
    simp only [Act.put, List.setIfInBounds_toArray, List.set_cons_succ, List.set_cons_zero]
    refine then_normal (hK8 _ _ ?_)
    clear hK8 K8
    refine wpIn_block ?_
    gi_loopw [3, 5] (fun x3 x5 wr => ∃ (u : Nat) (s : List UInt8), x3 = .int .u64 (u : Int) ∧ x5 = .string ⟨s.toArray⟩ ∧ Lib.decDigits n.natAbs = Lib.decDigits u ++ s ∧ u ≤ 9223372036854775808 ∧ Inv B H wr) (fun x3 x5 _ => (intOf x3).toNat)
    case atStart => exact ⟨n.natAbs, [], congrArg (Value.int .u64) (by omega), rfl, by simp, by omega, hv⟩
    case round =>
      obtain ⟨u, s, rfl, rfl, hd, hu, hv⟩ := hrel
      have hsl : s.length ≤ 19 := by have h9 := dec_len n.natAbs (by omega); rw [hd, List.length_append] at h9; omega
      refine wpIn_block ?_
      refine wpIn_seq_k (fun K10 hK10 => ?_)
      refine wpIn_region_lit ?_
      refine wpi_exG (v := .int .u64 (u : Int)) (fun _ => trivial) (wn rfl) rfl (ex_move rfl rfl) ?_
      refine wpi_exG (v := .int .u64 ((u % 10 : Nat) : Int)) (fun _ => trivial) (wn rfl) rfl (ex_rem (m := (u : Int)) (n := 10) rfl rfl rfl (by decide) (rem10 u)) ?_
      refine wpi_exG (v := .int .u64 ((48 + u % 10 : Nat) : Int)) (fun _ => trivial) (wn rfl) rfl (ex_add (m := 48) (n := ((u % 10 : Nat) : Int)) rfl rfl rfl (by rw [u64_in (by omega)]; omega)) ?_
      simp only [Act.put, List.setIfInBounds_toArray, List.set_cons_succ, List.set_cons_zero]
      refine wpi_exG (v := .int .u8 ((UInt8.ofNat (48 + u % 10)).toNat : Int)) (fun _ => trivial) (wn rfl) rfl (ex_int (m := ((48 + u % 10 : Nat) : Int)) Tryz.underlying62 Tryz.underlying5 rfl rfl (u8_dig u)) ?_
      refine sl_rowOne (v := .int .u8 ((UInt8.ofNat (48 + u % 10)).toNat : Int)) (fun _ => trivial) (wn rfl) rfl rfl hv prel63 rfl (fun b11 w12 hv => ?_)
      refine wpi_exG (v := .string ⟨[UInt8.ofNat (48 + u % 10)].toArray⟩) (fun _ => trivial) (wn rfl) rfl (ex_str Tryz.underlying63 Tryz.underlying5 Tryz.underlying9 rfl rfl (bytes_all (l := [UInt8.ofNat (48 + u % 10)]) (hv.get 0 rfl)) (rfl)) ?_
      simp only [Act.put, List.setIfInBounds_toArray, List.set_cons_succ, List.set_cons_zero]
      refine wpi_exG (v := .string ⟨s.toArray⟩) (fun _ => trivial) (wn rfl) rfl (ex_move rfl rfl) ?_
      refine wpi_exG (v := .string ⟨([UInt8.ofNat (48 + u % 10)] ++ s).toArray⟩) (fun _ => trivial) (wn rfl) rfl (ex_cat (s := [UInt8.ofNat (48 + u % 10)]) (s' := s) rfl rfl rfl (by simp only [List.length_cons, List.length_nil]; omega)) ?_
      refine wpi_exG (v := .string ⟨([UInt8.ofNat (48 + u % 10)] ++ s).toArray⟩) (fun _ => trivial) (wn rfl) rfl (ex_assign rfl rfl) ?_
      refine wpListIn_nil ?_
      simp only [Act.put, List.setIfInBounds_toArray, List.set_cons_succ, List.set_cons_zero]
      refine then_normal (hK10 _ _ ?_)
      clear hK10 K10
      refine wpIn_seq_k (fun K13 hK13 => ?_)
      refine wpIn_region_lit ?_
      refine wpi_exG (v := .int .u64 (u : Int)) (fun _ => trivial) (wn rfl) rfl (ex_move rfl rfl) ?_
      refine wpi_exG (v := .int .u64 ((u / 10 : Nat) : Int)) (fun _ => trivial) (wn rfl) rfl (ex_quo (m := (u : Int)) (n := 10) rfl rfl rfl (by decide) (quo10 u hu)) ?_
      refine wpi_exG (v := .int .u64 ((u / 10 : Nat) : Int)) (fun _ => trivial) (wn rfl) rfl (ex_assign rfl rfl) ?_
      refine wpListIn_nil ?_
      simp only [Act.put, List.setIfInBounds_toArray, List.set_cons_succ, List.set_cons_zero]
      refine then_normal (hK13 _ _ ?_)
      clear hK13 K13
      refine wpIn_seq_k (fun K14 hK14 => ?_)
      refine wpIn_region_lit ?_
      refine wpi_exG (v := .int .u64 ((u / 10 : Nat) : Int)) (fun _ => trivial) (wn rfl) rfl (ex_move rfl rfl) ?_
      by_cases hb15 : ((u / 10 : Nat) : Int) = 0
      · refine wpi_exG (v := .bool true) (fun _ => trivial) (wn rfl) rfl (ex_eql (k := .u64) (m := ((u / 10 : Nat) : Int)) (n := 0) rfl rfl rfl (decide_eq_true hb15)) ?_
        refine wpListIn_nil ?_
        simp only [Act.put, List.setIfInBounds_toArray, List.set_cons_succ, List.set_cons_zero]
        refine then_normal (hK14 _ _ ?_)
        clear hK14 K14
        refine wpIn_cond_true rfl ?_
        refine wpIn_seq_k (fun K16 hK16 => ?_)
        refine wpIn_region_lit ?_
        refine wpi_exG (v := .string ⟨([45] : List UInt8).toArray⟩) (fun _ => trivial) (wn rfl) rfl (ex_move rfl rfl) ?_
        refine wpi_exG (v := .string ⟨([UInt8.ofNat (48 + u % 10)] ++ s).toArray⟩) (fun _ => trivial) (wn rfl) rfl (ex_move rfl rfl) ?_
        refine wpi_exG (v := .string ⟨(([45] : List UInt8) ++ ([UInt8.ofNat (48 + u % 10)] ++ s)).toArray⟩) (fun _ => trivial) (wn rfl) rfl (ex_cat (s := ([45] : List UInt8)) (s' := ([UInt8.ofNat (48 + u % 10)] ++ s)) rfl rfl rfl (by simp only [List.length_append, List.length_cons, List.length_nil]; omega)) ?_
        simp only [Act.put, List.setIfInBounds_toArray, List.set_cons_succ, List.set_cons_zero]
        refine wpi_exG (v := .string ⟨(([45] : List UInt8) ++ ([UInt8.ofNat (48 + u % 10)] ++ s)).toArray⟩) (fun _ => trivial) (wn rfl) rfl (ex_assign rfl rfl) ?_
        refine wpListIn_nil ?_
        simp only [Act.put, List.setIfInBounds_toArray, List.set_cons_succ, List.set_cons_zero]
        refine then_normal (hK16 _ _ ?_)
        clear hK16 K16
        refine wpIn_ret ?_
        refine blk_ret ?_
        refine then_ret ?_
        refine blk_ret ?_
        refine bodyPost_ret (results_tmp rfl _ _ _) rfl ?_
        have hs : Lib.itoa n = ([45] : List UInt8) ++ ([UInt8.ofNat (48 + u % 10)] ++ s) := by
            unfold Lib.itoa
            rw [if_pos (by assumption)]
            rw [hd, dec_small u (by omega)]; simp
        rw [hs]; exact ⟨rfl, hv.drop⟩
      · refine wpi_exG (v := .bool false) (fun _ => trivial) (wn rfl) rfl (ex_eql (k := .u64) (m := ((u / 10 : Nat) : Int)) (n := 0) rfl rfl rfl (decide_eq_false hb15)) ?_
        refine wpListIn_nil ?_
        simp only [Act.put, List.setIfInBounds_toArray, List.set_cons_succ, List.set_cons_zero]
        refine then_normal (hK14 _ _ ?_)
        clear hK14 K14
        refine wpIn_cond_false rfl ?_
        refine wpIn_skip ?_
        refine blk_normal ?_
        refine then_normal ?_
        go_roundw
        case rel => exact ⟨u / 10, [UInt8.ofNat (48 + u % 10)] ++ s, rfl, rfl, by rw [hd, dec_big u (by omega)]; simp, by omega, hv.drop⟩
        case measure => show (((u / 10 : Nat) : Int)).toNat < ((u : Int)).toNat; omega
  · refine wpi_exG (v := .bool false) (fun _ => trivial) (wn rfl) rfl (ex_lss (k := .i64) (m := n) (n := 0) rfl rfl rfl (decide_eq_false hb6)) ?_
    refine wpListIn_nil ?_
    simp only [Act.put, List.setIfInBounds_toArray, List.set_cons_succ, List.set_cons_zero]
    refine then_normal (hK5 _ _ ?_)
    clear hK5 K5
    refine wpIn_cond_false rfl ?_
    refine wpIn_skip ?_
    refine then_normal (hK4 _ _ ?_)
    clear hK4 K4
    refine wpIn_seq_k (fun K17 hK17 => ?_)
    refine wpIn_region_lit ?_
    refine wpi_exG (v := .string ⟨([] : List UInt8).toArray⟩) (fun _ => trivial) (wn rfl) rfl (ex_assign rfl rfl) ?_
    refine wpListIn_nil ?_
    simp only [Act.put, List.setIfInBounds_toArray, List.set_cons_succ, List.set_cons_zero]
    refine then_normal (hK17 _ _ ?_)
    clear hK17 K17
    refine wpIn_block ?_
    gi_loopw [3, 5] (fun x3 x5 wr => ∃ (u : Nat) (s : List UInt8), x3 = .int .u64 (u : Int) ∧ x5 = .string ⟨s.toArray⟩ ∧ Lib.decDigits n.natAbs = Lib.decDigits u ++ s ∧ u ≤ 9223372036854775808 ∧ Inv B H wr) (fun x3 x5 _ => (intOf x3).toNat)
    case atStart => exact ⟨n.natAbs, [], congrArg (Value.int .u64) (by omega), rfl, by simp, by omega, hv⟩
    case round =>
      obtain ⟨u, s, rfl, rfl, hd, hu, hv⟩ := hrel
      have hsl : s.length ≤ 19 := by have h9 := dec_len n.natAbs (by omega); rw [hd, List.length_append] at h9; omega
      refine wpIn_block ?_
      refine wpIn_seq_k (fun K19 hK19 => ?_)
      refine wpIn_region_lit ?_
      refine wpi_exG (v := .int .u64 (u : Int)) (fun _ => trivial) (wn rfl) rfl (ex_move rfl rfl) ?_
      refine wpi_exG (v := .int .u64 ((u % 10 : Nat) : Int)) (fun _ => trivial) (wn rfl) rfl (ex_rem (m := (u : Int)) (n := 10) rfl rfl rfl (by decide) (rem10 u)) ?_
      refine wpi_exG (v := .int .u64 ((48 + u % 10 : Nat) : Int)) (fun _ => trivial) (wn rfl) rfl (ex_add (m := 48) (n := ((u % 10 : Nat) : Int)) rfl rfl rfl (by rw [u64_in (by omega)]; omega)) ?_
      simp only [Act.put, List.setIfInBounds_toArray, List.set_cons_succ, List.set_cons_zero]
      refine wpi_exG (v := .int .u8 ((UInt8.ofNat (48 + u % 10)).toNat : Int)) (fun _ => trivial) (wn rfl) rfl (ex_int (m := ((48 + u % 10 : Nat) : Int)) Tryz.underlying62 Tryz.underlying5 rfl rfl (u8_dig u)) ?_
      refine sl_rowOne (v := .int .u8 ((UInt8.ofNat (48 + u % 10)).toNat : Int)) (fun _ => trivial) (wn rfl) rfl rfl hv prel63 rfl (fun b20 w21 hv => ?_)
      refine wpi_exG (v := .string ⟨[UInt8.ofNat (48 + u % 10)].toArray⟩) (fun _ => trivial) (wn rfl) rfl (ex_str Tryz.underlying63 Tryz.underlying5 Tryz.underlying9 rfl rfl (bytes_all (l := [UInt8.ofNat (48 + u % 10)]) (hv.get 0 rfl)) (rfl)) ?_
      simp only [Act.put, List.setIfInBounds_toArray, List.set_cons_succ, List.set_cons_zero]
      refine wpi_exG (v := .string ⟨s.toArray⟩) (fun _ => trivial) (wn rfl) rfl (ex_move rfl rfl) ?_
      refine wpi_exG (v := .string ⟨([UInt8.ofNat (48 + u % 10)] ++ s).toArray⟩) (fun _ => trivial) (wn rfl) rfl (ex_cat (s := [UInt8.ofNat (48 + u % 10)]) (s' := s) rfl rfl rfl (by simp only [List.length_cons, List.length_nil]; omega)) ?_
      refine wpi_exG (v := .string ⟨([UInt8.ofNat (48 + u % 10)] ++ s).toArray⟩) (fun _ => trivial) (wn rfl) rfl (ex_assign rfl rfl) ?_
      refine wpListIn_nil ?_
      simp only [Act.put, List.setIfInBounds_toArray, List.set_cons_succ, List.set_cons_zero]
      refine then_normal (hK19 _ _ ?_)
      clear hK19 K19
      refine wpIn_seq_k (fun K22 hK22 => ?_)
      refine wpIn_region_lit ?_
      refine wpi_exG (v := .int .u64 (u : Int)) (fun _ => trivial) (wn rfl) rfl (ex_move rfl rfl) ?_
      refine wpi_exG (v := .int .u64 ((u / 10 : Nat) : Int)) (fun _ => trivial) (wn rfl) rfl (ex_quo (m := (u : Int)) (n := 10) rfl rfl rfl (by decide) (quo10 u hu)) ?_
      refine wpi_exG (v := .int .u64 ((u / 10 : Nat) : Int)) (fun _ => trivial) (wn rfl) rfl (ex_assign rfl rfl) ?_
      refine wpListIn_nil ?_
      simp only [Act.put, List.setIfInBounds_toArray, List.set_cons_succ, List.set_cons_zero]
      refine then_normal (hK22 _ _ ?_)
      clear hK22 K22
      refine wpIn_seq_k (fun K23 hK23 => ?_)
      refine wpIn_region_lit ?_
      refine wpi_exG (v := .int .u64 ((u / 10 : Nat) : Int)) (fun _ => trivial) (wn rfl) rfl (ex_move rfl rfl) ?_
      by_cases hb24 : ((u / 10 : Nat) : Int) = 0
      · refine wpi_exG (v := .bool true) (fun _ => trivial) (wn rfl) rfl (ex_eql (k := .u64) (m := ((u / 10 : Nat) : Int)) (n := 0) rfl rfl rfl (decide_eq_true hb24)) ?_
        refine wpListIn_nil ?_
        simp only [Act.put, List.setIfInBounds_toArray, List.set_cons_succ, List.set_cons_zero]
        refine then_normal (hK23 _ _ ?_)
        clear hK23 K23
        refine wpIn_cond_true rfl ?_
        refine wpIn_seq_k (fun K25 hK25 => ?_)
        refine wpIn_region_lit ?_
        refine wpi_exG (v := .string ⟨([] : List UInt8).toArray⟩) (fun _ => trivial) (wn rfl) rfl (ex_move rfl rfl) ?_
        refine wpi_exG (v := .string ⟨([UInt8.ofNat (48 + u % 10)] ++ s).toArray⟩) (fun _ => trivial) (wn rfl) rfl (ex_move rfl rfl) ?_
        refine wpi_exG (v := .string ⟨(([] : List UInt8) ++ ([UInt8.ofNat (48 + u % 10)] ++ s)).toArray⟩) (fun _ => trivial) (wn rfl) rfl (ex_cat (s := ([] : List UInt8)) (s' := ([UInt8.ofNat (48 + u % 10)] ++ s)) rfl rfl rfl (by simp only [List.length_append, List.length_cons, List.length_nil]; omega)) ?_
        simp only [Act.put, List.setIfInBounds_toArray, List.set_cons_succ, List.set_cons_zero]
        refine wpi_exG (v := .string ⟨(([] : List UInt8) ++ ([UInt8.ofNat (48 + u % 10)] ++ s)).toArray⟩) (fun _ => trivial) (wn rfl) rfl (ex_assign rfl rfl) ?_
        refine wpListIn_nil ?_
        simp only [Act.put, List.setIfInBounds_toArray, List.set_cons_succ, List.set_cons_zero]
        refine then_normal (hK25 _ _ ?_)
        clear hK25 K25
        refine wpIn_ret ?_
        refine blk_ret ?_
        refine then_ret ?_
        refine blk_ret ?_
        refine bodyPost_ret (results_tmp rfl _ _ _) rfl ?_
        have hs : Lib.itoa n = ([] : List UInt8) ++ ([UInt8.ofNat (48 + u % 10)] ++ s) := by
            unfold Lib.itoa
            rw [if_neg (by assumption), show n.toNat = n.natAbs by omega]
            rw [hd, dec_small u (by omega)]; simp
        rw [hs]; exact ⟨rfl, hv.drop⟩
      · refine wpi_exG (v := .bool false) (fun _ => trivial) (wn rfl) rfl (ex_eql (k := .u64) (m := ((u / 10 : Nat) : Int)) (n := 0) rfl rfl rfl (decide_eq_false hb24)) ?_
        refine wpListIn_nil ?_
        simp only [Act.put, List.setIfInBounds_toArray, List.set_cons_succ, List.set_cons_zero]
        refine then_normal (hK23 _ _ ?_)
        clear hK23 K23
        refine wpIn_cond_false rfl ?_
        refine wpIn_skip ?_
        refine blk_normal ?_
        refine then_normal ?_
        go_roundw
        case rel => exact ⟨u / 10, [UInt8.ofNat (48 + u % 10)] ++ s, rfl, rfl, by rw [hd, dec_big u (by omega)]; simp, by omega, hv.drop⟩
        case measure => show (((u / 10 : Nat) : Int)).toNat < ((u : Int)).toNat; omega
end Go.Proofs.YtkhggadoagdhfaaGreatDoor
