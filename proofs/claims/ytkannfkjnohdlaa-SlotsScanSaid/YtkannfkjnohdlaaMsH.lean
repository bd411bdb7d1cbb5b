/- pentimentoref07.Lay; pentimentoref08: number, Head, Room. -/
import Derived.Test.YtkannfkjnohdlaaMsF
import Derived.Test.YtkannfkjnohdlaaMsG
namespace Go.Proofs.Ytkannfkjnohdlaa
open Go.RowKit Go.Pm

theorem r8mk5 : (Try.prog.info? 5).map (fun i => (i.zero, i.size, i.bytes)) = some (some (.int .u8 0), 1, 1) := by kernel_rfl
theorem r8el24 : Elem Try.prog 24 5 (.int .u8 0) 1 1 := elem_of Try.underlying24 r8mk5 (by rfl) (by decide)
set_option maxRecDepth 100000 in
set_option maxHeartbeats 2000000 in
theorem refLay (B : Base) (H : List Res) (w : World) (n m : Nat) (hn : n ≤ 9223372036854775807) (hm : m ≤ 8) (hv : Inv B H w) :
    Calls Try.prog 67 #[.int .i64 (n : Int), .int .i64 (m : Int)] w fun e w' => e = .returned (.string ⟨(beOf m n).toArray⟩) ∧ Inv B H w' := by
  refine (callsIn_wide (n := 5)).1 ?_
  refine callsIn_of_wp Try.func67 rfl trivial ?_
  simp only [Try.ntmps67, List.size_toArray, List.length_cons, List.length_nil, Nat.reduceAdd, Nat.reduceSub, Array.replicate_succ, Array.replicate_zero, List.push_toArray, List.append_toArray, List.nil_append, List.cons_append]
  refine wpIn_seq_k (fun K1 hK1 => ?_)
  refine wpIn_region_lit ?_
  refine wpi_exG (v := .string ⟨([] : List UInt8).toArray⟩) (fun _ => trivial) (wn rfl) rfl (ex_assign rfl rfl) ?_
  refine wpListIn_nil ?_
  simp only [Act.put, List.setIfInBounds_toArray, List.set_cons_succ, List.set_cons_zero]
  refine then_normal (hK1 _ _ ?_)
  clear hK1 K1
  refine wpIn_seq_k (fun K2 hK2 => ?_)
  refine wpIn_region_lit ?_
  refine wpi_exG (v := .string ⟨([] : List UInt8).toArray⟩) (fun _ => trivial) (wn rfl) rfl (ex_assign rfl rfl) ?_
  refine wpListIn_nil ?_
  simp only [Act.put, List.setIfInBounds_toArray, List.set_cons_succ, List.set_cons_zero]
  refine then_normal (hK2 _ _ ?_)
  clear hK2 K2
  refine wpIn_seq_k (fun K3 hK3 => ?_)
  refine wpIn_seq_k (fun K4 hK4 => ?_)
  refine wpIn_region_lit ?_
  refine wpi_exG (v := .int .i64 0) (fun _ => trivial) (wn rfl) rfl (ex_assign rfl rfl) ?_
  refine wpListIn_nil ?_
  simp only [Act.put, List.setIfInBounds_toArray, List.set_cons_succ, List.set_cons_zero]
  refine then_normal (hK4 _ _ ?_)
  clear hK4 K4
  refine wpIn_block ?_
  gi_loopw [0, 5, 6] (fun x0 x5 x6 wr => ∃ i x : Nat, x = n / 256 ^ i ∧ x ≤ n ∧ x0 = .int .i64 (x : Int) ∧ x5 = .string ⟨(beOf i n).toArray⟩ ∧ x6 = .int .i64 (i : Int) ∧ i ≤ m ∧ Inv B H wr) (fun x0 x5 x6 _ => m - (intOf x6).toNat)
  case atStart => exact ⟨0, n, by simp, by omega, rfl, rfl, rfl, by omega, hv⟩
  case round =>
    obtain ⟨i, x, hx, hxn, rfl, rfl, rfl, hi, hv⟩ := hrel
    refine wpIn_seq_k (fun K6 hK6 => ?_)
    refine wpIn_seq_k (fun K7 hK7 => ?_)
    refine wpIn_region_lit ?_
    refine wpi_exG (v := .int .i64 (i : Int)) (fun _ => trivial) (wn rfl) rfl (ex_move rfl rfl) ?_
    refine wpi_exG (v := .int .i64 (m : Int)) (fun _ => trivial) (wn rfl) rfl (ex_move rfl rfl) ?_
    by_cases hb8 : (i : Int) < (m : Int)
    · refine wpi_exG (v := .bool true) (fun _ => trivial) (wn rfl) rfl (ex_lss (k := .i64) (m := (i : Int)) (n := (m : Int)) rfl rfl rfl (decide_eq_true hb8)) ?_
      refine wpListIn_nil ?_
      simp only [Act.put, List.setIfInBounds_toArray, List.set_cons_succ, List.set_cons_zero]
      refine then_normal (hK7 _ _ ?_)
      clear hK7 K7
      refine wpIn_cond_true rfl ?_
      refine wpIn_skip ?_
      refine then_normal (hK6 _ _ ?_)
      clear hK6 K6
      refine wpIn_seq_k (fun K9 hK9 => ?_)
      refine wpIn_block ?_
      refine wpIn_seq_k (fun K10 hK10 => ?_)
      refine wpIn_region_lit ?_
      refine wpi_exG (v := .int .i64 (x : Int)) (fun _ => trivial) (wn rfl) rfl (ex_move rfl rfl) ?_
      refine wpi_exG (v := .int .i64 ((x % 256 : Nat) : Int)) (fun _ => trivial) (wn rfl) rfl (ex_rem (m := (x : Int)) (n := 256) rfl rfl rfl (by decide) (tmod_nat _ _)) ?_
      refine wpi_exG (v := .int .u8 ((UInt8.ofNat x).toNat : Int)) (fun _ => trivial) (wn rfl) rfl (ex_int (m := ((x % 256 : Nat) : Int)) Try.underlying3 Try.underlying5 rfl rfl (u8_mod _)) ?_
      simp only [Act.put, List.setIfInBounds_toArray, List.set_cons_succ, List.set_cons_zero]
      refine sl_rowOne (v := .int .u8 ((UInt8.ofNat x).toNat : Int)) (fun _ => trivial) (wn rfl) rfl rfl hv r8el24 rfl (fun b11 w12 hv => ?_)
      refine wpi_exG (v := .string ⟨[UInt8.ofNat x].toArray⟩) (fun _ => trivial) (wn rfl) rfl (ex_str Try.underlying24 Try.underlying5 Try.underlying9 rfl rfl (bytes_own (k := 0) hv rfl) (rfl)) ?_
      refine wpi_exG (v := .string ⟨(beOf i n).toArray⟩) (fun _ => trivial) (wn rfl) rfl (ex_move rfl rfl) ?_
      simp only [Act.put, List.setIfInBounds_toArray, List.set_cons_succ, List.set_cons_zero]
      refine wpi_exG (v := .string ⟨([UInt8.ofNat x] ++ (beOf i n)).toArray⟩) (fun _ => trivial) (wn rfl) rfl (ex_cat (s := [UInt8.ofNat x]) (s' := (beOf i n)) rfl rfl rfl (by simp only [List.length_append, List.length_cons, List.length_nil, beOf_length, List.length_replicate]; omega)) ?_
      refine wpi_exG (v := .string ⟨([UInt8.ofNat x] ++ (beOf i n)).toArray⟩) (fun _ => trivial) (wn rfl) rfl (ex_assign rfl rfl) ?_
      refine wpListIn_nil ?_
      simp only [Act.put, List.setIfInBounds_toArray, List.set_cons_succ, List.set_cons_zero]
      refine then_normal (hK10 _ _ ?_)
      clear hK10 K10
      refine wpIn_region_lit ?_
      refine wpi_exG (v := .int .i64 (x : Int)) (fun _ => trivial) (wn rfl) rfl (ex_move rfl rfl) ?_
      refine wpi_exG (v := .int .i64 ((x / 256 : Nat) : Int)) (fun _ => trivial) (wn rfl) rfl (ex_quo (m := (x : Int)) (n := 256) rfl rfl rfl (by decide) (quo256 _ (by omega))) ?_
      refine wpi_exG (v := .int .i64 ((x / 256 : Nat) : Int)) (fun _ => trivial) (wn rfl) rfl (ex_assign rfl rfl) ?_
      refine wpListIn_nil ?_
      simp only [Act.put, List.setIfInBounds_toArray, List.set_cons_succ, List.set_cons_zero]
      refine blk_normal ?_
      refine then_normal (hK9 _ _ ?_)
      clear hK9 K9
      refine wpIn_region_lit ?_
      refine wpi_exG (v := .int .i64 (i : Int)) (fun _ => trivial) (wn rfl) rfl (ex_move rfl rfl) ?_
      refine wpi_exG (v := .int .i64 ((i : Int) + 1)) (fun _ => trivial) (wn rfl) rfl (ex_add (m := (i : Int)) (n := 1) rfl rfl rfl (i64_in (by omega))) ?_
      refine wpi_exG (v := .int .i64 ((i : Int) + 1)) (fun _ => trivial) (wn rfl) rfl (ex_assign rfl rfl) ?_
      refine wpListIn_nil ?_
      simp only [Act.put, List.setIfInBounds_toArray, List.set_cons_succ, List.set_cons_zero]
      refine then_normal ?_
      go_roundw
      case rel => exact ⟨i + 1, x / 256, by rw [hx, Nat.div_div_eq_div_mul, ← Nat.pow_succ], by omega, rfl, by rw [← beOf_cons, ← hx]; rfl, by simp, by omega, hv.tail 1⟩
      case measure => show m - ((i : Int) + 1).toNat < m - (i : Int).toNat; omega
    · refine wpi_exG (v := .bool false) (fun _ => trivial) (wn rfl) rfl (ex_lss (k := .i64) (m := (i : Int)) (n := (m : Int)) rfl rfl rfl (decide_eq_false hb8)) ?_
      refine wpListIn_nil ?_
      simp only [Act.put, List.setIfInBounds_toArray, List.set_cons_succ, List.set_cons_zero]
      refine then_normal (hK7 _ _ ?_)
      clear hK7 K7
      refine wpIn_cond_false rfl ?_
      refine wpIn_exit ?_
      refine then_exit ?_
      clear hK6 K6
      refine then_exit ?_
      refine blk_hit ?_
      refine then_normal (hK3 _ _ ?_)
      clear hK3 K3
      refine wpIn_seq_k (fun K13 hK13 => ?_)
      refine wpIn_region_lit ?_
      refine wpi_exG (v := .string ⟨(beOf i n).toArray⟩) (fun _ => trivial) (wn rfl) rfl (ex_move rfl rfl) ?_
      refine wpi_exG (v := .string ⟨(beOf i n).toArray⟩) (fun _ => trivial) (wn rfl) rfl (ex_assign rfl rfl) ?_
      refine wpListIn_nil ?_
      simp only [Act.put, List.setIfInBounds_toArray, List.set_cons_succ, List.set_cons_zero]
      refine then_normal (hK13 _ _ ?_)
      clear hK13 K13
      refine wpIn_ret ?_
      refine bodyPost_ret (results_tmp rfl _ _ _) rfl ?_
      obtain rfl : i = m := by omega
      exact ⟨rfl, hv⟩
set_option maxRecDepth 100000 in
set_option maxHeartbeats 2000000 in
theorem refNumber (B : Base) (H : List Res) (w : World) (l : List UInt8) (h8 : l.length ≤ 8) (hv : Inv B H w) :
    Calls Try.prog 60 #[.string ⟨l.toArray⟩] w fun e w' => ∃ v : Int, e = .returned (.int .i64 v) ∧ ((numOf l < 9223372036854775808 ∧ v = (numOf l : Int)) ∨ (9223372036854775808 ≤ numOf l ∧ v = -1)) ∧ Inv B H w' := by
  refine (callsIn_wide (n := 5)).1 ?_
  refine callsIn_of_wp Try.func60 rfl trivial ?_
  simp only [Try.ntmps60, List.size_toArray, List.length_cons, List.length_nil, Nat.reduceAdd, Nat.reduceSub, Array.replicate_succ, Array.replicate_zero, List.push_toArray, List.append_toArray, List.nil_append, List.cons_append]
  refine wpIn_seq_k (fun K1 hK1 => ?_)
  refine wpIn_region_lit ?_
  refine wpi_exG (v := .int .i64 0) (fun _ => trivial) (wn rfl) rfl (ex_assign rfl rfl) ?_
  refine wpListIn_nil ?_
  simp only [Act.put, List.setIfInBounds_toArray, List.set_cons_succ, List.set_cons_zero]
  refine then_normal (hK1 _ _ ?_)
  clear hK1 K1
  refine wpIn_seq_k (fun K2 hK2 => ?_)
  refine wpIn_region_lit ?_
  refine wpi_exG (v := .int .i64 0) (fun _ => trivial) (wn rfl) rfl (ex_assign rfl rfl) ?_
  refine wpListIn_nil ?_
  simp only [Act.put, List.setIfInBounds_toArray, List.set_cons_succ, List.set_cons_zero]
  refine then_normal (hK2 _ _ ?_)
  clear hK2 K2
  refine wpIn_seq_k (fun K3 hK3 => ?_)
  refine wpIn_seq_k (fun K4 hK4 => ?_)
  refine wpIn_region_lit ?_
  refine wpi_exG (v := .int .i64 0) (fun _ => trivial) (wn rfl) rfl (ex_assign rfl rfl) ?_
  refine wpListIn_nil ?_
  simp only [Act.put, List.setIfInBounds_toArray, List.set_cons_succ, List.set_cons_zero]
  refine then_normal (hK4 _ _ ?_)
  clear hK4 K4
  refine wpIn_block ?_
  gi_loopw [3, 4] (fun x3 x4 wr => ∃ i : Nat, x3 = .int .i64 (numOf (l.take i) : Int) ∧ x4 = .int .i64 (i : Int) ∧ i ≤ l.length ∧ numOf (l.take i) < 9223372036854775808 ∧ Inv B H wr) (fun x3 x4 _ => l.length - (intOf x4).toNat)
  case atStart => exact ⟨0, rfl, rfl, by omega, (by show (0 : Nat) < 9223372036854775808; omega), hv⟩
  case round =>
    obtain ⟨i, rfl, rfl, hi, hlt, hv⟩ := hrel
    refine wpIn_seq_k (fun K6 hK6 => ?_)
    refine wpIn_seq_k (fun K7 hK7 => ?_)
    refine wpIn_region_lit ?_
    refine wpi_exG (v := .int .i64 (i : Int)) (fun _ => trivial) (wn rfl) rfl (ex_move rfl rfl) ?_
    refine wpi_exG (v := .string ⟨l.toArray⟩) (fun _ => trivial) (wn rfl) rfl (ex_move rfl rfl) ?_
    refine wpi_exG (v := .int .i64 (l.length : Int)) (fun _ => trivial) (wn rfl) rfl (ex_lenStr Try.underlying9 rfl rfl) ?_
    simp only [Act.put, List.setIfInBounds_toArray, List.set_cons_succ, List.set_cons_zero]
    by_cases hb8 : (i : Int) < (l.length : Int)
    · refine wpi_exG (v := .bool true) (fun _ => trivial) (wn rfl) rfl (ex_lss (k := .i64) (m := (i : Int)) (n := (l.length : Int)) rfl rfl rfl (decide_eq_true hb8)) ?_
      refine wpListIn_nil ?_
      simp only [Act.put, List.setIfInBounds_toArray, List.set_cons_succ, List.set_cons_zero]
      refine then_normal (hK7 _ _ ?_)
      clear hK7 K7
      refine wpIn_cond_true rfl ?_
      refine wpIn_skip ?_
      refine then_normal (hK6 _ _ ?_)
      clear hK6 K6
      refine wpIn_seq_k (fun K9 hK9 => ?_)
      refine wpIn_block ?_
      refine wpIn_seq_k (fun K10 hK10 => ?_)
      refine wpIn_seq_k (fun K11 hK11 => ?_)
      refine wpIn_region_lit ?_
      refine wpi_exG (v := .int .i64 (numOf (l.take i) : Int)) (fun _ => trivial) (wn rfl) rfl (ex_move rfl rfl) ?_
      by_cases hb12 : (numOf (l.take i) : Int) > 36028797018963967
      · refine wpi_exG (v := .bool true) (fun _ => trivial) (wn rfl) rfl (ex_gtr (k := .i64) (m := (numOf (l.take i) : Int)) (n := 36028797018963967) rfl rfl rfl (decide_eq_true hb12)) ?_
        refine wpListIn_nil ?_
        simp only [Act.put, List.setIfInBounds_toArray, List.set_cons_succ, List.set_cons_zero]
        refine then_normal (hK11 _ _ ?_)
        clear hK11 K11
        refine wpIn_cond_true rfl ?_
        refine wpIn_seq_k (fun K13 hK13 => ?_)
        refine wpIn_region_lit ?_
        refine wpi_exG (v := .int .i64 (-1)) (fun _ => trivial) (wn rfl) rfl (ex_assign rfl rfl) ?_
        refine wpListIn_nil ?_
        simp only [Act.put, List.setIfInBounds_toArray, List.set_cons_succ, List.set_cons_zero]
        refine then_normal (hK13 _ _ ?_)
        clear hK13 K13
        refine wpIn_ret ?_
        refine then_ret ?_
        clear hK10 K10
        refine blk_ret ?_
        refine then_ret ?_
        clear hK9 K9
        refine then_ret ?_
        refine blk_ret ?_
        refine then_ret ?_
        clear hK3 K3
        refine bodyPost_ret (results_tmp rfl _ _ _) rfl ?_
        exact ⟨-1, rfl, .inr ⟨numOf_big (i := i) (by omega) (by omega), rfl⟩, hv⟩
      · refine wpi_exG (v := .bool false) (fun _ => trivial) (wn rfl) rfl (ex_gtr (k := .i64) (m := (numOf (l.take i) : Int)) (n := 36028797018963967) rfl rfl rfl (decide_eq_false hb12)) ?_
        refine wpListIn_nil ?_
        simp only [Act.put, List.setIfInBounds_toArray, List.set_cons_succ, List.set_cons_zero]
        refine then_normal (hK11 _ _ ?_)
        clear hK11 K11
        refine wpIn_cond_false rfl ?_
        refine wpIn_skip ?_
        refine then_normal (hK10 _ _ ?_)
        clear hK10 K10
        refine wpIn_region_lit ?_
        refine wpi_exG (v := .int .i64 (numOf (l.take i) : Int)) (fun _ => trivial) (wn rfl) rfl (ex_move rfl rfl) ?_
        refine wpi_exG (v := .int .i64 ((numOf (l.take i) * 256 : Nat) : Int)) (fun _ => trivial) (wn rfl) rfl (ex_mul (m := (numOf (l.take i) : Int)) (n := 256) rfl rfl rfl (by rw [i64_in (by omega)]; omega)) ?_
        refine wpi_exG (v := .string ⟨l.toArray⟩) (fun _ => trivial) (wn rfl) rfl (ex_move rfl rfl) ?_
        simp only [Act.put, List.setIfInBounds_toArray, List.set_cons_succ, List.set_cons_zero]
        refine wpi_exG (v := .int .i64 (i : Int)) (fun _ => trivial) (wn rfl) rfl (ex_move rfl rfl) ?_
        obtain ⟨c, hc⟩ : ∃ c, l[i]? = some c := ⟨_, List.getElem?_eq_getElem (by omega)⟩
        have htake : l.take (i + 1) = l.take i ++ [c] := by obtain ⟨h9, rfl⟩ := List.getElem?_eq_some_iff.1 hc; rw [List.take_succ_eq_append_getElem h9]
        have hc8 := c.toNat_lt
        refine wpi_exG (v := .int .u8 (c.toNat : Int)) (fun _ => trivial) (wn rfl) rfl (ex_sidx Try.underlying9 rfl rfl rfl hc) ?_
        refine wpi_exG (v := .int .i64 (c.toNat : Int)) (fun _ => trivial) (wn rfl) rfl (ex_int (m := (c.toNat : Int)) Try.underlying5 Try.underlying3 rfl rfl (i64_in (by omega))) ?_
        simp only [Act.put, List.setIfInBounds_toArray, List.set_cons_succ, List.set_cons_zero]
        refine wpi_exG (v := .int .i64 ((numOf (l.take i) * 256 + c.toNat : Nat) : Int)) (fun _ => trivial) (wn rfl) rfl (ex_add (m := ((numOf (l.take i) * 256 : Nat) : Int)) (n := (c.toNat : Int)) rfl rfl rfl (by rw [i64_in (by omega)]; omega)) ?_
        refine wpi_exG (v := .int .i64 ((numOf (l.take i) * 256 + c.toNat : Nat) : Int)) (fun _ => trivial) (wn rfl) rfl (ex_assign rfl rfl) ?_
        refine wpListIn_nil ?_
        simp only [Act.put, List.setIfInBounds_toArray, List.set_cons_succ, List.set_cons_zero]
        refine blk_normal ?_
        refine then_normal (hK9 _ _ ?_)
        clear hK9 K9
        refine wpIn_region_lit ?_
        refine wpi_exG (v := .int .i64 (i : Int)) (fun _ => trivial) (wn rfl) rfl (ex_move rfl rfl) ?_
        refine wpi_exG (v := .int .i64 ((i : Int) + 1)) (fun _ => trivial) (wn rfl) rfl (ex_add (m := (i : Int)) (n := 1) rfl rfl rfl (i64_in (by omega))) ?_
        refine wpi_exG (v := .int .i64 ((i : Int) + 1)) (fun _ => trivial) (wn rfl) rfl (ex_assign rfl rfl) ?_
        refine wpListIn_nil ?_
        simp only [Act.put, List.setIfInBounds_toArray, List.set_cons_succ, List.set_cons_zero]
        refine then_normal ?_
        go_roundw
        case rel => exact ⟨i + 1, by rw [htake, numOf_snoc], by simp, by omega, by rw [htake, numOf_snoc]; omega, hv⟩
        case measure => show l.length - ((i : Int) + 1).toNat < l.length - (i : Int).toNat; omega
    · refine wpi_exG (v := .bool false) (fun _ => trivial) (wn rfl) rfl (ex_lss (k := .i64) (m := (i : Int)) (n := (l.length : Int)) rfl rfl rfl (decide_eq_false hb8)) ?_
      refine wpListIn_nil ?_
      simp only [Act.put, List.setIfInBounds_toArray, List.set_cons_succ, List.set_cons_zero]
      refine then_normal (hK7 _ _ ?_)
      clear hK7 K7
      refine wpIn_cond_false rfl ?_
      refine wpIn_exit ?_
      refine then_exit ?_
      clear hK6 K6
      refine then_exit ?_
      refine blk_hit ?_
      refine then_normal (hK3 _ _ ?_)
      clear hK3 K3
      refine wpIn_seq_k (fun K14 hK14 => ?_)
      refine wpIn_region_lit ?_
      refine wpi_exG (v := .int .i64 (numOf (l.take i) : Int)) (fun _ => trivial) (wn rfl) rfl (ex_move rfl rfl) ?_
      refine wpi_exG (v := .int .i64 (numOf (l.take i) : Int)) (fun _ => trivial) (wn rfl) rfl (ex_assign rfl rfl) ?_
      refine wpListIn_nil ?_
      simp only [Act.put, List.setIfInBounds_toArray, List.set_cons_succ, List.set_cons_zero]
      refine then_normal (hK14 _ _ ?_)
      clear hK14 K14
      refine wpIn_ret ?_
      refine bodyPost_ret (results_tmp rfl _ _ _) rfl ?_
      obtain rfl : i = l.length := by omega
      rw [List.take_length] at hlt ⊢
      exact ⟨_, rfl, .inl ⟨hlt, rfl⟩, hv⟩
theorem r8callable67 : Callable Try.prog 67 := ⟨_, Try.func67, by kernel_rfl, by kernel_rfl⟩
theorem r8fa55_0 (w : World) (b o : Nat) : (Instr.fieldAt 55 (.pointer (some ⟨b, o, none⟩)) 0).run Try.prog w = .ok (.pointer (some ⟨b, o + 0, none⟩)) w := by kernel_rfl
theorem r8na3 (w : World) : (isAgg 3).run Try.prog w = .ok false w := by kernel_rfl
theorem r8fa55_1 (w : World) (b o : Nat) : (Instr.fieldAt 55 (.pointer (some ⟨b, o, none⟩)) 1).run Try.prog w = .ok (.pointer (some ⟨b, o + 1, none⟩)) w := by kernel_rfl
theorem r8na24 (w : World) : (isAgg 24).run Try.prog w = .ok false w := by kernel_rfl
theorem r8callable16 : Callable Try.prog 16 := ⟨_, Try.func16, by kernel_rfl, by kernel_rfl⟩
set_option maxRecDepth 100000 in
set_option maxHeartbeats 1000000 in
theorem refHead (B : Base) (H : List Res) (w : World) (gn st : Nat) (a : Option Addr) (cap : Nat) (l : List UInt8) (hg : gn ≤ 9223372036854775807) (hst : st ≤ 9223372036854775807) (hl : l.length ≤ 1048576) (hr : RdV B [] a (l.map B8)) (hv : Inv B H w) :
    Calls Try.prog 61 #[.int .i64 (gn : Int), .agg #[.int .i64 (st : Int), .slice a l.length cap]] w fun e w' => e = .returned (.string ⟨(headOf gn st l).toArray⟩) ∧ Inv B H w' := by
  have hcs := Crc.sum_lt l
  refine (callsIn_wide (n := 5)).1 ?_
  refine callsIn_of_wp Try.func61 rfl trivial ?_
  simp only [Try.ntmps61, List.size_toArray, List.length_cons, List.length_nil, Nat.reduceAdd, Nat.reduceSub, Array.replicate_succ, Array.replicate_zero, List.push_toArray, List.append_toArray, List.nil_append, List.cons_append]
  refine wpIn_seq_k (fun K1 hK1 => ?_)
  refine wpIn_region_lit ?_
  refine sl_box (L := [.int .i64 (st : Int), .slice a l.length cap]) (fun _ => trivial) (wn rfl) rfl (p := .agg #[.int .i64 (st : Int), .slice a l.length cap]) rfl hv (fun w => by kernel_rfl) (fun b2 w3 hv => ?_)
  refine wpi_exG (v := .string ⟨([] : List UInt8).toArray⟩) (fun _ => trivial) (wn rfl) rfl (ex_assign rfl rfl) ?_
  refine wpListIn_nil ?_
  simp only [Act.put, List.setIfInBounds_toArray, List.set_cons_succ, List.set_cons_zero]
  refine then_normal (hK1 _ _ ?_)
  clear hK1 K1
  refine wpIn_seq_k (fun K4 hK4 => ?_)
  refine region_st mixed [.int .i64 (gn : Int), .string ⟨(beOf 8 gn).toArray⟩, .string ⟨(([83] : List UInt8) ++ (beOf 8 gn)).toArray⟩, .pointer (some ⟨b2, 0, none⟩), .int .i64 (st : Int), .string ⟨(beOf 8 st).toArray⟩, .string ⟨((([83] : List UInt8) ++ (beOf 8 gn)) ++ (beOf 8 st)).toArray⟩, .pointer (some ⟨b2, 1, none⟩), .slice a l.length cap, .int .i64 (l.length : Int), .string ⟨(beOf 4 l.length).toArray⟩, .string ⟨(((([83] : List UInt8) ++ (beOf 8 gn)) ++ (beOf 8 st)) ++ (beOf 4 l.length)).toArray⟩, .pointer (some ⟨b2, 1, none⟩), .slice a l.length cap, .int .u32 (Crc.sum l : Int), .int .i64 (Crc.sum l : Int), .string ⟨(beOf 4 (Crc.sum l)).toArray⟩, .string ⟨((((([83] : List UInt8) ++ (beOf 8 gn)) ++ (beOf 8 st)) ++ (beOf 4 l.length)) ++ (beOf 4 (Crc.sum l))).toArray⟩, .string ⟨((((([83] : List UInt8) ++ (beOf 8 gn)) ++ (beOf 8 st)) ++ (beOf 4 l.length)) ++ (beOf 4 (Crc.sum l))).toArray⟩] [] [⟨fun vals w => vals = [] ∧ Inv B (Res.cell b2 [.int .i64 (st : Int), .slice a l.length cap] 55 :: H) w, fun _ _ _ ⟨h, hi⟩ he => ⟨h, hi.ext he⟩⟩] 31 rfl (by kernel_rfl) ⟨rfl, hv⟩ ⟨?_, ?_, ?_, ?_, ?_, ?_, ?_, ?_, ?_, ?_, ?_, ?_, ?_, ?_, ?_, ?_, ?_, ?_, ?_, trivial⟩ ?_
  · intro aa ww vals hJ hR
    exact add_step' rfl (Ex.adds' (ex_move rfl (show aa.eval (.tmp 0) = _ from hR.keep 0 rfl)) (wn rfl) rfl)
  · intro aa ww vals hJ hR
    exact add_step' rfl (stepOk_calls r8callable67 (wn rfl) rfl (args := #[.int .i64 (gn : Int), .int .i64 8]) (by simp only [List.map_toArray, List.map_cons, List.map_nil]; rw [show aa.eval (.tmp 6) = .int .i64 (gn : Int) from hR.v 0 6 rfl rfl rfl rfl] <;> rfl) ((refLay (Base.of _) [] _ gn 8 (by omega) (by omega) (Inv.start _)).mono fun e w9 ⟨he, hw⟩ => ⟨_, he, ext_of hw, rfl⟩))
  · intro aa ww vals hJ hR
    exact add_step' rfl (Ex.adds' (ex_cat (s := ([83] : List UInt8)) (s' := (beOf 8 gn)) rfl rfl (show aa.eval (.tmp 7) = _ from hR.v 1 7 rfl rfl rfl rfl) (by simp only [List.length_append, List.length_cons, List.length_nil, beOf_length, List.length_replicate]; omega)) (wn rfl) rfl)
  · intro aa ww vals hJ hR
    exact add_step' rfl (Ex.adds' (ex_field rfl (show aa.eval (.tmp 3) = _ from hR.keep 3 rfl) (r8fa55_0 _ _ _)) (wn rfl) rfl)
  · intro aa ww vals hJ hR
    have hl : vals.length = 0 := by have := JS.le (n := 0) (by rfl) hJ; omega
    obtain ⟨hvals, hv⟩ := hJ.at0 hl
    exact add_step' rfl (Ex.adds' (ex_load rfl (show aa.eval (.tmp 9) = _ from hR.v 3 9 rfl rfl rfl rfl) (run_load1 r8na3 (hv.load 0 0 rfl rfl))) (wn rfl) rfl)
  · intro aa ww vals hJ hR
    exact add_step' rfl (stepOk_calls r8callable67 (wn rfl) rfl (args := #[.int .i64 (st : Int), .int .i64 8]) (by simp only [List.map_toArray, List.map_cons, List.map_nil]; rw [show aa.eval (.tmp 10) = .int .i64 (st : Int) from hR.v 4 10 rfl rfl rfl rfl] <;> rfl) ((refLay (Base.of _) [] _ st 8 (by omega) (by omega) (Inv.start _)).mono fun e w9 ⟨he, hw⟩ => ⟨_, he, ext_of hw, rfl⟩))
  · intro aa ww vals hJ hR
    exact add_step' rfl (Ex.adds' (ex_cat (s := (([83] : List UInt8) ++ (beOf 8 gn))) (s' := (beOf 8 st)) rfl (show aa.eval (.tmp 8) = _ from hR.v 2 8 rfl rfl rfl rfl) (show aa.eval (.tmp 11) = _ from hR.v 5 11 rfl rfl rfl rfl) (by simp only [List.length_append, List.length_cons, List.length_nil, beOf_length, List.length_replicate]; omega)) (wn rfl) rfl)
  · intro aa ww vals hJ hR
    exact add_step' rfl (Ex.adds' (ex_field rfl (show aa.eval (.tmp 3) = _ from hR.keep 3 rfl) (r8fa55_1 _ _ _)) (wn rfl) rfl)
  · intro aa ww vals hJ hR
    have hl : vals.length = 0 := by have := JS.le (n := 0) (by rfl) hJ; omega
    obtain ⟨hvals, hv⟩ := hJ.at0 hl
    exact add_step' rfl (Ex.adds' (ex_load rfl (show aa.eval (.tmp 13) = _ from hR.v 7 13 rfl rfl rfl rfl) (run_load1 r8na24 (hv.load 0 1 rfl rfl))) (wn rfl) rfl)
  · intro aa ww vals hJ hR
    exact add_step' rfl (Ex.adds' (ex_len0 Try.underlying24 rfl (show aa.eval (.tmp 14) = _ from hR.v 8 14 rfl rfl rfl rfl)) (wn rfl) rfl)
  · intro aa ww vals hJ hR
    exact add_step' rfl (stepOk_calls r8callable67 (wn rfl) rfl (args := #[.int .i64 (l.length : Int), .int .i64 4]) (by simp only [List.map_toArray, List.map_cons, List.map_nil]; rw [show aa.eval (.tmp 15) = .int .i64 (l.length : Int) from hR.v 9 15 rfl rfl rfl rfl] <;> rfl) ((refLay (Base.of _) [] _ l.length 4 (by omega) (by omega) (Inv.start _)).mono fun e w9 ⟨he, hw⟩ => ⟨_, he, ext_of hw, rfl⟩))
  · intro aa ww vals hJ hR
    exact add_step' rfl (Ex.adds' (ex_cat (s := ((([83] : List UInt8) ++ (beOf 8 gn)) ++ (beOf 8 st))) (s' := (beOf 4 l.length)) rfl (show aa.eval (.tmp 12) = _ from hR.v 6 12 rfl rfl rfl rfl) (show aa.eval (.tmp 16) = _ from hR.v 10 16 rfl rfl rfl rfl) (by simp only [List.length_append, List.length_cons, List.length_nil, beOf_length, List.length_replicate]; omega)) (wn rfl) rfl)
  · intro aa ww vals hJ hR
    exact add_step' rfl (Ex.adds' (ex_field rfl (show aa.eval (.tmp 3) = _ from hR.keep 3 rfl) (r8fa55_1 _ _ _)) (wn rfl) rfl)
  · intro aa ww vals hJ hR
    have hl : vals.length = 0 := by have := JS.le (n := 0) (by rfl) hJ; omega
    obtain ⟨hvals, hv⟩ := hJ.at0 hl
    exact add_step' rfl (Ex.adds' (ex_load rfl (show aa.eval (.tmp 18) = _ from hR.v 12 18 rfl rfl rfl rfl) (run_load1 r8na24 (hv.load 0 1 rfl rfl))) (wn rfl) rfl)
  · intro aa ww vals hJ hR
    have hl : vals.length = 0 := by have := JS.le (n := 0) (by rfl) hJ; omega
    obtain ⟨hvals, hv⟩ := hJ.at0 hl
    exact add_step' rfl (stepOk_calls r8callable16 (wn rfl) rfl (args := #[.slice a l.length cap]) (by simp only [List.map_toArray, List.map_cons, List.map_nil]; rw [show aa.eval (.tmp 19) = .slice a l.length cap from hR.v 13 19 rfl rfl rfl rfl] <;> rfl) ((refSum _ _ _ _ _ l rfl (by unfold maxLen; omega) (rd_bytes hr hv)).mono fun e w9 ⟨he, hw⟩ => ⟨_, he, by subst hw; exact Ext.rfl' _, rfl⟩))
  · intro aa ww vals hJ hR
    exact add_step' rfl (Ex.adds' (ex_int (m := (Crc.sum l : Int)) Try.underlying25 Try.underlying3 rfl (show aa.eval (.tmp 20) = _ from hR.v 14 20 rfl rfl rfl rfl) (i64_in (by omega))) (wn rfl) rfl)
  · intro aa ww vals hJ hR
    exact add_step' rfl (stepOk_calls r8callable67 (wn rfl) rfl (args := #[.int .i64 (Crc.sum l : Int), .int .i64 4]) (by simp only [List.map_toArray, List.map_cons, List.map_nil]; rw [show aa.eval (.tmp 21) = .int .i64 (Crc.sum l : Int) from hR.v 15 21 rfl rfl rfl rfl] <;> rfl) ((refLay (Base.of _) [] _ (Crc.sum l) 4 (by omega) (by omega) (Inv.start _)).mono fun e w9 ⟨he, hw⟩ => ⟨_, he, ext_of hw, rfl⟩))
  · intro aa ww vals hJ hR
    exact add_step' rfl (Ex.adds' (ex_cat (s := (((([83] : List UInt8) ++ (beOf 8 gn)) ++ (beOf 8 st)) ++ (beOf 4 l.length))) (s' := (beOf 4 (Crc.sum l))) rfl (show aa.eval (.tmp 17) = _ from hR.v 11 17 rfl rfl rfl rfl) (show aa.eval (.tmp 22) = _ from hR.v 16 22 rfl rfl rfl rfl) (by simp only [List.length_append, List.length_cons, List.length_nil, beOf_length, List.length_replicate]; omega)) (wn rfl) rfl)
  · intro aa ww vals hJ hR
    exact add_step' rfl (Ex.adds' (ex_assign rfl (show aa.eval (.tmp 23) = _ from hR.v 17 23 rfl rfl rfl rfl)) (wn rfl) rfl)
  rintro w5 vals ⟨rfl, hv⟩
  rw [show mixV [] [] 0 [.int .i64 (gn : Int), .string ⟨(beOf 8 gn).toArray⟩, .string ⟨(([83] : List UInt8) ++ (beOf 8 gn)).toArray⟩, .pointer (some ⟨b2, 0, none⟩), .int .i64 (st : Int), .string ⟨(beOf 8 st).toArray⟩, .string ⟨((([83] : List UInt8) ++ (beOf 8 gn)) ++ (beOf 8 st)).toArray⟩, .pointer (some ⟨b2, 1, none⟩), .slice a l.length cap, .int .i64 (l.length : Int), .string ⟨(beOf 4 l.length).toArray⟩, .string ⟨(((([83] : List UInt8) ++ (beOf 8 gn)) ++ (beOf 8 st)) ++ (beOf 4 l.length)).toArray⟩, .pointer (some ⟨b2, 1, none⟩), .slice a l.length cap, .int .u32 (Crc.sum l : Int), .int .i64 (Crc.sum l : Int), .string ⟨(beOf 4 (Crc.sum l)).toArray⟩, .string ⟨((((([83] : List UInt8) ++ (beOf 8 gn)) ++ (beOf 8 st)) ++ (beOf 4 l.length)) ++ (beOf 4 (Crc.sum l))).toArray⟩, .string ⟨((((([83] : List UInt8) ++ (beOf 8 gn)) ++ (beOf 8 st)) ++ (beOf 4 l.length)) ++ (beOf 4 (Crc.sum l))).toArray⟩] = [.int .i64 (gn : Int), .string ⟨(beOf 8 gn).toArray⟩, .string ⟨(([83] : List UInt8) ++ (beOf 8 gn)).toArray⟩, .pointer (some ⟨b2, 0, none⟩), .int .i64 (st : Int), .string ⟨(beOf 8 st).toArray⟩, .string ⟨((([83] : List UInt8) ++ (beOf 8 gn)) ++ (beOf 8 st)).toArray⟩, .pointer (some ⟨b2, 1, none⟩), .slice a l.length cap, .int .i64 (l.length : Int), .string ⟨(beOf 4 l.length).toArray⟩, .string ⟨(((([83] : List UInt8) ++ (beOf 8 gn)) ++ (beOf 8 st)) ++ (beOf 4 l.length)).toArray⟩, .pointer (some ⟨b2, 1, none⟩), .slice a l.length cap, .int .u32 (Crc.sum l : Int), .int .i64 (Crc.sum l : Int), .string ⟨(beOf 4 (Crc.sum l)).toArray⟩, .string ⟨((((([83] : List UInt8) ++ (beOf 8 gn)) ++ (beOf 8 st)) ++ (beOf 4 l.length)) ++ (beOf 4 (Crc.sum l))).toArray⟩, .string ⟨((((([83] : List UInt8) ++ (beOf 8 gn)) ++ (beOf 8 st)) ++ (beOf 4 l.length)) ++ (beOf 4 (Crc.sum l))).toArray⟩] from rfl]
  simp only [putAll, Act.put, List.setIfInBounds_toArray, List.set_cons_succ, List.set_cons_zero]
  refine then_normal (hK4 _ _ ?_)
  clear hK4 K4
  refine wpIn_seq_k (fun K6 hK6 => ?_)
  refine wpIn_region_lit ?_
  refine wpi_exG (v := .string ⟨((((([83] : List UInt8) ++ (beOf 8 gn)) ++ (beOf 8 st)) ++ (beOf 4 l.length)) ++ (beOf 4 (Crc.sum l))).toArray⟩) (fun _ => trivial) (wn rfl) rfl (ex_move rfl rfl) ?_
  refine wpi_exG (v := .string ⟨((((([83] : List UInt8) ++ (beOf 8 gn)) ++ (beOf 8 st)) ++ (beOf 4 l.length)) ++ (beOf 4 (Crc.sum l))).toArray⟩) (fun _ => trivial) (wn rfl) rfl (ex_move rfl rfl) ?_
  refine wpi_exG (v := .int .i64 (((((([83] : List UInt8) ++ (beOf 8 gn)) ++ (beOf 8 st)) ++ (beOf 4 l.length)) ++ (beOf 4 (Crc.sum l))).length : Int)) (fun _ => trivial) (wn rfl) rfl (ex_lenStr Try.underlying9 rfl rfl) ?_
  simp only [Act.put, List.setIfInBounds_toArray, List.set_cons_succ, List.set_cons_zero]
  refine wpi_exG (v := .int .i64 39) (fun _ => trivial) (wn rfl) rfl (ex_sub (m := 64) (n := (((((([83] : List UInt8) ++ (beOf 8 gn)) ++ (beOf 8 st)) ++ (beOf 4 l.length)) ++ (beOf 4 (Crc.sum l))).length : Int)) rfl rfl rfl (hd_pad _ _ _ _)) ?_
  refine sl_make1 (len := 39) (cap := 39) (fun _ => trivial) (wn rfl) rfl rfl rfl Try.underlying24 r8mk5 rfl (by omega) (by unfold maxLen; omega) (by omega) hv (fun b7 w8 hv => ?_)
  refine wpi_exG (v := .string ⟨(List.replicate 39 (0 : UInt8)).toArray⟩) (fun _ => trivial) (wn rfl) rfl (ex_str Try.underlying24 Try.underlying5 Try.underlying9 rfl rfl (bytes_rep (hv.get 0 rfl)) List.length_replicate) ?_
  simp only [Act.put, List.setIfInBounds_toArray, List.set_cons_succ, List.set_cons_zero]
  refine wpi_exG (v := .string ⟨(((((([83] : List UInt8) ++ (beOf 8 gn)) ++ (beOf 8 st)) ++ (beOf 4 l.length)) ++ (beOf 4 (Crc.sum l))) ++ (List.replicate 39 (0 : UInt8))).toArray⟩) (fun _ => trivial) (wn rfl) rfl (ex_cat (s := ((((([83] : List UInt8) ++ (beOf 8 gn)) ++ (beOf 8 st)) ++ (beOf 4 l.length)) ++ (beOf 4 (Crc.sum l)))) (s' := (List.replicate 39 (0 : UInt8))) rfl rfl rfl (by simp only [List.length_append, List.length_cons, List.length_nil, beOf_length, List.length_replicate]; omega)) ?_
  refine wpi_exG (v := .string ⟨(((((([83] : List UInt8) ++ (beOf 8 gn)) ++ (beOf 8 st)) ++ (beOf 4 l.length)) ++ (beOf 4 (Crc.sum l))) ++ (List.replicate 39 (0 : UInt8))).toArray⟩) (fun _ => trivial) (wn rfl) rfl (ex_assign rfl rfl) ?_
  refine wpListIn_nil ?_
  simp only [Act.put, List.setIfInBounds_toArray, List.set_cons_succ, List.set_cons_zero]
  refine then_normal (hK6 _ _ ?_)
  clear hK6 K6
  refine wpIn_ret ?_
  refine bodyPost_ret (results_tmp rfl _ _ _) rfl ?_
  exact ⟨rfl, hv.tail 2⟩
theorem r8fa64_2 (w : World) (b o : Nat) : (Instr.fieldAt 64 (.pointer (some ⟨b, o, none⟩)) 2).run Try.prog w = .ok (.pointer (some ⟨b, o + 2, none⟩)) w := by kernel_rfl
set_option maxRecDepth 100000 in
set_option maxHeartbeats 2000000 in
theorem refRoom (B : Base) (H : List Res) (w : World) (q p from_ each gen : Nat) (failed : Bool) (h1 : 1 ≤ each) (h2 : each ≤ 65536) (hv : Inv B (Res.cell q [.pointer (some ⟨p, 0, none⟩), .int .i64 (from_ : Int), .int .i64 (each : Int), .int .i64 (gen : Int), .bool failed] 64 :: H) w) :
    Calls Try.prog 35 #[.pointer (some ⟨q, 0, none⟩)] w fun e w' => e = .returned (.int .i64 (roomOf each : Int)) ∧ w = w' := by
  refine (callsIn_wide (n := 5)).1 ?_
  refine callsIn_of_wp Try.func35 rfl trivial ?_
  simp only [Try.ntmps35, List.size_toArray, List.length_cons, List.length_nil, Nat.reduceAdd, Nat.reduceSub, Array.replicate_succ, Array.replicate_zero, List.push_toArray, List.append_toArray, List.nil_append, List.cons_append]
  refine wpIn_seq_k (fun K1 hK1 => ?_)
  refine wpIn_region_lit ?_
  refine wpi_exG (v := .int .i64 0) (fun _ => trivial) (wn rfl) rfl (ex_assign rfl rfl) ?_
  refine wpListIn_nil ?_
  simp only [Act.put, List.setIfInBounds_toArray, List.set_cons_succ, List.set_cons_zero]
  refine then_normal (hK1 _ _ ?_)
  clear hK1 K1
  refine wpIn_seq_k (fun K2 hK2 => ?_)
  refine wpIn_region_lit ?_
  refine wpi_exG (v := .pointer (some ⟨q, 0, none⟩)) (fun _ => trivial) (wn rfl) rfl (ex_move rfl rfl) ?_
  refine wpi_exG (v := .pointer (some ⟨q, 0, none⟩)) (fun _ => trivial) (wn rfl) rfl (ex_nil rfl rfl) ?_
  refine wpi_exG (v := .pointer (some ⟨q, 2, none⟩)) (fun _ => trivial) (wn rfl) rfl (ex_field rfl rfl (r8fa64_2 _ _ _)) ?_
  simp only [Act.put, List.setIfInBounds_toArray, List.set_cons_succ, List.set_cons_zero]
  refine wpi_exG (v := .int .i64 (each : Int)) (fun _ => trivial) (wn rfl) rfl (ex_load rfl rfl (run_load1 r8na3 (hv.load 0 2 rfl rfl))) ?_
  refine wpi_exG (v := .int .i64 ((each : Int) - 1)) (fun _ => trivial) (wn rfl) rfl (ex_sub (m := (each : Int)) (n := 1) rfl rfl rfl (i64_in (by omega))) ?_
  refine wpi_exG (v := .int .i64 ((64 * (each - 1) : Nat) : Int)) (fun _ => trivial) (wn rfl) rfl (ex_mul (m := 64) (n := ((each : Int) - 1)) rfl rfl rfl (by rw [i64_in (by omega)]; omega)) ?_
  simp only [Act.put, List.setIfInBounds_toArray, List.set_cons_succ, List.set_cons_zero]
  refine wpi_exG (v := .int .i64 ((64 * (each - 1) : Nat) : Int)) (fun _ => trivial) (wn rfl) rfl (ex_assign rfl rfl) ?_
  refine wpListIn_nil ?_
  simp only [Act.put, List.setIfInBounds_toArray, List.set_cons_succ, List.set_cons_zero]
  refine then_normal (hK2 _ _ ?_)
  clear hK2 K2
  refine wpIn_seq_k (fun K3 hK3 => ?_)
  refine wpIn_seq_k (fun K4 hK4 => ?_)
  refine wpIn_region_lit ?_
  refine wpi_exG (v := .int .i64 ((64 * (each - 1) : Nat) : Int)) (fun _ => trivial) (wn rfl) rfl (ex_move rfl rfl) ?_
  by_cases hb5 : ((64 * (each - 1) : Nat) : Int) > 1048576
  · refine wpi_exG (v := .bool true) (fun _ => trivial) (wn rfl) rfl (ex_gtr (k := .i64) (m := ((64 * (each - 1) : Nat) : Int)) (n := 1048576) rfl rfl rfl (decide_eq_true hb5)) ?_
    refine wpListIn_nil ?_
    simp only [Act.put, List.setIfInBounds_toArray, List.set_cons_succ, List.set_cons_zero]
    refine then_normal (hK4 _ _ ?_)
    clear hK4 K4
    refine wpIn_cond_true rfl ?_
    refine wpIn_seq_k (fun K6 hK6 => ?_)
    refine wpIn_region_lit ?_
    refine wpi_exG (v := .int .i64 1048576) (fun _ => trivial) (wn rfl) rfl (ex_assign rfl rfl) ?_
    refine wpListIn_nil ?_
    simp only [Act.put, List.setIfInBounds_toArray, List.set_cons_succ, List.set_cons_zero]
    refine then_normal (hK6 _ _ ?_)
    clear hK6 K6
    refine wpIn_ret ?_
    refine then_ret ?_
    clear hK3 K3
    refine bodyPost_ret (results_tmp rfl _ _ _) rfl ?_
    have e : roomOf each = 1048576 := by unfold roomOf; split <;> omega
    rw [e]
    exact ⟨rfl, rfl⟩
  · refine wpi_exG (v := .bool false) (fun _ => trivial) (wn rfl) rfl (ex_gtr (k := .i64) (m := ((64 * (each - 1) : Nat) : Int)) (n := 1048576) rfl rfl rfl (decide_eq_false hb5)) ?_
    refine wpListIn_nil ?_
    simp only [Act.put, List.setIfInBounds_toArray, List.set_cons_succ, List.set_cons_zero]
    refine then_normal (hK4 _ _ ?_)
    clear hK4 K4
    refine wpIn_cond_false rfl ?_
    refine wpIn_skip ?_
    refine then_normal (hK3 _ _ ?_)
    clear hK3 K3
    refine wpIn_seq_k (fun K7 hK7 => ?_)
    refine wpIn_region_lit ?_
    refine wpi_exG (v := .int .i64 ((64 * (each - 1) : Nat) : Int)) (fun _ => trivial) (wn rfl) rfl (ex_move rfl rfl) ?_
    refine wpi_exG (v := .int .i64 ((64 * (each - 1) : Nat) : Int)) (fun _ => trivial) (wn rfl) rfl (ex_assign rfl rfl) ?_
    refine wpListIn_nil ?_
    simp only [Act.put, List.setIfInBounds_toArray, List.set_cons_succ, List.set_cons_zero]
    refine then_normal (hK7 _ _ ?_)
    clear hK7 K7
    refine wpIn_ret ?_
    refine bodyPost_ret (results_tmp rfl _ _ _) rfl ?_
    have e : roomOf each = 64 * (each - 1) := by unfold roomOf; split <;> omega
    rw [e]
    exact ⟨rfl, rfl⟩
end Go.Proofs.Ytkannfkjnohdlaa
