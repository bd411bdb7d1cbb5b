/- slots: number, put, Room, Generation -/
import Derived.Test.YtkannfkjnohdlaaNum
import Derived.Test.YtkannfkjnohdlaaDiskApi
namespace Go.Proofs.Ytkannfkjnohdlaa
open Go.RowKit Go.Pm
theorem num_small (l : List UInt8) (h : l.length ≤ 7) : numOf l < 72057594037927936 := by
  have h1 := numOf_lt l
  have h2 : 256 ^ l.length ≤ 256 ^ 7 := Nat.pow_le_pow_right (by decide) h
  have h3 : (256 : Nat) ^ 7 = 72057594037927936 := by decide
  omega
def putMid (m n : Nat) (mid : List Value) (i : Nat) : List Value := mid.take (m - i) ++ ((beOf m n).map B8).drop (m - i)
theorem putMid_len {m n : Nat} {mid : List Value} {i : Nat} (h : mid.length = m) (hi : i ≤ m) : (putMid m n mid i).length = m := by
  simp [putMid, beOf_length, h]
theorem putMid_zero {m n : Nat} {mid : List Value} (h : mid.length = m) : putMid m n mid 0 = mid := by
  unfold putMid
  rw [Nat.sub_zero, List.take_of_length_le (by omega), List.drop_eq_nil_of_le (by simp [beOf_length]), List.append_nil]
theorem putMid_all {m n : Nat} {mid : List Value} : putMid m n mid m = (beOf m n).map B8 := by simp [putMid]
theorem putMid_succ {m n : Nat} {mid : List Value} {i : Nat} (h : mid.length = m) (hi : i < m) : (putMid m n mid i).set (m - 1 - i) (B8 (UInt8.ofNat (n / 256 ^ i))) = putMid m n mid (i + 1) := by
  apply List.ext_getElem?
  intro j
  unfold putMid
  have hl : ((beOf m n).map B8).length = m := by simp [beOf_length]
  by_cases hj : j = m - 1 - i
  · subst hj
    rw [List.getElem?_set_self (by simp [h, beOf_length]; omega), List.getElem?_append_right (by simp [h]; omega), List.getElem?_drop]
    simp only [List.length_take, h]
    rw [show m - (i + 1) + (m - 1 - i - min (m - (i + 1)) m) = m - 1 - i by omega]
    simp only [beOf, List.map_map, List.getElem?_map, List.getElem?_range (show m - 1 - i < m by omega), Option.map_some, Function.comp_def]
    rw [show m - 1 - (m - 1 - i) = i by omega]
  · rw [List.getElem?_set_ne (by omega)]
    by_cases h1 : j < m - 1 - i
    · rw [List.getElem?_append_left (by simp [h]; omega), List.getElem?_append_left (by simp [h]; omega), List.getElem?_take_of_lt (by omega), List.getElem?_take_of_lt (by omega)]
    · rw [List.getElem?_append_right (by simp [h]; omega), List.getElem?_append_right (by simp [h]; omega), List.getElem?_drop, List.getElem?_drop]
      simp only [List.length_take, h]
      congr 1
      omega
theorem set_mid (pre mid post : List Value) (k : Nat) (v : Value) (hk : k < mid.length) : (pre ++ mid ++ post).set (pre.length + k) v = pre ++ mid.set k v ++ post := by
  rw [List.set_append_left _ _ (by simp; omega), List.set_append_right _ _ (by omega)]
  simp
def roomOf (each : Nat) : Nat := if 1048576 < 64 * (each - 1) then 1048576 else 64 * (each - 1)

theorem s1es24 (w : World) : (sizeOf (Try.prog.elem 24)).run Try.prog w = .ok 1 w := by kernel_rfl
theorem s1na5 (w : World) : (isAgg 5).run Try.prog w = .ok false w := by kernel_rfl
set_option maxRecDepth 100000 in
set_option maxHeartbeats 2000000 in
theorem slotsNumber (B : Base) (H : List Res) (w : World) (a : Option Addr) (n cap : Nat) (l : List UInt8) (hn : l.length = n) (h8 : n ≤ 8) (hr : RdV B H a (l.map B8)) (hv : Inv B H w) :
    Calls Try.prog 58 #[.slice a n cap] w fun e w' => e = .returned (.int .u64 (numOf l : Int)) ∧ Inv B H w' := by
  refine (callsIn_wide (n := 5)).1 ?_
  refine callsIn_of_wp Try.func58 rfl trivial ?_
  simp only [Try.ntmps58, List.size_toArray, List.length_cons, List.length_nil, Nat.reduceAdd, Nat.reduceSub, Array.replicate_succ, Array.replicate_zero, List.push_toArray, List.append_toArray, List.nil_append, List.cons_append]
  refine wpIn_seq_k (fun K1 hK1 => ?_)
  refine wpIn_region_lit ?_
  refine wpi_exG (v := .int .u64 0) (fun _ => trivial) (wn rfl) rfl (ex_assign rfl rfl) ?_
  refine wpListIn_nil ?_
  simp only [Act.put, List.setIfInBounds_toArray, List.set_cons_succ, List.set_cons_zero]
  refine then_normal (hK1 _ _ ?_)
  clear hK1 K1
  refine wpIn_seq_k (fun K2 hK2 => ?_)
  refine wpIn_region_lit ?_
  refine wpi_exG (v := .int .u64 0) (fun _ => trivial) (wn rfl) rfl (ex_assign rfl rfl) ?_
  refine wpListIn_nil ?_
  simp only [Act.put, List.setIfInBounds_toArray, List.set_cons_succ, List.set_cons_zero]
  refine then_normal (hK2 _ _ ?_)
  clear hK2 K2
  refine wpIn_seq_k (fun K3 hK3 => ?_)
  refine wpIn_seq_k (fun K4 hK4 => ?_)
  refine wpIn_region_lit ?_
  refine wpi_exG (v := .slice a n cap) (fun _ => trivial) (wn rfl) rfl (ex_move rfl rfl) ?_
  refine wpi_exG (v := .int .i64 (n : Int)) (fun _ => trivial) (wn rfl) rfl (ex_len0 Try.underlying24 rfl rfl) ?_
  refine wpi_exG (v := .int .i64 0) (fun _ => trivial) (wn rfl) rfl (ex_move rfl rfl) ?_
  refine wpListIn_nil ?_
  simp only [Act.put, List.setIfInBounds_toArray, List.set_cons_succ, List.set_cons_zero]
  refine then_normal (hK4 _ _ ?_)
  clear hK4 K4
  refine wpIn_block ?_
  gi_loopw [3, 7] (fun x3 x7 wr => ∃ i : Nat, x3 = .int .u64 (numOf (l.take i) : Int) ∧ x7 = .int .i64 (i : Int) ∧ i ≤ n ∧ Inv B H wr) (fun x3 x7 _ => n - (intOf x7).toNat)
  case atStart => exact ⟨0, rfl, rfl, by omega, hv⟩
  case round =>
    obtain ⟨i, rfl, rfl, hi, hv⟩ := hrel
    refine wpIn_seq_k (fun K6 hK6 => ?_)
    refine wpIn_region_lit ?_
    by_cases hb7 : (i : Int) < (n : Int)
    · have hm := num_small (l.take i) (by rw [List.length_take]; omega)
      refine wpi_exG (v := .bool true) (fun _ => trivial) (wn rfl) rfl (ex_lss (k := .i64) (m := (i : Int)) (n := (n : Int)) rfl rfl rfl (decide_eq_true hb7)) ?_
      refine wpListIn_nil ?_
      simp only [Act.put, List.setIfInBounds_toArray, List.set_cons_succ, List.set_cons_zero]
      refine then_normal (hK6 _ _ ?_)
      clear hK6 K6
      refine wpIn_seq_k (fun K8 hK8 => ?_)
      refine wpIn_cond_true rfl ?_
      refine wpIn_skip ?_
      refine then_normal (hK8 _ _ ?_)
      clear hK8 K8
      refine wpIn_seq_k (fun K9 hK9 => ?_)
      refine wpIn_block ?_
      refine wpIn_seq_k (fun K10 hK10 => ?_)
      refine wpIn_region_lit ?_
      refine wpi_exG (v := .int .i64 (i : Int)) (fun _ => trivial) (wn rfl) rfl (ex_move rfl rfl) ?_
      refine wpi_exG (v := .int .i64 (i : Int)) (fun _ => trivial) (wn rfl) rfl (ex_assign rfl rfl) ?_
      refine wpListIn_nil ?_
      simp only [Act.put, List.setIfInBounds_toArray, List.set_cons_succ, List.set_cons_zero]
      refine then_normal (hK10 _ _ ?_)
      clear hK10 K10
      refine wpIn_region_lit ?_
      refine wpi_exG (v := .int .u64 (numOf (l.take i) : Int)) (fun _ => trivial) (wn rfl) rfl (ex_move rfl rfl) ?_
      refine wpi_exG (v := .int .u64 ((numOf (l.take i) * 256 : Nat) : Int)) (fun _ => trivial) (wn rfl) rfl (ex_shl (m := (numOf (l.take i) : Int)) (n := 8) rfl rfl rfl (by decide) (shl8 _ hm)) ?_
      refine wpi_exG (v := .slice a n cap) (fun _ => trivial) (wn rfl) rfl (ex_move rfl rfl) ?_
      simp only [Act.put, List.setIfInBounds_toArray, List.set_cons_succ, List.set_cons_zero]
      refine wpi_exG (v := .int .i64 (i : Int)) (fun _ => trivial) (wn rfl) rfl (ex_move rfl rfl) ?_
      have hin : i < l.length := by omega
      obtain ⟨ab, aoff, rfl, hcell⟩ := hr.cellAt hv i (by rw [List.length_map]; exact hin)
      have htake : l.take (i + 1) = l.take i ++ [l[i]] := by rw [List.take_succ_eq_append_getElem hin]
      simp only [List.getElem_map] at hcell
      generalize l[i] = c at *
      have hc := c.toNat_lt
      refine wpi_exG (v := .pointer (some ⟨ab, aoff + i, none⟩)) (fun _ => trivial) (wn rfl) rfl (ex_index rfl rfl rfl (run_idx1 (k := i) Try.underlying24 s1es24 (by omega))) ?_
      refine wpi_exG (v := .int .u8 (c.toNat : Int)) (fun _ => trivial) (wn rfl) rfl (ex_load rfl rfl (run_load1 s1na5 hcell)) ?_
      simp only [Act.put, List.setIfInBounds_toArray, List.set_cons_succ, List.set_cons_zero]
      refine wpi_exG (v := .int .u64 (c.toNat : Int)) (fun _ => trivial) (wn rfl) rfl (ex_int (m := (c.toNat : Int)) Try.underlying5 Try.underlying114 rfl rfl (u64_in (by omega))) ?_
      refine wpi_exG (v := .int .u64 ((numOf (l.take i) * 256 + c.toNat : Nat) : Int)) (fun _ => trivial) (wn rfl) rfl (ex_bits (m := ((numOf (l.take i) * 256 : Nat) : Int)) (n := (c.toNat : Int)) rfl rfl rfl rfl (or_byte _ _ hm hc)) ?_
      refine wpi_exG (v := .int .u64 ((numOf (l.take i) * 256 + c.toNat : Nat) : Int)) (fun _ => trivial) (wn rfl) rfl (ex_assign rfl rfl) ?_
      refine wpListIn_nil ?_
      simp only [Act.put, List.setIfInBounds_toArray, List.set_cons_succ, List.set_cons_zero]
      refine blk_normal ?_
      refine then_normal (hK9 _ _ ?_)
      clear hK9 K9
      refine wpIn_region_lit ?_
      refine wpi_exG (v := .int .i64 ((i : Int) + 1)) (fun _ => trivial) (wn rfl) rfl (ex_add (m := (i : Int)) (n := 1) rfl rfl rfl (i64_in (by omega))) ?_
      refine wpi_exG (v := .int .i64 ((i : Int) + 1)) (fun _ => trivial) (wn rfl) rfl (ex_move rfl rfl) ?_
      refine wpListIn_nil ?_
      simp only [Act.put, List.setIfInBounds_toArray, List.set_cons_succ, List.set_cons_zero]
      refine then_normal ?_
      go_roundw
      case rel => exact ⟨i + 1, by rw [htake, numOf_snoc], by simp, by omega, hv⟩
      case measure => show n - ((i : Int) + 1).toNat < n - (i : Int).toNat; omega
    · refine wpi_exG (v := .bool false) (fun _ => trivial) (wn rfl) rfl (ex_lss (k := .i64) (m := (i : Int)) (n := (n : Int)) rfl rfl rfl (decide_eq_false hb7)) ?_
      refine wpListIn_nil ?_
      simp only [Act.put, List.setIfInBounds_toArray, List.set_cons_succ, List.set_cons_zero]
      refine then_normal (hK6 _ _ ?_)
      clear hK6 K6
      refine wpIn_seq_k (fun K11 hK11 => ?_)
      refine wpIn_cond_false rfl ?_
      refine wpIn_exit ?_
      refine then_exit ?_
      clear hK11 K11
      refine then_exit ?_
      refine blk_hit ?_
      refine then_normal (hK3 _ _ ?_)
      clear hK3 K3
      refine wpIn_seq_k (fun K12 hK12 => ?_)
      refine wpIn_region_lit ?_
      refine wpi_exG (v := .int .u64 (numOf (l.take i) : Int)) (fun _ => trivial) (wn rfl) rfl (ex_move rfl rfl) ?_
      refine wpi_exG (v := .int .u64 (numOf (l.take i) : Int)) (fun _ => trivial) (wn rfl) rfl (ex_assign rfl rfl) ?_
      refine wpListIn_nil ?_
      simp only [Act.put, List.setIfInBounds_toArray, List.set_cons_succ, List.set_cons_zero]
      refine then_normal (hK12 _ _ ?_)
      clear hK12 K12
      refine wpIn_ret ?_
      refine bodyPost_ret (results_tmp rfl _ _ _) rfl ?_
      rw [List.take_of_length_le (by omega)]
      exact ⟨rfl, hv⟩
theorem s1sz5 : (Try.prog.info? 5).map (·.size) = some 1 := by kernel_rfl
set_option maxRecDepth 100000 in
set_option maxHeartbeats 2000000 in
theorem slotsPut (B : Base) (H : List Res) (w : World) (hb o cap m n : Nat) (pre mid post : List Value) (t : TypeId) (ho : pre.length = o) (hmid : mid.length = m) (hm : m ≤ 8) (hn : n < 18446744073709551616) (hv : Inv B (Res.cell hb (pre ++ mid ++ post) t :: H) w) :
    Calls Try.prog 62 #[.slice (some ⟨hb, o, none⟩) m cap, .int .u64 (n : Int)] w fun e w' => e = .returned (.tuple #[]) ∧ Inv B (Res.cell hb (pre ++ (beOf m n).map B8 ++ post) t :: H) w' := by
  refine (callsIn_wide (n := 5)).1 ?_
  refine callsIn_of_wp Try.func62 rfl trivial ?_
  simp only [Try.ntmps62, List.size_toArray, List.length_cons, List.length_nil, Nat.reduceAdd, Nat.reduceSub, Array.replicate_succ, Array.replicate_zero, List.push_toArray, List.append_toArray, List.nil_append, List.cons_append]
  refine wpIn_seq_k (fun K1 hK1 => ?_)
  refine wpIn_region_lit ?_
  refine wpi_exG (v := .slice (some ⟨hb, o, none⟩) m cap) (fun _ => trivial) (wn rfl) rfl (ex_move rfl rfl) ?_
  refine wpi_exG (v := .int .i64 (m : Int)) (fun _ => trivial) (wn rfl) rfl (ex_len0 Try.underlying24 rfl rfl) ?_
  refine wpi_exG (v := .int .i64 0) (fun _ => trivial) (wn rfl) rfl (ex_move rfl rfl) ?_
  refine wpListIn_nil ?_
  simp only [Act.put, List.setIfInBounds_toArray, List.set_cons_succ, List.set_cons_zero]
  refine then_normal (hK1 _ _ ?_)
  clear hK1 K1
  refine wpIn_block ?_
  gi_loopw [1, 7] (fun x1 x7 wr => ∃ i : Nat, x1 = .int .u64 ((n / 256 ^ i : Nat) : Int) ∧ x7 = .int .i64 (i : Int) ∧ i ≤ m ∧ Inv B (Res.cell hb (pre ++ putMid m n mid i ++ post) t :: H) wr) (fun x1 x7 _ => m - (intOf x7).toNat)
  case atStart => exact ⟨0, by simp, rfl, by omega, by rw [putMid_zero hmid]; exact hv⟩
  case round =>
    obtain ⟨i, rfl, rfl, hi, hv⟩ := hrel
    refine wpIn_seq_k (fun K3 hK3 => ?_)
    refine wpIn_region_lit ?_
    by_cases hb4 : (i : Int) < (m : Int)
    · refine wpi_exG (v := .bool true) (fun _ => trivial) (wn rfl) rfl (ex_lss (k := .i64) (m := (i : Int)) (n := (m : Int)) rfl rfl rfl (decide_eq_true hb4)) ?_
      refine wpListIn_nil ?_
      simp only [Act.put, List.setIfInBounds_toArray, List.set_cons_succ, List.set_cons_zero]
      refine then_normal (hK3 _ _ ?_)
      clear hK3 K3
      refine wpIn_seq_k (fun K5 hK5 => ?_)
      refine wpIn_cond_true rfl ?_
      refine wpIn_skip ?_
      refine then_normal (hK5 _ _ ?_)
      clear hK5 K5
      refine wpIn_seq_k (fun K6 hK6 => ?_)
      refine wpIn_block ?_
      refine wpIn_seq_k (fun K7 hK7 => ?_)
      refine wpIn_region_lit ?_
      refine wpi_exG (v := .int .i64 (i : Int)) (fun _ => trivial) (wn rfl) rfl (ex_move rfl rfl) ?_
      refine wpi_exG (v := .int .i64 (i : Int)) (fun _ => trivial) (wn rfl) rfl (ex_assign rfl rfl) ?_
      refine wpListIn_nil ?_
      simp only [Act.put, List.setIfInBounds_toArray, List.set_cons_succ, List.set_cons_zero]
      refine then_normal (hK7 _ _ ?_)
      clear hK7 K7
      refine wpIn_seq_k (fun K8 hK8 => ?_)
      refine wpIn_region_lit ?_
      refine wpi_exG (v := .slice (some ⟨hb, o, none⟩) m cap) (fun _ => trivial) (wn rfl) rfl (ex_move rfl rfl) ?_
      refine wpi_exG (v := .slice (some ⟨hb, o, none⟩) m cap) (fun _ => trivial) (wn rfl) rfl (ex_move rfl rfl) ?_
      refine wpi_exG (v := .int .i64 (m : Int)) (fun _ => trivial) (wn rfl) rfl (ex_len0 Try.underlying24 rfl rfl) ?_
      simp only [Act.put, List.setIfInBounds_toArray, List.set_cons_succ, List.set_cons_zero]
      refine wpi_exG (v := .int .i64 ((m : Int) - 1)) (fun _ => trivial) (wn rfl) rfl (ex_sub (m := (m : Int)) (n := 1) rfl rfl rfl (i64_in (by omega))) ?_
      refine wpi_exG (v := .int .i64 (i : Int)) (fun _ => trivial) (wn rfl) rfl (ex_move rfl rfl) ?_
      refine wpi_exG (v := .int .i64 ((m - 1 - i : Nat) : Int)) (fun _ => trivial) (wn rfl) rfl (ex_sub (m := ((m : Int) - 1)) (n := (i : Int)) rfl rfl rfl (by rw [i64_in (by omega)]; omega)) ?_
      simp only [Act.put, List.setIfInBounds_toArray, List.set_cons_succ, List.set_cons_zero]
      refine wpi_exG (v := .int .u64 ((n / 256 ^ i : Nat) : Int)) (fun _ => trivial) (wn rfl) rfl (ex_move rfl rfl) ?_
      refine wpi_exG (v := .int .u8 ((UInt8.ofNat (n / 256 ^ i)).toNat : Int)) (fun _ => trivial) (wn rfl) rfl (ex_int (m := ((n / 256 ^ i : Nat) : Int)) Try.underlying114 Try.underlying5 rfl rfl (u8_of _)) ?_
      refine wpi_exG (v := .pointer (some ⟨hb, o + (m - 1 - i : Nat), none⟩)) (fun _ => trivial) (wn rfl) rfl (ex_index rfl rfl rfl (run_idx1 (k := (m - 1 - i : Nat)) Try.underlying24 s1es24 (by omega))) ?_
      simp only [Act.put, List.setIfInBounds_toArray, List.set_cons_succ, List.set_cons_zero]
      refine sl_storeAt 0 (v := B8 (UInt8.ofNat (n / 256 ^ i))) (L' := pre ++ putMid m n mid (i + 1) ++ post) (fun _ => trivial) (wn rfl) rfl rfl rfl hv rfl s1sz5 (by simp [putMid_len hmid (show i ≤ m by omega)]; omega) rfl rfl (by rw [← ho, set_mid _ _ _ _ _ (by rw [putMid_len hmid (by omega)]; omega), putMid_succ hmid (by omega)]) (fun w9 hv => ?_)
      simp only [List.set_cons_succ, List.set_cons_zero] at hv
      refine wpListIn_nil ?_
      simp only [Act.put, List.setIfInBounds_toArray, List.set_cons_succ, List.set_cons_zero]
      refine then_normal (hK8 _ _ ?_)
      clear hK8 K8
      refine wpIn_region_lit ?_
      refine wpi_exG (v := .int .u64 ((n / 256 ^ i : Nat) : Int)) (fun _ => trivial) (wn rfl) rfl (ex_move rfl rfl) ?_
      refine wpi_exG (v := .int .u64 ((n / 256 ^ (i + 1) : Nat) : Int)) (fun _ => trivial) (wn rfl) rfl (ex_shr (m := ((n / 256 ^ i : Nat) : Int)) (n := 8) rfl rfl rfl (by decide) (by rw [shr8, Nat.div_div_eq_div_mul, ← Nat.pow_succ])) ?_
      refine wpi_exG (v := .int .u64 ((n / 256 ^ (i + 1) : Nat) : Int)) (fun _ => trivial) (wn rfl) rfl (ex_assign rfl rfl) ?_
      refine wpListIn_nil ?_
      simp only [Act.put, List.setIfInBounds_toArray, List.set_cons_succ, List.set_cons_zero]
      refine blk_normal ?_
      refine then_normal (hK6 _ _ ?_)
      clear hK6 K6
      refine wpIn_region_lit ?_
      refine wpi_exG (v := .int .i64 ((i : Int) + 1)) (fun _ => trivial) (wn rfl) rfl (ex_add (m := (i : Int)) (n := 1) rfl rfl rfl (i64_in (by omega))) ?_
      refine wpi_exG (v := .int .i64 ((i : Int) + 1)) (fun _ => trivial) (wn rfl) rfl (ex_move rfl rfl) ?_
      refine wpListIn_nil ?_
      simp only [Act.put, List.setIfInBounds_toArray, List.set_cons_succ, List.set_cons_zero]
      refine then_normal ?_
      go_roundw
      case rel => exact ⟨i + 1, rfl, by simp, by omega, hv⟩
      case measure => show m - ((i : Int) + 1).toNat < m - (i : Int).toNat; omega
    · refine wpi_exG (v := .bool false) (fun _ => trivial) (wn rfl) rfl (ex_lss (k := .i64) (m := (i : Int)) (n := (m : Int)) rfl rfl rfl (decide_eq_false hb4)) ?_
      refine wpListIn_nil ?_
      simp only [Act.put, List.setIfInBounds_toArray, List.set_cons_succ, List.set_cons_zero]
      refine then_normal (hK3 _ _ ?_)
      clear hK3 K3
      refine wpIn_seq_k (fun K10 hK10 => ?_)
      refine wpIn_cond_false rfl ?_
      refine wpIn_exit ?_
      refine then_exit ?_
      clear hK10 K10
      refine then_exit ?_
      refine blk_hit ?_
      go_end0
      obtain rfl : i = m := by omega
      rw [putMid_all] at hv
      exact ⟨rfl, hv⟩
theorem s1fa102_2 (w : World) (b o : Nat) : (Instr.fieldAt 102 (.pointer (some ⟨b, o, none⟩)) 2).run Try.prog w = .ok (.pointer (some ⟨b, o + 2, none⟩)) w := by kernel_rfl
theorem s1na3 (w : World) : (isAgg 3).run Try.prog w = .ok false w := by kernel_rfl
set_option maxRecDepth 100000 in
set_option maxHeartbeats 2000000 in
theorem slotsRoom (B : Base) (H : List Res) (w : World) (q p from_ each gen : Nat) (failed : Bool) (h1 : 1 ≤ each) (h2 : each ≤ 65536) (hv : Inv B (Res.cell q [.pointer (some ⟨p, 0, none⟩), .int .i64 (from_ : Int), .int .i64 (each : Int), .int .i64 (gen : Int), .bool failed] 102 :: H) w) :
    Calls Try.prog 34 #[.pointer (some ⟨q, 0, none⟩)] w fun e w' => e = .returned (.int .i64 (roomOf each : Int)) ∧ w = w' := by
  refine (callsIn_wide (n := 5)).1 ?_
  refine callsIn_of_wp Try.func34 rfl trivial ?_
  simp only [Try.ntmps34, List.size_toArray, List.length_cons, List.length_nil, Nat.reduceAdd, Nat.reduceSub, Array.replicate_succ, Array.replicate_zero, List.push_toArray, List.append_toArray, List.nil_append, List.cons_append]
  refine wpIn_seq_k (fun K1 hK1 => ?_)
  refine wpIn_region_lit ?_
  refine wpi_exG (v := .int .i64 0) (fun _ => trivial) (wn rfl) rfl (ex_assign rfl rfl) ?_
  refine wpListIn_nil ?_
  simp only [Act.put, List.setIfInBounds_toArray, List.set_cons_succ, List.set_cons_zero]
  refine then_normal (hK1 _ _ ?_)
  clear hK1 K1
  refine wpIn_seq_k (fun K2 hK2 => ?_)
  refine wpIn_region_lit ?_
  refine wpi_exG (v := .pointer (some ⟨q, 0, none⟩)) (fun _ => trivial) (wn rfl) rfl (ex_move rfl rfl) ?_
  refine wpi_exG (v := .pointer (some ⟨q, 0, none⟩)) (fun _ => trivial) (wn rfl) rfl (ex_nil rfl rfl) ?_
  refine wpi_exG (v := .pointer (some ⟨q, 2, none⟩)) (fun _ => trivial) (wn rfl) rfl (ex_field rfl rfl (s1fa102_2 _ _ _)) ?_
  simp only [Act.put, List.setIfInBounds_toArray, List.set_cons_succ, List.set_cons_zero]
  refine wpi_exG (v := .int .i64 (each : Int)) (fun _ => trivial) (wn rfl) rfl (ex_load rfl rfl (run_load1 s1na3 (hv.load 0 2 rfl rfl))) ?_
  refine wpi_exG (v := .int .i64 ((each : Int) - 1)) (fun _ => trivial) (wn rfl) rfl (ex_sub (m := (each : Int)) (n := 1) rfl rfl rfl (i64_in (by omega))) ?_
  refine wpi_exG (v := .int .i64 (64 * ((each : Int) - 1))) (fun _ => trivial) (wn rfl) rfl (ex_mul (m := 64) (n := ((each : Int) - 1)) rfl rfl rfl (i64_in (by omega))) ?_
  simp only [Act.put, List.setIfInBounds_toArray, List.set_cons_succ, List.set_cons_zero]
  refine wpi_exG (v := .int .i64 (roomOf each : Int)) (fun _ => trivial) (wn rfl) rfl (ex_min2 (m := (64 * ((each : Int) - 1))) (n := 1048576) rfl rfl rfl (by unfold roomOf; split <;> split <;> omega)) ?_
  refine wpi_exG (v := .int .i64 (roomOf each : Int)) (fun _ => trivial) (wn rfl) rfl (ex_assign rfl rfl) ?_
  refine wpListIn_nil ?_
  simp only [Act.put, List.setIfInBounds_toArray, List.set_cons_succ, List.set_cons_zero]
  refine then_normal (hK2 _ _ ?_)
  clear hK2 K2
  refine wpIn_ret ?_
  refine bodyPost_ret (results_tmp rfl _ _ _) rfl ?_
  exact ⟨rfl, rfl⟩
theorem s1fa102_3 (w : World) (b o : Nat) : (Instr.fieldAt 102 (.pointer (some ⟨b, o, none⟩)) 3).run Try.prog w = .ok (.pointer (some ⟨b, o + 3, none⟩)) w := by kernel_rfl
set_option maxRecDepth 100000 in
set_option maxHeartbeats 2000000 in
theorem slotsGeneration (B : Base) (H : List Res) (w : World) (q p from_ each gen : Nat) (failed : Bool) (hv : Inv B (Res.cell q [.pointer (some ⟨p, 0, none⟩), .int .i64 (from_ : Int), .int .i64 (each : Int), .int .i64 (gen : Int), .bool failed] 102 :: H) w) :
    Calls Try.prog 33 #[.pointer (some ⟨q, 0, none⟩)] w fun e w' => e = .returned (.int .i64 (gen : Int)) ∧ w = w' := by
  refine (callsIn_wide (n := 5)).1 ?_
  refine callsIn_of_wp Try.func33 rfl trivial ?_
  simp only [Try.ntmps33, List.size_toArray, List.length_cons, List.length_nil, Nat.reduceAdd, Nat.reduceSub, Array.replicate_succ, Array.replicate_zero, List.push_toArray, List.append_toArray, List.nil_append, List.cons_append]
  refine wpIn_seq_k (fun K1 hK1 => ?_)
  refine wpIn_region_lit ?_
  refine wpi_exG (v := .int .i64 0) (fun _ => trivial) (wn rfl) rfl (ex_assign rfl rfl) ?_
  refine wpListIn_nil ?_
  simp only [Act.put, List.setIfInBounds_toArray, List.set_cons_succ, List.set_cons_zero]
  refine then_normal (hK1 _ _ ?_)
  clear hK1 K1
  refine wpIn_seq_k (fun K2 hK2 => ?_)
  refine wpIn_region_lit ?_
  refine wpi_exG (v := .pointer (some ⟨q, 0, none⟩)) (fun _ => trivial) (wn rfl) rfl (ex_move rfl rfl) ?_
  refine wpi_exG (v := .pointer (some ⟨q, 0, none⟩)) (fun _ => trivial) (wn rfl) rfl (ex_nil rfl rfl) ?_
  refine wpi_exG (v := .pointer (some ⟨q, 3, none⟩)) (fun _ => trivial) (wn rfl) rfl (ex_field rfl rfl (s1fa102_3 _ _ _)) ?_
  simp only [Act.put, List.setIfInBounds_toArray, List.set_cons_succ, List.set_cons_zero]
  refine wpi_exG (v := .int .i64 (gen : Int)) (fun _ => trivial) (wn rfl) rfl (ex_load rfl rfl (run_load1 s1na3 (hv.load 0 3 rfl rfl))) ?_
  refine wpi_exG (v := .int .i64 (gen : Int)) (fun _ => trivial) (wn rfl) rfl (ex_assign rfl rfl) ?_
  refine wpListIn_nil ?_
  simp only [Act.put, List.setIfInBounds_toArray, List.set_cons_succ, List.set_cons_zero]
  refine then_normal (hK2 _ _ ?_)
  clear hK2 K2
  refine wpIn_ret ?_
  refine bodyPost_ret (results_tmp rfl _ _ _) rfl ?_
  exact ⟨rfl, rfl⟩
end Go.Proofs.Ytkannfkjnohdlaa
