/- ViewWhole: digits, and the law. -/
import Derived.Test.YtffmbdagjpdieaaGreatDoorViewAt
import Derived.Test.YtffmbdagjpdieaaGreatDoorOps5
namespace Go.Proofs.YtffmbdagjpdieaaGreatDoor
open Go.RowKit Go.Pm
theorem rem10 (u : Nat) : ((u : Int)).tmod 10 = ((u % 10 : Nat) : Int) := by rw [Int.tmod_eq_emod_of_nonneg (by omega)]; omega
theorem quo10 (u : Nat) (h : u ≤ 199) : IntKind.i64.wrap ((u : Int).tdiv 10) = ((u / 10 : Nat) : Int) := by
  rw [Int.tdiv_eq_ediv_of_nonneg (by omega), i64_in (by omega)]; omega
theorem u8_dig (u : Nat) : IntKind.u8.wrap ((48 + u % 10 : Nat) : Int) = ((UInt8.ofNat (48 + u % 10)).toNat : Int) := by
  rw [dig_toNat (Nat.mod_lt _ (by decide)), u8_in (by omega)]
/-- a number's digits; none of nought -/
def dig0 (u : Nat) : List UInt8 := if u = 0 then [] else Lib.decDigits u
theorem dig0_step (u : Nat) (h : 0 < u) : dig0 u = dig0 (u / 10) ++ [UInt8.ofNat (48 + u % 10)] := by
  unfold dig0
  rw [if_neg (by omega)]
  by_cases h1 : u < 10
  · rw [if_pos (by omega), Lib.decDigits, dif_pos h1, Nat.mod_eq_of_lt h1]; rfl
  · rw [if_neg (by omega), Lib.decDigits, dif_neg h1]
theorem itoa_nat (u : Nat) (h : 0 < u) : Lib.itoa (u : Int) = dig0 u := by
  unfold Lib.itoa dig0
  rw [if_neg (by omega), if_neg (by omega)]
  rfl
theorem dec_len3 (u : Nat) (h : u ≤ 199) : (dig0 u).length ≤ 19 := by
  unfold dig0
  split
  · exact Nat.zero_le _
  · have hp : (10 : Nat) ^ 19 = 10000000000000000000 := by decide
    rw [Lib.decDigits_length]
    exact nDigits_le 18 u (by rw [hp]; omega)
theorem wrap200 (z : Int) : ∃ (r : Int) (n : Nat), z.tmod 200 = r ∧ -200 < r ∧ r < 200 ∧ (r + 200).tmod 200 = (n : Int) ∧ n ≤ 199 := by
  have h1 := Int.tmod_lt_of_pos z (show (0 : Int) < 200 by decide)
  have h2 : -200 < z.tmod 200 := by
    have := Int.tmod_lt_of_pos (-z) (show (0 : Int) < 200 by decide)
    rw [Int.neg_tmod] at this
    omega
  refine ⟨_, ((z.tmod 200 + 200) % 200).toNat, rfl, h2, h1, ?_, by omega⟩
  rw [Int.tmod_eq_emod_of_nonneg (by omega)]
  omega
theorem wrap9n (z : Int) : ∃ (r : Int) (n : Nat), z.tmod 9 = r ∧ -9 < r ∧ r < 9 ∧ (r + 9).tmod 9 = (n : Int) ∧ n ≤ 8 := by
  have h1 := Int.tmod_lt_of_pos z (show (0 : Int) < 9 by decide)
  have h2 : -9 < z.tmod 9 := by
    have := Int.tmod_lt_of_pos (-z) (show (0 : Int) < 9 by decide)
    rw [Int.neg_tmod] at this
    omega
  refine ⟨_, ((z.tmod 9 + 9) % 9).toNat, rfl, h2, h1, ?_, by omega⟩
  rw [Int.tmod_eq_emod_of_nonneg (by omega)]
  omega
theorem itoa_one (n : Nat) (h : n ≤ 8) : Lib.itoa ((n + 1 : Nat) : Int) = [UInt8.ofNat (49 + n)] := by
  rw [itoa_nat _ (by omega)]
  unfold dig0
  rw [if_neg (by omega), Lib.decDigits, dif_pos (by omega)]
  congr 2
  omega
theorem u8_dig1 (n : Nat) (h : n ≤ 8) : IntKind.u8.wrap ((49 + n : Nat) : Int) = ((UInt8.ofNat (49 + n)).toNat : Int) := by
  have e : (UInt8.ofNat (49 + n)).toNat = 49 + n := by
    rw [UInt8.toNat_ofNat']
    exact Nat.mod_eq_of_lt (by omega)
  rw [e, u8_in (by omega)]
section
variable {F : Fence} {n : Nat} {P : Program} {ops : Array Oper} {Q : Exit → Act → World → Prop} {a : Act} {w : World} {rest : List Oper} {o : Oper} {v1 v2 v3 : Value} {B : Base} {H : List Res} {t e : TypeId} {x y z : Operand}
theorem sl_row3 (hF : ∀ f, F.fn f) (hg : Region.wanted o (yielded ops a.tmps) = true) (ho : o.op = .buildSlice t 3 #[(0, x), (1, y), (2, z)]) (hx : a.eval x = v1) (hy : a.eval y = v2) (hz : a.eval z = v3) (hv : Inv B H w)
    (hr : ∀ w, (Instr.buildSlice t 3 #[(0, v1), (1, v2), (2, v3)]).run P w = .ok (.slice (some ⟨w.heap.size, 0, none⟩) 3 3) (w.alloc (.cells [v1, v2, v3].toArray e)))
    (h : ∀ b w', Inv B (Res.cell b [v1, v2, v3] e :: H) w' → wpListIn F n P ops Q rest (a.put o.dst (.slice (some ⟨b, 0, none⟩) 3 3)) w') : wpListIn F n P ops Q (o :: rest) a w :=
  wpi_exG hF hg (by unfold isDefer; rw [ho]) (by unfold Ex; simp [execOp, ho, hx, hy, hz, hr]) (h _ _ (hv.alloc [v1, v2, v3] e))
end

theorem vwmk5 : (Tryz.prog.info? 5).map (fun i => (i.zero, i.size, i.bytes)) = some (some (.int .u8 0), 1, 1) := by kernel_rfl
theorem vwel23 : Elem Tryz.prog 23 5 (.int .u8 0) 1 1 := elem_of Tryz.underlying23 vwmk5 (by rfl) (by decide)
set_option maxRecDepth 100000 in
set_option maxHeartbeats 2000000 in
theorem lawDigits (B : Base) (H : List Res) (w : World) (n : Nat) (h0 : 0 < n) (hn : n ≤ 199) (hv : Inv B H w) :
    Calls Tryz.prog 6 #[.int .i64 (n : Int)] w fun e w' => e = .returned (.string ⟨(Lib.itoa (n : Int)).toArray⟩) ∧ Inv B H w' := by
  refine (callsIn_wide (n := 5)).1 ?_
  refine callsIn_of_wp Tryz.func6 rfl trivial ?_
  simp only [Tryz.ntmps6, List.size_toArray, List.length_cons, List.length_nil, Nat.reduceAdd, Nat.reduceSub, Array.replicate_succ, Array.replicate_zero, List.push_toArray, List.append_toArray, List.nil_append, List.cons_append]
  refine wpIn_seq_k (fun K1 hK1 => ?_)
  refine wpIn_region_lit ?_
  refine wpi_exG (v := .string ⟨([] : List UInt8).toArray⟩) (fun _ => trivial) (wn rfl) rfl (ex_assign rfl rfl) ?_
  refine wpListIn_nil ?_
  simp only [Act.put, List.setIfInBounds_toArray, List.set_cons_succ, List.set_cons_zero]
  refine then_normal (hK1 _ _ ?_)
  clear hK1 K1
  refine wpIn_seq_k (fun K2 hK2 => ?_)
  refine wpIn_region_lit ?_
  refine wpi_exG (v := .string ⟨([] : List UInt8).toArray⟩) (fun _ => trivial) (wn rfl) rfl (ex_assign rfl rfl) ?_
  refine wpListIn_nil ?_
  simp only [Act.put, List.setIfInBounds_toArray, List.set_cons_succ, List.set_cons_zero]
  refine then_normal (hK2 _ _ ?_)
  clear hK2 K2
  refine wpIn_seq_k (fun K3 hK3 => ?_)
  refine wpIn_block ?_
  gi_loopw [0, 3] (fun x0 x3 wr => ∃ (u : Nat) (s : List UInt8), x0 = .int .i64 (u : Int) ∧ x3 = .string ⟨s.toArray⟩ ∧ dig0 n = dig0 u ++ s ∧ u ≤ n ∧ Inv B H wr) (fun x0 x3 _ => (intOf x0).toNat)
  case atStart => exact ⟨n, [], rfl, rfl, by simp, Nat.le_refl _, hv⟩
  case round =>
    obtain ⟨u, s, rfl, rfl, hd, hu, hv⟩ := hrel
    have hsl : s.length ≤ 19 := by have h9 := dec_len3 n hn; rw [hd, List.length_append] at h9; omega
    refine wpIn_seq_k (fun K5 hK5 => ?_)
    refine wpIn_seq_k (fun K6 hK6 => ?_)
    refine wpIn_region_lit ?_
    refine wpi_exG (v := .int .i64 (u : Int)) (fun _ => trivial) (wn rfl) rfl (ex_move rfl rfl) ?_
    by_cases hb7 : (u : Int) > 0
    · refine wpi_exG (v := .bool true) (fun _ => trivial) (wn rfl) rfl (ex_gtr (k := .i64) (m := (u : Int)) (n := 0) rfl rfl rfl (decide_eq_true hb7)) ?_
      refine wpListIn_nil ?_
      simp only [Act.put, List.setIfInBounds_toArray, List.set_cons_succ, List.set_cons_zero]
      refine then_normal (hK6 _ _ ?_)
      clear hK6 K6
      refine wpIn_cond_true rfl ?_
      refine wpIn_skip ?_
      refine then_normal (hK5 _ _ ?_)
      clear hK5 K5
      refine wpIn_block ?_
      refine wpIn_seq_k (fun K8 hK8 => ?_)
      refine wpIn_region_lit ?_
      refine wpi_exG (v := .int .i64 (u : Int)) (fun _ => trivial) (wn rfl) rfl (ex_move rfl rfl) ?_
      refine wpi_exG (v := .int .i64 ((u % 10 : Nat) : Int)) (fun _ => trivial) (wn rfl) rfl (ex_rem (m := (u : Int)) (n := 10) rfl rfl rfl (by decide) (rem10 u)) ?_
      refine wpi_exG (v := .int .i64 ((48 + u % 10 : Nat) : Int)) (fun _ => trivial) (wn rfl) rfl (ex_add (m := 48) (n := ((u % 10 : Nat) : Int)) rfl rfl rfl (by rw [i64_in (by omega)]; omega)) ?_
      simp only [Act.put, List.setIfInBounds_toArray, List.set_cons_succ, List.set_cons_zero]
      refine wpi_exG (v := .int .u8 ((UInt8.ofNat (48 + u % 10)).toNat : Int)) (fun _ => trivial) (wn rfl) rfl (ex_int (m := ((48 + u % 10 : Nat) : Int)) Tryz.underlying3 Tryz.underlying5 rfl rfl (u8_dig u)) ?_
      refine sl_rowOne (v := .int .u8 ((UInt8.ofNat (48 + u % 10)).toNat : Int)) (fun _ => trivial) (wn rfl) rfl rfl hv vwel23 rfl (fun b9 w10 hv => ?_)
      refine wpi_exG (v := .string ⟨[UInt8.ofNat (48 + u % 10)].toArray⟩) (fun _ => trivial) (wn rfl) rfl (ex_str Tryz.underlying23 Tryz.underlying5 Tryz.underlying9 rfl rfl (bytes_all (l := [UInt8.ofNat (48 + u % 10)]) (hv.get 0 rfl)) (rfl)) ?_
      simp only [Act.put, List.setIfInBounds_toArray, List.set_cons_succ, List.set_cons_zero]
      refine wpi_exG (v := .string ⟨s.toArray⟩) (fun _ => trivial) (wn rfl) rfl (ex_move rfl rfl) ?_
      refine wpi_exG (v := .string ⟨([UInt8.ofNat (48 + u % 10)] ++ s).toArray⟩) (fun _ => trivial) (wn rfl) rfl (ex_cat (s := [UInt8.ofNat (48 + u % 10)]) (s' := s) rfl rfl rfl (by simp only [List.length_cons, List.length_nil]; omega)) ?_
      refine wpi_exG (v := .string ⟨([UInt8.ofNat (48 + u % 10)] ++ s).toArray⟩) (fun _ => trivial) (wn rfl) rfl (ex_assign rfl rfl) ?_
      refine wpListIn_nil ?_
      simp only [Act.put, List.setIfInBounds_toArray, List.set_cons_succ, List.set_cons_zero]
      refine then_normal (hK8 _ _ ?_)
      clear hK8 K8
      refine wpIn_region_lit ?_
      refine wpi_exG (v := .int .i64 (u : Int)) (fun _ => trivial) (wn rfl) rfl (ex_move rfl rfl) ?_
      refine wpi_exG (v := .int .i64 ((u / 10 : Nat) : Int)) (fun _ => trivial) (wn rfl) rfl (ex_quo (m := (u : Int)) (n := 10) rfl rfl rfl (by decide) (quo10 u (by omega))) ?_
      refine wpi_exG (v := .int .i64 ((u / 10 : Nat) : Int)) (fun _ => trivial) (wn rfl) rfl (ex_assign rfl rfl) ?_
      refine wpListIn_nil ?_
      simp only [Act.put, List.setIfInBounds_toArray, List.set_cons_succ, List.set_cons_zero]
      refine blk_normal ?_
      refine then_normal ?_
      go_roundw
      case rel => exact ⟨u / 10, [UInt8.ofNat (48 + u % 10)] ++ s, rfl, rfl, by rw [hd, dig0_step u (by omega)]; simp, by omega, hv.drop⟩
      case measure => show (((u / 10 : Nat) : Int)).toNat < ((u : Int)).toNat; omega
    · refine wpi_exG (v := .bool false) (fun _ => trivial) (wn rfl) rfl (ex_gtr (k := .i64) (m := (u : Int)) (n := 0) rfl rfl rfl (decide_eq_false hb7)) ?_
      refine wpListIn_nil ?_
      simp only [Act.put, List.setIfInBounds_toArray, List.set_cons_succ, List.set_cons_zero]
      refine then_normal (hK6 _ _ ?_)
      clear hK6 K6
      refine wpIn_cond_false rfl ?_
      refine wpIn_exit ?_
      refine then_exit ?_
      clear hK5 K5
      refine then_exit ?_
      refine blk_hit ?_
      refine then_normal (hK3 _ _ ?_)
      clear hK3 K3
      refine wpIn_seq_k (fun K11 hK11 => ?_)
      refine wpIn_region_lit ?_
      refine wpi_exG (v := .string ⟨s.toArray⟩) (fun _ => trivial) (wn rfl) rfl (ex_move rfl rfl) ?_
      refine wpi_exG (v := .string ⟨s.toArray⟩) (fun _ => trivial) (wn rfl) rfl (ex_assign rfl rfl) ?_
      refine wpListIn_nil ?_
      simp only [Act.put, List.setIfInBounds_toArray, List.set_cons_succ, List.set_cons_zero]
      refine then_normal (hK11 _ _ ?_)
      clear hK11 K11
      refine wpIn_ret ?_
      refine bodyPost_ret (results_tmp rfl _ _ _) rfl ?_
      have hs : Lib.itoa (n : Int) = s := by
        obtain rfl : u = 0 := by omega
        rw [itoa_nat n h0, hd]; rfl
      rw [hs]; exact ⟨rfl, hv⟩
theorem lawAwake20 (B : Base) (H : List Res) (w : World) (hv : Inv B H w) : Calls Tryz.prog 4 #[] w fun e w' => e = .returned (.bool true) ∧ Inv B H w' :=
  (awakeCalls w).mono fun _ _ ⟨h1, h2⟩ => ⟨h1, hv.ext h2⟩

theorem vwcallable4 : Callable Tryz.prog 4 := ⟨_, Tryz.func4, by kernel_rfl, by kernel_rfl⟩
theorem vwcallable5 : Callable Tryz.prog 5 := ⟨_, Tryz.func5, by kernel_rfl, by kernel_rfl⟩
theorem vwal25 (w : World) : (Instr.alloc 25 true (.tuple #[])).run Tryz.prog w = .ok (.pointer (some ⟨w.heap.size, 0, none⟩)) (w.alloc (.cells ([.int .i64 0, .int .i64 0, .int .i64 0, .string ⟨([] : List UInt8).toArray⟩] : List Value).toArray 25)) := by kernel_rfl
theorem vwsz25 : (Tryz.prog.info? 25).map (·.size) = some 4 := by kernel_rfl
theorem vwfa25_0 (w : World) (b o : Nat) : (Instr.fieldAt 25 (.pointer (some ⟨b, o, none⟩)) 0).run Tryz.prog w = .ok (.pointer (some ⟨b, o + 0, none⟩)) w := by kernel_rfl
theorem vwna3 (w : World) : (isAgg 3).run Tryz.prog w = .ok false w := by kernel_rfl
theorem vwfa25_1 (w : World) (b o : Nat) : (Instr.fieldAt 25 (.pointer (some ⟨b, o, none⟩)) 1).run Tryz.prog w = .ok (.pointer (some ⟨b, o + 1, none⟩)) w := by kernel_rfl
theorem vwfa25_2 (w : World) (b o : Nat) : (Instr.fieldAt 25 (.pointer (some ⟨b, o, none⟩)) 2).run Tryz.prog w = .ok (.pointer (some ⟨b, o + 2, none⟩)) w := by kernel_rfl
theorem vwcallable6 : Callable Tryz.prog 6 := ⟨_, Tryz.func6, by kernel_rfl, by kernel_rfl⟩
set_option maxRecDepth 100000 in
set_option maxHeartbeats 2000000 in
theorem viewWholeMain0 (W : World) (B : Base) (H : List Res) (w : World) (z1 z2 : Int) (ht : Lib.TabIs Tryz.prog W "internal/strconv.uint64pow10" .u64 Lib.pow10Tab) (hB : (Base.of W).Le B) (hv : Inv B H w) :
    Calls Tryz.prog 3 #[.int .i64 z1, .int .i64 z2] w fun e w' => e = .returned (.bool true) ∧ Inv B H w' := by
  obtain ⟨r, k, hr, hr1, hr2, hrk, hk⟩ := wrap200 z1
  obtain ⟨r9, c9, hr9, hr91, hr92, hrc9, hc9⟩ := wrap9n z2
  refine (callsIn_wide (n := 5)).1 ?_
  refine callsIn_of_wp Tryz.func3 rfl trivial ?_
  simp only [Tryz.ntmps3, List.size_toArray, List.length_cons, List.length_nil, Nat.reduceAdd, Nat.reduceSub, Array.replicate_succ, Array.replicate_zero, List.push_toArray, List.append_toArray, List.nil_append, List.cons_append]
  refine wpIn_seq_k (fun K1 hK1 => ?_)
  refine wpIn_region_lit ?_
  refine wpi_exG (v := .bool false) (fun _ => trivial) (wn rfl) rfl (ex_assign rfl rfl) ?_
  refine wpListIn_nil ?_
  simp only [Act.put, List.setIfInBounds_toArray, List.set_cons_succ, List.set_cons_zero]
  refine then_normal (hK1 _ _ ?_)
  clear hK1 K1
  refine wpIn_seq_k (fun K2 hK2 => ?_)
  refine wpIn_seq_k (fun K3 hK3 => ?_)
  refine wpIn_region_lit ?_
  refine wpi_callG vwcallable4 (fun _ => trivial) wideC rfl (wn rfl) rfl (args := #[]) (by simp only [List.map_toArray, List.map_nil]) ((lawAwake20 _ _ _ hv).mono ?_)
  rintro e w4 ⟨rfl, hv⟩
  refine ⟨_, rfl, ?_⟩
  refine wpi_exG (v := .bool false) (fun _ => trivial) (wn rfl) rfl (ex_not rfl rfl rfl) ?_
  refine wpListIn_nil ?_
  simp only [Act.put, List.setIfInBounds_toArray, List.set_cons_succ, List.set_cons_zero]
  refine then_normal (hK3 _ _ ?_)
  clear hK3 K3
  refine wpIn_cond_false rfl ?_
  refine wpIn_skip ?_
  refine then_normal (hK2 _ _ ?_)
  clear hK2 K2
  refine wpIn_seq_k (fun K5 hK5 => ?_)
  refine wpIn_region_lit ?_
  refine wpi_exG (v := .int .i64 z1) (fun _ => trivial) (wn rfl) rfl (ex_move rfl rfl) ?_
  refine wpi_exG (v := .int .i64 r) (fun _ => trivial) (wn rfl) rfl (ex_rem (m := z1) (n := 200) rfl rfl rfl (by decide) hr) ?_
  refine wpi_exG (v := .int .i64 (r + 200)) (fun _ => trivial) (wn rfl) rfl (ex_add (m := r) (n := 200) rfl rfl rfl (i64_in (by omega))) ?_
  simp only [Act.put, List.setIfInBounds_toArray, List.set_cons_succ, List.set_cons_zero]
  refine wpi_exG (v := .int .i64 (k : Int)) (fun _ => trivial) (wn rfl) rfl (ex_rem (m := (r + 200)) (n := 200) rfl rfl rfl (by decide) hrk) ?_
  refine wpi_exG (v := .int .i64 (k : Int)) (fun _ => trivial) (wn rfl) rfl (ex_assign rfl rfl) ?_
  refine wpListIn_nil ?_
  simp only [Act.put, List.setIfInBounds_toArray, List.set_cons_succ, List.set_cons_zero]
  refine then_normal (hK5 _ _ ?_)
  clear hK5 K5
  refine wpIn_seq_k (fun K6 hK6 => ?_)
  refine wpIn_region_lit ?_
  refine wpi_exG (v := .int .i64 z2) (fun _ => trivial) (wn rfl) rfl (ex_move rfl rfl) ?_
  refine wpi_exG (v := .int .i64 r9) (fun _ => trivial) (wn rfl) rfl (ex_rem (m := z2) (n := 9) rfl rfl rfl (by decide) hr9) ?_
  refine wpi_exG (v := .int .i64 (r9 + 9)) (fun _ => trivial) (wn rfl) rfl (ex_add (m := r9) (n := 9) rfl rfl rfl (i64_in (by omega))) ?_
  simp only [Act.put, List.setIfInBounds_toArray, List.set_cons_succ, List.set_cons_zero]
  refine wpi_exG (v := .int .i64 (c9 : Int)) (fun _ => trivial) (wn rfl) rfl (ex_rem (m := (r9 + 9)) (n := 9) rfl rfl rfl (by decide) hrc9) ?_
  refine wpi_exG (v := .int .i64 ((49 + c9 : Nat) : Int)) (fun _ => trivial) (wn rfl) rfl (ex_add (m := 49) (n := (c9 : Int)) rfl rfl rfl (by rw [i64_in (by omega)]; omega)) ?_
  refine wpi_exG (v := .int .u8 ((UInt8.ofNat (49 + c9)).toNat : Int)) (fun _ => trivial) (wn rfl) rfl (ex_int (m := ((49 + c9 : Nat) : Int)) Tryz.underlying3 Tryz.underlying5 rfl rfl (u8_dig1 c9 hc9)) ?_
  simp only [Act.put, List.setIfInBounds_toArray, List.set_cons_succ, List.set_cons_zero]
  refine sl_rowOne (v := .int .u8 ((UInt8.ofNat (49 + c9)).toNat : Int)) (fun _ => trivial) (wn rfl) rfl rfl hv vwel23 rfl (fun b7 w8 hv => ?_)
  refine wpi_exG (v := .string ⟨[UInt8.ofNat (49 + c9)].toArray⟩) (fun _ => trivial) (wn rfl) rfl (ex_str Tryz.underlying23 Tryz.underlying5 Tryz.underlying9 rfl rfl (bytes_all (l := [UInt8.ofNat (49 + c9)]) (hv.get 0 rfl)) (rfl)) ?_
  refine wpi_exG (v := .string ⟨[UInt8.ofNat (49 + c9)].toArray⟩) (fun _ => trivial) (wn rfl) rfl (ex_assign rfl rfl) ?_
  refine wpListIn_nil ?_
  simp only [Act.put, List.setIfInBounds_toArray, List.set_cons_succ, List.set_cons_zero]
  refine then_normal (hK6 _ _ ?_)
  clear hK6 K6
  refine wpIn_seq_k (fun K9 hK9 => ?_)
  rw [← itoa_one c9 hc9]
  refine wpIn_region_lit ?_
  refine wpi_exG (v := .string ⟨([48] : List UInt8).toArray⟩) (fun _ => trivial) (wn rfl) rfl (ex_assign rfl rfl) ?_
  refine wpListIn_nil ?_
  simp only [Act.put, List.setIfInBounds_toArray, List.set_cons_succ, List.set_cons_zero]
  refine then_normal (hK9 _ _ ?_)
  clear hK9 K9
  refine wpIn_seq_k (fun K10 hK10 => ?_)
  refine wpIn_region_lit ?_
  refine wpi_exG (v := .int .i64 0) (fun _ => trivial) (wn rfl) rfl (ex_assign rfl rfl) ?_
  refine wpListIn_nil ?_
  simp only [Act.put, List.setIfInBounds_toArray, List.set_cons_succ, List.set_cons_zero]
  refine then_normal (hK10 _ _ ?_)
  clear hK10 K10
  refine wpIn_seq_k (fun K11 hK11 => ?_)
  refine wpIn_seq_k (fun K12 hK12 => ?_)
  refine wpIn_region_lit ?_
  refine wpi_exG (v := .int .i64 0) (fun _ => trivial) (wn rfl) rfl (ex_assign rfl rfl) ?_
  refine wpListIn_nil ?_
  simp only [Act.put, List.setIfInBounds_toArray, List.set_cons_succ, List.set_cons_zero]
  refine then_normal (hK12 _ _ ?_)
  clear hK12 K12
  refine wpIn_block ?_
  gi_loopw [7, 8, 9] (fun x7 x8 x9 wr => ∃ (a i : Nat), x7 = .string ⟨(Lib.itoa (a : Int)).toArray⟩ ∧ x8 = .int .i64 (a : Int) ∧ x9 = .int .i64 (i : Int) ∧ a ≤ k ∧ i ≤ a ∧ Inv B H wr) (fun x7 x8 x9 _ => 300 - (intOf x9).toNat)
  case atStart => exact ⟨0, 0, congrArg (fun l : List UInt8 => Value.string ⟨l.toArray⟩) (show ([48] : List UInt8) = Lib.itoa ((0 : Nat) : Int) from by kernel_rfl), rfl, rfl, Nat.zero_le _, Nat.le_refl _, hv.drop⟩
  case round =>
    obtain ⟨a, i, rfl, rfl, rfl, ha, hia, hv⟩ := hrel
    refine wpIn_seq_k (fun K14 hK14 => ?_)
    refine wpIn_seq_k (fun K15 hK15 => ?_)
    refine wpIn_region_lit ?_
    refine wpi_exG (v := .int .i64 (i : Int)) (fun _ => trivial) (wn rfl) rfl (ex_move rfl rfl) ?_
    refine wpi_exG (v := .bool true) (fun _ => trivial) (wn rfl) rfl (ex_lss (k := .i64) (m := (i : Int)) (n := 300) rfl rfl rfl (decide_eq_true (by omega))) ?_
    refine wpListIn_nil ?_
    simp only [Act.put, List.setIfInBounds_toArray, List.set_cons_succ, List.set_cons_zero]
    refine then_normal (hK15 _ _ ?_)
    clear hK15 K15
    refine wpIn_cond_true rfl ?_
    refine wpIn_skip ?_
    refine then_normal (hK14 _ _ ?_)
    clear hK14 K14
    refine wpIn_seq_k (fun K16 hK16 => ?_)
    refine wpIn_block ?_
    refine wpIn_seq_k (fun K17 hK17 => ?_)
    refine wpIn_region_lit ?_
    refine wpi_exG (v := .int .i64 (k : Int)) (fun _ => trivial) (wn rfl) rfl (ex_move rfl rfl) ?_
    refine wpi_exG (v := .string ⟨(Lib.itoa (a : Int)).toArray⟩) (fun _ => trivial) (wn rfl) rfl (ex_move rfl rfl) ?_
    refine wpi_exG (v := .string ⟨(Lib.itoa ((c9 + 1 : Nat) : Int)).toArray⟩) (fun _ => trivial) (wn rfl) rfl (ex_move rfl rfl) ?_
    simp only [Act.put, List.setIfInBounds_toArray, List.set_cons_succ, List.set_cons_zero]
    refine sl_row3 (fun _ => trivial) (wn rfl) rfl rfl rfl rfl hv (e := 9) (fun w => by kernel_rfl) (fun b18 w19 hv => ?_)
    refine wpi_callG vwcallable5 (fun _ => trivial) wideC rfl (wn rfl) rfl (args := #[.int .i64 (k : Int), .slice (some ⟨b18, 0, none⟩) 3 3]) (by simp only [List.map_toArray, List.map_cons, List.map_nil]; rfl) ((vwPages W B _ _ k a (c9 + 1) b18 0 hk ha ⟨by omega, by omega⟩ ht hB rfl hv).mono ?_)
    rintro e w20 ⟨to, nx, rfl, hp1, hp2, hp3, hp4, hv⟩
    refine ⟨_, rfl, ?_⟩
    refine wpi_exG (v := .tuple #[.agg #[.int .i64 (a : Int), .int .i64 (to : Int), .int .i64 (nx : Int), .string ⟨([42] : List UInt8).toArray⟩], .int .i64 0]) (fun _ => trivial) (wn rfl) rfl (ex_move rfl rfl) ?_
    simp only [Act.put, List.setIfInBounds_toArray, List.set_cons_succ, List.set_cons_zero]
    refine wpi_exG (v := .agg #[.int .i64 (a : Int), .int .i64 (to : Int), .int .i64 (nx : Int), .string ⟨([42] : List UInt8).toArray⟩]) (fun _ => trivial) (wn rfl) rfl (ex_extract rfl rfl rfl) ?_
    refine wpi_exG (v := .int .i64 0) (fun _ => trivial) (wn rfl) rfl (ex_extract rfl rfl rfl) ?_
    refine sl_alloc (fun _ => trivial) (wn rfl) rfl hv vwal25 (fun b21 w22 hv => ?_)
    simp only [Act.put, List.setIfInBounds_toArray, List.set_cons_succ, List.set_cons_zero]
    refine sl_storeNAt 0 (new := [.int .i64 (a : Int), .int .i64 (to : Int), .int .i64 (nx : Int), .string ⟨([42] : List UInt8).toArray⟩]) (pre := []) (mid := [.int .i64 0, .int .i64 0, .int .i64 0, .string ⟨([] : List UInt8).toArray⟩]) (post := []) (L' := [.int .i64 (a : Int), .int .i64 (to : Int), .int .i64 (nx : Int), .string ⟨([42] : List UInt8).toArray⟩]) (fun _ => trivial) (wn rfl) rfl rfl rfl hv rfl vwsz25 rfl rfl rfl (one_cons rfl (one_cons rfl (one_cons rfl (one_cons rfl one_nil)))) rfl (fun w23 hv => ?_)
    simp only [List.set_cons_succ, List.set_cons_zero] at hv
    refine wpi_exG (v := .int .i64 0) (fun _ => trivial) (wn rfl) rfl (ex_assign rfl rfl) ?_
    refine wpListIn_nil ?_
    simp only [Act.put, List.setIfInBounds_toArray, List.set_cons_succ, List.set_cons_zero]
    refine then_normal (hK17 _ _ ?_)
    clear hK17 K17
    refine wpIn_seq_k (fun K24 hK24 => ?_)
    refine wpIn_seq_k (fun K25 hK25 => ?_)
    refine wpIn_region_lit ?_
    refine wpi_exG (v := .int .i64 0) (fun _ => trivial) (wn rfl) rfl (ex_move rfl rfl) ?_
    refine wpi_exG (v := .bool false) (fun _ => trivial) (wn rfl) rfl (ex_neq (k := .i64) (m := 0) (n := 0) rfl rfl rfl (by decide)) ?_
    refine wpi_exG (v := .bool false) (fun _ => trivial) (wn rfl) rfl (ex_move rfl rfl) ?_
    simp only [Act.put, List.setIfInBounds_toArray, List.set_cons_succ, List.set_cons_zero]
    refine wpi_exG (v := .pointer (some ⟨b21, 0, none⟩)) (fun _ => trivial) (wanted_of (j := 2) (d := 40) (b := false) rfl rfl rfl) rfl (ex_field rfl rfl (vwfa25_0 _ _ _)) ?_
    refine wpi_exG (v := .int .i64 (a : Int)) (fun _ => trivial) (wanted_of (j := 2) (d := 40) (b := false) rfl rfl rfl) rfl (ex_load rfl rfl (run_load1 vwna3 (hv.load 0 0 rfl rfl))) ?_
    refine wpi_exG (v := .int .i64 (a : Int)) (fun _ => trivial) (wanted_of (j := 2) (d := 40) (b := false) rfl rfl rfl) rfl (ex_move rfl rfl) ?_
    simp only [Act.put, List.setIfInBounds_toArray, List.set_cons_succ, List.set_cons_zero]
    refine wpi_exG (v := .bool false) (fun _ => trivial) (wanted_of (j := 2) (d := 40) (b := false) rfl rfl rfl) rfl (ex_neq (k := .i64) (m := (a : Int)) (n := (a : Int)) rfl rfl rfl (decide_eq_false (by simp))) ?_
    refine wpi_exG (v := .bool false) (fun _ => trivial) (wn rfl) rfl (ex_pick (b := false) rfl rfl rfl) ?_
    refine wpi_exG (v := .bool false) (fun _ => trivial) (wn rfl) rfl (ex_move rfl rfl) ?_
    simp only [Act.put, List.setIfInBounds_toArray, List.set_cons_succ, List.set_cons_zero]
    refine wpi_exG (v := .pointer (some ⟨b21, 1, none⟩)) (fun _ => trivial) (wanted_of (j := 8) (d := 46) (b := false) rfl rfl rfl) rfl (ex_field rfl rfl (vwfa25_1 _ _ _)) ?_
    refine wpi_exG (v := .int .i64 (to : Int)) (fun _ => trivial) (wanted_of (j := 8) (d := 46) (b := false) rfl rfl rfl) rfl (ex_load rfl rfl (run_load1 vwna3 (hv.load 0 1 rfl rfl))) ?_
    refine wpi_exG (v := .pointer (some ⟨b21, 0, none⟩)) (fun _ => trivial) (wanted_of (j := 8) (d := 46) (b := false) rfl rfl rfl) rfl (ex_field rfl rfl (vwfa25_0 _ _ _)) ?_
    simp only [Act.put, List.setIfInBounds_toArray, List.set_cons_succ, List.set_cons_zero]
    refine wpi_exG (v := .int .i64 (a : Int)) (fun _ => trivial) (wanted_of (j := 8) (d := 46) (b := false) rfl rfl rfl) rfl (ex_load rfl rfl (run_load1 vwna3 (hv.load 0 0 rfl rfl))) ?_
    refine wpi_exG (v := .bool false) (fun _ => trivial) (wanted_of (j := 8) (d := 46) (b := false) rfl rfl rfl) rfl (ex_lss (k := .i64) (m := (to : Int)) (n := (a : Int)) rfl rfl rfl (decide_eq_false (by omega))) ?_
    refine wpi_exG (v := .bool false) (fun _ => trivial) (wn rfl) rfl (ex_pick (b := false) rfl rfl rfl) ?_
    simp only [Act.put, List.setIfInBounds_toArray, List.set_cons_succ, List.set_cons_zero]
    refine wpi_exG (v := .bool false) (fun _ => trivial) (wn rfl) rfl (ex_move rfl rfl) ?_
    refine wpi_exG (v := .pointer (some ⟨b21, 1, none⟩)) (fun _ => trivial) (wanted_of (j := 15) (d := 53) (b := false) rfl rfl rfl) rfl (ex_field rfl rfl (vwfa25_1 _ _ _)) ?_
    refine wpi_exG (v := .int .i64 (to : Int)) (fun _ => trivial) (wanted_of (j := 15) (d := 53) (b := false) rfl rfl rfl) rfl (ex_load rfl rfl (run_load1 vwna3 (hv.load 0 1 rfl rfl))) ?_
    simp only [Act.put, List.setIfInBounds_toArray, List.set_cons_succ, List.set_cons_zero]
    refine wpi_exG (v := .int .i64 (k : Int)) (fun _ => trivial) (wanted_of (j := 15) (d := 53) (b := false) rfl rfl rfl) rfl (ex_move rfl rfl) ?_
    refine wpi_exG (v := .bool false) (fun _ => trivial) (wanted_of (j := 15) (d := 53) (b := false) rfl rfl rfl) rfl (ex_gtr (k := .i64) (m := (to : Int)) (n := (k : Int)) rfl rfl rfl (decide_eq_false (by omega))) ?_
    refine wpi_exG (v := .bool false) (fun _ => trivial) (wn rfl) rfl (ex_pick (b := false) rfl rfl rfl) ?_
    refine wpListIn_nil ?_
    simp only [Act.put, List.setIfInBounds_toArray, List.set_cons_succ, List.set_cons_zero]
    refine then_normal (hK25 _ _ ?_)
    clear hK25 K25
    refine wpIn_cond_false rfl ?_
    refine wpIn_skip ?_
    refine then_normal (hK24 _ _ ?_)
    clear hK24 K24
    refine wpIn_seq_k (fun K26 hK26 => ?_)
    refine wpIn_seq_k (fun K27 hK27 => ?_)
    refine wpIn_region_lit ?_
    refine wpi_exG (v := .pointer (some ⟨b21, 2, none⟩)) (fun _ => trivial) (wn rfl) rfl (ex_field rfl rfl (vwfa25_2 _ _ _)) ?_
    refine wpi_exG (v := .int .i64 (nx : Int)) (fun _ => trivial) (wn rfl) rfl (ex_load rfl rfl (run_load1 vwna3 (hv.load 0 2 rfl rfl))) ?_
    by_cases hb28 : (nx : Int) = 0
    · refine wpi_exG (v := .bool true) (fun _ => trivial) (wn rfl) rfl (ex_eql (k := .i64) (m := (nx : Int)) (n := 0) rfl rfl rfl (decide_eq_true hb28)) ?_
      refine wpListIn_nil ?_
      simp only [Act.put, List.setIfInBounds_toArray, List.set_cons_succ, List.set_cons_zero]
      refine then_normal (hK27 _ _ ?_)
      clear hK27 K27
      refine wpIn_cond_true rfl ?_
      refine wpIn_seq_k (fun K29 hK29 => ?_)
      refine wpIn_region_lit ?_
      refine wpi_exG (v := .pointer (some ⟨b21, 1, none⟩)) (fun _ => trivial) (wn rfl) rfl (ex_field rfl rfl (vwfa25_1 _ _ _)) ?_
      refine wpi_exG (v := .int .i64 (to : Int)) (fun _ => trivial) (wn rfl) rfl (ex_load rfl rfl (run_load1 vwna3 (hv.load 0 1 rfl rfl))) ?_
      refine wpi_exG (v := .int .i64 (k : Int)) (fun _ => trivial) (wn rfl) rfl (ex_move rfl rfl) ?_
      simp only [Act.put, List.setIfInBounds_toArray, List.set_cons_succ, List.set_cons_zero]
      refine wpi_exG (v := .bool true) (fun _ => trivial) (wn rfl) rfl (ex_eql (k := .i64) (m := (to : Int)) (n := (k : Int)) rfl rfl rfl (decide_eq_true (by omega))) ?_
      refine wpi_exG (v := .bool true) (fun _ => trivial) (wn rfl) rfl (ex_assign rfl rfl) ?_
      refine wpListIn_nil ?_
      simp only [Act.put, List.setIfInBounds_toArray, List.set_cons_succ, List.set_cons_zero]
      refine then_normal (hK29 _ _ ?_)
      clear hK29 K29
      refine wpIn_ret ?_
      refine then_ret ?_
      clear hK26 K26
      refine blk_ret ?_
      refine then_ret ?_
      clear hK16 K16
      refine then_ret ?_
      refine blk_ret ?_
      refine then_ret ?_
      clear hK11 K11
      refine bodyPost_ret (results_tmp rfl _ _ _) rfl ?_
      exact ⟨rfl, (hv.sub (List.Sublist.cons _ (List.Sublist.cons _ (List.Sublist.refl _))))⟩
    · refine wpi_exG (v := .bool false) (fun _ => trivial) (wn rfl) rfl (ex_eql (k := .i64) (m := (nx : Int)) (n := 0) rfl rfl rfl (decide_eq_false hb28)) ?_
      have hnx : to = nx := by omega
      subst hnx
      refine wpListIn_nil ?_
      simp only [Act.put, List.setIfInBounds_toArray, List.set_cons_succ, List.set_cons_zero]
      refine then_normal (hK27 _ _ ?_)
      clear hK27 K27
      refine wpIn_cond_false rfl ?_
      refine wpIn_skip ?_
      refine then_normal (hK26 _ _ ?_)
      clear hK26 K26
      refine wpIn_seq_k (fun K30 hK30 => ?_)
      refine wpIn_seq_k (fun K31 hK31 => ?_)
      refine wpIn_region_lit ?_
      refine wpi_exG (v := .pointer (some ⟨b21, 2, none⟩)) (fun _ => trivial) (wn rfl) rfl (ex_field rfl rfl (vwfa25_2 _ _ _)) ?_
      refine wpi_exG (v := .int .i64 (to : Int)) (fun _ => trivial) (wn rfl) rfl (ex_load rfl rfl (run_load1 vwna3 (hv.load 0 2 rfl rfl))) ?_
      refine wpi_exG (v := .pointer (some ⟨b21, 1, none⟩)) (fun _ => trivial) (wn rfl) rfl (ex_field rfl rfl (vwfa25_1 _ _ _)) ?_
      simp only [Act.put, List.setIfInBounds_toArray, List.set_cons_succ, List.set_cons_zero]
      refine wpi_exG (v := .int .i64 (to : Int)) (fun _ => trivial) (wn rfl) rfl (ex_load rfl rfl (run_load1 vwna3 (hv.load 0 1 rfl rfl))) ?_
      refine wpi_exG (v := .bool false) (fun _ => trivial) (wn rfl) rfl (ex_neq (k := .i64) (m := (to : Int)) (n := (to : Int)) rfl rfl rfl (decide_eq_false (by simp))) ?_
      refine wpi_exG (v := .bool false) (fun _ => trivial) (wn rfl) rfl (ex_move rfl rfl) ?_
      simp only [Act.put, List.setIfInBounds_toArray, List.set_cons_succ, List.set_cons_zero]
      refine wpi_exG (v := .pointer (some ⟨b21, 1, none⟩)) (fun _ => trivial) (wanted_of (j := 5) (d := 71) (b := false) rfl rfl rfl) rfl (ex_field rfl rfl (vwfa25_1 _ _ _)) ?_
      refine wpi_exG (v := .int .i64 (to : Int)) (fun _ => trivial) (wanted_of (j := 5) (d := 71) (b := false) rfl rfl rfl) rfl (ex_load rfl rfl (run_load1 vwna3 (hv.load 0 1 rfl rfl))) ?_
      refine wpi_exG (v := .pointer (some ⟨b21, 0, none⟩)) (fun _ => trivial) (wanted_of (j := 5) (d := 71) (b := false) rfl rfl rfl) rfl (ex_field rfl rfl (vwfa25_0 _ _ _)) ?_
      simp only [Act.put, List.setIfInBounds_toArray, List.set_cons_succ, List.set_cons_zero]
      refine wpi_exG (v := .int .i64 (a : Int)) (fun _ => trivial) (wanted_of (j := 5) (d := 71) (b := false) rfl rfl rfl) rfl (ex_load rfl rfl (run_load1 vwna3 (hv.load 0 0 rfl rfl))) ?_
      refine wpi_exG (v := .bool false) (fun _ => trivial) (wanted_of (j := 5) (d := 71) (b := false) rfl rfl rfl) rfl (ex_eql (k := .i64) (m := (to : Int)) (n := (a : Int)) rfl rfl rfl (decide_eq_false (by omega))) ?_
      refine wpi_exG (v := .bool false) (fun _ => trivial) (wn rfl) rfl (ex_pick (b := false) rfl rfl rfl) ?_
      refine wpListIn_nil ?_
      simp only [Act.put, List.setIfInBounds_toArray, List.set_cons_succ, List.set_cons_zero]
      refine then_normal (hK31 _ _ ?_)
      clear hK31 K31
      refine wpIn_cond_false rfl ?_
      refine wpIn_skip ?_
      refine then_normal (hK30 _ _ ?_)
      clear hK30 K30
      refine wpIn_seq_k (fun K32 hK32 => ?_)
      refine wpIn_region_lit ?_
      refine wpi_exG (v := .pointer (some ⟨b21, 1, none⟩)) (fun _ => trivial) (wn rfl) rfl (ex_field rfl rfl (vwfa25_1 _ _ _)) ?_
      refine wpi_exG (v := .int .i64 (to : Int)) (fun _ => trivial) (wn rfl) rfl (ex_load rfl rfl (run_load1 vwna3 (hv.load 0 1 rfl rfl))) ?_
      refine wpi_exG (v := .int .i64 (to : Int)) (fun _ => trivial) (wn rfl) rfl (ex_assign rfl rfl) ?_
      refine wpListIn_nil ?_
      simp only [Act.put, List.setIfInBounds_toArray, List.set_cons_succ, List.set_cons_zero]
      refine then_normal (hK32 _ _ ?_)
      clear hK32 K32
      refine wpIn_region_lit ?_
      refine wpi_exG (v := .pointer (some ⟨b21, 2, none⟩)) (fun _ => trivial) (wn rfl) rfl (ex_field rfl rfl (vwfa25_2 _ _ _)) ?_
      refine wpi_exG (v := .int .i64 (to : Int)) (fun _ => trivial) (wn rfl) rfl (ex_load rfl rfl (run_load1 vwna3 (hv.load 0 2 rfl rfl))) ?_
      refine wpi_callG vwcallable6 (fun _ => trivial) wideC rfl (wn rfl) rfl (args := #[.int .i64 (to : Int)]) (by simp only [List.map_toArray, List.map_cons, List.map_nil]; rfl) ((lawDigits _ _ _ to (by omega) (by omega) hv).mono ?_)
      rintro e w33 ⟨rfl, hv⟩
      refine ⟨_, rfl, ?_⟩
      simp only [Act.put, List.setIfInBounds_toArray, List.set_cons_succ, List.set_cons_zero]
      refine wpi_exG (v := .string ⟨(Lib.itoa (to : Int)).toArray⟩) (fun _ => trivial) (wn rfl) rfl (ex_assign rfl rfl) ?_
      refine wpListIn_nil ?_
      simp only [Act.put, List.setIfInBounds_toArray, List.set_cons_succ, List.set_cons_zero]
      refine blk_normal ?_
      refine then_normal (hK16 _ _ ?_)
      clear hK16 K16
      refine wpIn_region_lit ?_
      refine wpi_exG (v := .int .i64 (i : Int)) (fun _ => trivial) (wn rfl) rfl (ex_move rfl rfl) ?_
      refine wpi_exG (v := .int .i64 ((i + 1 : Nat) : Int)) (fun _ => trivial) (wn rfl) rfl (ex_add (m := (i : Int)) (n := 1) rfl rfl rfl (by rw [i64_in (by omega)]; omega)) ?_
      refine wpi_exG (v := .int .i64 ((i + 1 : Nat) : Int)) (fun _ => trivial) (wn rfl) rfl (ex_assign rfl rfl) ?_
      refine wpListIn_nil ?_
      simp only [Act.put, List.setIfInBounds_toArray, List.set_cons_succ, List.set_cons_zero]
      refine then_normal ?_
      go_roundw
      case rel => exact ⟨to, i + 1, rfl, rfl, rfl, hp2, by omega, hv.drop.drop⟩
      case measure => show 300 - (((i + 1 : Nat) : Int)).toNat < 300 - ((i : Int)).toNat; omega
end Go.Proofs.YtffmbdagjpdieaaGreatDoor
