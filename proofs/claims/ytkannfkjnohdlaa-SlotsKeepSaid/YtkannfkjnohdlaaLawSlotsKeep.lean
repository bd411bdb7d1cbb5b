/- SlotsKeep -/
import Derived.Test.YtkannfkjnohdlaaKeepArgs
namespace Go.Proofs.Ytkannfkjnohdlaa
open Go.RowKit Go.Pm
theorem zero_len (n : Nat) : (Disk.zero n).dur.length = n := List.length_replicate
theorem zero_tick (n : Nat) : (Disk.zero n).tick = Disk.zero n := rfl
theorem crash_tick (D : Disk) (ks : List Int) : (D.crash ks).tick = D.crash ks := rfl
theorem same_refl (st : Int) (b : List UInt8) : (decide (st = st) && decide (b = b)) = true := by simp

theorem skcallable27 : Callable Try.prog 27 := ⟨_, Try.func27, by kernel_rfl, by kernel_rfl⟩
theorem skcallable21 : Callable Try.prog 21 := ⟨_, Try.func21, by kernel_rfl, by kernel_rfl⟩
theorem skcallable30 : Callable Try.prog 30 := ⟨_, Try.func30, by kernel_rfl, by kernel_rfl⟩
theorem skal55 (w : World) : (Instr.alloc 55 true (.tuple #[])).run Try.prog w = .ok (.pointer (some ⟨w.heap.size, 0, none⟩)) (w.alloc (.cells ([.int .i64 0, .slice none 0 0] : List Value).toArray 55)) := by kernel_rfl
theorem sksz55 : (Try.prog.info? 55).map (·.size) = some 2 := by kernel_rfl
theorem skal69 (w : World) : (Instr.alloc 69 true (.tuple #[])).run Try.prog w = .ok (.pointer (some ⟨w.heap.size, 0, none⟩)) (w.alloc (.cells ([.int .i64 0, .int .i64 0, .int .i64 0, .slice none 0 0, .slice none 0 0] : List Value).toArray 69)) := by kernel_rfl
theorem sksz69 : (Try.prog.info? 69).map (·.size) = some 5 := by kernel_rfl
theorem skes67 (w : World) : (sizeOf (Try.prog.elem 67)).run Try.prog w = .ok 5 w := by kernel_rfl
theorem skwd69 : Wide Try.prog 69 5 := wide_of (fun w => by kernel_rfl) (by kernel_rfl)
theorem skfa69_2 (w : World) (b o : Nat) : (Instr.fieldAt 69 (.pointer (some ⟨b, o, none⟩)) 2).run Try.prog w = .ok (.pointer (some ⟨b, o + 2, none⟩)) w := by kernel_rfl
theorem skfa55_1 (w : World) (b o : Nat) : (Instr.fieldAt 55 (.pointer (some ⟨b, o, none⟩)) 1).run Try.prog w = .ok (.pointer (some ⟨b, o + 1, none⟩)) w := by kernel_rfl
theorem skna24 (w : World) : (isAgg 24).run Try.prog w = .ok false w := by kernel_rfl
theorem skfa69_3 (w : World) (b o : Nat) : (Instr.fieldAt 69 (.pointer (some ⟨b, o, none⟩)) 3).run Try.prog w = .ok (.pointer (some ⟨b, o + 4, none⟩)) w := by kernel_rfl
theorem skna44 (w : World) : (isAgg 44).run Try.prog w = .ok false w := by kernel_rfl
theorem skfa69_0 (w : World) (b o : Nat) : (Instr.fieldAt 69 (.pointer (some ⟨b, o, none⟩)) 0).run Try.prog w = .ok (.pointer (some ⟨b, o + 0, none⟩)) w := by kernel_rfl
theorem skna3 (w : World) : (isAgg 3).run Try.prog w = .ok false w := by kernel_rfl
theorem skwd55 : Wide Try.prog 55 2 := wide_of (fun w => by kernel_rfl) (by kernel_rfl)
theorem skcallable36 : Callable Try.prog 36 := ⟨_, Try.func36, by kernel_rfl, by kernel_rfl⟩
theorem skfa69_1 (w : World) (b o : Nat) : (Instr.fieldAt 69 (.pointer (some ⟨b, o, none⟩)) 1).run Try.prog w = .ok (.pointer (some ⟨b, o + 1, none⟩)) w := by kernel_rfl
theorem skcallable37 : Callable Try.prog 37 := ⟨_, Try.func37, by kernel_rfl, by kernel_rfl⟩
theorem skcallable25 : Callable Try.prog 25 := ⟨_, Try.func25, by kernel_rfl, by kernel_rfl⟩
theorem skcallable32 : Callable Try.prog 32 := ⟨_, Try.func32, by kernel_rfl, by kernel_rfl⟩
set_option maxRecDepth 100000 in
set_option maxHeartbeats 4000000 in
theorem slotsKeepMain (B : Base) (H : List Res) (w : World) (z : Int) (a : Option Addr) (m ca : Nat) (hacts : RdActs8 B a m) (hv : Inv B H w) :
    Calls Try.prog 11 #[.int .i64 z, .slice a m ca] w fun e w' => e = .returned (.bool true) ∧ Inv B H w' := by
  obtain ⟨r, n, hr, hra, hrb, hrn, hn1, hn2⟩ := wrap12 z
  refine (callsIn_wide (n := 5)).1 ?_
  refine callsIn_of_wp Try.func11 rfl trivial ?_
  simp only [Try.ntmps11, List.size_toArray, List.length_cons, List.length_nil, Nat.reduceAdd, Nat.reduceSub, Array.replicate_succ, Array.replicate_zero, List.push_toArray, List.append_toArray, List.nil_append, List.cons_append]
  refine wpIn_seq_k (fun K1 hK1 => ?_)
  refine wpIn_region_lit ?_
  refine wpi_exG (v := .bool false) (fun _ => trivial) (wn rfl) rfl (ex_assign rfl rfl) ?_
  refine wpListIn_nil ?_
  simp only [Act.put, List.setIfInBounds_toArray, List.set_cons_succ, List.set_cons_zero]
  refine then_normal (hK1 _ _ ?_)
  clear hK1 K1
  refine wpIn_seq_k (fun K2 hK2 => ?_)
  refine wpIn_seq_k (fun K3 hK3 => ?_)
  refine wpIn_region_lit ?_
  refine wpi_callG skcallable27 (fun _ => trivial) wideC rfl (wn rfl) rfl (args := #[]) (by simp only [List.map_toArray, List.map_nil]) ((lawAwake08 _ _ _ hv).mono ?_)
  rintro e w4 ⟨rfl, hv⟩
  refine ⟨_, rfl, ?_⟩
  refine wpi_exG (v := .bool false) (fun _ => trivial) (wn rfl) rfl (ex_not rfl rfl rfl) ?_
  refine wpi_exG (v := .bool false) (fun _ => trivial) (wn rfl) rfl (ex_move rfl rfl) ?_
  simp only [Act.put, List.setIfInBounds_toArray, List.set_cons_succ, List.set_cons_zero]
  refine wpi_exG (v := .slice a m ca) (fun _ => trivial) (wanted_of (j := 2) (d := 25) (b := false) rfl rfl rfl) rfl (ex_move rfl rfl) ?_
  refine wpi_exG (v := .int .i64 (m : Int)) (fun _ => trivial) (wanted_of (j := 2) (d := 25) (b := false) rfl rfl rfl) rfl (ex_len0 Try.underlying67 rfl rfl) ?_
  by_cases hb5 : (m : Int) > 30
  · refine wpi_exG (v := .bool true) (fun _ => trivial) (wanted_of (j := 2) (d := 25) (b := false) rfl rfl rfl) rfl (ex_gtr (k := .i64) (m := (m : Int)) (n := 30) rfl rfl rfl (decide_eq_true hb5)) ?_
    simp only [Act.put, List.setIfInBounds_toArray, List.set_cons_succ, List.set_cons_zero]
    refine wpi_exG (v := .bool true) (fun _ => trivial) (wn rfl) rfl (ex_pick (b := false) rfl rfl rfl) ?_
    refine wpListIn_nil ?_
    simp only [Act.put, List.setIfInBounds_toArray, List.set_cons_succ, List.set_cons_zero]
    refine then_normal (hK3 _ _ ?_)
    clear hK3 K3
    refine wpIn_cond_true rfl ?_
    refine wpIn_seq_k (fun K6 hK6 => ?_)
    refine wpIn_region_lit ?_
    refine wpi_callG skcallable27 (fun _ => trivial) wideC rfl (wn rfl) rfl (args := #[]) (by simp only [List.map_toArray, List.map_nil]) ((lawAwake08 _ _ _ hv).mono ?_)
    rintro e w7 ⟨rfl, hv⟩
    refine ⟨_, rfl, ?_⟩
    refine wpi_exG (v := .bool true) (fun _ => trivial) (wn rfl) rfl (ex_assign rfl rfl) ?_
    refine wpListIn_nil ?_
    simp only [Act.put, List.setIfInBounds_toArray, List.set_cons_succ, List.set_cons_zero]
    refine then_normal (hK6 _ _ ?_)
    clear hK6 K6
    refine wpIn_ret ?_
    refine then_ret ?_
    clear hK2 K2
    refine bodyPost_ret (results_tmp rfl _ _ _) rfl ?_
    exact ⟨rfl, hv.tail 0⟩
  · refine wpi_exG (v := .bool false) (fun _ => trivial) (wanted_of (j := 2) (d := 25) (b := false) rfl rfl rfl) rfl (ex_gtr (k := .i64) (m := (m : Int)) (n := 30) rfl rfl rfl (decide_eq_false hb5)) ?_
    simp only [Act.put, List.setIfInBounds_toArray, List.set_cons_succ, List.set_cons_zero]
    refine wpi_exG (v := .bool false) (fun _ => trivial) (wn rfl) rfl (ex_pick (b := false) rfl rfl rfl) ?_
    refine wpListIn_nil ?_
    simp only [Act.put, List.setIfInBounds_toArray, List.set_cons_succ, List.set_cons_zero]
    refine then_normal (hK3 _ _ ?_)
    clear hK3 K3
    refine wpIn_cond_false rfl ?_
    refine wpIn_skip ?_
    refine then_normal (hK2 _ _ ?_)
    clear hK2 K2
    refine wpIn_seq_k (fun K8 hK8 => ?_)
    refine wpIn_region_lit ?_
    refine wpi_exG (v := .int .i64 z) (fun _ => trivial) (wn rfl) rfl (ex_move rfl rfl) ?_
    refine wpi_exG (v := .int .i64 r) (fun _ => trivial) (wn rfl) rfl (ex_rem (m := z) (n := 12) rfl rfl rfl (by decide) hr) ?_
    refine wpi_exG (v := .int .i64 (r + 12)) (fun _ => trivial) (wn rfl) rfl (ex_add (m := r) (n := 12) rfl rfl rfl (i64_in (by omega))) ?_
    simp only [Act.put, List.setIfInBounds_toArray, List.set_cons_succ, List.set_cons_zero]
    refine wpi_exG (v := .int .i64 ((n : Int) - 1)) (fun _ => trivial) (wn rfl) rfl (ex_rem (m := (r + 12)) (n := 12) rfl rfl rfl (by decide) hrn) ?_
    refine wpi_exG (v := .int .i64 (n : Int)) (fun _ => trivial) (wn rfl) rfl (ex_add (m := 1) (n := ((n : Int) - 1)) rfl rfl rfl (by rw [i64_in (by omega)]; omega)) ?_
    refine wpi_exG (v := .int .i64 (n : Int)) (fun _ => trivial) (wn rfl) rfl (ex_assign rfl rfl) ?_
    refine wpListIn_nil ?_
    simp only [Act.put, List.setIfInBounds_toArray, List.set_cons_succ, List.set_cons_zero]
    refine then_normal (hK8 _ _ ?_)
    clear hK8 K8
    refine wpIn_seq_k (fun K9 hK9 => ?_)
    refine wpIn_region_lit ?_
    refine wpi_exG (v := .int .i64 (n : Int)) (fun _ => trivial) (wn rfl) rfl (ex_move rfl rfl) ?_
    refine wpi_exG (v := .int .i64 ((2 * n : Nat) : Int)) (fun _ => trivial) (wn rfl) rfl (ex_mul (m := 2) (n := (n : Int)) rfl rfl rfl (by rw [i64_in (by omega)]; omega)) ?_
    refine wpi_callG skcallable21 (fun _ => trivial) wideC rfl (wn rfl) rfl (args := #[.int .i64 ((2 * n : Nat) : Int)]) (by simp only [List.map_toArray, List.map_cons, List.map_nil]; rfl) ((diskNewSl _ _ _ (2 * n) (by omega) (by omega) hv).mono ?_)
    rintro e w12 ⟨p10, F11, rfl, hv⟩
    refine ⟨_, rfl, ?_⟩
    simp only [Act.put, List.setIfInBounds_toArray, List.set_cons_succ, List.set_cons_zero]
    refine wpi_exG (v := .tuple #[.pointer (some ⟨p10, 0, none⟩), .int .i64 0]) (fun _ => trivial) (wn rfl) rfl (ex_move rfl rfl) ?_
    refine wpi_exG (v := .pointer (some ⟨p10, 0, none⟩)) (fun _ => trivial) (wn rfl) rfl (ex_extract rfl rfl rfl) ?_
    refine wpi_exG (v := .int .i64 0) (fun _ => trivial) (wn rfl) rfl (ex_extract rfl rfl rfl) ?_
    simp only [Act.put, List.setIfInBounds_toArray, List.set_cons_succ, List.set_cons_zero]
    refine wpi_exG (v := .pointer (some ⟨p10, 0, none⟩)) (fun _ => trivial) (wn rfl) rfl (ex_assign rfl rfl) ?_
    refine wpi_exG (v := .int .i64 0) (fun _ => trivial) (wn rfl) rfl (ex_assign rfl rfl) ?_
    refine wpListIn_nil ?_
    simp only [Act.put, List.setIfInBounds_toArray, List.set_cons_succ, List.set_cons_zero]
    refine then_normal (hK9 _ _ ?_)
    clear hK9 K9
    refine wpIn_seq_k (fun K13 hK13 => ?_)
    refine wpIn_seq_k (fun K14 hK14 => ?_)
    refine wpIn_region_lit ?_
    refine wpi_exG (v := .pointer (some ⟨p10, 0, none⟩)) (fun _ => trivial) (wn rfl) rfl (ex_move rfl rfl) ?_
    refine wpi_exG (v := .bool false) (fun _ => trivial) (wn rfl) rfl (ex_pisnil Try.underlying36 rfl rfl rfl rfl) ?_
    refine wpListIn_nil ?_
    simp only [Act.put, List.setIfInBounds_toArray, List.set_cons_succ, List.set_cons_zero]
    refine then_normal (hK14 _ _ ?_)
    clear hK14 K14
    refine wpIn_cond_false rfl ?_
    refine wpIn_skip ?_
    refine then_normal (hK13 _ _ ?_)
    clear hK13 K13
    refine wpIn_seq_k (fun K15 hK15 => ?_)
    refine wpIn_region_lit ?_
    refine wpi_exG (v := .pointer (some ⟨p10, 0, none⟩)) (fun _ => trivial) (wn rfl) rfl (ex_move rfl rfl) ?_
    refine wpi_exG (v := .int .i64 (n : Int)) (fun _ => trivial) (wn rfl) rfl (ex_move rfl rfl) ?_
    have hKH := khead_zero hn1
    refine wpi_callG skcallable30 (fun _ => trivial) wideC rfl (wn rfl) rfl (args := #[.pointer (some ⟨p10, 0, none⟩), .int .i64 0, .int .i64 (n : Int)]) (by simp only [List.map_toArray, List.map_cons, List.map_nil]; rfl) ((slotsOpen _ _ _ p10 0 n (Disk.zero (2 * n)) (Disk.zero (2 * n)) _ (zero_tick _) (by show (0 : Nat) ≤ _; omega) (has_of (by omega) (by rw [zero_len]; omega)) (by show (-1 : Int) ≠ 0; decide) (by omega) (by omega) (by rw [zero_len]; omega) (by rw [zero_len]; omega) hv).mono ?_)
    rintro e w21 ⟨q16, cur17, ad18, c19, F20, hcur, rfl, hv⟩
    refine ⟨_, rfl, ?_⟩
    have hokE : Disk.Ok (Disk.zero (2 * n)) := (hv.get 2 rfl : DiskAt _ _ (Disk.zero (2 * n)) _).1
    obtain ⟨hcg, hct, hcb, hch⟩ := hKH.cur hokE rfl hn1 hcur
    rw [hch, hct, hcb]
    simp only [slCells, hcg, hcb] at hv
    replace hv := hv.front 1 rfl
    simp only [List.eraseIdx_cons_succ, List.eraseIdx_cons_zero] at hv
    obtain ⟨B22, hB23, hv, hrx, _⟩ := Inv.rowStays hv
    simp only [Act.put, List.setIfInBounds_toArray, List.set_cons_succ, List.set_cons_zero]
    refine wpi_exG (v := .tuple #[.pointer (some ⟨q16, 0, none⟩), .agg #[.int .i64 0, .slice ad18 (([] : List UInt8).length) c19], .bool false, .int .i64 0]) (fun _ => trivial) (wn rfl) rfl (ex_move rfl rfl) ?_
    refine wpi_exG (v := .pointer (some ⟨q16, 0, none⟩)) (fun _ => trivial) (wn rfl) rfl (ex_extract rfl rfl rfl) ?_
    refine wpi_exG (v := .agg #[.int .i64 0, .slice ad18 (([] : List UInt8).length) c19]) (fun _ => trivial) (wn rfl) rfl (ex_extract rfl rfl rfl) ?_
    simp only [Act.put, List.setIfInBounds_toArray, List.set_cons_succ, List.set_cons_zero]
    refine wpi_exG (v := .bool false) (fun _ => trivial) (wn rfl) rfl (ex_extract rfl rfl rfl) ?_
    refine wpi_exG (v := .int .i64 0) (fun _ => trivial) (wn rfl) rfl (ex_extract rfl rfl rfl) ?_
    refine sl_alloc (fun _ => trivial) (wn rfl) rfl hv skal55 (fun b24 w25 hv => ?_)
    simp only [Act.put, List.setIfInBounds_toArray, List.set_cons_succ, List.set_cons_zero]
    refine wpi_exG (v := .pointer (some ⟨q16, 0, none⟩)) (fun _ => trivial) (wn rfl) rfl (ex_assign rfl rfl) ?_
    refine sl_storeNAt 0 (new := [.int .i64 0, .slice ad18 (([] : List UInt8).length) c19]) (pre := []) (mid := [.int .i64 0, .slice none 0 0]) (post := []) (L' := [.int .i64 0, .slice ad18 (([] : List UInt8).length) c19]) (fun _ => trivial) (wn rfl) rfl rfl rfl hv rfl sksz55 rfl rfl rfl (one_cons rfl (one_cons rfl one_nil)) rfl (fun w26 hv => ?_)
    simp only [List.set_cons_succ, List.set_cons_zero] at hv
    refine wpi_exG (v := .bool false) (fun _ => trivial) (wn rfl) rfl (ex_assign rfl rfl) ?_
    simp only [Act.put, List.setIfInBounds_toArray, List.set_cons_succ, List.set_cons_zero]
    refine wpi_exG (v := .int .i64 0) (fun _ => trivial) (wn rfl) rfl (ex_assign rfl rfl) ?_
    refine wpListIn_nil ?_
    simp only [Act.put, List.setIfInBounds_toArray, List.set_cons_succ, List.set_cons_zero]
    refine then_normal (hK15 _ _ ?_)
    clear hK15 K15
    refine wpIn_seq_k (fun K27 hK27 => ?_)
    refine wpIn_seq_k (fun K28 hK28 => ?_)
    refine wpIn_region_lit ?_
    refine wpi_exG (v := .pointer (some ⟨q16, 0, none⟩)) (fun _ => trivial) (wn rfl) rfl (ex_move rfl rfl) ?_
    refine wpi_exG (v := .bool false) (fun _ => trivial) (wn rfl) rfl (ex_pisnil Try.underlying53 rfl rfl rfl rfl) ?_
    refine wpListIn_nil ?_
    simp only [Act.put, List.setIfInBounds_toArray, List.set_cons_succ, List.set_cons_zero]
    refine then_normal (hK28 _ _ ?_)
    clear hK28 K28
    refine wpIn_cond_false rfl ?_
    refine wpIn_skip ?_
    refine then_normal (hK27 _ _ ?_)
    clear hK27 K27
    refine wpIn_seq_k (fun K29 hK29 => ?_)
    refine wpIn_region_lit ?_
    refine sl_alloc (fun _ => trivial) (wn rfl) rfl hv skal55 (fun b30 w31 hv => ?_)
    refine sl_alloc (fun _ => trivial) (wn rfl) rfl hv skal55 (fun b32 w33 hv => ?_)
    refine wpListIn_nil ?_
    simp only [Act.put, List.setIfInBounds_toArray, List.set_cons_succ, List.set_cons_zero]
    refine then_normal (hK29 _ _ ?_)
    clear hK29 K29
    refine wpIn_seq_k (fun K34 hK34 => ?_)
    refine wpIn_region_lit ?_
    refine wpi_exG (v := .bool false) (fun _ => trivial) (wn rfl) rfl (ex_assign rfl rfl) ?_
    refine wpi_exG (v := .bool false) (fun _ => trivial) (wn rfl) rfl (ex_assign rfl rfl) ?_
    refine wpListIn_nil ?_
    simp only [Act.put, List.setIfInBounds_toArray, List.set_cons_succ, List.set_cons_zero]
    refine then_normal (hK34 _ _ ?_)
    clear hK34 K34
    refine wpIn_seq_k (fun K35 hK35 => ?_)
    refine wpIn_seq_k (fun K36 hK36 => ?_)
    refine wpIn_region_lit ?_
    refine wpi_exG (v := .int .i64 0) (fun _ => trivial) (wn rfl) rfl (ex_assign rfl rfl) ?_
    refine wpListIn_nil ?_
    simp only [Act.put, List.setIfInBounds_toArray, List.set_cons_succ, List.set_cons_zero]
    refine then_normal (hK36 _ _ ?_)
    clear hK36 K36
    refine wpIn_block ?_
    gi_loopw [8, 14, 15, 16] (fun x8 x14 x15 x16 wr => ∃ (C : Base) (i ge q : Nat) (D : Disk) (F : List Nat) (fa ha : Bool) (st : Int) (b : List UInt8) (a1 : Option Addr) (c1 : Nat) (ut : Int) (ub : List UInt8) (a2 : Option Addr) (c2 : Nat), B.Le C ∧ x8 = .pointer (some ⟨q, 0, none⟩) ∧ x14 = .bool ha ∧ x15 = .bool fa ∧ x16 = .int .i64 (i : Int) ∧ i ≤ m + 1 ∧ ge ≤ i ∧ KState D n ge fa ha st b ut ub ∧ RdV C [] a1 (b.map B8) ∧ RdV C [] a2 (ub.map B8) ∧ Inv C (Res.cell q [.pointer (some ⟨p10, 0, none⟩), .int .i64 ((0 : Nat) : Int), .int .i64 (n : Int), .int .i64 (ge : Int), .bool fa] 102 :: Res.cell b30 [.int .i64 st, .slice a1 b.length c1] 55 :: Res.cell b32 [.int .i64 ut, .slice a2 ub.length c2] 55 :: diskR p10 D F :: H) wr) (fun x8 x14 x15 x16 _ => m + 1 - (intOf x16).toNat)
    case atStart => exact ⟨_, 0, 0, _, _, _, _, _, _, [], _, _, _, [], _, _, hB23, rfl, rfl, rfl, rfl, by omega, by omega, KState.fresh hKH rfl _ _, rdV_nil, rdV_nil, (((((hv.front 4 rfl).front 1 rfl).front 2 rfl).front 4 rfl).sub (List.Sublist.cons_cons _ (List.Sublist.cons_cons _ (List.Sublist.cons_cons _ (List.Sublist.cons_cons _ (List.Sublist.cons _ (List.Sublist.refl _)))))))⟩
    case round =>
      obtain ⟨C, i, ge, q, D, F, fa, ha, st, b, a1, c1, ut, ub, a2, c2, hBC, rfl, rfl, rfl, rfl, hi, hge, hK, hr1, hr2, hv⟩ := hrel
      refine wpIn_seq_k (fun K38 hK38 => ?_)
      refine wpIn_seq_k (fun K39 hK39 => ?_)
      refine wpIn_region_lit ?_
      refine wpi_exG (v := .int .i64 (i : Int)) (fun _ => trivial) (wn rfl) rfl (ex_move rfl rfl) ?_
      refine wpi_exG (v := .slice a m ca) (fun _ => trivial) (wn rfl) rfl (ex_move rfl rfl) ?_
      refine wpi_exG (v := .int .i64 (m : Int)) (fun _ => trivial) (wn rfl) rfl (ex_len0 Try.underlying67 rfl rfl) ?_
      simp only [Act.put, List.setIfInBounds_toArray, List.set_cons_succ, List.set_cons_zero]
      by_cases hb40 : (i : Int) ≤ (m : Int)
      · refine wpi_exG (v := .bool true) (fun _ => trivial) (wn rfl) rfl (ex_leq (k := .i64) (m := (i : Int)) (n := (m : Int)) rfl rfl rfl (decide_eq_true hb40)) ?_
        refine wpListIn_nil ?_
        simp only [Act.put, List.setIfInBounds_toArray, List.set_cons_succ, List.set_cons_zero]
        refine then_normal (hK39 _ _ ?_)
        clear hK39 K39
        refine wpIn_cond_true rfl ?_
        refine wpIn_skip ?_
        refine then_normal (hK38 _ _ ?_)
        clear hK38 K38
        refine wpIn_seq_k (fun K41 hK41 => ?_)
        refine wpIn_block ?_
        refine wpIn_seq_k (fun K42 hK42 => ?_)
        refine wpIn_region_lit ?_
        refine wpi_exG (v := .agg #[.int .i64 2, .int .i64 0, .int .i64 0, .slice none 0 0, .slice none 0 0]) (fun _ => trivial) (wn rfl) rfl (ex_buildN (vs := #[(0, .int .i64 2)]) rfl (by simp only [List.map_toArray, List.map_cons, List.map_nil]; rfl) (by kernel_rfl)) ?_
        refine sl_alloc (fun _ => trivial) (wn rfl) rfl hv skal69 (fun b43 w44 hv => ?_)
        refine sl_storeNAt 0 (new := [.int .i64 2, .int .i64 0, .int .i64 0, .slice none 0 0, .slice none 0 0]) (pre := []) (mid := [.int .i64 0, .int .i64 0, .int .i64 0, .slice none 0 0, .slice none 0 0]) (post := []) (L' := [.int .i64 2, .int .i64 0, .int .i64 0, .slice none 0 0, .slice none 0 0]) (fun _ => trivial) (wn rfl) rfl rfl rfl hv rfl sksz69 rfl rfl rfl (one_cons rfl (one_cons rfl (one_cons rfl (one_cons rfl (one_cons rfl one_nil))))) rfl (fun w45 hv => ?_)
        simp only [List.set_cons_succ, List.set_cons_zero] at hv
        refine wpListIn_nil ?_
        simp only [Act.put, List.setIfInBounds_toArray, List.set_cons_succ, List.set_cons_zero]
        refine then_normal (hK42 _ _ ?_)
        clear hK42 K42
        refine wpIn_seq_k (fun K46 hK46 => ?_)
        refine wpIn_seq_k (fun K47 hK47 => ?_)
        refine wpIn_region_lit ?_
        refine wpi_exG (v := .int .i64 (i : Int)) (fun _ => trivial) (wn rfl) rfl (ex_move rfl rfl) ?_
        refine wpi_exG (v := .slice a m ca) (fun _ => trivial) (wn rfl) rfl (ex_move rfl rfl) ?_
        refine wpi_exG (v := .int .i64 (m : Int)) (fun _ => trivial) (wn rfl) rfl (ex_len0 Try.underlying67 rfl rfl) ?_
        simp only [Act.put, List.setIfInBounds_toArray, List.set_cons_succ, List.set_cons_zero]
        by_cases hb48 : (i : Int) < (m : Int)
        · refine wpi_exG (v := .bool true) (fun _ => trivial) (wn rfl) rfl (ex_lss (k := .i64) (m := (i : Int)) (n := (m : Int)) rfl rfl rfl (decide_eq_true hb48)) ?_
          refine wpListIn_nil ?_
          simp only [Act.put, List.setIfInBounds_toArray, List.set_cons_succ, List.set_cons_zero]
          refine then_normal (hK47 _ _ ?_)
          clear hK47 K47
          refine wpIn_cond_true rfl ?_
          refine wpIn_region_lit ?_
          refine wpi_exG (v := .slice a m ca) (fun _ => trivial) (wn rfl) rfl (ex_move rfl rfl) ?_
          refine wpi_exG (v := .int .i64 (i : Int)) (fun _ => trivial) (wn rfl) rfl (ex_move rfl rfl) ?_
          obtain ⟨rb, roff, kd, nn, xs, xb, ks, ax, cx, ak, ck, rfl, hrow, hxok, hxr, hkr, hkw⟩ := hacts i (by omega)
          replace hxr := hxr.more hBC (fun _ h => h)
          replace hkr := hkr.more hBC (fun _ h => h)
          obtain ⟨r9, m9, hr9, hr9a, hr9b, hm9, hm9a⟩ := wrap9 nn
          refine wpi_exG (v := .pointer (some ⟨rb, roff + i * 5, none⟩)) (fun _ => trivial) (wn rfl) rfl (ex_index rfl rfl rfl (run_idx (k := i) Try.underlying67 skes67 (by omega))) ?_
          simp only [Act.put, List.setIfInBounds_toArray, List.set_cons_succ, List.set_cons_zero]
          refine wpi_exG (v := .agg #[.int .i64 kd, .int .i64 nn, .int .i64 xs, .slice ax xb.length cx, .slice ak ks.length ck]) (fun _ => trivial) (wn rfl) rfl (ex_load rfl rfl (run_load_cells (xs := [.int .i64 kd, .int .i64 nn, .int .i64 xs, .slice ax xb.length cx, .slice ak ks.length ck]) skwd69 (hrow _ _ (hv.weak hBC)))) ?_
          refine sl_storeNAt 0 (new := [.int .i64 kd, .int .i64 nn, .int .i64 xs, .slice ax xb.length cx, .slice ak ks.length ck]) (pre := []) (mid := [.int .i64 2, .int .i64 0, .int .i64 0, .slice none 0 0, .slice none 0 0]) (post := []) (L' := [.int .i64 kd, .int .i64 nn, .int .i64 xs, .slice ax xb.length cx, .slice ak ks.length ck]) (fun _ => trivial) (wn rfl) rfl rfl rfl hv rfl sksz69 rfl rfl rfl (one_cons rfl (one_cons rfl (one_cons rfl (one_cons rfl (one_cons rfl one_nil))))) rfl (fun w49 hv => ?_)
          simp only [List.set_cons_succ, List.set_cons_zero] at hv
          refine wpListIn_nil ?_
          simp only [Act.put, List.setIfInBounds_toArray, List.set_cons_succ, List.set_cons_zero]
          refine then_normal (hK46 _ _ ?_)
          clear hK46 K46
          refine wpIn_seq_k (fun K50 hK50 => ?_)
          refine wpIn_seq_k (fun K51 hK51 => ?_)
          refine wpIn_region_lit ?_
          refine wpi_exG (v := .pointer (some ⟨b43, 2, none⟩)) (fun _ => trivial) (wn rfl) rfl (ex_field rfl rfl (skfa69_2 _ _ _)) ?_
          refine wpi_exG (v := .pointer (some ⟨b43, 3, none⟩)) (fun _ => trivial) (wn rfl) rfl (ex_field rfl rfl (skfa55_1 _ _ _)) ?_
          refine wpi_exG (v := .slice ax xb.length cx) (fun _ => trivial) (wn rfl) rfl (ex_load rfl rfl (run_load1 skna24 (hv.load 0 3 rfl rfl))) ?_
          simp only [Act.put, List.setIfInBounds_toArray, List.set_cons_succ, List.set_cons_zero]
          refine wpi_exG (v := .int .i64 (xb.length : Int)) (fun _ => trivial) (wn rfl) rfl (ex_len0 Try.underlying24 rfl rfl) ?_
          by_cases hb52 : (xb.length : Int) > 1000
          · refine wpi_exG (v := .bool true) (fun _ => trivial) (wn rfl) rfl (ex_gtr (k := .i64) (m := (xb.length : Int)) (n := 1000) rfl rfl rfl (decide_eq_true hb52)) ?_
            refine wpi_exG (v := .bool true) (fun _ => trivial) (wn rfl) rfl (ex_move rfl rfl) ?_
            simp only [Act.put, List.setIfInBounds_toArray, List.set_cons_succ, List.set_cons_zero]
            refine wpi_not (fun _ => trivial) (wanted_not (j := 5) (d := 74) (b := false) (b' := true) rfl rfl rfl (by decide)) ?_
            refine wpi_not (fun _ => trivial) (wanted_not (j := 5) (d := 74) (b := false) (b' := true) rfl rfl rfl (by decide)) ?_
            refine wpi_not (fun _ => trivial) (wanted_not (j := 5) (d := 74) (b := false) (b' := true) rfl rfl rfl (by decide)) ?_
            simp only [Act.put, List.setIfInBounds_toArray, List.set_cons_succ, List.set_cons_zero]
            refine wpi_not (fun _ => trivial) (wanted_not (j := 5) (d := 74) (b := false) (b' := true) rfl rfl rfl (by decide)) ?_
            refine wpi_exG (v := .bool true) (fun _ => trivial) (wn rfl) rfl (ex_pick (b := true) rfl rfl rfl) ?_
            refine wpListIn_nil ?_
            simp only [Act.put, List.setIfInBounds_toArray, List.set_cons_succ, List.set_cons_zero]
            refine then_normal (hK51 _ _ ?_)
            clear hK51 K51
            refine wpIn_cond_true rfl ?_
            refine wpIn_seq_k (fun K53 hK53 => ?_)
            refine wpIn_region_lit ?_
            refine wpi_exG (v := .bool true) (fun _ => trivial) (wn rfl) rfl (ex_assign rfl rfl) ?_
            refine wpListIn_nil ?_
            simp only [Act.put, List.setIfInBounds_toArray, List.set_cons_succ, List.set_cons_zero]
            refine then_normal (hK53 _ _ ?_)
            clear hK53 K53
            refine wpIn_ret ?_
            refine then_ret ?_
            clear hK50 K50
            refine blk_ret ?_
            refine then_ret ?_
            clear hK41 K41
            refine then_ret ?_
            refine blk_ret ?_
            refine then_ret ?_
            clear hK35 K35
            refine bodyPost_ret (results_tmp rfl _ _ _) rfl ?_
            exact ⟨rfl, (hv.tail 5).weak hBC⟩
          · refine wpi_exG (v := .bool false) (fun _ => trivial) (wn rfl) rfl (ex_gtr (k := .i64) (m := (xb.length : Int)) (n := 1000) rfl rfl rfl (decide_eq_false hb52)) ?_
            refine wpi_exG (v := .bool false) (fun _ => trivial) (wn rfl) rfl (ex_move rfl rfl) ?_
            simp only [Act.put, List.setIfInBounds_toArray, List.set_cons_succ, List.set_cons_zero]
            refine wpi_exG (v := .pointer (some ⟨b43, 4, none⟩)) (fun _ => trivial) (wanted_of (j := 5) (d := 74) (b := false) rfl rfl rfl) rfl (ex_field rfl rfl (skfa69_3 _ _ _)) ?_
            refine wpi_exG (v := .slice ak ks.length ck) (fun _ => trivial) (wanted_of (j := 5) (d := 74) (b := false) rfl rfl rfl) rfl (ex_load rfl rfl (run_load1 skna44 (hv.load 0 4 rfl rfl))) ?_
            refine wpi_exG (v := .int .i64 (ks.length : Int)) (fun _ => trivial) (wanted_of (j := 5) (d := 74) (b := false) rfl rfl rfl) rfl (ex_len0 Try.underlying44 rfl rfl) ?_
            simp only [Act.put, List.setIfInBounds_toArray, List.set_cons_succ, List.set_cons_zero]
            by_cases hb54 : (ks.length : Int) > 40
            · refine wpi_exG (v := .bool true) (fun _ => trivial) (wanted_of (j := 5) (d := 74) (b := false) rfl rfl rfl) rfl (ex_gtr (k := .i64) (m := (ks.length : Int)) (n := 40) rfl rfl rfl (decide_eq_true hb54)) ?_
              refine wpi_exG (v := .bool true) (fun _ => trivial) (wn rfl) rfl (ex_pick (b := false) rfl rfl rfl) ?_
              refine wpListIn_nil ?_
              simp only [Act.put, List.setIfInBounds_toArray, List.set_cons_succ, List.set_cons_zero]
              refine then_normal (hK51 _ _ ?_)
              clear hK51 K51
              refine wpIn_cond_true rfl ?_
              refine wpIn_seq_k (fun K55 hK55 => ?_)
              refine wpIn_region_lit ?_
              refine wpi_exG (v := .bool true) (fun _ => trivial) (wn rfl) rfl (ex_assign rfl rfl) ?_
              refine wpListIn_nil ?_
              simp only [Act.put, List.setIfInBounds_toArray, List.set_cons_succ, List.set_cons_zero]
              refine then_normal (hK55 _ _ ?_)
              clear hK55 K55
              refine wpIn_ret ?_
              refine then_ret ?_
              clear hK50 K50
              refine blk_ret ?_
              refine then_ret ?_
              clear hK41 K41
              refine then_ret ?_
              refine blk_ret ?_
              refine then_ret ?_
              clear hK35 K35
              refine bodyPost_ret (results_tmp rfl _ _ _) rfl ?_
              exact ⟨rfl, (hv.tail 5).weak hBC⟩
            · refine wpi_exG (v := .bool false) (fun _ => trivial) (wanted_of (j := 5) (d := 74) (b := false) rfl rfl rfl) rfl (ex_gtr (k := .i64) (m := (ks.length : Int)) (n := 40) rfl rfl rfl (decide_eq_false hb54)) ?_
              refine wpi_exG (v := .bool false) (fun _ => trivial) (wn rfl) rfl (ex_pick (b := false) rfl rfl rfl) ?_
              refine wpListIn_nil ?_
              simp only [Act.put, List.setIfInBounds_toArray, List.set_cons_succ, List.set_cons_zero]
              refine then_normal (hK51 _ _ ?_)
              clear hK51 K51
              refine wpIn_cond_false rfl ?_
              refine wpIn_skip ?_
              refine then_normal (hK50 _ _ ?_)
              clear hK50 K50
              refine wpIn_seq_k (fun K56 hK56 => ?_)
              refine wpIn_region_lit ?_
              refine wpi_exG (v := .pointer (some ⟨b43, 0, none⟩)) (fun _ => trivial) (wn rfl) rfl (ex_field rfl rfl (skfa69_0 _ _ _)) ?_
              refine wpi_exG (v := .int .i64 kd) (fun _ => trivial) (wn rfl) rfl (ex_load rfl rfl (run_load1 skna3 (hv.load 0 0 rfl rfl))) ?_
              refine wpListIn_nil ?_
              simp only [Act.put, List.setIfInBounds_toArray, List.set_cons_succ, List.set_cons_zero]
              refine then_normal (hK56 _ _ ?_)
              clear hK56 K56
              refine wpIn_block ?_
              refine wpIn_seq_k (fun K57 hK57 => ?_)
              refine wpIn_region_lit ?_
              by_cases hb58 : kd = 0
              · refine wpi_exG (v := .bool true) (fun _ => trivial) (wn rfl) rfl (ex_eql (k := .i64) (m := kd) (n := 0) rfl rfl rfl (decide_eq_true hb58)) ?_
                refine wpi_exG (v := .bool true) (fun _ => trivial) (wn rfl) rfl (ex_assign rfl rfl) ?_
                refine wpListIn_nil ?_
                simp only [Act.put, List.setIfInBounds_toArray, List.set_cons_succ, List.set_cons_zero]
                refine then_normal (hK57 _ _ ?_)
                clear hK57 K57
                refine wpIn_cond_true rfl ?_
                refine wpIn_seq_k (fun K59 hK59 => ?_)
                refine wpIn_region_lit ?_
                refine wpi_exG (v := .pointer (some ⟨q, 0, none⟩)) (fun _ => trivial) (wn rfl) rfl (ex_move rfl rfl) ?_
                refine wpi_exG (v := .pointer (some ⟨b43, 2, none⟩)) (fun _ => trivial) (wn rfl) rfl (ex_field rfl rfl (skfa69_2 _ _ _)) ?_
                refine wpi_exG (v := .agg #[.int .i64 xs, .slice ax xb.length cx]) (fun _ => trivial) (wn rfl) rfl (ex_load rfl rfl (run_load_mid (pre := [.int .i64 kd, .int .i64 nn]) (mid := [.int .i64 xs, .slice ax xb.length cx]) (post := [.slice ak ks.length ck]) skwd55 (show Blk _ b43 ([.int .i64 kd, .int .i64 nn] ++ [.int .i64 xs, .slice ax xb.length cx] ++ [.slice ak ks.length ck]) _ from hv.get 0 rfl) rfl)) ?_
                simp only [Act.put, List.setIfInBounds_toArray, List.set_cons_succ, List.set_cons_zero]
                replace hv := hv.front 4 rfl
                simp only [List.eraseIdx_cons_succ, List.eraseIdx_cons_zero] at hv
                replace hv := hv.front 2 rfl
                simp only [List.eraseIdx_cons_succ, List.eraseIdx_cons_zero] at hv
                have hsv := hK.save hn1 hn2 (by omega) xs xb
                have hkl := hK.head.len
                have hkp := hK.plen
                refine wpi_callG skcallable36 (fun _ => trivial) wideC rfl (wn rfl) rfl (args := #[.pointer (some ⟨q, 0, none⟩), .agg #[.int .i64 xs, .slice ax xb.length cx]]) (by simp only [List.map_toArray, List.map_cons, List.map_nil]; rfl) ((slotsSave _ _ _ q p10 0 n ge fa D _ xs _ _ _ xb (0 + ((ge + 1) % 2) * n) rfl (by omega) (by omega) (by omega) (by rcases (show (ge + 1) % 2 = 0 ∨ (ge + 1) % 2 = 1 by omega) with h | h <;> rw [h, hkl] <;> omega) (by omega) (by omega) rfl hxok hxr.any' hv).mono ?_)
                rintro e w61 ⟨F60, rfl, hv⟩
                refine ⟨_, rfl, ?_⟩
                obtain ⟨er, gn, fl, E, hs⟩ : ∃ er gn fl E, saveOf D 0 n ge fa xs xb = ⟨er, gn, fl, E⟩ := ⟨_, _, _, _, rfl⟩
                rw [hs] at hv hsv ⊢
                dsimp only at hsv
                have hvN := hv
                rcases hsv with ⟨rfl, rfl, rfl, rfl, hK2⟩ | ⟨rfl, rfl, rfl, ⟨rfl, hK2⟩ | ⟨rfl, hK2⟩⟩ | ⟨he0, he20, rfl, rfl, hK2⟩
                · have hv := hvN
                  refine wpi_exG (v := .int .i64 0) (fun _ => trivial) (wn rfl) rfl (ex_assign rfl rfl) ?_
                  refine wpListIn_nil ?_
                  simp only [Act.put, List.setIfInBounds_toArray, List.set_cons_succ, List.set_cons_zero]
                  refine then_normal (hK59 _ _ ?_)
                  clear hK59 K59
                  refine wpIn_seq_k (fun K62 hK62 => ?_)
                  refine wpIn_region_lit ?_
                  refine wpi_exG (v := .int .i64 0) (fun _ => trivial) (wn rfl) rfl (ex_move rfl rfl) ?_
                  refine wpi_exG (v := .bool true) (fun _ => trivial) (wn rfl) rfl (ex_eql (k := .i64) (m := 0) (n := 0) rfl rfl rfl (by decide)) ?_
                  refine wpListIn_nil ?_
                  simp only [Act.put, List.setIfInBounds_toArray, List.set_cons_succ, List.set_cons_zero]
                  refine then_normal (hK62 _ _ ?_)
                  clear hK62 K62
                  refine wpIn_cond_true rfl ?_
                  refine wpIn_region_lit ?_
                  refine wpi_exG (v := .pointer (some ⟨b43, 2, none⟩)) (fun _ => trivial) (wn rfl) rfl (ex_field rfl rfl (skfa69_2 _ _ _)) ?_
                  refine wpi_exG (v := .agg #[.int .i64 xs, .slice ax xb.length cx]) (fun _ => trivial) (wn rfl) rfl (ex_load rfl rfl (run_load_mid (pre := [.int .i64 kd, .int .i64 nn]) (mid := [.int .i64 xs, .slice ax xb.length cx]) (post := [.slice ak ks.length ck]) skwd55 (show Blk _ b43 ([.int .i64 kd, .int .i64 nn] ++ [.int .i64 xs, .slice ax xb.length cx] ++ [.slice ak ks.length ck]) _ from hv.get 2 rfl) rfl)) ?_
                  refine sl_storeNAt 3 (new := [.int .i64 xs, .slice ax xb.length cx]) (pre := []) (mid := [.int .i64 st, .slice a1 b.length c1]) (post := []) (L' := [.int .i64 xs, .slice ax xb.length cx]) (fun _ => trivial) (wn rfl) rfl rfl rfl hv rfl sksz55 rfl rfl rfl (one_cons rfl (one_cons rfl one_nil)) rfl (fun w63 hv => ?_)
                  simp only [List.set_cons_succ, List.set_cons_zero] at hv
                  simp only [Act.put, List.setIfInBounds_toArray, List.set_cons_succ, List.set_cons_zero]
                  refine wpi_exG (v := .bool true) (fun _ => trivial) (wn rfl) rfl (ex_assign rfl rfl) ?_
                  refine wpListIn_nil ?_
                  simp only [Act.put, List.setIfInBounds_toArray, List.set_cons_succ, List.set_cons_zero]
                  refine blk_normal ?_
                  refine blk_normal ?_
                  refine then_normal (hK41 _ _ ?_)
                  clear hK41 K41
                  refine wpIn_region_lit ?_
                  refine wpi_exG (v := .int .i64 (i : Int)) (fun _ => trivial) (wn rfl) rfl (ex_move rfl rfl) ?_
                  refine wpi_exG (v := .int .i64 ((i : Int) + 1)) (fun _ => trivial) (wn rfl) rfl (ex_add (m := (i : Int)) (n := 1) rfl rfl rfl (i64_in (by omega))) ?_
                  refine wpi_exG (v := .int .i64 ((i : Int) + 1)) (fun _ => trivial) (wn rfl) rfl (ex_assign rfl rfl) ?_
                  refine wpListIn_nil ?_
                  simp only [Act.put, List.setIfInBounds_toArray, List.set_cons_succ, List.set_cons_zero]
                  refine then_normal ?_
                  go_roundw
                  case rel => exact ⟨_, i + 1, (ge + 1), _, _, _, _, _, _, _, _, _, _, _, _, _, hBC, rfl, rfl, rfl, by simp, by omega, by omega, hK2, hxr, hr2, (((((hv.front 1 rfl).front 4 rfl).front 4 rfl).front 3 rfl).sub (List.Sublist.cons_cons _ (List.Sublist.cons_cons _ (List.Sublist.cons_cons _ (List.Sublist.cons_cons _ (List.Sublist.cons _ (List.Sublist.refl _)))))))⟩
                  case measure => show m + 1 - ((i : Int) + 1).toNat < m + 1 - (i : Int).toNat; omega
                · have hv := hvN
                  refine wpi_exG (v := .int .i64 20) (fun _ => trivial) (wn rfl) rfl (ex_assign rfl rfl) ?_
                  refine wpListIn_nil ?_
                  simp only [Act.put, List.setIfInBounds_toArray, List.set_cons_succ, List.set_cons_zero]
                  refine then_normal (hK59 _ _ ?_)
                  clear hK59 K59
                  refine wpIn_seq_k (fun K64 hK64 => ?_)
                  refine wpIn_region_lit ?_
                  refine wpi_exG (v := .int .i64 20) (fun _ => trivial) (wn rfl) rfl (ex_move rfl rfl) ?_
                  refine wpi_exG (v := .bool false) (fun _ => trivial) (wn rfl) rfl (ex_eql (k := .i64) (m := 20) (n := 0) rfl rfl rfl (by decide)) ?_
                  refine wpListIn_nil ?_
                  simp only [Act.put, List.setIfInBounds_toArray, List.set_cons_succ, List.set_cons_zero]
                  refine then_normal (hK64 _ _ ?_)
                  clear hK64 K64
                  refine wpIn_cond_false rfl ?_
                  refine wpIn_seq_k (fun K65 hK65 => ?_)
                  refine wpIn_region_lit ?_
                  refine wpi_exG (v := .int .i64 20) (fun _ => trivial) (wn rfl) rfl (ex_move rfl rfl) ?_
                  refine wpi_exG (v := .bool true) (fun _ => trivial) (wn rfl) rfl (ex_eql (k := .i64) (m := 20) (n := 20) rfl rfl rfl (by decide)) ?_
                  refine wpi_exG (v := .bool true) (fun _ => trivial) (wn rfl) rfl (ex_move rfl rfl) ?_
                  simp only [Act.put, List.setIfInBounds_toArray, List.set_cons_succ, List.set_cons_zero]
                  refine wpi_exG (v := .bool true) (fun _ => trivial) (wanted_of (j := 2) (d := 94) (b := true) rfl rfl rfl) rfl (ex_move rfl rfl) ?_
                  refine wpi_exG (v := .bool false) (fun _ => trivial) (wanted_of (j := 2) (d := 94) (b := true) rfl rfl rfl) rfl (ex_not rfl rfl rfl) ?_
                  refine wpi_exG (v := .bool false) (fun _ => trivial) (wn rfl) rfl (ex_pick (b := true) rfl rfl rfl) ?_
                  refine wpListIn_nil ?_
                  simp only [Act.put, List.setIfInBounds_toArray, List.set_cons_succ, List.set_cons_zero]
                  refine then_normal (hK65 _ _ ?_)
                  clear hK65 K65
                  refine wpIn_cond_false rfl ?_
                  refine wpIn_skip ?_
                  refine blk_normal ?_
                  refine blk_normal ?_
                  refine then_normal (hK41 _ _ ?_)
                  clear hK41 K41
                  refine wpIn_region_lit ?_
                  refine wpi_exG (v := .int .i64 (i : Int)) (fun _ => trivial) (wn rfl) rfl (ex_move rfl rfl) ?_
                  refine wpi_exG (v := .int .i64 ((i : Int) + 1)) (fun _ => trivial) (wn rfl) rfl (ex_add (m := (i : Int)) (n := 1) rfl rfl rfl (i64_in (by omega))) ?_
                  refine wpi_exG (v := .int .i64 ((i : Int) + 1)) (fun _ => trivial) (wn rfl) rfl (ex_assign rfl rfl) ?_
                  refine wpListIn_nil ?_
                  simp only [Act.put, List.setIfInBounds_toArray, List.set_cons_succ, List.set_cons_zero]
                  refine then_normal ?_
                  go_roundw
                  case rel => exact ⟨_, i + 1, gn, _, _, _, _, _, _, _, _, _, _, _, _, _, hBC, rfl, rfl, rfl, by simp, by omega, by omega, hK2, hr1, hr2, (((((hv.front 1 rfl).front 4 rfl).front 4 rfl).front 3 rfl).sub (List.Sublist.cons_cons _ (List.Sublist.cons_cons _ (List.Sublist.cons_cons _ (List.Sublist.cons_cons _ (List.Sublist.cons _ (List.Sublist.refl _)))))))⟩
                  case measure => show m + 1 - ((i : Int) + 1).toNat < m + 1 - (i : Int).toNat; omega
                · have hv := hvN
                  refine wpi_exG (v := .int .i64 20) (fun _ => trivial) (wn rfl) rfl (ex_assign rfl rfl) ?_
                  refine wpListIn_nil ?_
                  simp only [Act.put, List.setIfInBounds_toArray, List.set_cons_succ, List.set_cons_zero]
                  refine then_normal (hK59 _ _ ?_)
                  clear hK59 K59
                  refine wpIn_seq_k (fun K66 hK66 => ?_)
                  refine wpIn_region_lit ?_
                  refine wpi_exG (v := .int .i64 20) (fun _ => trivial) (wn rfl) rfl (ex_move rfl rfl) ?_
                  refine wpi_exG (v := .bool false) (fun _ => trivial) (wn rfl) rfl (ex_eql (k := .i64) (m := 20) (n := 0) rfl rfl rfl (by decide)) ?_
                  refine wpListIn_nil ?_
                  simp only [Act.put, List.setIfInBounds_toArray, List.set_cons_succ, List.set_cons_zero]
                  refine then_normal (hK66 _ _ ?_)
                  clear hK66 K66
                  refine wpIn_cond_false rfl ?_
                  refine wpIn_seq_k (fun K67 hK67 => ?_)
                  refine wpIn_region_lit ?_
                  refine wpi_exG (v := .int .i64 20) (fun _ => trivial) (wn rfl) rfl (ex_move rfl rfl) ?_
                  refine wpi_exG (v := .bool true) (fun _ => trivial) (wn rfl) rfl (ex_eql (k := .i64) (m := 20) (n := 20) rfl rfl rfl (by decide)) ?_
                  refine wpi_exG (v := .bool true) (fun _ => trivial) (wn rfl) rfl (ex_move rfl rfl) ?_
                  simp only [Act.put, List.setIfInBounds_toArray, List.set_cons_succ, List.set_cons_zero]
                  refine wpi_exG (v := .bool false) (fun _ => trivial) (wanted_of (j := 2) (d := 94) (b := true) rfl rfl rfl) rfl (ex_move rfl rfl) ?_
                  refine wpi_exG (v := .bool true) (fun _ => trivial) (wanted_of (j := 2) (d := 94) (b := true) rfl rfl rfl) rfl (ex_not rfl rfl rfl) ?_
                  refine wpi_exG (v := .bool true) (fun _ => trivial) (wn rfl) rfl (ex_pick (b := true) rfl rfl rfl) ?_
                  refine wpListIn_nil ?_
                  simp only [Act.put, List.setIfInBounds_toArray, List.set_cons_succ, List.set_cons_zero]
                  refine then_normal (hK67 _ _ ?_)
                  clear hK67 K67
                  refine wpIn_cond_true rfl ?_
                  refine wpIn_region_lit ?_
                  refine wpi_exG (v := .pointer (some ⟨b43, 2, none⟩)) (fun _ => trivial) (wn rfl) rfl (ex_field rfl rfl (skfa69_2 _ _ _)) ?_
                  refine wpi_exG (v := .agg #[.int .i64 xs, .slice ax xb.length cx]) (fun _ => trivial) (wn rfl) rfl (ex_load rfl rfl (run_load_mid (pre := [.int .i64 kd, .int .i64 nn]) (mid := [.int .i64 xs, .slice ax xb.length cx]) (post := [.slice ak ks.length ck]) skwd55 (show Blk _ b43 ([.int .i64 kd, .int .i64 nn] ++ [.int .i64 xs, .slice ax xb.length cx] ++ [.slice ak ks.length ck]) _ from hv.get 2 rfl) rfl)) ?_
                  refine sl_storeNAt 4 (new := [.int .i64 xs, .slice ax xb.length cx]) (pre := []) (mid := [.int .i64 ut, .slice a2 ub.length c2]) (post := []) (L' := [.int .i64 xs, .slice ax xb.length cx]) (fun _ => trivial) (wn rfl) rfl rfl rfl hv rfl sksz55 rfl rfl rfl (one_cons rfl (one_cons rfl one_nil)) rfl (fun w68 hv => ?_)
                  simp only [List.set_cons_succ, List.set_cons_zero] at hv
                  simp only [Act.put, List.setIfInBounds_toArray, List.set_cons_succ, List.set_cons_zero]
                  refine wpi_exG (v := .bool true) (fun _ => trivial) (wn rfl) rfl (ex_assign rfl rfl) ?_
                  refine wpListIn_nil ?_
                  simp only [Act.put, List.setIfInBounds_toArray, List.set_cons_succ, List.set_cons_zero]
                  refine blk_normal ?_
                  refine blk_normal ?_
                  refine then_normal (hK41 _ _ ?_)
                  clear hK41 K41
                  refine wpIn_region_lit ?_
                  refine wpi_exG (v := .int .i64 (i : Int)) (fun _ => trivial) (wn rfl) rfl (ex_move rfl rfl) ?_
                  refine wpi_exG (v := .int .i64 ((i : Int) + 1)) (fun _ => trivial) (wn rfl) rfl (ex_add (m := (i : Int)) (n := 1) rfl rfl rfl (i64_in (by omega))) ?_
                  refine wpi_exG (v := .int .i64 ((i : Int) + 1)) (fun _ => trivial) (wn rfl) rfl (ex_assign rfl rfl) ?_
                  refine wpListIn_nil ?_
                  simp only [Act.put, List.setIfInBounds_toArray, List.set_cons_succ, List.set_cons_zero]
                  refine then_normal ?_
                  go_roundw
                  case rel => exact ⟨_, i + 1, gn, _, _, _, _, _, _, _, _, _, _, _, _, _, hBC, rfl, rfl, rfl, by simp, by omega, by omega, hK2, hr1, hxr, (((((hv.front 1 rfl).front 4 rfl).front 4 rfl).front 3 rfl).sub (List.Sublist.cons_cons _ (List.Sublist.cons_cons _ (List.Sublist.cons_cons _ (List.Sublist.cons_cons _ (List.Sublist.cons _ (List.Sublist.refl _)))))))⟩
                  case measure => show m + 1 - ((i : Int) + 1).toNat < m + 1 - (i : Int).toNat; omega
                · have hv := hvN
                  refine wpi_exG (v := .int .i64 er) (fun _ => trivial) (wn rfl) rfl (ex_assign rfl rfl) ?_
                  refine wpListIn_nil ?_
                  simp only [Act.put, List.setIfInBounds_toArray, List.set_cons_succ, List.set_cons_zero]
                  refine then_normal (hK59 _ _ ?_)
                  clear hK59 K59
                  refine wpIn_seq_k (fun K69 hK69 => ?_)
                  refine wpIn_region_lit ?_
                  refine wpi_exG (v := .int .i64 er) (fun _ => trivial) (wn rfl) rfl (ex_move rfl rfl) ?_
                  refine wpi_exG (v := .bool false) (fun _ => trivial) (wn rfl) rfl (ex_eql (k := .i64) (m := er) (n := 0) rfl rfl rfl (decide_eq_false (he0))) ?_
                  refine wpListIn_nil ?_
                  simp only [Act.put, List.setIfInBounds_toArray, List.set_cons_succ, List.set_cons_zero]
                  refine then_normal (hK69 _ _ ?_)
                  clear hK69 K69
                  refine wpIn_cond_false rfl ?_
                  refine wpIn_seq_k (fun K70 hK70 => ?_)
                  refine wpIn_region_lit ?_
                  refine wpi_exG (v := .int .i64 er) (fun _ => trivial) (wn rfl) rfl (ex_move rfl rfl) ?_
                  refine wpi_exG (v := .bool false) (fun _ => trivial) (wn rfl) rfl (ex_eql (k := .i64) (m := er) (n := 20) rfl rfl rfl (decide_eq_false (he20))) ?_
                  refine wpi_exG (v := .bool false) (fun _ => trivial) (wn rfl) rfl (ex_move rfl rfl) ?_
                  simp only [Act.put, List.setIfInBounds_toArray, List.set_cons_succ, List.set_cons_zero]
                  refine wpi_not (fun _ => trivial) (wanted_not (j := 2) (d := 94) (b := true) (b' := false) rfl rfl rfl (by decide)) ?_
                  refine wpi_not (fun _ => trivial) (wanted_not (j := 2) (d := 94) (b := true) (b' := false) rfl rfl rfl (by decide)) ?_
                  refine wpi_exG (v := .bool false) (fun _ => trivial) (wn rfl) rfl (ex_pick (b := false) rfl rfl rfl) ?_
                  refine wpListIn_nil ?_
                  simp only [Act.put, List.setIfInBounds_toArray, List.set_cons_succ, List.set_cons_zero]
                  refine then_normal (hK70 _ _ ?_)
                  clear hK70 K70
                  refine wpIn_cond_false rfl ?_
                  refine wpIn_skip ?_
                  refine blk_normal ?_
                  refine blk_normal ?_
                  refine then_normal (hK41 _ _ ?_)
                  clear hK41 K41
                  refine wpIn_region_lit ?_
                  refine wpi_exG (v := .int .i64 (i : Int)) (fun _ => trivial) (wn rfl) rfl (ex_move rfl rfl) ?_
                  refine wpi_exG (v := .int .i64 ((i : Int) + 1)) (fun _ => trivial) (wn rfl) rfl (ex_add (m := (i : Int)) (n := 1) rfl rfl rfl (i64_in (by omega))) ?_
                  refine wpi_exG (v := .int .i64 ((i : Int) + 1)) (fun _ => trivial) (wn rfl) rfl (ex_assign rfl rfl) ?_
                  refine wpListIn_nil ?_
                  simp only [Act.put, List.setIfInBounds_toArray, List.set_cons_succ, List.set_cons_zero]
                  refine then_normal ?_
                  go_roundw
                  case rel => exact ⟨_, i + 1, gn, _, _, _, _, _, _, _, _, _, _, _, _, _, hBC, rfl, rfl, rfl, by simp, by omega, by omega, hK2, hr1, hr2, (((((hv.front 1 rfl).front 4 rfl).front 4 rfl).front 3 rfl).sub (List.Sublist.cons_cons _ (List.Sublist.cons_cons _ (List.Sublist.cons_cons _ (List.Sublist.cons_cons _ (List.Sublist.cons _ (List.Sublist.refl _)))))))⟩
                  case measure => show m + 1 - ((i : Int) + 1).toNat < m + 1 - (i : Int).toNat; omega
              · refine wpi_exG (v := .bool false) (fun _ => trivial) (wn rfl) rfl (ex_eql (k := .i64) (m := kd) (n := 0) rfl rfl rfl (decide_eq_false hb58)) ?_
                refine wpi_exG (v := .bool false) (fun _ => trivial) (wn rfl) rfl (ex_assign rfl rfl) ?_
                refine wpListIn_nil ?_
                simp only [Act.put, List.setIfInBounds_toArray, List.set_cons_succ, List.set_cons_zero]
                refine then_normal (hK57 _ _ ?_)
                clear hK57 K57
                refine wpIn_cond_false rfl ?_
                refine wpIn_seq_k (fun K71 hK71 => ?_)
                refine wpIn_region_lit ?_
                by_cases hb72 : kd = 1
                · refine wpi_exG (v := .bool true) (fun _ => trivial) (wn rfl) rfl (ex_eql (k := .i64) (m := kd) (n := 1) rfl rfl rfl (decide_eq_true hb72)) ?_
                  refine wpi_exG (v := .bool true) (fun _ => trivial) (wn rfl) rfl (ex_assign rfl rfl) ?_
                  refine wpListIn_nil ?_
                  simp only [Act.put, List.setIfInBounds_toArray, List.set_cons_succ, List.set_cons_zero]
                  refine then_normal (hK71 _ _ ?_)
                  clear hK71 K71
                  refine wpIn_cond_true rfl ?_
                  refine wpIn_region_lit ?_
                  refine wpi_exG (v := .pointer (some ⟨p10, 0, none⟩)) (fun _ => trivial) (wn rfl) rfl (ex_move rfl rfl) ?_
                  refine wpi_exG (v := .pointer (some ⟨b43, 1, none⟩)) (fun _ => trivial) (wn rfl) rfl (ex_field rfl rfl (skfa69_1 _ _ _)) ?_
                  refine wpi_exG (v := .int .i64 nn) (fun _ => trivial) (wn rfl) rfl (ex_load rfl rfl (run_load1 skna3 (hv.load 0 1 rfl rfl))) ?_
                  simp only [Act.put, List.setIfInBounds_toArray, List.set_cons_succ, List.set_cons_zero]
                  refine wpi_exG (v := .int .i64 r9) (fun _ => trivial) (wn rfl) rfl (ex_rem (m := nn) (n := 9) rfl rfl rfl (by decide) hr9) ?_
                  refine wpi_exG (v := .int .i64 (r9 + 9)) (fun _ => trivial) (wn rfl) rfl (ex_add (m := r9) (n := 9) rfl rfl rfl (i64_in (by omega))) ?_
                  refine wpi_exG (v := .int .i64 m9) (fun _ => trivial) (wn rfl) rfl (ex_rem (m := (r9 + 9)) (n := 9) rfl rfl rfl (by decide) hm9) ?_
                  simp only [Act.put, List.setIfInBounds_toArray, List.set_cons_succ, List.set_cons_zero]
                  replace hv := hv.front 4 rfl
                  simp only [List.eraseIdx_cons_succ, List.eraseIdx_cons_zero] at hv
                  refine wpi_callG skcallable37 (fun _ => trivial) wideC rfl (wn rfl) rfl (args := #[.pointer (some ⟨p10, 0, none⟩), .int .i64 m9]) (by simp only [List.map_toArray, List.map_cons, List.map_nil]; rfl) ((diskLimitSl _ _ _ p10 _ _ m9 (by omega) hv).mono ?_)
                  rintro e w74 ⟨F73, rfl, hv⟩
                  refine ⟨_, rfl, ?_⟩
                  refine wpListIn_nil ?_
                  simp only [Act.put, List.setIfInBounds_toArray, List.set_cons_succ, List.set_cons_zero]
                  refine blk_normal ?_
                  refine blk_normal ?_
                  refine then_normal (hK41 _ _ ?_)
                  clear hK41 K41
                  refine wpIn_region_lit ?_
                  refine wpi_exG (v := .int .i64 (i : Int)) (fun _ => trivial) (wn rfl) rfl (ex_move rfl rfl) ?_
                  refine wpi_exG (v := .int .i64 ((i : Int) + 1)) (fun _ => trivial) (wn rfl) rfl (ex_add (m := (i : Int)) (n := 1) rfl rfl rfl (i64_in (by omega))) ?_
                  refine wpi_exG (v := .int .i64 ((i : Int) + 1)) (fun _ => trivial) (wn rfl) rfl (ex_assign rfl rfl) ?_
                  refine wpListIn_nil ?_
                  simp only [Act.put, List.setIfInBounds_toArray, List.set_cons_succ, List.set_cons_zero]
                  refine then_normal ?_
                  go_roundw
                  case rel => exact ⟨_, i + 1, ge, _, _, _, _, _, _, _, _, _, _, _, _, _, hBC, rfl, rfl, rfl, by simp, by omega, by omega, (hK.limit m9), hr1, hr2, ((((hv.front 4 rfl).front 4 rfl).front 4 rfl).sub (List.Sublist.cons_cons _ (List.Sublist.cons_cons _ (List.Sublist.cons_cons _ (List.Sublist.cons_cons _ (List.Sublist.cons _ (List.Sublist.refl _)))))))⟩
                  case measure => show m + 1 - ((i : Int) + 1).toNat < m + 1 - (i : Int).toNat; omega
                · refine wpi_exG (v := .bool false) (fun _ => trivial) (wn rfl) rfl (ex_eql (k := .i64) (m := kd) (n := 1) rfl rfl rfl (decide_eq_false hb72)) ?_
                  refine wpi_exG (v := .bool false) (fun _ => trivial) (wn rfl) rfl (ex_assign rfl rfl) ?_
                  refine wpListIn_nil ?_
                  simp only [Act.put, List.setIfInBounds_toArray, List.set_cons_succ, List.set_cons_zero]
                  refine then_normal (hK71 _ _ ?_)
                  clear hK71 K71
                  refine wpIn_cond_false rfl ?_
                  refine wpIn_seq_k (fun K75 hK75 => ?_)
                  refine wpIn_region_lit ?_
                  by_cases hb76 : kd = 2
                  · refine wpi_exG (v := .bool true) (fun _ => trivial) (wn rfl) rfl (ex_eql (k := .i64) (m := kd) (n := 2) rfl rfl rfl (decide_eq_true hb76)) ?_
                    refine wpi_exG (v := .bool true) (fun _ => trivial) (wn rfl) rfl (ex_assign rfl rfl) ?_
                    refine wpListIn_nil ?_
                    simp only [Act.put, List.setIfInBounds_toArray, List.set_cons_succ, List.set_cons_zero]
                    refine then_normal (hK75 _ _ ?_)
                    clear hK75 K75
                    refine wpIn_cond_true rfl ?_
                    refine wpIn_seq_k (fun K77 hK77 => ?_)
                    refine wpIn_region_lit ?_
                    refine wpi_exG (v := .pointer (some ⟨p10, 0, none⟩)) (fun _ => trivial) (wn rfl) rfl (ex_move rfl rfl) ?_
                    refine wpi_exG (v := .pointer (some ⟨b43, 4, none⟩)) (fun _ => trivial) (wn rfl) rfl (ex_field rfl rfl (skfa69_3 _ _ _)) ?_
                    refine wpi_exG (v := .slice ak ks.length ck) (fun _ => trivial) (wn rfl) rfl (ex_load rfl rfl (run_load1 skna44 (hv.load 0 4 rfl rfl))) ?_
                    simp only [Act.put, List.setIfInBounds_toArray, List.set_cons_succ, List.set_cons_zero]
                    replace hv := hv.front 4 rfl
                    simp only [List.eraseIdx_cons_succ, List.eraseIdx_cons_zero] at hv
                    have hokD : Disk.Ok D := (hv.get 0 rfl : DiskAt _ _ D _).1
                    have hkp := hK.plen
                    refine wpi_callG skcallable25 (fun _ => trivial) wideC rfl (wn rfl) rfl (args := #[.pointer (some ⟨p10, 0, none⟩), .slice ak ks.length ck]) (by simp only [List.map_toArray, List.map_cons, List.map_nil]; rfl) ((diskCrashSl _ _ _ p10 _ _ _ _ _ (ks) hv (by omega) rfl (by omega) (hkr.any') (hkw)).mono ?_)
                    rintro e w79 ⟨F78, rfl, hv⟩
                    refine ⟨_, rfl, ?_⟩
                    have hvN := hv
                    rcases hK.crash hokD (ks) with hKH | ⟨rfl, hKH⟩
                    · have hv := hvN
                      refine wpListIn_nil ?_
                      simp only [Act.put, List.setIfInBounds_toArray, List.set_cons_succ, List.set_cons_zero]
                      refine then_normal (hK77 _ _ ?_)
                      clear hK77 K77
                      refine wpIn_seq_k (fun K80 hK80 => ?_)
                      refine wpIn_region_lit ?_
                      refine wpi_exG (v := .pointer (some ⟨p10, 0, none⟩)) (fun _ => trivial) (wn rfl) rfl (ex_move rfl rfl) ?_
                      refine wpi_exG (v := .int .i64 (n : Int)) (fun _ => trivial) (wn rfl) rfl (ex_move rfl rfl) ?_
                      refine wpi_callG skcallable30 (fun _ => trivial) wideC rfl (wn rfl) rfl (args := #[.pointer (some ⟨p10, 0, none⟩), .int .i64 0, .int .i64 (n : Int)]) (by simp only [List.map_toArray, List.map_cons, List.map_nil]; rfl) ((slotsOpen _ _ _ p10 0 n (D.crash ks) (D.crash ks) _ (crash_tick _ _) (by show (0 : Nat) ≤ _; omega) (has_of (by omega) (by rw [hKH.len]; omega)) (by show (-1 : Int) ≠ 0; decide) (by omega) (by omega) (by rw [hKH.len]; omega) (by rw [hKH.len]; omega) hv).mono ?_)
                      rintro e w86 ⟨q81, cur82, ad83, c84, F85, hcur, rfl, hv⟩
                      refine ⟨_, rfl, ?_⟩
                      have hokE : Disk.Ok (D.crash ks) := (hv.get 2 rfl : DiskAt _ _ (D.crash ks) _).1
                      obtain ⟨hcg, hct, hcb, hch⟩ := hKH.cur hokE rfl hn1 hcur
                      rw [hch, hct, hcb]
                      simp only [slCells, hcg, hcb] at hv
                      replace hv := hv.front 1 rfl
                      simp only [List.eraseIdx_cons_succ, List.eraseIdx_cons_zero] at hv
                      obtain ⟨B87, hB88, hv, hrx, _⟩ := Inv.rowStays hv
                      replace hr1 := hr1.more hB88 (fun _ h => h)
                      replace hr2 := hr2.more hB88 (fun _ h => h)
                      simp only [Act.put, List.setIfInBounds_toArray, List.set_cons_succ, List.set_cons_zero]
                      refine wpi_exG (v := .tuple #[.pointer (some ⟨q81, 0, none⟩), .agg #[.int .i64 st, .slice ad83 b.length c84], .bool ha, .int .i64 0]) (fun _ => trivial) (wn rfl) rfl (ex_move rfl rfl) ?_
                      refine wpi_exG (v := .pointer (some ⟨q81, 0, none⟩)) (fun _ => trivial) (wn rfl) rfl (ex_extract rfl rfl rfl) ?_
                      refine wpi_exG (v := .agg #[.int .i64 st, .slice ad83 b.length c84]) (fun _ => trivial) (wn rfl) rfl (ex_extract rfl rfl rfl) ?_
                      simp only [Act.put, List.setIfInBounds_toArray, List.set_cons_succ, List.set_cons_zero]
                      refine wpi_exG (v := .bool ha) (fun _ => trivial) (wn rfl) rfl (ex_extract rfl rfl rfl) ?_
                      refine wpi_exG (v := .int .i64 0) (fun _ => trivial) (wn rfl) rfl (ex_extract rfl rfl rfl) ?_
                      refine sl_alloc (fun _ => trivial) (wn rfl) rfl hv skal55 (fun b89 w90 hv => ?_)
                      simp only [Act.put, List.setIfInBounds_toArray, List.set_cons_succ, List.set_cons_zero]
                      refine wpi_exG (v := .pointer (some ⟨q81, 0, none⟩)) (fun _ => trivial) (wn rfl) rfl (ex_assign rfl rfl) ?_
                      refine sl_storeNAt 0 (new := [.int .i64 st, .slice ad83 b.length c84]) (pre := []) (mid := [.int .i64 0, .slice none 0 0]) (post := []) (L' := [.int .i64 st, .slice ad83 b.length c84]) (fun _ => trivial) (wn rfl) rfl rfl rfl hv rfl sksz55 rfl rfl rfl (one_cons rfl (one_cons rfl one_nil)) rfl (fun w91 hv => ?_)
                      simp only [List.set_cons_succ, List.set_cons_zero] at hv
                      refine wpi_exG (v := .bool ha) (fun _ => trivial) (wn rfl) rfl (ex_assign rfl rfl) ?_
                      simp only [Act.put, List.setIfInBounds_toArray, List.set_cons_succ, List.set_cons_zero]
                      refine wpi_exG (v := .int .i64 0) (fun _ => trivial) (wn rfl) rfl (ex_assign rfl rfl) ?_
                      refine wpListIn_nil ?_
                      simp only [Act.put, List.setIfInBounds_toArray, List.set_cons_succ, List.set_cons_zero]
                      refine then_normal (hK80 _ _ ?_)
                      clear hK80 K80
                      refine wpIn_seq_k (fun K92 hK92 => ?_)
                      refine wpIn_seq_k (fun K93 hK93 => ?_)
                      refine wpIn_region_lit ?_
                      refine wpi_exG (v := .pointer (some ⟨q81, 0, none⟩)) (fun _ => trivial) (wn rfl) rfl (ex_move rfl rfl) ?_
                      refine wpi_exG (v := .bool false) (fun _ => trivial) (wn rfl) rfl (ex_pisnil Try.underlying53 rfl rfl rfl rfl) ?_
                      refine wpi_exG (v := .bool false) (fun _ => trivial) (wn rfl) rfl (ex_move rfl rfl) ?_
                      simp only [Act.put, List.setIfInBounds_toArray, List.set_cons_succ, List.set_cons_zero]
                      refine wpi_exG (v := .int .i64 0) (fun _ => trivial) (wanted_of (j := 2) (d := 125) (b := false) rfl rfl rfl) rfl (ex_move rfl rfl) ?_
                      refine wpi_exG (v := .bool false) (fun _ => trivial) (wanted_of (j := 2) (d := 125) (b := false) rfl rfl rfl) rfl (ex_neq (k := .i64) (m := 0) (n := 0) rfl rfl rfl (by decide)) ?_
                      refine wpi_exG (v := .bool false) (fun _ => trivial) (wn rfl) rfl (ex_pick (b := false) rfl rfl rfl) ?_
                      simp only [Act.put, List.setIfInBounds_toArray, List.set_cons_succ, List.set_cons_zero]
                      refine wpi_exG (v := .bool false) (fun _ => trivial) (wn rfl) rfl (ex_move rfl rfl) ?_
                      refine wpi_exG (v := .bool ha) (fun _ => trivial) (wanted_of (j := 6) (d := 129) (b := false) rfl rfl rfl) rfl (ex_move rfl rfl) ?_
                      refine wpi_exG (v := .bool ha) (fun _ => trivial) (wanted_of (j := 6) (d := 129) (b := false) rfl rfl rfl) rfl (ex_move rfl rfl) ?_
                      simp only [Act.put, List.setIfInBounds_toArray, List.set_cons_succ, List.set_cons_zero]
                      refine wpi_exG (v := .bool true) (fun _ => trivial) (wanted_of (j := 6) (d := 129) (b := false) rfl rfl rfl) rfl (ex_beql (p := ha) (q := ha) Try.underlying4 rfl rfl rfl (by simp)) ?_
                      refine wpi_exG (v := .bool true) (fun _ => trivial) (wanted_of (j := 6) (d := 129) (b := false) rfl rfl rfl) rfl (ex_move rfl rfl) ?_
                      refine wpi_exG (v := .agg #[.int .i64 st, .slice ad83 b.length c84]) (fun _ => trivial) (wanted_of (j := 10) (d := 133) (b := true) rfl rfl rfl) rfl (ex_load rfl rfl (run_load_mid (pre := []) (mid := [.int .i64 st, .slice ad83 b.length c84]) (post := []) skwd55 (show Blk _ b89 ([] ++ [.int .i64 st, .slice ad83 b.length c84] ++ []) _ from hv.get 0 rfl) rfl)) ?_
                      simp only [Act.put, List.setIfInBounds_toArray, List.set_cons_succ, List.set_cons_zero]
                      refine wpi_exG (v := .agg #[.int .i64 st, .slice a1 b.length c1]) (fun _ => trivial) (wanted_of (j := 10) (d := 133) (b := true) rfl rfl rfl) rfl (ex_load rfl rfl (run_load_mid (pre := []) (mid := [.int .i64 st, .slice a1 b.length c1]) (post := []) skwd55 (show Blk _ b30 ([] ++ [.int .i64 st, .slice a1 b.length c1] ++ []) _ from hv.get 5 rfl) rfl)) ?_
                      refine wpi_callG skcallable32 (fun _ => trivial) wideC rfl (wanted_of (j := 10) (d := 133) (b := true) rfl rfl rfl) rfl (args := #[.agg #[.int .i64 st, .slice ad83 b.length c84], .agg #[.int .i64 st, .slice a1 b.length c1]]) (by simp only [List.map_toArray, List.map_cons, List.map_nil]; rfl) ((lawSame08 _ _ _ st st _ _ _ _ _ _ b b rfl rfl hrx hr1 hv).mono ?_)
                      rintro e w94 ⟨he, hv⟩
                      rw [same_refl] at he
                      subst he
                      refine ⟨_, rfl, ?_⟩
                      refine wpi_exG (v := .bool true) (fun _ => trivial) (wanted_of (j := 6) (d := 129) (b := false) rfl rfl rfl) rfl (ex_pick (b := true) rfl rfl rfl) ?_
                      simp only [Act.put, List.setIfInBounds_toArray, List.set_cons_succ, List.set_cons_zero]
                      refine wpi_exG (v := .bool false) (fun _ => trivial) (wanted_of (j := 6) (d := 129) (b := false) rfl rfl rfl) rfl (ex_not rfl rfl rfl) ?_
                      refine wpi_exG (v := .bool false) (fun _ => trivial) (wanted_of (j := 6) (d := 129) (b := false) rfl rfl rfl) rfl (ex_move rfl rfl) ?_
                      refine wpi_not (fun _ => trivial) (wanted_not (j := 16) (d := 139) (b := true) (b' := false) rfl rfl rfl (by decide)) ?_
                      simp only [Act.put, List.setIfInBounds_toArray, List.set_cons_succ, List.set_cons_zero]
                      refine wpi_not (fun _ => trivial) (wanted_not (j := 16) (d := 139) (b := true) (b' := false) rfl rfl rfl (by decide)) ?_
                      refine wpi_not (fun _ => trivial) (wanted_undef (j := 18) (d := 141) rfl rfl rfl) ?_
                      refine wpi_not (fun _ => trivial) (wanted_not (j := 16) (d := 139) (b := true) (b' := false) rfl rfl rfl (by decide)) ?_
                      simp only [Act.put, List.setIfInBounds_toArray, List.set_cons_succ, List.set_cons_zero]
                      refine wpi_not (fun _ => trivial) (wanted_not (j := 16) (d := 139) (b := true) (b' := false) rfl rfl rfl (by decide)) ?_
                      refine wpi_not (fun _ => trivial) (wanted_undef (j := 21) (d := 144) rfl rfl rfl) ?_
                      refine wpi_not (fun _ => trivial) (wanted_undef (j := 21) (d := 144) rfl rfl rfl) ?_
                      simp only [Act.put, List.setIfInBounds_toArray, List.set_cons_succ, List.set_cons_zero]
                      refine wpi_not (fun _ => trivial) (wanted_undef (j := 21) (d := 144) rfl rfl rfl) ?_
                      refine wpi_not (fun _ => trivial) (wanted_not (j := 16) (d := 139) (b := true) (b' := false) rfl rfl rfl (by decide)) ?_
                      refine wpi_not (fun _ => trivial) (wanted_not (j := 16) (d := 139) (b := true) (b' := false) rfl rfl rfl (by decide)) ?_
                      simp only [Act.put, List.setIfInBounds_toArray, List.set_cons_succ, List.set_cons_zero]
                      refine wpi_exG (v := .bool false) (fun _ => trivial) (wanted_of (j := 6) (d := 129) (b := false) rfl rfl rfl) rfl (ex_pick (b := false) rfl rfl rfl) ?_
                      refine wpi_exG (v := .bool false) (fun _ => trivial) (wn rfl) rfl (ex_pick (b := false) rfl rfl rfl) ?_
                      refine wpListIn_nil ?_
                      simp only [Act.put, List.setIfInBounds_toArray, List.set_cons_succ, List.set_cons_zero]
                      refine then_normal (hK93 _ _ ?_)
                      clear hK93 K93
                      refine wpIn_cond_false rfl ?_
                      refine wpIn_skip ?_
                      refine then_normal (hK92 _ _ ?_)
                      clear hK92 K92
                      refine region_st mixed [.pointer (some ⟨q81, 0, none⟩), .agg #[.int .i64 st, .slice ad83 b.length c84], .bool ha, .pointer (some ⟨q81, 0, none⟩), undef, .bool ha, .bool false] [4] [⟨fun vals w => vals = [] ∧ Inv B87 (Res.cell b89 [.int .i64 st, .slice ad83 b.length c84] 55 :: Res.cell q81 [.pointer (some ⟨p10, 0, none⟩), .int .i64 ((0 : Nat) : Int), .int .i64 (n : Int), .int .i64 (ge : Int), .bool false] 102 :: diskR p10 (D.crash ks) F85 :: Res.cell b43 [.int .i64 kd, .int .i64 nn, .int .i64 xs, .slice ax xb.length cx, .slice ak ks.length ck] 69 :: Res.cell q [.pointer (some ⟨p10, 0, none⟩), .int .i64 ((0 : Nat) : Int), .int .i64 (n : Int), .int .i64 (ge : Int), .bool fa] 102 :: Res.cell b30 [.int .i64 st, .slice a1 b.length c1] 55 :: Res.cell b32 [.int .i64 ut, .slice a2 ub.length c2] 55 :: H) w, fun _ _ _ ⟨h, hi⟩ he => ⟨h, hi.ext he⟩⟩, ⟨fun vals w => vals = [undef] ∧ Inv B87 (Res.cell b89 [.int .i64 st, .slice ad83 b.length c84] 55 :: Res.cell q81 [.pointer (some ⟨p10, 0, none⟩), .int .i64 ((0 : Nat) : Int), .int .i64 (n : Int), .int .i64 (ge : Int), .bool false] 102 :: diskR p10 (D.crash ks) F85 :: Res.cell b43 [.int .i64 kd, .int .i64 nn, .int .i64 xs, .slice ax xb.length cx, .slice ak ks.length ck] 69 :: Res.cell q [.pointer (some ⟨p10, 0, none⟩), .int .i64 ((0 : Nat) : Int), .int .i64 (n : Int), .int .i64 (ge : Int), .bool fa] 102 :: Res.cell b30 [.int .i64 st, .slice ad83 b.length c84] 55 :: Res.cell b32 [.int .i64 ut, .slice a2 ub.length c2] 55 :: H) w, fun _ _ _ ⟨h, hi⟩ he => ⟨h, hi.ext he⟩⟩] 155 rfl (by kernel_rfl) ⟨rfl, hv⟩ ⟨?_, ?_, ?_, ?_, ?_, ?_, ?_, trivial⟩ ?_
                      · intro aa ww vals hJ hR
                        exact add_step' rfl (Ex.adds' (ex_move rfl (show aa.eval (.tmp 19) = _ from hR.keep 19 rfl)) (wn rfl) rfl)
                      · intro aa ww vals hJ hR
                        have h2 : vals.length ≤ 0 := hR.hi 4 (by simp) rfl
                        have hl : vals.length = 0 := by omega
                        obtain ⟨hvals, hv⟩ := hJ.at0 hl
                        exact add_step' rfl (Ex.adds' (ex_load rfl (show aa.eval (.tmp 20) = _ from hR.keep 20 rfl) (run_load_mid (pre := []) (mid := [.int .i64 st, .slice ad83 b.length c84]) (post := []) skwd55 (show Blk _ b89 ([] ++ [.int .i64 st, .slice ad83 b.length c84] ++ []) _ from hv.get 0 rfl) rfl)) (wn rfl) rfl)
                      · intro aa ww vals hJ hR
                        exact add_step' rfl (Ex.adds' (ex_move rfl (show aa.eval (.tmp 21) = _ from hR.keep 21 rfl)) (wn rfl) rfl)
                      · intro aa ww vals hJ hR
                        exact add_step' rfl (Ex.adds' (ex_assign rfl (show aa.eval (.tmp 152) = _ from hR.v 0 152 rfl rfl rfl rfl)) (wn rfl) rfl)
                      · intro aa ww vals hJ hR
                        refine mem_step' rfl fun hvl => ?_
                        have hl : vals.length = 0 := hvl
                        obtain ⟨hvals, hv⟩ := hJ.at0 hl
                        refine mem_storeNAt 5 (new := [.int .i64 st, .slice ad83 b.length c84]) (pre := []) (mid := [.int .i64 st, .slice a1 b.length c1]) (post := []) (L' := [.int .i64 st, .slice ad83 b.length c84]) (wn rfl) rfl (show aa.eval (.tmp 12) = _ from hR.keep 12 rfl) (show aa.eval (.tmp 153) = _ from hR.v 1 153 rfl rfl rfl rfl) hv rfl sksz55 rfl rfl rfl (one_cons rfl (one_cons rfl one_nil)) rfl (fun w95 hv => ?_)
                        exact JS.next hl ⟨by rw [hvals]; rfl, hv⟩
                      · intro aa ww vals hJ hR
                        exact add_step' rfl (Ex.adds' (ex_assign rfl (show aa.eval (.tmp 154) = _ from hR.v 2 154 rfl rfl rfl rfl)) (wn rfl) rfl)
                      · intro aa ww vals hJ hR
                        exact add_step' rfl (Ex.adds' (ex_assign rfl rfl) (wn rfl) rfl)
                      rintro w96 vals ⟨rfl, hv⟩
                      rw [show mixV [4] [undef] 0 [.pointer (some ⟨q81, 0, none⟩), .agg #[.int .i64 st, .slice ad83 b.length c84], .bool ha, .pointer (some ⟨q81, 0, none⟩), undef, .bool ha, .bool false] = [.pointer (some ⟨q81, 0, none⟩), .agg #[.int .i64 st, .slice ad83 b.length c84], .bool ha, .pointer (some ⟨q81, 0, none⟩), undef, .bool ha, .bool false] from rfl]
                      simp only [putAll, Act.put, List.setIfInBounds_toArray, List.set_cons_succ, List.set_cons_zero]
                      refine blk_normal ?_
                      refine blk_normal ?_
                      refine then_normal (hK41 _ _ ?_)
                      clear hK41 K41
                      refine wpIn_region_lit ?_
                      refine wpi_exG (v := .int .i64 (i : Int)) (fun _ => trivial) (wn rfl) rfl (ex_move rfl rfl) ?_
                      refine wpi_exG (v := .int .i64 ((i : Int) + 1)) (fun _ => trivial) (wn rfl) rfl (ex_add (m := (i : Int)) (n := 1) rfl rfl rfl (i64_in (by omega))) ?_
                      refine wpi_exG (v := .int .i64 ((i : Int) + 1)) (fun _ => trivial) (wn rfl) rfl (ex_assign rfl rfl) ?_
                      refine wpListIn_nil ?_
                      simp only [Act.put, List.setIfInBounds_toArray, List.set_cons_succ, List.set_cons_zero]
                      refine then_normal ?_
                      go_roundw
                      case rel => exact ⟨_, i + 1, ge, _, _, _, _, _, _, _, _, _, _, _, _, _, (hBC.trans hB88), rfl, rfl, rfl, by simp, by omega, by omega, (KState.fresh hKH rfl _ _), hrx, hr2, (((((hv.front 2 rfl).front 6 rfl).front 6 rfl).front 4 rfl).sub (List.Sublist.cons_cons _ (List.Sublist.cons_cons _ (List.Sublist.cons_cons _ (List.Sublist.cons_cons _ (List.Sublist.cons _ (List.Sublist.cons _ (List.Sublist.cons _ (List.Sublist.refl _)))))))))⟩
                      case measure => show m + 1 - ((i : Int) + 1).toNat < m + 1 - (i : Int).toNat; omega
                    · have hv := hvN
                      refine wpListIn_nil ?_
                      simp only [Act.put, List.setIfInBounds_toArray, List.set_cons_succ, List.set_cons_zero]
                      refine then_normal (hK77 _ _ ?_)
                      clear hK77 K77
                      refine wpIn_seq_k (fun K97 hK97 => ?_)
                      refine wpIn_region_lit ?_
                      refine wpi_exG (v := .pointer (some ⟨p10, 0, none⟩)) (fun _ => trivial) (wn rfl) rfl (ex_move rfl rfl) ?_
                      refine wpi_exG (v := .int .i64 (n : Int)) (fun _ => trivial) (wn rfl) rfl (ex_move rfl rfl) ?_
                      refine wpi_callG skcallable30 (fun _ => trivial) wideC rfl (wn rfl) rfl (args := #[.pointer (some ⟨p10, 0, none⟩), .int .i64 0, .int .i64 (n : Int)]) (by simp only [List.map_toArray, List.map_cons, List.map_nil]; rfl) ((slotsOpen _ _ _ p10 0 n (D.crash ks) (D.crash ks) _ (crash_tick _ _) (by show (0 : Nat) ≤ _; omega) (has_of (by omega) (by rw [hKH.len]; omega)) (by show (-1 : Int) ≠ 0; decide) (by omega) (by omega) (by rw [hKH.len]; omega) (by rw [hKH.len]; omega) hv).mono ?_)
                      rintro e w103 ⟨q98, cur99, ad100, c101, F102, hcur, rfl, hv⟩
                      refine ⟨_, rfl, ?_⟩
                      have hokE : Disk.Ok (D.crash ks) := (hv.get 2 rfl : DiskAt _ _ (D.crash ks) _).1
                      obtain ⟨hcg, hct, hcb, hch⟩ := hKH.cur hokE rfl hn1 hcur
                      rw [hch, hct, hcb]
                      simp only [slCells, hcg, hcb] at hv
                      replace hv := hv.front 1 rfl
                      simp only [List.eraseIdx_cons_succ, List.eraseIdx_cons_zero] at hv
                      obtain ⟨B104, hB105, hv, hrx, _⟩ := Inv.rowStays hv
                      replace hr1 := hr1.more hB105 (fun _ h => h)
                      replace hr2 := hr2.more hB105 (fun _ h => h)
                      simp only [Act.put, List.setIfInBounds_toArray, List.set_cons_succ, List.set_cons_zero]
                      refine wpi_exG (v := .tuple #[.pointer (some ⟨q98, 0, none⟩), .agg #[.int .i64 ut, .slice ad100 ub.length c101], .bool true, .int .i64 0]) (fun _ => trivial) (wn rfl) rfl (ex_move rfl rfl) ?_
                      refine wpi_exG (v := .pointer (some ⟨q98, 0, none⟩)) (fun _ => trivial) (wn rfl) rfl (ex_extract rfl rfl rfl) ?_
                      refine wpi_exG (v := .agg #[.int .i64 ut, .slice ad100 ub.length c101]) (fun _ => trivial) (wn rfl) rfl (ex_extract rfl rfl rfl) ?_
                      simp only [Act.put, List.setIfInBounds_toArray, List.set_cons_succ, List.set_cons_zero]
                      refine wpi_exG (v := .bool true) (fun _ => trivial) (wn rfl) rfl (ex_extract rfl rfl rfl) ?_
                      refine wpi_exG (v := .int .i64 0) (fun _ => trivial) (wn rfl) rfl (ex_extract rfl rfl rfl) ?_
                      refine sl_alloc (fun _ => trivial) (wn rfl) rfl hv skal55 (fun b106 w107 hv => ?_)
                      simp only [Act.put, List.setIfInBounds_toArray, List.set_cons_succ, List.set_cons_zero]
                      refine wpi_exG (v := .pointer (some ⟨q98, 0, none⟩)) (fun _ => trivial) (wn rfl) rfl (ex_assign rfl rfl) ?_
                      refine sl_storeNAt 0 (new := [.int .i64 ut, .slice ad100 ub.length c101]) (pre := []) (mid := [.int .i64 0, .slice none 0 0]) (post := []) (L' := [.int .i64 ut, .slice ad100 ub.length c101]) (fun _ => trivial) (wn rfl) rfl rfl rfl hv rfl sksz55 rfl rfl rfl (one_cons rfl (one_cons rfl one_nil)) rfl (fun w108 hv => ?_)
                      simp only [List.set_cons_succ, List.set_cons_zero] at hv
                      refine wpi_exG (v := .bool true) (fun _ => trivial) (wn rfl) rfl (ex_assign rfl rfl) ?_
                      simp only [Act.put, List.setIfInBounds_toArray, List.set_cons_succ, List.set_cons_zero]
                      refine wpi_exG (v := .int .i64 0) (fun _ => trivial) (wn rfl) rfl (ex_assign rfl rfl) ?_
                      refine wpListIn_nil ?_
                      simp only [Act.put, List.setIfInBounds_toArray, List.set_cons_succ, List.set_cons_zero]
                      refine then_normal (hK97 _ _ ?_)
                      clear hK97 K97
                      refine wpIn_seq_k (fun K109 hK109 => ?_)
                      refine wpIn_seq_k (fun K110 hK110 => ?_)
                      refine wpIn_region_lit ?_
                      refine wpi_exG (v := .pointer (some ⟨q98, 0, none⟩)) (fun _ => trivial) (wn rfl) rfl (ex_move rfl rfl) ?_
                      refine wpi_exG (v := .bool false) (fun _ => trivial) (wn rfl) rfl (ex_pisnil Try.underlying53 rfl rfl rfl rfl) ?_
                      refine wpi_exG (v := .bool false) (fun _ => trivial) (wn rfl) rfl (ex_move rfl rfl) ?_
                      simp only [Act.put, List.setIfInBounds_toArray, List.set_cons_succ, List.set_cons_zero]
                      refine wpi_exG (v := .int .i64 0) (fun _ => trivial) (wanted_of (j := 2) (d := 125) (b := false) rfl rfl rfl) rfl (ex_move rfl rfl) ?_
                      refine wpi_exG (v := .bool false) (fun _ => trivial) (wanted_of (j := 2) (d := 125) (b := false) rfl rfl rfl) rfl (ex_neq (k := .i64) (m := 0) (n := 0) rfl rfl rfl (by decide)) ?_
                      refine wpi_exG (v := .bool false) (fun _ => trivial) (wn rfl) rfl (ex_pick (b := false) rfl rfl rfl) ?_
                      simp only [Act.put, List.setIfInBounds_toArray, List.set_cons_succ, List.set_cons_zero]
                      refine wpi_exG (v := .bool false) (fun _ => trivial) (wn rfl) rfl (ex_move rfl rfl) ?_
                      refine wpi_exG (v := .bool true) (fun _ => trivial) (wanted_of (j := 6) (d := 129) (b := false) rfl rfl rfl) rfl (ex_move rfl rfl) ?_
                      refine wpi_exG (v := .bool ha) (fun _ => trivial) (wanted_of (j := 6) (d := 129) (b := false) rfl rfl rfl) rfl (ex_move rfl rfl) ?_
                      simp only [Act.put, List.setIfInBounds_toArray, List.set_cons_succ, List.set_cons_zero]
                      have hvN := hv
                      cases ha
                      · have hv := hvN
                        refine wpi_exG (v := .bool false) (fun _ => trivial) (wanted_of (j := 6) (d := 129) (b := false) rfl rfl rfl) rfl (ex_beql (p := true) (q := false) Try.underlying4 rfl rfl rfl (by simp)) ?_
                        refine wpi_exG (v := .bool false) (fun _ => trivial) (wanted_of (j := 6) (d := 129) (b := false) rfl rfl rfl) rfl (ex_move rfl rfl) ?_
                        refine wpi_not (fun _ => trivial) (wanted_not (j := 10) (d := 133) (b := true) (b' := false) rfl rfl rfl (by decide)) ?_
                        simp only [Act.put, List.setIfInBounds_toArray, List.set_cons_succ, List.set_cons_zero]
                        refine wpi_not (fun _ => trivial) (wanted_not (j := 10) (d := 133) (b := true) (b' := false) rfl rfl rfl (by decide)) ?_
                        refine wpi_not (fun _ => trivial) (wanted_not (j := 10) (d := 133) (b := true) (b' := false) rfl rfl rfl (by decide)) ?_
                        refine wpi_exG (v := .bool false) (fun _ => trivial) (wanted_of (j := 6) (d := 129) (b := false) rfl rfl rfl) rfl (ex_pick (b := false) rfl rfl rfl) ?_
                        simp only [Act.put, List.setIfInBounds_toArray, List.set_cons_succ, List.set_cons_zero]
                        refine wpi_exG (v := .bool true) (fun _ => trivial) (wanted_of (j := 6) (d := 129) (b := false) rfl rfl rfl) rfl (ex_not rfl rfl rfl) ?_
                        refine wpi_exG (v := .bool true) (fun _ => trivial) (wanted_of (j := 6) (d := 129) (b := false) rfl rfl rfl) rfl (ex_move rfl rfl) ?_
                        refine wpi_exG (v := .bool true) (fun _ => trivial) (wanted_of (j := 16) (d := 139) (b := true) rfl rfl rfl) rfl (ex_move rfl rfl) ?_
                        simp only [Act.put, List.setIfInBounds_toArray, List.set_cons_succ, List.set_cons_zero]
                        refine wpi_exG (v := .bool true) (fun _ => trivial) (wanted_of (j := 16) (d := 139) (b := true) rfl rfl rfl) rfl (ex_move rfl rfl) ?_
                        refine wpi_exG (v := .bool true) (fun _ => trivial) (wanted_of (j := 18) (d := 141) (b := true) rfl rfl rfl) rfl (ex_move rfl rfl) ?_
                        refine wpi_exG (v := .bool true) (fun _ => trivial) (wanted_of (j := 16) (d := 139) (b := true) rfl rfl rfl) rfl (ex_pick (b := true) rfl rfl rfl) ?_
                        simp only [Act.put, List.setIfInBounds_toArray, List.set_cons_succ, List.set_cons_zero]
                        refine wpi_exG (v := .bool true) (fun _ => trivial) (wanted_of (j := 16) (d := 139) (b := true) rfl rfl rfl) rfl (ex_move rfl rfl) ?_
                        refine wpi_exG (v := .agg #[.int .i64 ut, .slice ad100 ub.length c101]) (fun _ => trivial) (wanted_of (j := 21) (d := 144) (b := true) rfl rfl rfl) rfl (ex_load rfl rfl (run_load_mid (pre := []) (mid := [.int .i64 ut, .slice ad100 ub.length c101]) (post := []) skwd55 (show Blk _ b106 ([] ++ [.int .i64 ut, .slice ad100 ub.length c101] ++ []) _ from hv.get 0 rfl) rfl)) ?_
                        refine wpi_exG (v := .agg #[.int .i64 ut, .slice a2 ub.length c2]) (fun _ => trivial) (wanted_of (j := 21) (d := 144) (b := true) rfl rfl rfl) rfl (ex_load rfl rfl (run_load_mid (pre := []) (mid := [.int .i64 ut, .slice a2 ub.length c2]) (post := []) skwd55 (show Blk _ b32 ([] ++ [.int .i64 ut, .slice a2 ub.length c2] ++ []) _ from hv.get 6 rfl) rfl)) ?_
                        simp only [Act.put, List.setIfInBounds_toArray, List.set_cons_succ, List.set_cons_zero]
                        refine wpi_callG skcallable32 (fun _ => trivial) wideC rfl (wanted_of (j := 21) (d := 144) (b := true) rfl rfl rfl) rfl (args := #[.agg #[.int .i64 ut, .slice ad100 ub.length c101], .agg #[.int .i64 ut, .slice a2 ub.length c2]]) (by simp only [List.map_toArray, List.map_cons, List.map_nil]; rfl) ((lawSame08 _ _ _ ut ut _ _ _ _ _ _ ub ub rfl rfl hrx hr2 hv).mono ?_)
                        rintro e w111 ⟨he, hv⟩
                        rw [same_refl] at he
                        subst he
                        refine ⟨_, rfl, ?_⟩
                        refine wpi_exG (v := .bool true) (fun _ => trivial) (wanted_of (j := 16) (d := 139) (b := true) rfl rfl rfl) rfl (ex_pick (b := true) rfl rfl rfl) ?_
                        refine wpi_exG (v := .bool false) (fun _ => trivial) (wanted_of (j := 16) (d := 139) (b := true) rfl rfl rfl) rfl (ex_not rfl rfl rfl) ?_
                        simp only [Act.put, List.setIfInBounds_toArray, List.set_cons_succ, List.set_cons_zero]
                        refine wpi_exG (v := .bool false) (fun _ => trivial) (wanted_of (j := 6) (d := 129) (b := false) rfl rfl rfl) rfl (ex_pick (b := true) rfl rfl rfl) ?_
                        refine wpi_exG (v := .bool false) (fun _ => trivial) (wn rfl) rfl (ex_pick (b := false) rfl rfl rfl) ?_
                        refine wpListIn_nil ?_
                        simp only [Act.put, List.setIfInBounds_toArray, List.set_cons_succ, List.set_cons_zero]
                        refine then_normal (hK110 _ _ ?_)
                        clear hK110 K110
                        refine wpIn_cond_false rfl ?_
                        refine wpIn_skip ?_
                        refine then_normal (hK109 _ _ ?_)
                        clear hK109 K109
                        refine region_st mixed [.pointer (some ⟨q98, 0, none⟩), .agg #[.int .i64 ut, .slice ad100 ub.length c101], .bool true, .pointer (some ⟨q98, 0, none⟩), undef, .bool true, .bool false] [4] [⟨fun vals w => vals = [] ∧ Inv B104 (Res.cell b106 [.int .i64 ut, .slice ad100 ub.length c101] 55 :: Res.cell q98 [.pointer (some ⟨p10, 0, none⟩), .int .i64 ((0 : Nat) : Int), .int .i64 (n : Int), .int .i64 (ge + 1 : Int), .bool false] 102 :: diskR p10 (D.crash ks) F102 :: Res.cell b43 [.int .i64 kd, .int .i64 nn, .int .i64 xs, .slice ax xb.length cx, .slice ak ks.length ck] 69 :: Res.cell q [.pointer (some ⟨p10, 0, none⟩), .int .i64 ((0 : Nat) : Int), .int .i64 (n : Int), .int .i64 (ge : Int), .bool true] 102 :: Res.cell b30 [.int .i64 st, .slice a1 b.length c1] 55 :: Res.cell b32 [.int .i64 ut, .slice a2 ub.length c2] 55 :: H) w, fun _ _ _ ⟨h, hi⟩ he => ⟨h, hi.ext he⟩⟩, ⟨fun vals w => vals = [undef] ∧ Inv B104 (Res.cell b106 [.int .i64 ut, .slice ad100 ub.length c101] 55 :: Res.cell q98 [.pointer (some ⟨p10, 0, none⟩), .int .i64 ((0 : Nat) : Int), .int .i64 (n : Int), .int .i64 (ge + 1 : Int), .bool false] 102 :: diskR p10 (D.crash ks) F102 :: Res.cell b43 [.int .i64 kd, .int .i64 nn, .int .i64 xs, .slice ax xb.length cx, .slice ak ks.length ck] 69 :: Res.cell q [.pointer (some ⟨p10, 0, none⟩), .int .i64 ((0 : Nat) : Int), .int .i64 (n : Int), .int .i64 (ge : Int), .bool true] 102 :: Res.cell b30 [.int .i64 ut, .slice ad100 ub.length c101] 55 :: Res.cell b32 [.int .i64 ut, .slice a2 ub.length c2] 55 :: H) w, fun _ _ _ ⟨h, hi⟩ he => ⟨h, hi.ext he⟩⟩] 155 rfl (by kernel_rfl) ⟨rfl, hv⟩ ⟨?_, ?_, ?_, ?_, ?_, ?_, ?_, trivial⟩ ?_
                        · intro aa ww vals hJ hR
                          exact add_step' rfl (Ex.adds' (ex_move rfl (show aa.eval (.tmp 19) = _ from hR.keep 19 rfl)) (wn rfl) rfl)
                        · intro aa ww vals hJ hR
                          have h2 : vals.length ≤ 0 := hR.hi 4 (by simp) rfl
                          have hl : vals.length = 0 := by omega
                          obtain ⟨hvals, hv⟩ := hJ.at0 hl
                          exact add_step' rfl (Ex.adds' (ex_load rfl (show aa.eval (.tmp 20) = _ from hR.keep 20 rfl) (run_load_mid (pre := []) (mid := [.int .i64 ut, .slice ad100 ub.length c101]) (post := []) skwd55 (show Blk _ b106 ([] ++ [.int .i64 ut, .slice ad100 ub.length c101] ++ []) _ from hv.get 0 rfl) rfl)) (wn rfl) rfl)
                        · intro aa ww vals hJ hR
                          exact add_step' rfl (Ex.adds' (ex_move rfl (show aa.eval (.tmp 21) = _ from hR.keep 21 rfl)) (wn rfl) rfl)
                        · intro aa ww vals hJ hR
                          exact add_step' rfl (Ex.adds' (ex_assign rfl (show aa.eval (.tmp 152) = _ from hR.v 0 152 rfl rfl rfl rfl)) (wn rfl) rfl)
                        · intro aa ww vals hJ hR
                          refine mem_step' rfl fun hvl => ?_
                          have hl : vals.length = 0 := hvl
                          obtain ⟨hvals, hv⟩ := hJ.at0 hl
                          refine mem_storeNAt 5 (new := [.int .i64 ut, .slice ad100 ub.length c101]) (pre := []) (mid := [.int .i64 st, .slice a1 b.length c1]) (post := []) (L' := [.int .i64 ut, .slice ad100 ub.length c101]) (wn rfl) rfl (show aa.eval (.tmp 12) = _ from hR.keep 12 rfl) (show aa.eval (.tmp 153) = _ from hR.v 1 153 rfl rfl rfl rfl) hv rfl sksz55 rfl rfl rfl (one_cons rfl (one_cons rfl one_nil)) rfl (fun w112 hv => ?_)
                          exact JS.next hl ⟨by rw [hvals]; rfl, hv⟩
                        · intro aa ww vals hJ hR
                          exact add_step' rfl (Ex.adds' (ex_assign rfl (show aa.eval (.tmp 154) = _ from hR.v 2 154 rfl rfl rfl rfl)) (wn rfl) rfl)
                        · intro aa ww vals hJ hR
                          exact add_step' rfl (Ex.adds' (ex_assign rfl rfl) (wn rfl) rfl)
                        rintro w113 vals ⟨rfl, hv⟩
                        rw [show mixV [4] [undef] 0 [.pointer (some ⟨q98, 0, none⟩), .agg #[.int .i64 ut, .slice ad100 ub.length c101], .bool true, .pointer (some ⟨q98, 0, none⟩), undef, .bool true, .bool false] = [.pointer (some ⟨q98, 0, none⟩), .agg #[.int .i64 ut, .slice ad100 ub.length c101], .bool true, .pointer (some ⟨q98, 0, none⟩), undef, .bool true, .bool false] from rfl]
                        simp only [putAll, Act.put, List.setIfInBounds_toArray, List.set_cons_succ, List.set_cons_zero]
                        refine blk_normal ?_
                        refine blk_normal ?_
                        refine then_normal (hK41 _ _ ?_)
                        clear hK41 K41
                        refine wpIn_region_lit ?_
                        refine wpi_exG (v := .int .i64 (i : Int)) (fun _ => trivial) (wn rfl) rfl (ex_move rfl rfl) ?_
                        refine wpi_exG (v := .int .i64 ((i : Int) + 1)) (fun _ => trivial) (wn rfl) rfl (ex_add (m := (i : Int)) (n := 1) rfl rfl rfl (i64_in (by omega))) ?_
                        refine wpi_exG (v := .int .i64 ((i : Int) + 1)) (fun _ => trivial) (wn rfl) rfl (ex_assign rfl rfl) ?_
                        refine wpListIn_nil ?_
                        simp only [Act.put, List.setIfInBounds_toArray, List.set_cons_succ, List.set_cons_zero]
                        refine then_normal ?_
                        go_roundw
                        case rel => exact ⟨_, i + 1, (ge + 1), _, _, _, _, _, _, _, _, _, _, _, _, _, (hBC.trans hB105), rfl, rfl, rfl, by simp, by omega, by omega, (KState.fresh hKH rfl _ _), hrx, hr2, (((((hv.front 2 rfl).front 6 rfl).front 6 rfl).front 4 rfl).sub (List.Sublist.cons_cons _ (List.Sublist.cons_cons _ (List.Sublist.cons_cons _ (List.Sublist.cons_cons _ (List.Sublist.cons _ (List.Sublist.cons _ (List.Sublist.cons _ (List.Sublist.refl _)))))))))⟩
                        case measure => show m + 1 - ((i : Int) + 1).toNat < m + 1 - (i : Int).toNat; omega
                      · have hv := hvN
                        refine wpi_exG (v := .bool true) (fun _ => trivial) (wanted_of (j := 6) (d := 129) (b := false) rfl rfl rfl) rfl (ex_beql (p := true) (q := true) Try.underlying4 rfl rfl rfl (by simp)) ?_
                        refine wpi_exG (v := .bool true) (fun _ => trivial) (wanted_of (j := 6) (d := 129) (b := false) rfl rfl rfl) rfl (ex_move rfl rfl) ?_
                        refine wpi_exG (v := .agg #[.int .i64 ut, .slice ad100 ub.length c101]) (fun _ => trivial) (wanted_of (j := 10) (d := 133) (b := true) rfl rfl rfl) rfl (ex_load rfl rfl (run_load_mid (pre := []) (mid := [.int .i64 ut, .slice ad100 ub.length c101]) (post := []) skwd55 (show Blk _ b106 ([] ++ [.int .i64 ut, .slice ad100 ub.length c101] ++ []) _ from hv.get 0 rfl) rfl)) ?_
                        simp only [Act.put, List.setIfInBounds_toArray, List.set_cons_succ, List.set_cons_zero]
                        refine wpi_exG (v := .agg #[.int .i64 st, .slice a1 b.length c1]) (fun _ => trivial) (wanted_of (j := 10) (d := 133) (b := true) rfl rfl rfl) rfl (ex_load rfl rfl (run_load_mid (pre := []) (mid := [.int .i64 st, .slice a1 b.length c1]) (post := []) skwd55 (show Blk _ b30 ([] ++ [.int .i64 st, .slice a1 b.length c1] ++ []) _ from hv.get 5 rfl) rfl)) ?_
                        refine wpi_callG skcallable32 (fun _ => trivial) wideC rfl (wanted_of (j := 10) (d := 133) (b := true) rfl rfl rfl) rfl (args := #[.agg #[.int .i64 ut, .slice ad100 ub.length c101], .agg #[.int .i64 st, .slice a1 b.length c1]]) (by simp only [List.map_toArray, List.map_cons, List.map_nil]; rfl) ((lawSame08 _ _ _ ut st _ _ _ _ _ _ ub b rfl rfl hrx hr1 hv).mono ?_)
                        rintro e w114 ⟨he, hv⟩
                        cases hbb : (decide (ut = st) && decide (ub = b)) with
                        | false =>
                          rw [hbb] at he
                          subst he
                          refine ⟨_, rfl, ?_⟩
                          refine wpi_exG (v := .bool false) (fun _ => trivial) (wanted_of (j := 6) (d := 129) (b := false) rfl rfl rfl) rfl (ex_pick (b := true) rfl rfl rfl) ?_
                          simp only [Act.put, List.setIfInBounds_toArray, List.set_cons_succ, List.set_cons_zero]
                          refine wpi_exG (v := .bool true) (fun _ => trivial) (wanted_of (j := 6) (d := 129) (b := false) rfl rfl rfl) rfl (ex_not rfl rfl rfl) ?_
                          refine wpi_exG (v := .bool true) (fun _ => trivial) (wanted_of (j := 6) (d := 129) (b := false) rfl rfl rfl) rfl (ex_move rfl rfl) ?_
                          refine wpi_exG (v := .bool true) (fun _ => trivial) (wanted_of (j := 16) (d := 139) (b := true) rfl rfl rfl) rfl (ex_move rfl rfl) ?_
                          simp only [Act.put, List.setIfInBounds_toArray, List.set_cons_succ, List.set_cons_zero]
                          refine wpi_exG (v := .bool true) (fun _ => trivial) (wanted_of (j := 16) (d := 139) (b := true) rfl rfl rfl) rfl (ex_move rfl rfl) ?_
                          refine wpi_exG (v := .bool true) (fun _ => trivial) (wanted_of (j := 18) (d := 141) (b := true) rfl rfl rfl) rfl (ex_move rfl rfl) ?_
                          refine wpi_exG (v := .bool true) (fun _ => trivial) (wanted_of (j := 16) (d := 139) (b := true) rfl rfl rfl) rfl (ex_pick (b := true) rfl rfl rfl) ?_
                          simp only [Act.put, List.setIfInBounds_toArray, List.set_cons_succ, List.set_cons_zero]
                          refine wpi_exG (v := .bool true) (fun _ => trivial) (wanted_of (j := 16) (d := 139) (b := true) rfl rfl rfl) rfl (ex_move rfl rfl) ?_
                          refine wpi_exG (v := .agg #[.int .i64 ut, .slice ad100 ub.length c101]) (fun _ => trivial) (wanted_of (j := 21) (d := 144) (b := true) rfl rfl rfl) rfl (ex_load rfl rfl (run_load_mid (pre := []) (mid := [.int .i64 ut, .slice ad100 ub.length c101]) (post := []) skwd55 (show Blk _ b106 ([] ++ [.int .i64 ut, .slice ad100 ub.length c101] ++ []) _ from hv.get 0 rfl) rfl)) ?_
                          refine wpi_exG (v := .agg #[.int .i64 ut, .slice a2 ub.length c2]) (fun _ => trivial) (wanted_of (j := 21) (d := 144) (b := true) rfl rfl rfl) rfl (ex_load rfl rfl (run_load_mid (pre := []) (mid := [.int .i64 ut, .slice a2 ub.length c2]) (post := []) skwd55 (show Blk _ b32 ([] ++ [.int .i64 ut, .slice a2 ub.length c2] ++ []) _ from hv.get 6 rfl) rfl)) ?_
                          simp only [Act.put, List.setIfInBounds_toArray, List.set_cons_succ, List.set_cons_zero]
                          refine wpi_callG skcallable32 (fun _ => trivial) wideC rfl (wanted_of (j := 21) (d := 144) (b := true) rfl rfl rfl) rfl (args := #[.agg #[.int .i64 ut, .slice ad100 ub.length c101], .agg #[.int .i64 ut, .slice a2 ub.length c2]]) (by simp only [List.map_toArray, List.map_cons, List.map_nil]; rfl) ((lawSame08 _ _ _ ut ut _ _ _ _ _ _ ub ub rfl rfl hrx hr2 hv).mono ?_)
                          rintro e w115 ⟨he, hv⟩
                          rw [same_refl] at he
                          subst he
                          refine ⟨_, rfl, ?_⟩
                          refine wpi_exG (v := .bool true) (fun _ => trivial) (wanted_of (j := 16) (d := 139) (b := true) rfl rfl rfl) rfl (ex_pick (b := true) rfl rfl rfl) ?_
                          refine wpi_exG (v := .bool false) (fun _ => trivial) (wanted_of (j := 16) (d := 139) (b := true) rfl rfl rfl) rfl (ex_not rfl rfl rfl) ?_
                          simp only [Act.put, List.setIfInBounds_toArray, List.set_cons_succ, List.set_cons_zero]
                          refine wpi_exG (v := .bool false) (fun _ => trivial) (wanted_of (j := 6) (d := 129) (b := false) rfl rfl rfl) rfl (ex_pick (b := true) rfl rfl rfl) ?_
                          refine wpi_exG (v := .bool false) (fun _ => trivial) (wn rfl) rfl (ex_pick (b := false) rfl rfl rfl) ?_
                          refine wpListIn_nil ?_
                          simp only [Act.put, List.setIfInBounds_toArray, List.set_cons_succ, List.set_cons_zero]
                          refine then_normal (hK110 _ _ ?_)
                          clear hK110 K110
                          refine wpIn_cond_false rfl ?_
                          refine wpIn_skip ?_
                          refine then_normal (hK109 _ _ ?_)
                          clear hK109 K109
                          refine region_st mixed [.pointer (some ⟨q98, 0, none⟩), .agg #[.int .i64 ut, .slice ad100 ub.length c101], .bool true, .pointer (some ⟨q98, 0, none⟩), undef, .bool true, .bool false] [4] [⟨fun vals w => vals = [] ∧ Inv B104 (Res.cell b106 [.int .i64 ut, .slice ad100 ub.length c101] 55 :: Res.cell q98 [.pointer (some ⟨p10, 0, none⟩), .int .i64 ((0 : Nat) : Int), .int .i64 (n : Int), .int .i64 (ge + 1 : Int), .bool false] 102 :: diskR p10 (D.crash ks) F102 :: Res.cell b43 [.int .i64 kd, .int .i64 nn, .int .i64 xs, .slice ax xb.length cx, .slice ak ks.length ck] 69 :: Res.cell q [.pointer (some ⟨p10, 0, none⟩), .int .i64 ((0 : Nat) : Int), .int .i64 (n : Int), .int .i64 (ge : Int), .bool true] 102 :: Res.cell b30 [.int .i64 st, .slice a1 b.length c1] 55 :: Res.cell b32 [.int .i64 ut, .slice a2 ub.length c2] 55 :: H) w, fun _ _ _ ⟨h, hi⟩ he => ⟨h, hi.ext he⟩⟩, ⟨fun vals w => vals = [undef] ∧ Inv B104 (Res.cell b106 [.int .i64 ut, .slice ad100 ub.length c101] 55 :: Res.cell q98 [.pointer (some ⟨p10, 0, none⟩), .int .i64 ((0 : Nat) : Int), .int .i64 (n : Int), .int .i64 (ge + 1 : Int), .bool false] 102 :: diskR p10 (D.crash ks) F102 :: Res.cell b43 [.int .i64 kd, .int .i64 nn, .int .i64 xs, .slice ax xb.length cx, .slice ak ks.length ck] 69 :: Res.cell q [.pointer (some ⟨p10, 0, none⟩), .int .i64 ((0 : Nat) : Int), .int .i64 (n : Int), .int .i64 (ge : Int), .bool true] 102 :: Res.cell b30 [.int .i64 ut, .slice ad100 ub.length c101] 55 :: Res.cell b32 [.int .i64 ut, .slice a2 ub.length c2] 55 :: H) w, fun _ _ _ ⟨h, hi⟩ he => ⟨h, hi.ext he⟩⟩] 155 rfl (by kernel_rfl) ⟨rfl, hv⟩ ⟨?_, ?_, ?_, ?_, ?_, ?_, ?_, trivial⟩ ?_
                          · intro aa ww vals hJ hR
                            exact add_step' rfl (Ex.adds' (ex_move rfl (show aa.eval (.tmp 19) = _ from hR.keep 19 rfl)) (wn rfl) rfl)
                          · intro aa ww vals hJ hR
                            have h2 : vals.length ≤ 0 := hR.hi 4 (by simp) rfl
                            have hl : vals.length = 0 := by omega
                            obtain ⟨hvals, hv⟩ := hJ.at0 hl
                            exact add_step' rfl (Ex.adds' (ex_load rfl (show aa.eval (.tmp 20) = _ from hR.keep 20 rfl) (run_load_mid (pre := []) (mid := [.int .i64 ut, .slice ad100 ub.length c101]) (post := []) skwd55 (show Blk _ b106 ([] ++ [.int .i64 ut, .slice ad100 ub.length c101] ++ []) _ from hv.get 0 rfl) rfl)) (wn rfl) rfl)
                          · intro aa ww vals hJ hR
                            exact add_step' rfl (Ex.adds' (ex_move rfl (show aa.eval (.tmp 21) = _ from hR.keep 21 rfl)) (wn rfl) rfl)
                          · intro aa ww vals hJ hR
                            exact add_step' rfl (Ex.adds' (ex_assign rfl (show aa.eval (.tmp 152) = _ from hR.v 0 152 rfl rfl rfl rfl)) (wn rfl) rfl)
                          · intro aa ww vals hJ hR
                            refine mem_step' rfl fun hvl => ?_
                            have hl : vals.length = 0 := hvl
                            obtain ⟨hvals, hv⟩ := hJ.at0 hl
                            refine mem_storeNAt 5 (new := [.int .i64 ut, .slice ad100 ub.length c101]) (pre := []) (mid := [.int .i64 st, .slice a1 b.length c1]) (post := []) (L' := [.int .i64 ut, .slice ad100 ub.length c101]) (wn rfl) rfl (show aa.eval (.tmp 12) = _ from hR.keep 12 rfl) (show aa.eval (.tmp 153) = _ from hR.v 1 153 rfl rfl rfl rfl) hv rfl sksz55 rfl rfl rfl (one_cons rfl (one_cons rfl one_nil)) rfl (fun w116 hv => ?_)
                            exact JS.next hl ⟨by rw [hvals]; rfl, hv⟩
                          · intro aa ww vals hJ hR
                            exact add_step' rfl (Ex.adds' (ex_assign rfl (show aa.eval (.tmp 154) = _ from hR.v 2 154 rfl rfl rfl rfl)) (wn rfl) rfl)
                          · intro aa ww vals hJ hR
                            exact add_step' rfl (Ex.adds' (ex_assign rfl rfl) (wn rfl) rfl)
                          rintro w117 vals ⟨rfl, hv⟩
                          rw [show mixV [4] [undef] 0 [.pointer (some ⟨q98, 0, none⟩), .agg #[.int .i64 ut, .slice ad100 ub.length c101], .bool true, .pointer (some ⟨q98, 0, none⟩), undef, .bool true, .bool false] = [.pointer (some ⟨q98, 0, none⟩), .agg #[.int .i64 ut, .slice ad100 ub.length c101], .bool true, .pointer (some ⟨q98, 0, none⟩), undef, .bool true, .bool false] from rfl]
                          simp only [putAll, Act.put, List.setIfInBounds_toArray, List.set_cons_succ, List.set_cons_zero]
                          refine blk_normal ?_
                          refine blk_normal ?_
                          refine then_normal (hK41 _ _ ?_)
                          clear hK41 K41
                          refine wpIn_region_lit ?_
                          refine wpi_exG (v := .int .i64 (i : Int)) (fun _ => trivial) (wn rfl) rfl (ex_move rfl rfl) ?_
                          refine wpi_exG (v := .int .i64 ((i : Int) + 1)) (fun _ => trivial) (wn rfl) rfl (ex_add (m := (i : Int)) (n := 1) rfl rfl rfl (i64_in (by omega))) ?_
                          refine wpi_exG (v := .int .i64 ((i : Int) + 1)) (fun _ => trivial) (wn rfl) rfl (ex_assign rfl rfl) ?_
                          refine wpListIn_nil ?_
                          simp only [Act.put, List.setIfInBounds_toArray, List.set_cons_succ, List.set_cons_zero]
                          refine then_normal ?_
                          go_roundw
                          case rel => exact ⟨_, i + 1, (ge + 1), _, _, _, _, _, _, _, _, _, _, _, _, _, (hBC.trans hB105), rfl, rfl, rfl, by simp, by omega, by omega, (KState.fresh hKH rfl _ _), hrx, hr2, (((((hv.front 2 rfl).front 6 rfl).front 6 rfl).front 4 rfl).sub (List.Sublist.cons_cons _ (List.Sublist.cons_cons _ (List.Sublist.cons_cons _ (List.Sublist.cons_cons _ (List.Sublist.cons _ (List.Sublist.cons _ (List.Sublist.cons _ (List.Sublist.refl _)))))))))⟩
                          case measure => show m + 1 - ((i : Int) + 1).toNat < m + 1 - (i : Int).toNat; omega
                        | true =>
                          rw [hbb] at he
                          subst he
                          refine ⟨_, rfl, ?_⟩
                          refine wpi_exG (v := .bool true) (fun _ => trivial) (wanted_of (j := 6) (d := 129) (b := false) rfl rfl rfl) rfl (ex_pick (b := true) rfl rfl rfl) ?_
                          simp only [Act.put, List.setIfInBounds_toArray, List.set_cons_succ, List.set_cons_zero]
                          refine wpi_exG (v := .bool false) (fun _ => trivial) (wanted_of (j := 6) (d := 129) (b := false) rfl rfl rfl) rfl (ex_not rfl rfl rfl) ?_
                          refine wpi_exG (v := .bool false) (fun _ => trivial) (wanted_of (j := 6) (d := 129) (b := false) rfl rfl rfl) rfl (ex_move rfl rfl) ?_
                          refine wpi_not (fun _ => trivial) (wanted_not (j := 16) (d := 139) (b := true) (b' := false) rfl rfl rfl (by decide)) ?_
                          simp only [Act.put, List.setIfInBounds_toArray, List.set_cons_succ, List.set_cons_zero]
                          refine wpi_not (fun _ => trivial) (wanted_not (j := 16) (d := 139) (b := true) (b' := false) rfl rfl rfl (by decide)) ?_
                          refine wpi_not (fun _ => trivial) (wanted_undef (j := 18) (d := 141) rfl rfl rfl) ?_
                          refine wpi_not (fun _ => trivial) (wanted_not (j := 16) (d := 139) (b := true) (b' := false) rfl rfl rfl (by decide)) ?_
                          simp only [Act.put, List.setIfInBounds_toArray, List.set_cons_succ, List.set_cons_zero]
                          refine wpi_not (fun _ => trivial) (wanted_not (j := 16) (d := 139) (b := true) (b' := false) rfl rfl rfl (by decide)) ?_
                          refine wpi_not (fun _ => trivial) (wanted_undef (j := 21) (d := 144) rfl rfl rfl) ?_
                          refine wpi_not (fun _ => trivial) (wanted_undef (j := 21) (d := 144) rfl rfl rfl) ?_
                          simp only [Act.put, List.setIfInBounds_toArray, List.set_cons_succ, List.set_cons_zero]
                          refine wpi_not (fun _ => trivial) (wanted_undef (j := 21) (d := 144) rfl rfl rfl) ?_
                          refine wpi_not (fun _ => trivial) (wanted_not (j := 16) (d := 139) (b := true) (b' := false) rfl rfl rfl (by decide)) ?_
                          refine wpi_not (fun _ => trivial) (wanted_not (j := 16) (d := 139) (b := true) (b' := false) rfl rfl rfl (by decide)) ?_
                          simp only [Act.put, List.setIfInBounds_toArray, List.set_cons_succ, List.set_cons_zero]
                          refine wpi_exG (v := .bool false) (fun _ => trivial) (wanted_of (j := 6) (d := 129) (b := false) rfl rfl rfl) rfl (ex_pick (b := false) rfl rfl rfl) ?_
                          refine wpi_exG (v := .bool false) (fun _ => trivial) (wn rfl) rfl (ex_pick (b := false) rfl rfl rfl) ?_
                          refine wpListIn_nil ?_
                          simp only [Act.put, List.setIfInBounds_toArray, List.set_cons_succ, List.set_cons_zero]
                          refine then_normal (hK110 _ _ ?_)
                          clear hK110 K110
                          refine wpIn_cond_false rfl ?_
                          refine wpIn_skip ?_
                          refine then_normal (hK109 _ _ ?_)
                          clear hK109 K109
                          refine region_st mixed [.pointer (some ⟨q98, 0, none⟩), .agg #[.int .i64 ut, .slice ad100 ub.length c101], .bool true, .pointer (some ⟨q98, 0, none⟩), undef, .bool true, .bool false] [4] [⟨fun vals w => vals = [] ∧ Inv B104 (Res.cell b106 [.int .i64 ut, .slice ad100 ub.length c101] 55 :: Res.cell q98 [.pointer (some ⟨p10, 0, none⟩), .int .i64 ((0 : Nat) : Int), .int .i64 (n : Int), .int .i64 (ge + 1 : Int), .bool false] 102 :: diskR p10 (D.crash ks) F102 :: Res.cell b43 [.int .i64 kd, .int .i64 nn, .int .i64 xs, .slice ax xb.length cx, .slice ak ks.length ck] 69 :: Res.cell q [.pointer (some ⟨p10, 0, none⟩), .int .i64 ((0 : Nat) : Int), .int .i64 (n : Int), .int .i64 (ge : Int), .bool true] 102 :: Res.cell b30 [.int .i64 st, .slice a1 b.length c1] 55 :: Res.cell b32 [.int .i64 ut, .slice a2 ub.length c2] 55 :: H) w, fun _ _ _ ⟨h, hi⟩ he => ⟨h, hi.ext he⟩⟩, ⟨fun vals w => vals = [undef] ∧ Inv B104 (Res.cell b106 [.int .i64 ut, .slice ad100 ub.length c101] 55 :: Res.cell q98 [.pointer (some ⟨p10, 0, none⟩), .int .i64 ((0 : Nat) : Int), .int .i64 (n : Int), .int .i64 (ge + 1 : Int), .bool false] 102 :: diskR p10 (D.crash ks) F102 :: Res.cell b43 [.int .i64 kd, .int .i64 nn, .int .i64 xs, .slice ax xb.length cx, .slice ak ks.length ck] 69 :: Res.cell q [.pointer (some ⟨p10, 0, none⟩), .int .i64 ((0 : Nat) : Int), .int .i64 (n : Int), .int .i64 (ge : Int), .bool true] 102 :: Res.cell b30 [.int .i64 ut, .slice ad100 ub.length c101] 55 :: Res.cell b32 [.int .i64 ut, .slice a2 ub.length c2] 55 :: H) w, fun _ _ _ ⟨h, hi⟩ he => ⟨h, hi.ext he⟩⟩] 155 rfl (by kernel_rfl) ⟨rfl, hv⟩ ⟨?_, ?_, ?_, ?_, ?_, ?_, ?_, trivial⟩ ?_
                          · intro aa ww vals hJ hR
                            exact add_step' rfl (Ex.adds' (ex_move rfl (show aa.eval (.tmp 19) = _ from hR.keep 19 rfl)) (wn rfl) rfl)
                          · intro aa ww vals hJ hR
                            have h2 : vals.length ≤ 0 := hR.hi 4 (by simp) rfl
                            have hl : vals.length = 0 := by omega
                            obtain ⟨hvals, hv⟩ := hJ.at0 hl
                            exact add_step' rfl (Ex.adds' (ex_load rfl (show aa.eval (.tmp 20) = _ from hR.keep 20 rfl) (run_load_mid (pre := []) (mid := [.int .i64 ut, .slice ad100 ub.length c101]) (post := []) skwd55 (show Blk _ b106 ([] ++ [.int .i64 ut, .slice ad100 ub.length c101] ++ []) _ from hv.get 0 rfl) rfl)) (wn rfl) rfl)
                          · intro aa ww vals hJ hR
                            exact add_step' rfl (Ex.adds' (ex_move rfl (show aa.eval (.tmp 21) = _ from hR.keep 21 rfl)) (wn rfl) rfl)
                          · intro aa ww vals hJ hR
                            exact add_step' rfl (Ex.adds' (ex_assign rfl (show aa.eval (.tmp 152) = _ from hR.v 0 152 rfl rfl rfl rfl)) (wn rfl) rfl)
                          · intro aa ww vals hJ hR
                            refine mem_step' rfl fun hvl => ?_
                            have hl : vals.length = 0 := hvl
                            obtain ⟨hvals, hv⟩ := hJ.at0 hl
                            refine mem_storeNAt 5 (new := [.int .i64 ut, .slice ad100 ub.length c101]) (pre := []) (mid := [.int .i64 st, .slice a1 b.length c1]) (post := []) (L' := [.int .i64 ut, .slice ad100 ub.length c101]) (wn rfl) rfl (show aa.eval (.tmp 12) = _ from hR.keep 12 rfl) (show aa.eval (.tmp 153) = _ from hR.v 1 153 rfl rfl rfl rfl) hv rfl sksz55 rfl rfl rfl (one_cons rfl (one_cons rfl one_nil)) rfl (fun w118 hv => ?_)
                            exact JS.next hl ⟨by rw [hvals]; rfl, hv⟩
                          · intro aa ww vals hJ hR
                            exact add_step' rfl (Ex.adds' (ex_assign rfl (show aa.eval (.tmp 154) = _ from hR.v 2 154 rfl rfl rfl rfl)) (wn rfl) rfl)
                          · intro aa ww vals hJ hR
                            exact add_step' rfl (Ex.adds' (ex_assign rfl rfl) (wn rfl) rfl)
                          rintro w119 vals ⟨rfl, hv⟩
                          rw [show mixV [4] [undef] 0 [.pointer (some ⟨q98, 0, none⟩), .agg #[.int .i64 ut, .slice ad100 ub.length c101], .bool true, .pointer (some ⟨q98, 0, none⟩), undef, .bool true, .bool false] = [.pointer (some ⟨q98, 0, none⟩), .agg #[.int .i64 ut, .slice ad100 ub.length c101], .bool true, .pointer (some ⟨q98, 0, none⟩), undef, .bool true, .bool false] from rfl]
                          simp only [putAll, Act.put, List.setIfInBounds_toArray, List.set_cons_succ, List.set_cons_zero]
                          refine blk_normal ?_
                          refine blk_normal ?_
                          refine then_normal (hK41 _ _ ?_)
                          clear hK41 K41
                          refine wpIn_region_lit ?_
                          refine wpi_exG (v := .int .i64 (i : Int)) (fun _ => trivial) (wn rfl) rfl (ex_move rfl rfl) ?_
                          refine wpi_exG (v := .int .i64 ((i : Int) + 1)) (fun _ => trivial) (wn rfl) rfl (ex_add (m := (i : Int)) (n := 1) rfl rfl rfl (i64_in (by omega))) ?_
                          refine wpi_exG (v := .int .i64 ((i : Int) + 1)) (fun _ => trivial) (wn rfl) rfl (ex_assign rfl rfl) ?_
                          refine wpListIn_nil ?_
                          simp only [Act.put, List.setIfInBounds_toArray, List.set_cons_succ, List.set_cons_zero]
                          refine then_normal ?_
                          go_roundw
                          case rel => exact ⟨_, i + 1, (ge + 1), _, _, _, _, _, _, _, _, _, _, _, _, _, (hBC.trans hB105), rfl, rfl, rfl, by simp, by omega, by omega, (KState.fresh hKH rfl _ _), hrx, hr2, (((((hv.front 2 rfl).front 6 rfl).front 6 rfl).front 4 rfl).sub (List.Sublist.cons_cons _ (List.Sublist.cons_cons _ (List.Sublist.cons_cons _ (List.Sublist.cons_cons _ (List.Sublist.cons _ (List.Sublist.cons _ (List.Sublist.cons _ (List.Sublist.refl _)))))))))⟩
                          case measure => show m + 1 - ((i : Int) + 1).toNat < m + 1 - (i : Int).toNat; omega
                  · refine wpi_exG (v := .bool false) (fun _ => trivial) (wn rfl) rfl (ex_eql (k := .i64) (m := kd) (n := 2) rfl rfl rfl (decide_eq_false hb76)) ?_
                    refine wpi_exG (v := .bool false) (fun _ => trivial) (wn rfl) rfl (ex_assign rfl rfl) ?_
                    refine wpListIn_nil ?_
                    simp only [Act.put, List.setIfInBounds_toArray, List.set_cons_succ, List.set_cons_zero]
                    refine then_normal (hK75 _ _ ?_)
                    clear hK75 K75
                    refine wpIn_cond_false rfl ?_
                    refine wpIn_skip ?_
                    refine blk_normal ?_
                    refine blk_normal ?_
                    refine then_normal (hK41 _ _ ?_)
                    clear hK41 K41
                    refine wpIn_region_lit ?_
                    refine wpi_exG (v := .int .i64 (i : Int)) (fun _ => trivial) (wn rfl) rfl (ex_move rfl rfl) ?_
                    refine wpi_exG (v := .int .i64 ((i : Int) + 1)) (fun _ => trivial) (wn rfl) rfl (ex_add (m := (i : Int)) (n := 1) rfl rfl rfl (i64_in (by omega))) ?_
                    refine wpi_exG (v := .int .i64 ((i : Int) + 1)) (fun _ => trivial) (wn rfl) rfl (ex_assign rfl rfl) ?_
                    refine wpListIn_nil ?_
                    simp only [Act.put, List.setIfInBounds_toArray, List.set_cons_succ, List.set_cons_zero]
                    refine then_normal ?_
                    go_roundw
                    case rel => exact ⟨_, i + 1, ge, _, _, _, _, _, _, _, _, _, _, _, _, _, hBC, rfl, rfl, rfl, by simp, by omega, by omega, hK, hr1, hr2, (((((hv.front 4 rfl).front 4 rfl).front 4 rfl).front 4 rfl).sub (List.Sublist.cons_cons _ (List.Sublist.cons_cons _ (List.Sublist.cons_cons _ (List.Sublist.cons_cons _ (List.Sublist.cons _ (List.Sublist.refl _)))))))⟩
                    case measure => show m + 1 - ((i : Int) + 1).toNat < m + 1 - (i : Int).toNat; omega
        · refine wpi_exG (v := .bool false) (fun _ => trivial) (wn rfl) rfl (ex_lss (k := .i64) (m := (i : Int)) (n := (m : Int)) rfl rfl rfl (decide_eq_false hb48)) ?_
          refine wpListIn_nil ?_
          simp only [Act.put, List.setIfInBounds_toArray, List.set_cons_succ, List.set_cons_zero]
          refine then_normal (hK47 _ _ ?_)
          clear hK47 K47
          refine wpIn_cond_false rfl ?_
          refine wpIn_skip ?_
          refine then_normal (hK46 _ _ ?_)
          clear hK46 K46
          refine wpIn_seq_k (fun K120 hK120 => ?_)
          refine wpIn_seq_k (fun K121 hK121 => ?_)
          refine wpIn_region_lit ?_
          refine wpi_exG (v := .pointer (some ⟨b43, 2, none⟩)) (fun _ => trivial) (wn rfl) rfl (ex_field rfl rfl (skfa69_2 _ _ _)) ?_
          refine wpi_exG (v := .pointer (some ⟨b43, 3, none⟩)) (fun _ => trivial) (wn rfl) rfl (ex_field rfl rfl (skfa55_1 _ _ _)) ?_
          refine wpi_exG (v := .slice none 0 0) (fun _ => trivial) (wn rfl) rfl (ex_load rfl rfl (run_load1 skna24 (hv.load 0 3 rfl rfl))) ?_
          simp only [Act.put, List.setIfInBounds_toArray, List.set_cons_succ, List.set_cons_zero]
          refine wpi_exG (v := .int .i64 0) (fun _ => trivial) (wn rfl) rfl (ex_len0 Try.underlying24 rfl rfl) ?_
          refine wpi_exG (v := .bool false) (fun _ => trivial) (wn rfl) rfl (ex_gtr (k := .i64) (m := 0) (n := 1000) rfl rfl rfl (by decide)) ?_
          refine wpi_exG (v := .bool false) (fun _ => trivial) (wn rfl) rfl (ex_move rfl rfl) ?_
          simp only [Act.put, List.setIfInBounds_toArray, List.set_cons_succ, List.set_cons_zero]
          refine wpi_exG (v := .pointer (some ⟨b43, 4, none⟩)) (fun _ => trivial) (wanted_of (j := 5) (d := 74) (b := false) rfl rfl rfl) rfl (ex_field rfl rfl (skfa69_3 _ _ _)) ?_
          refine wpi_exG (v := .slice none 0 0) (fun _ => trivial) (wanted_of (j := 5) (d := 74) (b := false) rfl rfl rfl) rfl (ex_load rfl rfl (run_load1 skna44 (hv.load 0 4 rfl rfl))) ?_
          refine wpi_exG (v := .int .i64 0) (fun _ => trivial) (wanted_of (j := 5) (d := 74) (b := false) rfl rfl rfl) rfl (ex_len0 Try.underlying44 rfl rfl) ?_
          simp only [Act.put, List.setIfInBounds_toArray, List.set_cons_succ, List.set_cons_zero]
          refine wpi_exG (v := .bool false) (fun _ => trivial) (wanted_of (j := 5) (d := 74) (b := false) rfl rfl rfl) rfl (ex_gtr (k := .i64) (m := 0) (n := 40) rfl rfl rfl (by decide)) ?_
          refine wpi_exG (v := .bool false) (fun _ => trivial) (wn rfl) rfl (ex_pick (b := false) rfl rfl rfl) ?_
          refine wpListIn_nil ?_
          simp only [Act.put, List.setIfInBounds_toArray, List.set_cons_succ, List.set_cons_zero]
          refine then_normal (hK121 _ _ ?_)
          clear hK121 K121
          refine wpIn_cond_false rfl ?_
          refine wpIn_skip ?_
          refine then_normal (hK120 _ _ ?_)
          clear hK120 K120
          refine wpIn_seq_k (fun K122 hK122 => ?_)
          refine wpIn_region_lit ?_
          refine wpi_exG (v := .pointer (some ⟨b43, 0, none⟩)) (fun _ => trivial) (wn rfl) rfl (ex_field rfl rfl (skfa69_0 _ _ _)) ?_
          refine wpi_exG (v := .int .i64 2) (fun _ => trivial) (wn rfl) rfl (ex_load rfl rfl (run_load1 skna3 (hv.load 0 0 rfl rfl))) ?_
          refine wpListIn_nil ?_
          simp only [Act.put, List.setIfInBounds_toArray, List.set_cons_succ, List.set_cons_zero]
          refine then_normal (hK122 _ _ ?_)
          clear hK122 K122
          refine wpIn_block ?_
          refine wpIn_seq_k (fun K123 hK123 => ?_)
          refine wpIn_region_lit ?_
          refine wpi_exG (v := .bool false) (fun _ => trivial) (wn rfl) rfl (ex_eql (k := .i64) (m := 2) (n := 0) rfl rfl rfl (by decide)) ?_
          refine wpi_exG (v := .bool false) (fun _ => trivial) (wn rfl) rfl (ex_assign rfl rfl) ?_
          refine wpListIn_nil ?_
          simp only [Act.put, List.setIfInBounds_toArray, List.set_cons_succ, List.set_cons_zero]
          refine then_normal (hK123 _ _ ?_)
          clear hK123 K123
          refine wpIn_cond_false rfl ?_
          refine wpIn_seq_k (fun K124 hK124 => ?_)
          refine wpIn_region_lit ?_
          refine wpi_exG (v := .bool false) (fun _ => trivial) (wn rfl) rfl (ex_eql (k := .i64) (m := 2) (n := 1) rfl rfl rfl (by decide)) ?_
          refine wpi_exG (v := .bool false) (fun _ => trivial) (wn rfl) rfl (ex_assign rfl rfl) ?_
          refine wpListIn_nil ?_
          simp only [Act.put, List.setIfInBounds_toArray, List.set_cons_succ, List.set_cons_zero]
          refine then_normal (hK124 _ _ ?_)
          clear hK124 K124
          refine wpIn_cond_false rfl ?_
          refine wpIn_seq_k (fun K125 hK125 => ?_)
          refine wpIn_region_lit ?_
          refine wpi_exG (v := .bool true) (fun _ => trivial) (wn rfl) rfl (ex_eql (k := .i64) (m := 2) (n := 2) rfl rfl rfl (by decide)) ?_
          refine wpi_exG (v := .bool true) (fun _ => trivial) (wn rfl) rfl (ex_assign rfl rfl) ?_
          refine wpListIn_nil ?_
          simp only [Act.put, List.setIfInBounds_toArray, List.set_cons_succ, List.set_cons_zero]
          refine then_normal (hK125 _ _ ?_)
          clear hK125 K125
          refine wpIn_cond_true rfl ?_
          refine wpIn_seq_k (fun K126 hK126 => ?_)
          refine wpIn_region_lit ?_
          refine wpi_exG (v := .pointer (some ⟨p10, 0, none⟩)) (fun _ => trivial) (wn rfl) rfl (ex_move rfl rfl) ?_
          refine wpi_exG (v := .pointer (some ⟨b43, 4, none⟩)) (fun _ => trivial) (wn rfl) rfl (ex_field rfl rfl (skfa69_3 _ _ _)) ?_
          refine wpi_exG (v := .slice none 0 0) (fun _ => trivial) (wn rfl) rfl (ex_load rfl rfl (run_load1 skna44 (hv.load 0 4 rfl rfl))) ?_
          simp only [Act.put, List.setIfInBounds_toArray, List.set_cons_succ, List.set_cons_zero]
          replace hv := hv.front 4 rfl
          simp only [List.eraseIdx_cons_succ, List.eraseIdx_cons_zero] at hv
          have hokD : Disk.Ok D := (hv.get 0 rfl : DiskAt _ _ D _).1
          have hkp := hK.plen
          refine wpi_callG skcallable25 (fun _ => trivial) wideC rfl (wn rfl) rfl (args := #[.pointer (some ⟨p10, 0, none⟩), .slice none 0 0]) (by simp only [List.map_toArray, List.map_cons, List.map_nil]; rfl) ((diskCrashSl _ _ _ p10 _ _ _ _ _ ([]) hv (by omega) rfl (by decide) (rdV_nil) (fun k hk => by cases hk)).mono ?_)
          rintro e w128 ⟨F127, rfl, hv⟩
          refine ⟨_, rfl, ?_⟩
          have hvN := hv
          rcases hK.crash hokD ([]) with hKH | ⟨rfl, hKH⟩
          · have hv := hvN
            refine wpListIn_nil ?_
            simp only [Act.put, List.setIfInBounds_toArray, List.set_cons_succ, List.set_cons_zero]
            refine then_normal (hK126 _ _ ?_)
            clear hK126 K126
            refine wpIn_seq_k (fun K129 hK129 => ?_)
            refine wpIn_region_lit ?_
            refine wpi_exG (v := .pointer (some ⟨p10, 0, none⟩)) (fun _ => trivial) (wn rfl) rfl (ex_move rfl rfl) ?_
            refine wpi_exG (v := .int .i64 (n : Int)) (fun _ => trivial) (wn rfl) rfl (ex_move rfl rfl) ?_
            refine wpi_callG skcallable30 (fun _ => trivial) wideC rfl (wn rfl) rfl (args := #[.pointer (some ⟨p10, 0, none⟩), .int .i64 0, .int .i64 (n : Int)]) (by simp only [List.map_toArray, List.map_cons, List.map_nil]; rfl) ((slotsOpen _ _ _ p10 0 n (D.crash []) (D.crash []) _ (crash_tick _ _) (by show (0 : Nat) ≤ _; omega) (has_of (by omega) (by rw [hKH.len]; omega)) (by show (-1 : Int) ≠ 0; decide) (by omega) (by omega) (by rw [hKH.len]; omega) (by rw [hKH.len]; omega) hv).mono ?_)
            rintro e w135 ⟨q130, cur131, ad132, c133, F134, hcur, rfl, hv⟩
            refine ⟨_, rfl, ?_⟩
            have hokE : Disk.Ok (D.crash []) := (hv.get 2 rfl : DiskAt _ _ (D.crash []) _).1
            obtain ⟨hcg, hct, hcb, hch⟩ := hKH.cur hokE rfl hn1 hcur
            rw [hch, hct, hcb]
            simp only [slCells, hcg, hcb] at hv
            replace hv := hv.front 1 rfl
            simp only [List.eraseIdx_cons_succ, List.eraseIdx_cons_zero] at hv
            obtain ⟨B136, hB137, hv, hrx, _⟩ := Inv.rowStays hv
            replace hr1 := hr1.more hB137 (fun _ h => h)
            replace hr2 := hr2.more hB137 (fun _ h => h)
            simp only [Act.put, List.setIfInBounds_toArray, List.set_cons_succ, List.set_cons_zero]
            refine wpi_exG (v := .tuple #[.pointer (some ⟨q130, 0, none⟩), .agg #[.int .i64 st, .slice ad132 b.length c133], .bool ha, .int .i64 0]) (fun _ => trivial) (wn rfl) rfl (ex_move rfl rfl) ?_
            refine wpi_exG (v := .pointer (some ⟨q130, 0, none⟩)) (fun _ => trivial) (wn rfl) rfl (ex_extract rfl rfl rfl) ?_
            refine wpi_exG (v := .agg #[.int .i64 st, .slice ad132 b.length c133]) (fun _ => trivial) (wn rfl) rfl (ex_extract rfl rfl rfl) ?_
            simp only [Act.put, List.setIfInBounds_toArray, List.set_cons_succ, List.set_cons_zero]
            refine wpi_exG (v := .bool ha) (fun _ => trivial) (wn rfl) rfl (ex_extract rfl rfl rfl) ?_
            refine wpi_exG (v := .int .i64 0) (fun _ => trivial) (wn rfl) rfl (ex_extract rfl rfl rfl) ?_
            refine sl_alloc (fun _ => trivial) (wn rfl) rfl hv skal55 (fun b138 w139 hv => ?_)
            simp only [Act.put, List.setIfInBounds_toArray, List.set_cons_succ, List.set_cons_zero]
            refine wpi_exG (v := .pointer (some ⟨q130, 0, none⟩)) (fun _ => trivial) (wn rfl) rfl (ex_assign rfl rfl) ?_
            refine sl_storeNAt 0 (new := [.int .i64 st, .slice ad132 b.length c133]) (pre := []) (mid := [.int .i64 0, .slice none 0 0]) (post := []) (L' := [.int .i64 st, .slice ad132 b.length c133]) (fun _ => trivial) (wn rfl) rfl rfl rfl hv rfl sksz55 rfl rfl rfl (one_cons rfl (one_cons rfl one_nil)) rfl (fun w140 hv => ?_)
            simp only [List.set_cons_succ, List.set_cons_zero] at hv
            refine wpi_exG (v := .bool ha) (fun _ => trivial) (wn rfl) rfl (ex_assign rfl rfl) ?_
            simp only [Act.put, List.setIfInBounds_toArray, List.set_cons_succ, List.set_cons_zero]
            refine wpi_exG (v := .int .i64 0) (fun _ => trivial) (wn rfl) rfl (ex_assign rfl rfl) ?_
            refine wpListIn_nil ?_
            simp only [Act.put, List.setIfInBounds_toArray, List.set_cons_succ, List.set_cons_zero]
            refine then_normal (hK129 _ _ ?_)
            clear hK129 K129
            refine wpIn_seq_k (fun K141 hK141 => ?_)
            refine wpIn_seq_k (fun K142 hK142 => ?_)
            refine wpIn_region_lit ?_
            refine wpi_exG (v := .pointer (some ⟨q130, 0, none⟩)) (fun _ => trivial) (wn rfl) rfl (ex_move rfl rfl) ?_
            refine wpi_exG (v := .bool false) (fun _ => trivial) (wn rfl) rfl (ex_pisnil Try.underlying53 rfl rfl rfl rfl) ?_
            refine wpi_exG (v := .bool false) (fun _ => trivial) (wn rfl) rfl (ex_move rfl rfl) ?_
            simp only [Act.put, List.setIfInBounds_toArray, List.set_cons_succ, List.set_cons_zero]
            refine wpi_exG (v := .int .i64 0) (fun _ => trivial) (wanted_of (j := 2) (d := 125) (b := false) rfl rfl rfl) rfl (ex_move rfl rfl) ?_
            refine wpi_exG (v := .bool false) (fun _ => trivial) (wanted_of (j := 2) (d := 125) (b := false) rfl rfl rfl) rfl (ex_neq (k := .i64) (m := 0) (n := 0) rfl rfl rfl (by decide)) ?_
            refine wpi_exG (v := .bool false) (fun _ => trivial) (wn rfl) rfl (ex_pick (b := false) rfl rfl rfl) ?_
            simp only [Act.put, List.setIfInBounds_toArray, List.set_cons_succ, List.set_cons_zero]
            refine wpi_exG (v := .bool false) (fun _ => trivial) (wn rfl) rfl (ex_move rfl rfl) ?_
            refine wpi_exG (v := .bool ha) (fun _ => trivial) (wanted_of (j := 6) (d := 129) (b := false) rfl rfl rfl) rfl (ex_move rfl rfl) ?_
            refine wpi_exG (v := .bool ha) (fun _ => trivial) (wanted_of (j := 6) (d := 129) (b := false) rfl rfl rfl) rfl (ex_move rfl rfl) ?_
            simp only [Act.put, List.setIfInBounds_toArray, List.set_cons_succ, List.set_cons_zero]
            refine wpi_exG (v := .bool true) (fun _ => trivial) (wanted_of (j := 6) (d := 129) (b := false) rfl rfl rfl) rfl (ex_beql (p := ha) (q := ha) Try.underlying4 rfl rfl rfl (by simp)) ?_
            refine wpi_exG (v := .bool true) (fun _ => trivial) (wanted_of (j := 6) (d := 129) (b := false) rfl rfl rfl) rfl (ex_move rfl rfl) ?_
            refine wpi_exG (v := .agg #[.int .i64 st, .slice ad132 b.length c133]) (fun _ => trivial) (wanted_of (j := 10) (d := 133) (b := true) rfl rfl rfl) rfl (ex_load rfl rfl (run_load_mid (pre := []) (mid := [.int .i64 st, .slice ad132 b.length c133]) (post := []) skwd55 (show Blk _ b138 ([] ++ [.int .i64 st, .slice ad132 b.length c133] ++ []) _ from hv.get 0 rfl) rfl)) ?_
            simp only [Act.put, List.setIfInBounds_toArray, List.set_cons_succ, List.set_cons_zero]
            refine wpi_exG (v := .agg #[.int .i64 st, .slice a1 b.length c1]) (fun _ => trivial) (wanted_of (j := 10) (d := 133) (b := true) rfl rfl rfl) rfl (ex_load rfl rfl (run_load_mid (pre := []) (mid := [.int .i64 st, .slice a1 b.length c1]) (post := []) skwd55 (show Blk _ b30 ([] ++ [.int .i64 st, .slice a1 b.length c1] ++ []) _ from hv.get 5 rfl) rfl)) ?_
            refine wpi_callG skcallable32 (fun _ => trivial) wideC rfl (wanted_of (j := 10) (d := 133) (b := true) rfl rfl rfl) rfl (args := #[.agg #[.int .i64 st, .slice ad132 b.length c133], .agg #[.int .i64 st, .slice a1 b.length c1]]) (by simp only [List.map_toArray, List.map_cons, List.map_nil]; rfl) ((lawSame08 _ _ _ st st _ _ _ _ _ _ b b rfl rfl hrx hr1 hv).mono ?_)
            rintro e w143 ⟨he, hv⟩
            rw [same_refl] at he
            subst he
            refine ⟨_, rfl, ?_⟩
            refine wpi_exG (v := .bool true) (fun _ => trivial) (wanted_of (j := 6) (d := 129) (b := false) rfl rfl rfl) rfl (ex_pick (b := true) rfl rfl rfl) ?_
            simp only [Act.put, List.setIfInBounds_toArray, List.set_cons_succ, List.set_cons_zero]
            refine wpi_exG (v := .bool false) (fun _ => trivial) (wanted_of (j := 6) (d := 129) (b := false) rfl rfl rfl) rfl (ex_not rfl rfl rfl) ?_
            refine wpi_exG (v := .bool false) (fun _ => trivial) (wanted_of (j := 6) (d := 129) (b := false) rfl rfl rfl) rfl (ex_move rfl rfl) ?_
            refine wpi_not (fun _ => trivial) (wanted_not (j := 16) (d := 139) (b := true) (b' := false) rfl rfl rfl (by decide)) ?_
            simp only [Act.put, List.setIfInBounds_toArray, List.set_cons_succ, List.set_cons_zero]
            refine wpi_not (fun _ => trivial) (wanted_not (j := 16) (d := 139) (b := true) (b' := false) rfl rfl rfl (by decide)) ?_
            refine wpi_not (fun _ => trivial) (wanted_undef (j := 18) (d := 141) rfl rfl rfl) ?_
            refine wpi_not (fun _ => trivial) (wanted_not (j := 16) (d := 139) (b := true) (b' := false) rfl rfl rfl (by decide)) ?_
            simp only [Act.put, List.setIfInBounds_toArray, List.set_cons_succ, List.set_cons_zero]
            refine wpi_not (fun _ => trivial) (wanted_not (j := 16) (d := 139) (b := true) (b' := false) rfl rfl rfl (by decide)) ?_
            refine wpi_not (fun _ => trivial) (wanted_undef (j := 21) (d := 144) rfl rfl rfl) ?_
            refine wpi_not (fun _ => trivial) (wanted_undef (j := 21) (d := 144) rfl rfl rfl) ?_
            simp only [Act.put, List.setIfInBounds_toArray, List.set_cons_succ, List.set_cons_zero]
            refine wpi_not (fun _ => trivial) (wanted_undef (j := 21) (d := 144) rfl rfl rfl) ?_
            refine wpi_not (fun _ => trivial) (wanted_not (j := 16) (d := 139) (b := true) (b' := false) rfl rfl rfl (by decide)) ?_
            refine wpi_not (fun _ => trivial) (wanted_not (j := 16) (d := 139) (b := true) (b' := false) rfl rfl rfl (by decide)) ?_
            simp only [Act.put, List.setIfInBounds_toArray, List.set_cons_succ, List.set_cons_zero]
            refine wpi_exG (v := .bool false) (fun _ => trivial) (wanted_of (j := 6) (d := 129) (b := false) rfl rfl rfl) rfl (ex_pick (b := false) rfl rfl rfl) ?_
            refine wpi_exG (v := .bool false) (fun _ => trivial) (wn rfl) rfl (ex_pick (b := false) rfl rfl rfl) ?_
            refine wpListIn_nil ?_
            simp only [Act.put, List.setIfInBounds_toArray, List.set_cons_succ, List.set_cons_zero]
            refine then_normal (hK142 _ _ ?_)
            clear hK142 K142
            refine wpIn_cond_false rfl ?_
            refine wpIn_skip ?_
            refine then_normal (hK141 _ _ ?_)
            clear hK141 K141
            refine region_st mixed [.pointer (some ⟨q130, 0, none⟩), .agg #[.int .i64 st, .slice ad132 b.length c133], .bool ha, .pointer (some ⟨q130, 0, none⟩), undef, .bool ha, .bool false] [4] [⟨fun vals w => vals = [] ∧ Inv B136 (Res.cell b138 [.int .i64 st, .slice ad132 b.length c133] 55 :: Res.cell q130 [.pointer (some ⟨p10, 0, none⟩), .int .i64 ((0 : Nat) : Int), .int .i64 (n : Int), .int .i64 (ge : Int), .bool false] 102 :: diskR p10 (D.crash []) F134 :: Res.cell b43 [.int .i64 2, .int .i64 0, .int .i64 0, .slice none 0 0, .slice none 0 0] 69 :: Res.cell q [.pointer (some ⟨p10, 0, none⟩), .int .i64 ((0 : Nat) : Int), .int .i64 (n : Int), .int .i64 (ge : Int), .bool fa] 102 :: Res.cell b30 [.int .i64 st, .slice a1 b.length c1] 55 :: Res.cell b32 [.int .i64 ut, .slice a2 ub.length c2] 55 :: H) w, fun _ _ _ ⟨h, hi⟩ he => ⟨h, hi.ext he⟩⟩, ⟨fun vals w => vals = [undef] ∧ Inv B136 (Res.cell b138 [.int .i64 st, .slice ad132 b.length c133] 55 :: Res.cell q130 [.pointer (some ⟨p10, 0, none⟩), .int .i64 ((0 : Nat) : Int), .int .i64 (n : Int), .int .i64 (ge : Int), .bool false] 102 :: diskR p10 (D.crash []) F134 :: Res.cell b43 [.int .i64 2, .int .i64 0, .int .i64 0, .slice none 0 0, .slice none 0 0] 69 :: Res.cell q [.pointer (some ⟨p10, 0, none⟩), .int .i64 ((0 : Nat) : Int), .int .i64 (n : Int), .int .i64 (ge : Int), .bool fa] 102 :: Res.cell b30 [.int .i64 st, .slice ad132 b.length c133] 55 :: Res.cell b32 [.int .i64 ut, .slice a2 ub.length c2] 55 :: H) w, fun _ _ _ ⟨h, hi⟩ he => ⟨h, hi.ext he⟩⟩] 155 rfl (by kernel_rfl) ⟨rfl, hv⟩ ⟨?_, ?_, ?_, ?_, ?_, ?_, ?_, trivial⟩ ?_
            · intro aa ww vals hJ hR
              exact add_step' rfl (Ex.adds' (ex_move rfl (show aa.eval (.tmp 19) = _ from hR.keep 19 rfl)) (wn rfl) rfl)
            · intro aa ww vals hJ hR
              have h2 : vals.length ≤ 0 := hR.hi 4 (by simp) rfl
              have hl : vals.length = 0 := by omega
              obtain ⟨hvals, hv⟩ := hJ.at0 hl
              exact add_step' rfl (Ex.adds' (ex_load rfl (show aa.eval (.tmp 20) = _ from hR.keep 20 rfl) (run_load_mid (pre := []) (mid := [.int .i64 st, .slice ad132 b.length c133]) (post := []) skwd55 (show Blk _ b138 ([] ++ [.int .i64 st, .slice ad132 b.length c133] ++ []) _ from hv.get 0 rfl) rfl)) (wn rfl) rfl)
            · intro aa ww vals hJ hR
              exact add_step' rfl (Ex.adds' (ex_move rfl (show aa.eval (.tmp 21) = _ from hR.keep 21 rfl)) (wn rfl) rfl)
            · intro aa ww vals hJ hR
              exact add_step' rfl (Ex.adds' (ex_assign rfl (show aa.eval (.tmp 152) = _ from hR.v 0 152 rfl rfl rfl rfl)) (wn rfl) rfl)
            · intro aa ww vals hJ hR
              refine mem_step' rfl fun hvl => ?_
              have hl : vals.length = 0 := hvl
              obtain ⟨hvals, hv⟩ := hJ.at0 hl
              refine mem_storeNAt 5 (new := [.int .i64 st, .slice ad132 b.length c133]) (pre := []) (mid := [.int .i64 st, .slice a1 b.length c1]) (post := []) (L' := [.int .i64 st, .slice ad132 b.length c133]) (wn rfl) rfl (show aa.eval (.tmp 12) = _ from hR.keep 12 rfl) (show aa.eval (.tmp 153) = _ from hR.v 1 153 rfl rfl rfl rfl) hv rfl sksz55 rfl rfl rfl (one_cons rfl (one_cons rfl one_nil)) rfl (fun w144 hv => ?_)
              exact JS.next hl ⟨by rw [hvals]; rfl, hv⟩
            · intro aa ww vals hJ hR
              exact add_step' rfl (Ex.adds' (ex_assign rfl (show aa.eval (.tmp 154) = _ from hR.v 2 154 rfl rfl rfl rfl)) (wn rfl) rfl)
            · intro aa ww vals hJ hR
              exact add_step' rfl (Ex.adds' (ex_assign rfl rfl) (wn rfl) rfl)
            rintro w145 vals ⟨rfl, hv⟩
            rw [show mixV [4] [undef] 0 [.pointer (some ⟨q130, 0, none⟩), .agg #[.int .i64 st, .slice ad132 b.length c133], .bool ha, .pointer (some ⟨q130, 0, none⟩), undef, .bool ha, .bool false] = [.pointer (some ⟨q130, 0, none⟩), .agg #[.int .i64 st, .slice ad132 b.length c133], .bool ha, .pointer (some ⟨q130, 0, none⟩), undef, .bool ha, .bool false] from rfl]
            simp only [putAll, Act.put, List.setIfInBounds_toArray, List.set_cons_succ, List.set_cons_zero]
            refine blk_normal ?_
            refine blk_normal ?_
            refine then_normal (hK41 _ _ ?_)
            clear hK41 K41
            refine wpIn_region_lit ?_
            refine wpi_exG (v := .int .i64 (i : Int)) (fun _ => trivial) (wn rfl) rfl (ex_move rfl rfl) ?_
            refine wpi_exG (v := .int .i64 ((i : Int) + 1)) (fun _ => trivial) (wn rfl) rfl (ex_add (m := (i : Int)) (n := 1) rfl rfl rfl (i64_in (by omega))) ?_
            refine wpi_exG (v := .int .i64 ((i : Int) + 1)) (fun _ => trivial) (wn rfl) rfl (ex_assign rfl rfl) ?_
            refine wpListIn_nil ?_
            simp only [Act.put, List.setIfInBounds_toArray, List.set_cons_succ, List.set_cons_zero]
            refine then_normal ?_
            go_roundw
            case rel => exact ⟨_, i + 1, ge, _, _, _, _, _, _, _, _, _, _, _, _, _, (hBC.trans hB137), rfl, rfl, rfl, by simp, by omega, by omega, (KState.fresh hKH rfl _ _), hrx, hr2, (((((hv.front 2 rfl).front 6 rfl).front 6 rfl).front 4 rfl).sub (List.Sublist.cons_cons _ (List.Sublist.cons_cons _ (List.Sublist.cons_cons _ (List.Sublist.cons_cons _ (List.Sublist.cons _ (List.Sublist.cons _ (List.Sublist.cons _ (List.Sublist.refl _)))))))))⟩
            case measure => show m + 1 - ((i : Int) + 1).toNat < m + 1 - (i : Int).toNat; omega
          · have hv := hvN
            refine wpListIn_nil ?_
            simp only [Act.put, List.setIfInBounds_toArray, List.set_cons_succ, List.set_cons_zero]
            refine then_normal (hK126 _ _ ?_)
            clear hK126 K126
            refine wpIn_seq_k (fun K146 hK146 => ?_)
            refine wpIn_region_lit ?_
            refine wpi_exG (v := .pointer (some ⟨p10, 0, none⟩)) (fun _ => trivial) (wn rfl) rfl (ex_move rfl rfl) ?_
            refine wpi_exG (v := .int .i64 (n : Int)) (fun _ => trivial) (wn rfl) rfl (ex_move rfl rfl) ?_
            refine wpi_callG skcallable30 (fun _ => trivial) wideC rfl (wn rfl) rfl (args := #[.pointer (some ⟨p10, 0, none⟩), .int .i64 0, .int .i64 (n : Int)]) (by simp only [List.map_toArray, List.map_cons, List.map_nil]; rfl) ((slotsOpen _ _ _ p10 0 n (D.crash []) (D.crash []) _ (crash_tick _ _) (by show (0 : Nat) ≤ _; omega) (has_of (by omega) (by rw [hKH.len]; omega)) (by show (-1 : Int) ≠ 0; decide) (by omega) (by omega) (by rw [hKH.len]; omega) (by rw [hKH.len]; omega) hv).mono ?_)
            rintro e w152 ⟨q147, cur148, ad149, c150, F151, hcur, rfl, hv⟩
            refine ⟨_, rfl, ?_⟩
            have hokE : Disk.Ok (D.crash []) := (hv.get 2 rfl : DiskAt _ _ (D.crash []) _).1
            obtain ⟨hcg, hct, hcb, hch⟩ := hKH.cur hokE rfl hn1 hcur
            rw [hch, hct, hcb]
            simp only [slCells, hcg, hcb] at hv
            replace hv := hv.front 1 rfl
            simp only [List.eraseIdx_cons_succ, List.eraseIdx_cons_zero] at hv
            obtain ⟨B153, hB154, hv, hrx, _⟩ := Inv.rowStays hv
            replace hr1 := hr1.more hB154 (fun _ h => h)
            replace hr2 := hr2.more hB154 (fun _ h => h)
            simp only [Act.put, List.setIfInBounds_toArray, List.set_cons_succ, List.set_cons_zero]
            refine wpi_exG (v := .tuple #[.pointer (some ⟨q147, 0, none⟩), .agg #[.int .i64 ut, .slice ad149 ub.length c150], .bool true, .int .i64 0]) (fun _ => trivial) (wn rfl) rfl (ex_move rfl rfl) ?_
            refine wpi_exG (v := .pointer (some ⟨q147, 0, none⟩)) (fun _ => trivial) (wn rfl) rfl (ex_extract rfl rfl rfl) ?_
            refine wpi_exG (v := .agg #[.int .i64 ut, .slice ad149 ub.length c150]) (fun _ => trivial) (wn rfl) rfl (ex_extract rfl rfl rfl) ?_
            simp only [Act.put, List.setIfInBounds_toArray, List.set_cons_succ, List.set_cons_zero]
            refine wpi_exG (v := .bool true) (fun _ => trivial) (wn rfl) rfl (ex_extract rfl rfl rfl) ?_
            refine wpi_exG (v := .int .i64 0) (fun _ => trivial) (wn rfl) rfl (ex_extract rfl rfl rfl) ?_
            refine sl_alloc (fun _ => trivial) (wn rfl) rfl hv skal55 (fun b155 w156 hv => ?_)
            simp only [Act.put, List.setIfInBounds_toArray, List.set_cons_succ, List.set_cons_zero]
            refine wpi_exG (v := .pointer (some ⟨q147, 0, none⟩)) (fun _ => trivial) (wn rfl) rfl (ex_assign rfl rfl) ?_
            refine sl_storeNAt 0 (new := [.int .i64 ut, .slice ad149 ub.length c150]) (pre := []) (mid := [.int .i64 0, .slice none 0 0]) (post := []) (L' := [.int .i64 ut, .slice ad149 ub.length c150]) (fun _ => trivial) (wn rfl) rfl rfl rfl hv rfl sksz55 rfl rfl rfl (one_cons rfl (one_cons rfl one_nil)) rfl (fun w157 hv => ?_)
            simp only [List.set_cons_succ, List.set_cons_zero] at hv
            refine wpi_exG (v := .bool true) (fun _ => trivial) (wn rfl) rfl (ex_assign rfl rfl) ?_
            simp only [Act.put, List.setIfInBounds_toArray, List.set_cons_succ, List.set_cons_zero]
            refine wpi_exG (v := .int .i64 0) (fun _ => trivial) (wn rfl) rfl (ex_assign rfl rfl) ?_
            refine wpListIn_nil ?_
            simp only [Act.put, List.setIfInBounds_toArray, List.set_cons_succ, List.set_cons_zero]
            refine then_normal (hK146 _ _ ?_)
            clear hK146 K146
            refine wpIn_seq_k (fun K158 hK158 => ?_)
            refine wpIn_seq_k (fun K159 hK159 => ?_)
            refine wpIn_region_lit ?_
            refine wpi_exG (v := .pointer (some ⟨q147, 0, none⟩)) (fun _ => trivial) (wn rfl) rfl (ex_move rfl rfl) ?_
            refine wpi_exG (v := .bool false) (fun _ => trivial) (wn rfl) rfl (ex_pisnil Try.underlying53 rfl rfl rfl rfl) ?_
            refine wpi_exG (v := .bool false) (fun _ => trivial) (wn rfl) rfl (ex_move rfl rfl) ?_
            simp only [Act.put, List.setIfInBounds_toArray, List.set_cons_succ, List.set_cons_zero]
            refine wpi_exG (v := .int .i64 0) (fun _ => trivial) (wanted_of (j := 2) (d := 125) (b := false) rfl rfl rfl) rfl (ex_move rfl rfl) ?_
            refine wpi_exG (v := .bool false) (fun _ => trivial) (wanted_of (j := 2) (d := 125) (b := false) rfl rfl rfl) rfl (ex_neq (k := .i64) (m := 0) (n := 0) rfl rfl rfl (by decide)) ?_
            refine wpi_exG (v := .bool false) (fun _ => trivial) (wn rfl) rfl (ex_pick (b := false) rfl rfl rfl) ?_
            simp only [Act.put, List.setIfInBounds_toArray, List.set_cons_succ, List.set_cons_zero]
            refine wpi_exG (v := .bool false) (fun _ => trivial) (wn rfl) rfl (ex_move rfl rfl) ?_
            refine wpi_exG (v := .bool true) (fun _ => trivial) (wanted_of (j := 6) (d := 129) (b := false) rfl rfl rfl) rfl (ex_move rfl rfl) ?_
            refine wpi_exG (v := .bool ha) (fun _ => trivial) (wanted_of (j := 6) (d := 129) (b := false) rfl rfl rfl) rfl (ex_move rfl rfl) ?_
            simp only [Act.put, List.setIfInBounds_toArray, List.set_cons_succ, List.set_cons_zero]
            have hvN := hv
            cases ha
            · have hv := hvN
              refine wpi_exG (v := .bool false) (fun _ => trivial) (wanted_of (j := 6) (d := 129) (b := false) rfl rfl rfl) rfl (ex_beql (p := true) (q := false) Try.underlying4 rfl rfl rfl (by simp)) ?_
              refine wpi_exG (v := .bool false) (fun _ => trivial) (wanted_of (j := 6) (d := 129) (b := false) rfl rfl rfl) rfl (ex_move rfl rfl) ?_
              refine wpi_not (fun _ => trivial) (wanted_not (j := 10) (d := 133) (b := true) (b' := false) rfl rfl rfl (by decide)) ?_
              simp only [Act.put, List.setIfInBounds_toArray, List.set_cons_succ, List.set_cons_zero]
              refine wpi_not (fun _ => trivial) (wanted_not (j := 10) (d := 133) (b := true) (b' := false) rfl rfl rfl (by decide)) ?_
              refine wpi_not (fun _ => trivial) (wanted_not (j := 10) (d := 133) (b := true) (b' := false) rfl rfl rfl (by decide)) ?_
              refine wpi_exG (v := .bool false) (fun _ => trivial) (wanted_of (j := 6) (d := 129) (b := false) rfl rfl rfl) rfl (ex_pick (b := false) rfl rfl rfl) ?_
              simp only [Act.put, List.setIfInBounds_toArray, List.set_cons_succ, List.set_cons_zero]
              refine wpi_exG (v := .bool true) (fun _ => trivial) (wanted_of (j := 6) (d := 129) (b := false) rfl rfl rfl) rfl (ex_not rfl rfl rfl) ?_
              refine wpi_exG (v := .bool true) (fun _ => trivial) (wanted_of (j := 6) (d := 129) (b := false) rfl rfl rfl) rfl (ex_move rfl rfl) ?_
              refine wpi_exG (v := .bool true) (fun _ => trivial) (wanted_of (j := 16) (d := 139) (b := true) rfl rfl rfl) rfl (ex_move rfl rfl) ?_
              simp only [Act.put, List.setIfInBounds_toArray, List.set_cons_succ, List.set_cons_zero]
              refine wpi_exG (v := .bool true) (fun _ => trivial) (wanted_of (j := 16) (d := 139) (b := true) rfl rfl rfl) rfl (ex_move rfl rfl) ?_
              refine wpi_exG (v := .bool true) (fun _ => trivial) (wanted_of (j := 18) (d := 141) (b := true) rfl rfl rfl) rfl (ex_move rfl rfl) ?_
              refine wpi_exG (v := .bool true) (fun _ => trivial) (wanted_of (j := 16) (d := 139) (b := true) rfl rfl rfl) rfl (ex_pick (b := true) rfl rfl rfl) ?_
              simp only [Act.put, List.setIfInBounds_toArray, List.set_cons_succ, List.set_cons_zero]
              refine wpi_exG (v := .bool true) (fun _ => trivial) (wanted_of (j := 16) (d := 139) (b := true) rfl rfl rfl) rfl (ex_move rfl rfl) ?_
              refine wpi_exG (v := .agg #[.int .i64 ut, .slice ad149 ub.length c150]) (fun _ => trivial) (wanted_of (j := 21) (d := 144) (b := true) rfl rfl rfl) rfl (ex_load rfl rfl (run_load_mid (pre := []) (mid := [.int .i64 ut, .slice ad149 ub.length c150]) (post := []) skwd55 (show Blk _ b155 ([] ++ [.int .i64 ut, .slice ad149 ub.length c150] ++ []) _ from hv.get 0 rfl) rfl)) ?_
              refine wpi_exG (v := .agg #[.int .i64 ut, .slice a2 ub.length c2]) (fun _ => trivial) (wanted_of (j := 21) (d := 144) (b := true) rfl rfl rfl) rfl (ex_load rfl rfl (run_load_mid (pre := []) (mid := [.int .i64 ut, .slice a2 ub.length c2]) (post := []) skwd55 (show Blk _ b32 ([] ++ [.int .i64 ut, .slice a2 ub.length c2] ++ []) _ from hv.get 6 rfl) rfl)) ?_
              simp only [Act.put, List.setIfInBounds_toArray, List.set_cons_succ, List.set_cons_zero]
              refine wpi_callG skcallable32 (fun _ => trivial) wideC rfl (wanted_of (j := 21) (d := 144) (b := true) rfl rfl rfl) rfl (args := #[.agg #[.int .i64 ut, .slice ad149 ub.length c150], .agg #[.int .i64 ut, .slice a2 ub.length c2]]) (by simp only [List.map_toArray, List.map_cons, List.map_nil]; rfl) ((lawSame08 _ _ _ ut ut _ _ _ _ _ _ ub ub rfl rfl hrx hr2 hv).mono ?_)
              rintro e w160 ⟨he, hv⟩
              rw [same_refl] at he
              subst he
              refine ⟨_, rfl, ?_⟩
              refine wpi_exG (v := .bool true) (fun _ => trivial) (wanted_of (j := 16) (d := 139) (b := true) rfl rfl rfl) rfl (ex_pick (b := true) rfl rfl rfl) ?_
              refine wpi_exG (v := .bool false) (fun _ => trivial) (wanted_of (j := 16) (d := 139) (b := true) rfl rfl rfl) rfl (ex_not rfl rfl rfl) ?_
              simp only [Act.put, List.setIfInBounds_toArray, List.set_cons_succ, List.set_cons_zero]
              refine wpi_exG (v := .bool false) (fun _ => trivial) (wanted_of (j := 6) (d := 129) (b := false) rfl rfl rfl) rfl (ex_pick (b := true) rfl rfl rfl) ?_
              refine wpi_exG (v := .bool false) (fun _ => trivial) (wn rfl) rfl (ex_pick (b := false) rfl rfl rfl) ?_
              refine wpListIn_nil ?_
              simp only [Act.put, List.setIfInBounds_toArray, List.set_cons_succ, List.set_cons_zero]
              refine then_normal (hK159 _ _ ?_)
              clear hK159 K159
              refine wpIn_cond_false rfl ?_
              refine wpIn_skip ?_
              refine then_normal (hK158 _ _ ?_)
              clear hK158 K158
              refine region_st mixed [.pointer (some ⟨q147, 0, none⟩), .agg #[.int .i64 ut, .slice ad149 ub.length c150], .bool true, .pointer (some ⟨q147, 0, none⟩), undef, .bool true, .bool false] [4] [⟨fun vals w => vals = [] ∧ Inv B153 (Res.cell b155 [.int .i64 ut, .slice ad149 ub.length c150] 55 :: Res.cell q147 [.pointer (some ⟨p10, 0, none⟩), .int .i64 ((0 : Nat) : Int), .int .i64 (n : Int), .int .i64 (ge + 1 : Int), .bool false] 102 :: diskR p10 (D.crash []) F151 :: Res.cell b43 [.int .i64 2, .int .i64 0, .int .i64 0, .slice none 0 0, .slice none 0 0] 69 :: Res.cell q [.pointer (some ⟨p10, 0, none⟩), .int .i64 ((0 : Nat) : Int), .int .i64 (n : Int), .int .i64 (ge : Int), .bool true] 102 :: Res.cell b30 [.int .i64 st, .slice a1 b.length c1] 55 :: Res.cell b32 [.int .i64 ut, .slice a2 ub.length c2] 55 :: H) w, fun _ _ _ ⟨h, hi⟩ he => ⟨h, hi.ext he⟩⟩, ⟨fun vals w => vals = [undef] ∧ Inv B153 (Res.cell b155 [.int .i64 ut, .slice ad149 ub.length c150] 55 :: Res.cell q147 [.pointer (some ⟨p10, 0, none⟩), .int .i64 ((0 : Nat) : Int), .int .i64 (n : Int), .int .i64 (ge + 1 : Int), .bool false] 102 :: diskR p10 (D.crash []) F151 :: Res.cell b43 [.int .i64 2, .int .i64 0, .int .i64 0, .slice none 0 0, .slice none 0 0] 69 :: Res.cell q [.pointer (some ⟨p10, 0, none⟩), .int .i64 ((0 : Nat) : Int), .int .i64 (n : Int), .int .i64 (ge : Int), .bool true] 102 :: Res.cell b30 [.int .i64 ut, .slice ad149 ub.length c150] 55 :: Res.cell b32 [.int .i64 ut, .slice a2 ub.length c2] 55 :: H) w, fun _ _ _ ⟨h, hi⟩ he => ⟨h, hi.ext he⟩⟩] 155 rfl (by kernel_rfl) ⟨rfl, hv⟩ ⟨?_, ?_, ?_, ?_, ?_, ?_, ?_, trivial⟩ ?_
              · intro aa ww vals hJ hR
                exact add_step' rfl (Ex.adds' (ex_move rfl (show aa.eval (.tmp 19) = _ from hR.keep 19 rfl)) (wn rfl) rfl)
              · intro aa ww vals hJ hR
                have h2 : vals.length ≤ 0 := hR.hi 4 (by simp) rfl
                have hl : vals.length = 0 := by omega
                obtain ⟨hvals, hv⟩ := hJ.at0 hl
                exact add_step' rfl (Ex.adds' (ex_load rfl (show aa.eval (.tmp 20) = _ from hR.keep 20 rfl) (run_load_mid (pre := []) (mid := [.int .i64 ut, .slice ad149 ub.length c150]) (post := []) skwd55 (show Blk _ b155 ([] ++ [.int .i64 ut, .slice ad149 ub.length c150] ++ []) _ from hv.get 0 rfl) rfl)) (wn rfl) rfl)
              · intro aa ww vals hJ hR
                exact add_step' rfl (Ex.adds' (ex_move rfl (show aa.eval (.tmp 21) = _ from hR.keep 21 rfl)) (wn rfl) rfl)
              · intro aa ww vals hJ hR
                exact add_step' rfl (Ex.adds' (ex_assign rfl (show aa.eval (.tmp 152) = _ from hR.v 0 152 rfl rfl rfl rfl)) (wn rfl) rfl)
              · intro aa ww vals hJ hR
                refine mem_step' rfl fun hvl => ?_
                have hl : vals.length = 0 := hvl
                obtain ⟨hvals, hv⟩ := hJ.at0 hl
                refine mem_storeNAt 5 (new := [.int .i64 ut, .slice ad149 ub.length c150]) (pre := []) (mid := [.int .i64 st, .slice a1 b.length c1]) (post := []) (L' := [.int .i64 ut, .slice ad149 ub.length c150]) (wn rfl) rfl (show aa.eval (.tmp 12) = _ from hR.keep 12 rfl) (show aa.eval (.tmp 153) = _ from hR.v 1 153 rfl rfl rfl rfl) hv rfl sksz55 rfl rfl rfl (one_cons rfl (one_cons rfl one_nil)) rfl (fun w161 hv => ?_)
                exact JS.next hl ⟨by rw [hvals]; rfl, hv⟩
              · intro aa ww vals hJ hR
                exact add_step' rfl (Ex.adds' (ex_assign rfl (show aa.eval (.tmp 154) = _ from hR.v 2 154 rfl rfl rfl rfl)) (wn rfl) rfl)
              · intro aa ww vals hJ hR
                exact add_step' rfl (Ex.adds' (ex_assign rfl rfl) (wn rfl) rfl)
              rintro w162 vals ⟨rfl, hv⟩
              rw [show mixV [4] [undef] 0 [.pointer (some ⟨q147, 0, none⟩), .agg #[.int .i64 ut, .slice ad149 ub.length c150], .bool true, .pointer (some ⟨q147, 0, none⟩), undef, .bool true, .bool false] = [.pointer (some ⟨q147, 0, none⟩), .agg #[.int .i64 ut, .slice ad149 ub.length c150], .bool true, .pointer (some ⟨q147, 0, none⟩), undef, .bool true, .bool false] from rfl]
              simp only [putAll, Act.put, List.setIfInBounds_toArray, List.set_cons_succ, List.set_cons_zero]
              refine blk_normal ?_
              refine blk_normal ?_
              refine then_normal (hK41 _ _ ?_)
              clear hK41 K41
              refine wpIn_region_lit ?_
              refine wpi_exG (v := .int .i64 (i : Int)) (fun _ => trivial) (wn rfl) rfl (ex_move rfl rfl) ?_
              refine wpi_exG (v := .int .i64 ((i : Int) + 1)) (fun _ => trivial) (wn rfl) rfl (ex_add (m := (i : Int)) (n := 1) rfl rfl rfl (i64_in (by omega))) ?_
              refine wpi_exG (v := .int .i64 ((i : Int) + 1)) (fun _ => trivial) (wn rfl) rfl (ex_assign rfl rfl) ?_
              refine wpListIn_nil ?_
              simp only [Act.put, List.setIfInBounds_toArray, List.set_cons_succ, List.set_cons_zero]
              refine then_normal ?_
              go_roundw
              case rel => exact ⟨_, i + 1, (ge + 1), _, _, _, _, _, _, _, _, _, _, _, _, _, (hBC.trans hB154), rfl, rfl, rfl, by simp, by omega, by omega, (KState.fresh hKH rfl _ _), hrx, hr2, (((((hv.front 2 rfl).front 6 rfl).front 6 rfl).front 4 rfl).sub (List.Sublist.cons_cons _ (List.Sublist.cons_cons _ (List.Sublist.cons_cons _ (List.Sublist.cons_cons _ (List.Sublist.cons _ (List.Sublist.cons _ (List.Sublist.cons _ (List.Sublist.refl _)))))))))⟩
              case measure => show m + 1 - ((i : Int) + 1).toNat < m + 1 - (i : Int).toNat; omega
            · have hv := hvN
              refine wpi_exG (v := .bool true) (fun _ => trivial) (wanted_of (j := 6) (d := 129) (b := false) rfl rfl rfl) rfl (ex_beql (p := true) (q := true) Try.underlying4 rfl rfl rfl (by simp)) ?_
              refine wpi_exG (v := .bool true) (fun _ => trivial) (wanted_of (j := 6) (d := 129) (b := false) rfl rfl rfl) rfl (ex_move rfl rfl) ?_
              refine wpi_exG (v := .agg #[.int .i64 ut, .slice ad149 ub.length c150]) (fun _ => trivial) (wanted_of (j := 10) (d := 133) (b := true) rfl rfl rfl) rfl (ex_load rfl rfl (run_load_mid (pre := []) (mid := [.int .i64 ut, .slice ad149 ub.length c150]) (post := []) skwd55 (show Blk _ b155 ([] ++ [.int .i64 ut, .slice ad149 ub.length c150] ++ []) _ from hv.get 0 rfl) rfl)) ?_
              simp only [Act.put, List.setIfInBounds_toArray, List.set_cons_succ, List.set_cons_zero]
              refine wpi_exG (v := .agg #[.int .i64 st, .slice a1 b.length c1]) (fun _ => trivial) (wanted_of (j := 10) (d := 133) (b := true) rfl rfl rfl) rfl (ex_load rfl rfl (run_load_mid (pre := []) (mid := [.int .i64 st, .slice a1 b.length c1]) (post := []) skwd55 (show Blk _ b30 ([] ++ [.int .i64 st, .slice a1 b.length c1] ++ []) _ from hv.get 5 rfl) rfl)) ?_
              refine wpi_callG skcallable32 (fun _ => trivial) wideC rfl (wanted_of (j := 10) (d := 133) (b := true) rfl rfl rfl) rfl (args := #[.agg #[.int .i64 ut, .slice ad149 ub.length c150], .agg #[.int .i64 st, .slice a1 b.length c1]]) (by simp only [List.map_toArray, List.map_cons, List.map_nil]; rfl) ((lawSame08 _ _ _ ut st _ _ _ _ _ _ ub b rfl rfl hrx hr1 hv).mono ?_)
              rintro e w163 ⟨he, hv⟩
              cases hbb : (decide (ut = st) && decide (ub = b)) with
              | false =>
                rw [hbb] at he
                subst he
                refine ⟨_, rfl, ?_⟩
                refine wpi_exG (v := .bool false) (fun _ => trivial) (wanted_of (j := 6) (d := 129) (b := false) rfl rfl rfl) rfl (ex_pick (b := true) rfl rfl rfl) ?_
                simp only [Act.put, List.setIfInBounds_toArray, List.set_cons_succ, List.set_cons_zero]
                refine wpi_exG (v := .bool true) (fun _ => trivial) (wanted_of (j := 6) (d := 129) (b := false) rfl rfl rfl) rfl (ex_not rfl rfl rfl) ?_
                refine wpi_exG (v := .bool true) (fun _ => trivial) (wanted_of (j := 6) (d := 129) (b := false) rfl rfl rfl) rfl (ex_move rfl rfl) ?_
                refine wpi_exG (v := .bool true) (fun _ => trivial) (wanted_of (j := 16) (d := 139) (b := true) rfl rfl rfl) rfl (ex_move rfl rfl) ?_
                simp only [Act.put, List.setIfInBounds_toArray, List.set_cons_succ, List.set_cons_zero]
                refine wpi_exG (v := .bool true) (fun _ => trivial) (wanted_of (j := 16) (d := 139) (b := true) rfl rfl rfl) rfl (ex_move rfl rfl) ?_
                refine wpi_exG (v := .bool true) (fun _ => trivial) (wanted_of (j := 18) (d := 141) (b := true) rfl rfl rfl) rfl (ex_move rfl rfl) ?_
                refine wpi_exG (v := .bool true) (fun _ => trivial) (wanted_of (j := 16) (d := 139) (b := true) rfl rfl rfl) rfl (ex_pick (b := true) rfl rfl rfl) ?_
                simp only [Act.put, List.setIfInBounds_toArray, List.set_cons_succ, List.set_cons_zero]
                refine wpi_exG (v := .bool true) (fun _ => trivial) (wanted_of (j := 16) (d := 139) (b := true) rfl rfl rfl) rfl (ex_move rfl rfl) ?_
                refine wpi_exG (v := .agg #[.int .i64 ut, .slice ad149 ub.length c150]) (fun _ => trivial) (wanted_of (j := 21) (d := 144) (b := true) rfl rfl rfl) rfl (ex_load rfl rfl (run_load_mid (pre := []) (mid := [.int .i64 ut, .slice ad149 ub.length c150]) (post := []) skwd55 (show Blk _ b155 ([] ++ [.int .i64 ut, .slice ad149 ub.length c150] ++ []) _ from hv.get 0 rfl) rfl)) ?_
                refine wpi_exG (v := .agg #[.int .i64 ut, .slice a2 ub.length c2]) (fun _ => trivial) (wanted_of (j := 21) (d := 144) (b := true) rfl rfl rfl) rfl (ex_load rfl rfl (run_load_mid (pre := []) (mid := [.int .i64 ut, .slice a2 ub.length c2]) (post := []) skwd55 (show Blk _ b32 ([] ++ [.int .i64 ut, .slice a2 ub.length c2] ++ []) _ from hv.get 6 rfl) rfl)) ?_
                simp only [Act.put, List.setIfInBounds_toArray, List.set_cons_succ, List.set_cons_zero]
                refine wpi_callG skcallable32 (fun _ => trivial) wideC rfl (wanted_of (j := 21) (d := 144) (b := true) rfl rfl rfl) rfl (args := #[.agg #[.int .i64 ut, .slice ad149 ub.length c150], .agg #[.int .i64 ut, .slice a2 ub.length c2]]) (by simp only [List.map_toArray, List.map_cons, List.map_nil]; rfl) ((lawSame08 _ _ _ ut ut _ _ _ _ _ _ ub ub rfl rfl hrx hr2 hv).mono ?_)
                rintro e w164 ⟨he, hv⟩
                rw [same_refl] at he
                subst he
                refine ⟨_, rfl, ?_⟩
                refine wpi_exG (v := .bool true) (fun _ => trivial) (wanted_of (j := 16) (d := 139) (b := true) rfl rfl rfl) rfl (ex_pick (b := true) rfl rfl rfl) ?_
                refine wpi_exG (v := .bool false) (fun _ => trivial) (wanted_of (j := 16) (d := 139) (b := true) rfl rfl rfl) rfl (ex_not rfl rfl rfl) ?_
                simp only [Act.put, List.setIfInBounds_toArray, List.set_cons_succ, List.set_cons_zero]
                refine wpi_exG (v := .bool false) (fun _ => trivial) (wanted_of (j := 6) (d := 129) (b := false) rfl rfl rfl) rfl (ex_pick (b := true) rfl rfl rfl) ?_
                refine wpi_exG (v := .bool false) (fun _ => trivial) (wn rfl) rfl (ex_pick (b := false) rfl rfl rfl) ?_
                refine wpListIn_nil ?_
                simp only [Act.put, List.setIfInBounds_toArray, List.set_cons_succ, List.set_cons_zero]
                refine then_normal (hK159 _ _ ?_)
                clear hK159 K159
                refine wpIn_cond_false rfl ?_
                refine wpIn_skip ?_
                refine then_normal (hK158 _ _ ?_)
                clear hK158 K158
                refine region_st mixed [.pointer (some ⟨q147, 0, none⟩), .agg #[.int .i64 ut, .slice ad149 ub.length c150], .bool true, .pointer (some ⟨q147, 0, none⟩), undef, .bool true, .bool false] [4] [⟨fun vals w => vals = [] ∧ Inv B153 (Res.cell b155 [.int .i64 ut, .slice ad149 ub.length c150] 55 :: Res.cell q147 [.pointer (some ⟨p10, 0, none⟩), .int .i64 ((0 : Nat) : Int), .int .i64 (n : Int), .int .i64 (ge + 1 : Int), .bool false] 102 :: diskR p10 (D.crash []) F151 :: Res.cell b43 [.int .i64 2, .int .i64 0, .int .i64 0, .slice none 0 0, .slice none 0 0] 69 :: Res.cell q [.pointer (some ⟨p10, 0, none⟩), .int .i64 ((0 : Nat) : Int), .int .i64 (n : Int), .int .i64 (ge : Int), .bool true] 102 :: Res.cell b30 [.int .i64 st, .slice a1 b.length c1] 55 :: Res.cell b32 [.int .i64 ut, .slice a2 ub.length c2] 55 :: H) w, fun _ _ _ ⟨h, hi⟩ he => ⟨h, hi.ext he⟩⟩, ⟨fun vals w => vals = [undef] ∧ Inv B153 (Res.cell b155 [.int .i64 ut, .slice ad149 ub.length c150] 55 :: Res.cell q147 [.pointer (some ⟨p10, 0, none⟩), .int .i64 ((0 : Nat) : Int), .int .i64 (n : Int), .int .i64 (ge + 1 : Int), .bool false] 102 :: diskR p10 (D.crash []) F151 :: Res.cell b43 [.int .i64 2, .int .i64 0, .int .i64 0, .slice none 0 0, .slice none 0 0] 69 :: Res.cell q [.pointer (some ⟨p10, 0, none⟩), .int .i64 ((0 : Nat) : Int), .int .i64 (n : Int), .int .i64 (ge : Int), .bool true] 102 :: Res.cell b30 [.int .i64 ut, .slice ad149 ub.length c150] 55 :: Res.cell b32 [.int .i64 ut, .slice a2 ub.length c2] 55 :: H) w, fun _ _ _ ⟨h, hi⟩ he => ⟨h, hi.ext he⟩⟩] 155 rfl (by kernel_rfl) ⟨rfl, hv⟩ ⟨?_, ?_, ?_, ?_, ?_, ?_, ?_, trivial⟩ ?_
                · intro aa ww vals hJ hR
                  exact add_step' rfl (Ex.adds' (ex_move rfl (show aa.eval (.tmp 19) = _ from hR.keep 19 rfl)) (wn rfl) rfl)
                · intro aa ww vals hJ hR
                  have h2 : vals.length ≤ 0 := hR.hi 4 (by simp) rfl
                  have hl : vals.length = 0 := by omega
                  obtain ⟨hvals, hv⟩ := hJ.at0 hl
                  exact add_step' rfl (Ex.adds' (ex_load rfl (show aa.eval (.tmp 20) = _ from hR.keep 20 rfl) (run_load_mid (pre := []) (mid := [.int .i64 ut, .slice ad149 ub.length c150]) (post := []) skwd55 (show Blk _ b155 ([] ++ [.int .i64 ut, .slice ad149 ub.length c150] ++ []) _ from hv.get 0 rfl) rfl)) (wn rfl) rfl)
                · intro aa ww vals hJ hR
                  exact add_step' rfl (Ex.adds' (ex_move rfl (show aa.eval (.tmp 21) = _ from hR.keep 21 rfl)) (wn rfl) rfl)
                · intro aa ww vals hJ hR
                  exact add_step' rfl (Ex.adds' (ex_assign rfl (show aa.eval (.tmp 152) = _ from hR.v 0 152 rfl rfl rfl rfl)) (wn rfl) rfl)
                · intro aa ww vals hJ hR
                  refine mem_step' rfl fun hvl => ?_
                  have hl : vals.length = 0 := hvl
                  obtain ⟨hvals, hv⟩ := hJ.at0 hl
                  refine mem_storeNAt 5 (new := [.int .i64 ut, .slice ad149 ub.length c150]) (pre := []) (mid := [.int .i64 st, .slice a1 b.length c1]) (post := []) (L' := [.int .i64 ut, .slice ad149 ub.length c150]) (wn rfl) rfl (show aa.eval (.tmp 12) = _ from hR.keep 12 rfl) (show aa.eval (.tmp 153) = _ from hR.v 1 153 rfl rfl rfl rfl) hv rfl sksz55 rfl rfl rfl (one_cons rfl (one_cons rfl one_nil)) rfl (fun w165 hv => ?_)
                  exact JS.next hl ⟨by rw [hvals]; rfl, hv⟩
                · intro aa ww vals hJ hR
                  exact add_step' rfl (Ex.adds' (ex_assign rfl (show aa.eval (.tmp 154) = _ from hR.v 2 154 rfl rfl rfl rfl)) (wn rfl) rfl)
                · intro aa ww vals hJ hR
                  exact add_step' rfl (Ex.adds' (ex_assign rfl rfl) (wn rfl) rfl)
                rintro w166 vals ⟨rfl, hv⟩
                rw [show mixV [4] [undef] 0 [.pointer (some ⟨q147, 0, none⟩), .agg #[.int .i64 ut, .slice ad149 ub.length c150], .bool true, .pointer (some ⟨q147, 0, none⟩), undef, .bool true, .bool false] = [.pointer (some ⟨q147, 0, none⟩), .agg #[.int .i64 ut, .slice ad149 ub.length c150], .bool true, .pointer (some ⟨q147, 0, none⟩), undef, .bool true, .bool false] from rfl]
                simp only [putAll, Act.put, List.setIfInBounds_toArray, List.set_cons_succ, List.set_cons_zero]
                refine blk_normal ?_
                refine blk_normal ?_
                refine then_normal (hK41 _ _ ?_)
                clear hK41 K41
                refine wpIn_region_lit ?_
                refine wpi_exG (v := .int .i64 (i : Int)) (fun _ => trivial) (wn rfl) rfl (ex_move rfl rfl) ?_
                refine wpi_exG (v := .int .i64 ((i : Int) + 1)) (fun _ => trivial) (wn rfl) rfl (ex_add (m := (i : Int)) (n := 1) rfl rfl rfl (i64_in (by omega))) ?_
                refine wpi_exG (v := .int .i64 ((i : Int) + 1)) (fun _ => trivial) (wn rfl) rfl (ex_assign rfl rfl) ?_
                refine wpListIn_nil ?_
                simp only [Act.put, List.setIfInBounds_toArray, List.set_cons_succ, List.set_cons_zero]
                refine then_normal ?_
                go_roundw
                case rel => exact ⟨_, i + 1, (ge + 1), _, _, _, _, _, _, _, _, _, _, _, _, _, (hBC.trans hB154), rfl, rfl, rfl, by simp, by omega, by omega, (KState.fresh hKH rfl _ _), hrx, hr2, (((((hv.front 2 rfl).front 6 rfl).front 6 rfl).front 4 rfl).sub (List.Sublist.cons_cons _ (List.Sublist.cons_cons _ (List.Sublist.cons_cons _ (List.Sublist.cons_cons _ (List.Sublist.cons _ (List.Sublist.cons _ (List.Sublist.cons _ (List.Sublist.refl _)))))))))⟩
                case measure => show m + 1 - ((i : Int) + 1).toNat < m + 1 - (i : Int).toNat; omega
              | true =>
                rw [hbb] at he
                subst he
                refine ⟨_, rfl, ?_⟩
                refine wpi_exG (v := .bool true) (fun _ => trivial) (wanted_of (j := 6) (d := 129) (b := false) rfl rfl rfl) rfl (ex_pick (b := true) rfl rfl rfl) ?_
                simp only [Act.put, List.setIfInBounds_toArray, List.set_cons_succ, List.set_cons_zero]
                refine wpi_exG (v := .bool false) (fun _ => trivial) (wanted_of (j := 6) (d := 129) (b := false) rfl rfl rfl) rfl (ex_not rfl rfl rfl) ?_
                refine wpi_exG (v := .bool false) (fun _ => trivial) (wanted_of (j := 6) (d := 129) (b := false) rfl rfl rfl) rfl (ex_move rfl rfl) ?_
                refine wpi_not (fun _ => trivial) (wanted_not (j := 16) (d := 139) (b := true) (b' := false) rfl rfl rfl (by decide)) ?_
                simp only [Act.put, List.setIfInBounds_toArray, List.set_cons_succ, List.set_cons_zero]
                refine wpi_not (fun _ => trivial) (wanted_not (j := 16) (d := 139) (b := true) (b' := false) rfl rfl rfl (by decide)) ?_
                refine wpi_not (fun _ => trivial) (wanted_undef (j := 18) (d := 141) rfl rfl rfl) ?_
                refine wpi_not (fun _ => trivial) (wanted_not (j := 16) (d := 139) (b := true) (b' := false) rfl rfl rfl (by decide)) ?_
                simp only [Act.put, List.setIfInBounds_toArray, List.set_cons_succ, List.set_cons_zero]
                refine wpi_not (fun _ => trivial) (wanted_not (j := 16) (d := 139) (b := true) (b' := false) rfl rfl rfl (by decide)) ?_
                refine wpi_not (fun _ => trivial) (wanted_undef (j := 21) (d := 144) rfl rfl rfl) ?_
                refine wpi_not (fun _ => trivial) (wanted_undef (j := 21) (d := 144) rfl rfl rfl) ?_
                simp only [Act.put, List.setIfInBounds_toArray, List.set_cons_succ, List.set_cons_zero]
                refine wpi_not (fun _ => trivial) (wanted_undef (j := 21) (d := 144) rfl rfl rfl) ?_
                refine wpi_not (fun _ => trivial) (wanted_not (j := 16) (d := 139) (b := true) (b' := false) rfl rfl rfl (by decide)) ?_
                refine wpi_not (fun _ => trivial) (wanted_not (j := 16) (d := 139) (b := true) (b' := false) rfl rfl rfl (by decide)) ?_
                simp only [Act.put, List.setIfInBounds_toArray, List.set_cons_succ, List.set_cons_zero]
                refine wpi_exG (v := .bool false) (fun _ => trivial) (wanted_of (j := 6) (d := 129) (b := false) rfl rfl rfl) rfl (ex_pick (b := false) rfl rfl rfl) ?_
                refine wpi_exG (v := .bool false) (fun _ => trivial) (wn rfl) rfl (ex_pick (b := false) rfl rfl rfl) ?_
                refine wpListIn_nil ?_
                simp only [Act.put, List.setIfInBounds_toArray, List.set_cons_succ, List.set_cons_zero]
                refine then_normal (hK159 _ _ ?_)
                clear hK159 K159
                refine wpIn_cond_false rfl ?_
                refine wpIn_skip ?_
                refine then_normal (hK158 _ _ ?_)
                clear hK158 K158
                refine region_st mixed [.pointer (some ⟨q147, 0, none⟩), .agg #[.int .i64 ut, .slice ad149 ub.length c150], .bool true, .pointer (some ⟨q147, 0, none⟩), undef, .bool true, .bool false] [4] [⟨fun vals w => vals = [] ∧ Inv B153 (Res.cell b155 [.int .i64 ut, .slice ad149 ub.length c150] 55 :: Res.cell q147 [.pointer (some ⟨p10, 0, none⟩), .int .i64 ((0 : Nat) : Int), .int .i64 (n : Int), .int .i64 (ge + 1 : Int), .bool false] 102 :: diskR p10 (D.crash []) F151 :: Res.cell b43 [.int .i64 2, .int .i64 0, .int .i64 0, .slice none 0 0, .slice none 0 0] 69 :: Res.cell q [.pointer (some ⟨p10, 0, none⟩), .int .i64 ((0 : Nat) : Int), .int .i64 (n : Int), .int .i64 (ge : Int), .bool true] 102 :: Res.cell b30 [.int .i64 st, .slice a1 b.length c1] 55 :: Res.cell b32 [.int .i64 ut, .slice a2 ub.length c2] 55 :: H) w, fun _ _ _ ⟨h, hi⟩ he => ⟨h, hi.ext he⟩⟩, ⟨fun vals w => vals = [undef] ∧ Inv B153 (Res.cell b155 [.int .i64 ut, .slice ad149 ub.length c150] 55 :: Res.cell q147 [.pointer (some ⟨p10, 0, none⟩), .int .i64 ((0 : Nat) : Int), .int .i64 (n : Int), .int .i64 (ge + 1 : Int), .bool false] 102 :: diskR p10 (D.crash []) F151 :: Res.cell b43 [.int .i64 2, .int .i64 0, .int .i64 0, .slice none 0 0, .slice none 0 0] 69 :: Res.cell q [.pointer (some ⟨p10, 0, none⟩), .int .i64 ((0 : Nat) : Int), .int .i64 (n : Int), .int .i64 (ge : Int), .bool true] 102 :: Res.cell b30 [.int .i64 ut, .slice ad149 ub.length c150] 55 :: Res.cell b32 [.int .i64 ut, .slice a2 ub.length c2] 55 :: H) w, fun _ _ _ ⟨h, hi⟩ he => ⟨h, hi.ext he⟩⟩] 155 rfl (by kernel_rfl) ⟨rfl, hv⟩ ⟨?_, ?_, ?_, ?_, ?_, ?_, ?_, trivial⟩ ?_
                · intro aa ww vals hJ hR
                  exact add_step' rfl (Ex.adds' (ex_move rfl (show aa.eval (.tmp 19) = _ from hR.keep 19 rfl)) (wn rfl) rfl)
                · intro aa ww vals hJ hR
                  have h2 : vals.length ≤ 0 := hR.hi 4 (by simp) rfl
                  have hl : vals.length = 0 := by omega
                  obtain ⟨hvals, hv⟩ := hJ.at0 hl
                  exact add_step' rfl (Ex.adds' (ex_load rfl (show aa.eval (.tmp 20) = _ from hR.keep 20 rfl) (run_load_mid (pre := []) (mid := [.int .i64 ut, .slice ad149 ub.length c150]) (post := []) skwd55 (show Blk _ b155 ([] ++ [.int .i64 ut, .slice ad149 ub.length c150] ++ []) _ from hv.get 0 rfl) rfl)) (wn rfl) rfl)
                · intro aa ww vals hJ hR
                  exact add_step' rfl (Ex.adds' (ex_move rfl (show aa.eval (.tmp 21) = _ from hR.keep 21 rfl)) (wn rfl) rfl)
                · intro aa ww vals hJ hR
                  exact add_step' rfl (Ex.adds' (ex_assign rfl (show aa.eval (.tmp 152) = _ from hR.v 0 152 rfl rfl rfl rfl)) (wn rfl) rfl)
                · intro aa ww vals hJ hR
                  refine mem_step' rfl fun hvl => ?_
                  have hl : vals.length = 0 := hvl
                  obtain ⟨hvals, hv⟩ := hJ.at0 hl
                  refine mem_storeNAt 5 (new := [.int .i64 ut, .slice ad149 ub.length c150]) (pre := []) (mid := [.int .i64 st, .slice a1 b.length c1]) (post := []) (L' := [.int .i64 ut, .slice ad149 ub.length c150]) (wn rfl) rfl (show aa.eval (.tmp 12) = _ from hR.keep 12 rfl) (show aa.eval (.tmp 153) = _ from hR.v 1 153 rfl rfl rfl rfl) hv rfl sksz55 rfl rfl rfl (one_cons rfl (one_cons rfl one_nil)) rfl (fun w167 hv => ?_)
                  exact JS.next hl ⟨by rw [hvals]; rfl, hv⟩
                · intro aa ww vals hJ hR
                  exact add_step' rfl (Ex.adds' (ex_assign rfl (show aa.eval (.tmp 154) = _ from hR.v 2 154 rfl rfl rfl rfl)) (wn rfl) rfl)
                · intro aa ww vals hJ hR
                  exact add_step' rfl (Ex.adds' (ex_assign rfl rfl) (wn rfl) rfl)
                rintro w168 vals ⟨rfl, hv⟩
                rw [show mixV [4] [undef] 0 [.pointer (some ⟨q147, 0, none⟩), .agg #[.int .i64 ut, .slice ad149 ub.length c150], .bool true, .pointer (some ⟨q147, 0, none⟩), undef, .bool true, .bool false] = [.pointer (some ⟨q147, 0, none⟩), .agg #[.int .i64 ut, .slice ad149 ub.length c150], .bool true, .pointer (some ⟨q147, 0, none⟩), undef, .bool true, .bool false] from rfl]
                simp only [putAll, Act.put, List.setIfInBounds_toArray, List.set_cons_succ, List.set_cons_zero]
                refine blk_normal ?_
                refine blk_normal ?_
                refine then_normal (hK41 _ _ ?_)
                clear hK41 K41
                refine wpIn_region_lit ?_
                refine wpi_exG (v := .int .i64 (i : Int)) (fun _ => trivial) (wn rfl) rfl (ex_move rfl rfl) ?_
                refine wpi_exG (v := .int .i64 ((i : Int) + 1)) (fun _ => trivial) (wn rfl) rfl (ex_add (m := (i : Int)) (n := 1) rfl rfl rfl (i64_in (by omega))) ?_
                refine wpi_exG (v := .int .i64 ((i : Int) + 1)) (fun _ => trivial) (wn rfl) rfl (ex_assign rfl rfl) ?_
                refine wpListIn_nil ?_
                simp only [Act.put, List.setIfInBounds_toArray, List.set_cons_succ, List.set_cons_zero]
                refine then_normal ?_
                go_roundw
                case rel => exact ⟨_, i + 1, (ge + 1), _, _, _, _, _, _, _, _, _, _, _, _, _, (hBC.trans hB154), rfl, rfl, rfl, by simp, by omega, by omega, (KState.fresh hKH rfl _ _), hrx, hr2, (((((hv.front 2 rfl).front 6 rfl).front 6 rfl).front 4 rfl).sub (List.Sublist.cons_cons _ (List.Sublist.cons_cons _ (List.Sublist.cons_cons _ (List.Sublist.cons_cons _ (List.Sublist.cons _ (List.Sublist.cons _ (List.Sublist.cons _ (List.Sublist.refl _)))))))))⟩
                case measure => show m + 1 - ((i : Int) + 1).toNat < m + 1 - (i : Int).toNat; omega
      · refine wpi_exG (v := .bool false) (fun _ => trivial) (wn rfl) rfl (ex_leq (k := .i64) (m := (i : Int)) (n := (m : Int)) rfl rfl rfl (decide_eq_false hb40)) ?_
        refine wpListIn_nil ?_
        simp only [Act.put, List.setIfInBounds_toArray, List.set_cons_succ, List.set_cons_zero]
        refine then_normal (hK39 _ _ ?_)
        clear hK39 K39
        refine wpIn_cond_false rfl ?_
        refine wpIn_exit ?_
        refine then_exit ?_
        clear hK38 K38
        refine then_exit ?_
        refine blk_hit ?_
        refine then_normal (hK35 _ _ ?_)
        clear hK35 K35
        refine wpIn_seq_k (fun K169 hK169 => ?_)
        refine wpIn_region_lit ?_
        refine wpi_exG (v := .bool true) (fun _ => trivial) (wn rfl) rfl (ex_assign rfl rfl) ?_
        refine wpListIn_nil ?_
        simp only [Act.put, List.setIfInBounds_toArray, List.set_cons_succ, List.set_cons_zero]
        refine then_normal (hK169 _ _ ?_)
        clear hK169 K169
        refine wpIn_ret ?_
        refine bodyPost_ret (results_tmp rfl _ _ _) rfl ?_
        exact ⟨rfl, (hv.tail 4).weak hBC⟩
end Go.Proofs.Ytkannfkjnohdlaa
