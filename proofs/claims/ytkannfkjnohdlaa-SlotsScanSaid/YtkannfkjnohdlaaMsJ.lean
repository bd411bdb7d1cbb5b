/- SlotsScan -/
import Derived.Test.YtkannfkjnohdlaaMsI
namespace Go.Proofs.Ytkannfkjnohdlaa
open Go.RowKit Go.Pm

theorem scal55 (w : World) : (Instr.alloc 55 true (.tuple #[])).run Try.prog w = .ok (.pointer (some ⟨w.heap.size, 0, none⟩)) (w.alloc (.cells ([.int .i64 0, .slice none 0 0] : List Value).toArray 55)) := by kernel_rfl
theorem scsz55 : (Try.prog.info? 55).map (·.size) = some 2 := by kernel_rfl
theorem scwd55 : Wide Try.prog 55 2 := wide_of (fun w => by kernel_rfl) (by kernel_rfl)
set_option maxRecDepth 100000 in
set_option maxHeartbeats 2000000 in
theorem slotsOpenArg (B : Base) (H : List Res) (w : World) (p : Nat) (z : Int) (hz : z < 1 ∨ z > 65536) (hv : Inv B H w) :
    Calls Try.prog 30 #[.pointer (some ⟨p, 0, none⟩), .int .i64 0, .int .i64 z] w fun e w' => e = .returned (.tuple #[.pointer none, .agg #[.int .i64 0, .slice none 0 0], .bool false, .int .i64 2]) ∧ Inv B H w' := by
  refine (callsIn_wide (n := 5)).1 ?_
  refine callsIn_of_wp Try.func30 rfl trivial ?_
  simp only [Try.ntmps30, List.size_toArray, List.length_cons, List.length_nil, Nat.reduceAdd, Nat.reduceSub, Array.replicate_succ, Array.replicate_zero, List.push_toArray, List.append_toArray, List.nil_append, List.cons_append]
  refine wpIn_seq_k (fun K1 hK1 => ?_)
  refine wpIn_region_lit ?_
  refine wpi_exG (v := .pointer none) (fun _ => trivial) (wn rfl) rfl (ex_assign rfl rfl) ?_
  refine sl_alloc (fun _ => trivial) (wn rfl) rfl hv scal55 (fun b2 w3 hv => ?_)
  refine wpi_exG (v := .bool false) (fun _ => trivial) (wn rfl) rfl (ex_assign rfl rfl) ?_
  simp only [Act.put, List.setIfInBounds_toArray, List.set_cons_succ, List.set_cons_zero]
  refine wpi_exG (v := .int .i64 0) (fun _ => trivial) (wn rfl) rfl (ex_assign rfl rfl) ?_
  refine wpListIn_nil ?_
  simp only [Act.put, List.setIfInBounds_toArray, List.set_cons_succ, List.set_cons_zero]
  refine then_normal (hK1 _ _ ?_)
  clear hK1 K1
  refine wpIn_seq_k (fun K4 hK4 => ?_)
  refine wpIn_seq_k (fun K5 hK5 => ?_)
  refine wpIn_region_lit ?_
  refine wpi_exG (v := .pointer (some ⟨p, 0, none⟩)) (fun _ => trivial) (wn rfl) rfl (ex_move rfl rfl) ?_
  refine wpi_exG (v := .bool false) (fun _ => trivial) (wn rfl) rfl (ex_pisnil Try.underlying36 rfl rfl rfl rfl) ?_
  refine wpListIn_nil ?_
  simp only [Act.put, List.setIfInBounds_toArray, List.set_cons_succ, List.set_cons_zero]
  refine then_normal (hK5 _ _ ?_)
  clear hK5 K5
  refine wpIn_cond_false rfl ?_
  refine wpIn_skip ?_
  refine then_normal (hK4 _ _ ?_)
  clear hK4 K4
  refine wpIn_seq_k (fun K6 hK6 => ?_)
  refine wpIn_seq_k (fun K7 hK7 => ?_)
  refine wpIn_region_lit ?_
  refine wpi_exG (v := .int .i64 z) (fun _ => trivial) (wn rfl) rfl (ex_move rfl rfl) ?_
  by_cases hb8 : z < 1
  · refine wpi_exG (v := .bool true) (fun _ => trivial) (wn rfl) rfl (ex_lss (k := .i64) (m := z) (n := 1) rfl rfl rfl (decide_eq_true hb8)) ?_
    refine wpi_exG (v := .bool true) (fun _ => trivial) (wn rfl) rfl (ex_move rfl rfl) ?_
    simp only [Act.put, List.setIfInBounds_toArray, List.set_cons_succ, List.set_cons_zero]
    refine wpi_not (fun _ => trivial) (wanted_not (j := 2) (d := 24) (b := false) (b' := true) rfl rfl rfl (by decide)) ?_
    refine wpi_not (fun _ => trivial) (wanted_not (j := 2) (d := 24) (b := false) (b' := true) rfl rfl rfl (by decide)) ?_
    refine wpi_exG (v := .bool true) (fun _ => trivial) (wn rfl) rfl (ex_pick (b := true) rfl rfl rfl) ?_
    refine wpListIn_nil ?_
    simp only [Act.put, List.setIfInBounds_toArray, List.set_cons_succ, List.set_cons_zero]
    refine then_normal (hK7 _ _ ?_)
    clear hK7 K7
    refine wpIn_cond_true rfl ?_
    refine wpIn_seq_k (fun K9 hK9 => ?_)
    refine wpIn_region_lit ?_
    refine wpi_exG (v := .agg #[.int .i64 0, .slice none 0 0]) (fun _ => trivial) (wn rfl) rfl (ex_buildN (vs := #[]) rfl (by simp only [List.map_toArray, List.map_nil]) (by kernel_rfl)) ?_
    refine wpi_exG (v := .pointer none) (fun _ => trivial) (wn rfl) rfl (ex_assign rfl rfl) ?_
    refine sl_storeNAt 0 (new := [.int .i64 0, .slice none 0 0]) (pre := []) (mid := [.int .i64 0, .slice none 0 0]) (post := []) (L' := [.int .i64 0, .slice none 0 0]) (fun _ => trivial) (wn rfl) rfl rfl rfl hv rfl scsz55 rfl rfl rfl (one_cons rfl (one_cons rfl one_nil)) rfl (fun w10 hv => ?_)
    simp only [List.set_cons_succ, List.set_cons_zero] at hv
    simp only [Act.put, List.setIfInBounds_toArray, List.set_cons_succ, List.set_cons_zero]
    refine wpi_exG (v := .bool false) (fun _ => trivial) (wn rfl) rfl (ex_assign rfl rfl) ?_
    refine wpi_exG (v := .int .i64 2) (fun _ => trivial) (wn rfl) rfl (ex_assign rfl rfl) ?_
    refine wpListIn_nil ?_
    simp only [Act.put, List.setIfInBounds_toArray, List.set_cons_succ, List.set_cons_zero]
    refine then_normal (hK9 _ _ ?_)
    clear hK9 K9
    refine wpIn_ret ?_
    refine then_ret ?_
    clear hK6 K6
    refine bodyPost_ret (res_tcell4 rfl rfl (run_load_mid (pre := []) (mid := [.int .i64 0, .slice none 0 0]) (post := []) scwd55 (show Blk _ b2 ([] ++ [.int .i64 0, .slice none 0 0] ++ []) _ from hv.get 0 rfl) rfl)) rfl ?_
    exact ⟨rfl, hv.tail 1⟩
  · refine wpi_exG (v := .bool false) (fun _ => trivial) (wn rfl) rfl (ex_lss (k := .i64) (m := z) (n := 1) rfl rfl rfl (decide_eq_false hb8)) ?_
    refine wpi_exG (v := .bool false) (fun _ => trivial) (wn rfl) rfl (ex_move rfl rfl) ?_
    simp only [Act.put, List.setIfInBounds_toArray, List.set_cons_succ, List.set_cons_zero]
    refine wpi_exG (v := .int .i64 z) (fun _ => trivial) (wanted_of (j := 2) (d := 24) (b := false) rfl rfl rfl) rfl (ex_move rfl rfl) ?_
    refine wpi_exG (v := .bool true) (fun _ => trivial) (wanted_of (j := 2) (d := 24) (b := false) rfl rfl rfl) rfl (ex_gtr (k := .i64) (m := z) (n := 65536) rfl rfl rfl (decide_eq_true (by omega))) ?_
    refine wpi_exG (v := .bool true) (fun _ => trivial) (wn rfl) rfl (ex_pick (b := false) rfl rfl rfl) ?_
    refine wpListIn_nil ?_
    simp only [Act.put, List.setIfInBounds_toArray, List.set_cons_succ, List.set_cons_zero]
    refine then_normal (hK7 _ _ ?_)
    clear hK7 K7
    refine wpIn_cond_true rfl ?_
    refine wpIn_seq_k (fun K11 hK11 => ?_)
    refine wpIn_region_lit ?_
    refine wpi_exG (v := .agg #[.int .i64 0, .slice none 0 0]) (fun _ => trivial) (wn rfl) rfl (ex_buildN (vs := #[]) rfl (by simp only [List.map_toArray, List.map_nil]) (by kernel_rfl)) ?_
    refine wpi_exG (v := .pointer none) (fun _ => trivial) (wn rfl) rfl (ex_assign rfl rfl) ?_
    refine sl_storeNAt 0 (new := [.int .i64 0, .slice none 0 0]) (pre := []) (mid := [.int .i64 0, .slice none 0 0]) (post := []) (L' := [.int .i64 0, .slice none 0 0]) (fun _ => trivial) (wn rfl) rfl rfl rfl hv rfl scsz55 rfl rfl rfl (one_cons rfl (one_cons rfl one_nil)) rfl (fun w12 hv => ?_)
    simp only [List.set_cons_succ, List.set_cons_zero] at hv
    simp only [Act.put, List.setIfInBounds_toArray, List.set_cons_succ, List.set_cons_zero]
    refine wpi_exG (v := .bool false) (fun _ => trivial) (wn rfl) rfl (ex_assign rfl rfl) ?_
    refine wpi_exG (v := .int .i64 2) (fun _ => trivial) (wn rfl) rfl (ex_assign rfl rfl) ?_
    refine wpListIn_nil ?_
    simp only [Act.put, List.setIfInBounds_toArray, List.set_cons_succ, List.set_cons_zero]
    refine then_normal (hK11 _ _ ?_)
    clear hK11 K11
    refine wpIn_ret ?_
    refine then_ret ?_
    clear hK6 K6
    refine bodyPost_ret (res_tcell4 rfl rfl (run_load_mid (pre := []) (mid := [.int .i64 0, .slice none 0 0]) (post := []) scwd55 (show Blk _ b2 ([] ++ [.int .i64 0, .slice none 0 0] ++ []) _ from hv.get 0 rfl) rfl)) rfl ?_
    exact ⟨rfl, hv.tail 1⟩
theorem sccallable26 : Callable Try.prog 26 := ⟨_, Try.func26, by kernel_rfl, by kernel_rfl⟩
set_option maxRecDepth 100000 in
set_option maxHeartbeats 2000000 in
theorem slotsOpenFar (B : Base) (H : List Res) (w : World) (p : Nat) (D : Disk) (F : List Nat) (z : Int) (h1 : 1 ≤ z) (h2 : z ≤ 65536) (hh : D.has 0 (2 * z) = false) (hv : Inv B (diskR p D F :: H) w) :
    Calls Try.prog 30 #[.pointer (some ⟨p, 0, none⟩), .int .i64 0, .int .i64 z] w fun e w' => e = .returned (.tuple #[.pointer none, .agg #[.int .i64 0, .slice none 0 0], .bool false, .int .i64 2]) ∧ Inv B (diskR p D F :: H) w' := by
  refine (callsIn_wide (n := 5)).1 ?_
  refine callsIn_of_wp Try.func30 rfl trivial ?_
  simp only [Try.ntmps30, List.size_toArray, List.length_cons, List.length_nil, Nat.reduceAdd, Nat.reduceSub, Array.replicate_succ, Array.replicate_zero, List.push_toArray, List.append_toArray, List.nil_append, List.cons_append]
  refine wpIn_seq_k (fun K1 hK1 => ?_)
  refine wpIn_region_lit ?_
  refine wpi_exG (v := .pointer none) (fun _ => trivial) (wn rfl) rfl (ex_assign rfl rfl) ?_
  refine sl_alloc (fun _ => trivial) (wn rfl) rfl hv scal55 (fun b2 w3 hv => ?_)
  refine wpi_exG (v := .bool false) (fun _ => trivial) (wn rfl) rfl (ex_assign rfl rfl) ?_
  simp only [Act.put, List.setIfInBounds_toArray, List.set_cons_succ, List.set_cons_zero]
  refine wpi_exG (v := .int .i64 0) (fun _ => trivial) (wn rfl) rfl (ex_assign rfl rfl) ?_
  refine wpListIn_nil ?_
  simp only [Act.put, List.setIfInBounds_toArray, List.set_cons_succ, List.set_cons_zero]
  refine then_normal (hK1 _ _ ?_)
  clear hK1 K1
  refine wpIn_seq_k (fun K4 hK4 => ?_)
  refine wpIn_seq_k (fun K5 hK5 => ?_)
  refine wpIn_region_lit ?_
  refine wpi_exG (v := .pointer (some ⟨p, 0, none⟩)) (fun _ => trivial) (wn rfl) rfl (ex_move rfl rfl) ?_
  refine wpi_exG (v := .bool false) (fun _ => trivial) (wn rfl) rfl (ex_pisnil Try.underlying36 rfl rfl rfl rfl) ?_
  refine wpListIn_nil ?_
  simp only [Act.put, List.setIfInBounds_toArray, List.set_cons_succ, List.set_cons_zero]
  refine then_normal (hK5 _ _ ?_)
  clear hK5 K5
  refine wpIn_cond_false rfl ?_
  refine wpIn_skip ?_
  refine then_normal (hK4 _ _ ?_)
  clear hK4 K4
  refine wpIn_seq_k (fun K6 hK6 => ?_)
  refine wpIn_seq_k (fun K7 hK7 => ?_)
  refine wpIn_region_lit ?_
  refine wpi_exG (v := .int .i64 z) (fun _ => trivial) (wn rfl) rfl (ex_move rfl rfl) ?_
  refine wpi_exG (v := .bool false) (fun _ => trivial) (wn rfl) rfl (ex_lss (k := .i64) (m := z) (n := 1) rfl rfl rfl (decide_eq_false (by omega))) ?_
  refine wpi_exG (v := .bool false) (fun _ => trivial) (wn rfl) rfl (ex_move rfl rfl) ?_
  simp only [Act.put, List.setIfInBounds_toArray, List.set_cons_succ, List.set_cons_zero]
  refine wpi_exG (v := .int .i64 z) (fun _ => trivial) (wanted_of (j := 2) (d := 24) (b := false) rfl rfl rfl) rfl (ex_move rfl rfl) ?_
  refine wpi_exG (v := .bool false) (fun _ => trivial) (wanted_of (j := 2) (d := 24) (b := false) rfl rfl rfl) rfl (ex_gtr (k := .i64) (m := z) (n := 65536) rfl rfl rfl (decide_eq_false (by omega))) ?_
  refine wpi_exG (v := .bool false) (fun _ => trivial) (wn rfl) rfl (ex_pick (b := false) rfl rfl rfl) ?_
  refine wpListIn_nil ?_
  simp only [Act.put, List.setIfInBounds_toArray, List.set_cons_succ, List.set_cons_zero]
  refine then_normal (hK7 _ _ ?_)
  clear hK7 K7
  refine wpIn_cond_false rfl ?_
  refine wpIn_skip ?_
  refine then_normal (hK6 _ _ ?_)
  clear hK6 K6
  refine wpIn_seq_k (fun K8 hK8 => ?_)
  refine wpIn_region_lit ?_
  refine wpi_exG (v := .pointer (some ⟨p, 0, none⟩)) (fun _ => trivial) (wn rfl) rfl (ex_move rfl rfl) ?_
  refine wpi_exG (v := .int .i64 0) (fun _ => trivial) (wn rfl) rfl (ex_move rfl rfl) ?_
  refine wpi_exG (v := .int .i64 z) (fun _ => trivial) (wn rfl) rfl (ex_move rfl rfl) ?_
  simp only [Act.put, List.setIfInBounds_toArray, List.set_cons_succ, List.set_cons_zero]
  refine wpi_exG (v := .int .i64 (2 * z)) (fun _ => trivial) (wn rfl) rfl (ex_mul (m := 2) (n := z) rfl rfl rfl (i64_in (by omega))) ?_
  replace hv := hv.front 1 rfl
  simp only [List.eraseIdx_cons_succ, List.eraseIdx_cons_zero] at hv
  refine wpi_callG sccallable26 (fun _ => trivial) wideC rfl (wn rfl) rfl (args := #[.pointer (some ⟨p, 0, none⟩), .int .i64 0, .int .i64 (2 * z)]) (by simp only [List.map_toArray, List.map_cons, List.map_nil]; rfl) ((diskReadBad _ _ _ p _ _ _ _ hv (by omega) hh).mono ?_)
  rintro e w9 ⟨rfl, hv⟩
  refine ⟨_, rfl, ?_⟩
  refine wpi_exG (v := .tuple #[.slice none 0 0, .int .i64 2]) (fun _ => trivial) (wn rfl) rfl (ex_move rfl rfl) ?_
  simp only [Act.put, List.setIfInBounds_toArray, List.set_cons_succ, List.set_cons_zero]
  refine wpi_exG (v := .slice none 0 0) (fun _ => trivial) (wn rfl) rfl (ex_extract rfl rfl rfl) ?_
  refine wpi_exG (v := .int .i64 2) (fun _ => trivial) (wn rfl) rfl (ex_extract rfl rfl rfl) ?_
  refine wpi_exG (v := .slice none 0 0) (fun _ => trivial) (wn rfl) rfl (ex_assign rfl rfl) ?_
  simp only [Act.put, List.setIfInBounds_toArray, List.set_cons_succ, List.set_cons_zero]
  refine wpi_exG (v := .int .i64 2) (fun _ => trivial) (wn rfl) rfl (ex_assign rfl rfl) ?_
  refine wpListIn_nil ?_
  simp only [Act.put, List.setIfInBounds_toArray, List.set_cons_succ, List.set_cons_zero]
  refine then_normal (hK8 _ _ ?_)
  clear hK8 K8
  refine wpIn_seq_k (fun K10 hK10 => ?_)
  refine wpIn_seq_k (fun K11 hK11 => ?_)
  refine wpIn_region_lit ?_
  refine wpi_exG (v := .int .i64 2) (fun _ => trivial) (wn rfl) rfl (ex_move rfl rfl) ?_
  refine wpi_exG (v := .bool true) (fun _ => trivial) (wn rfl) rfl (ex_neq (k := .i64) (m := 2) (n := 0) rfl rfl rfl (by decide)) ?_
  refine wpListIn_nil ?_
  simp only [Act.put, List.setIfInBounds_toArray, List.set_cons_succ, List.set_cons_zero]
  refine then_normal (hK11 _ _ ?_)
  clear hK11 K11
  refine wpIn_cond_true rfl ?_
  refine wpIn_seq_k (fun K12 hK12 => ?_)
  refine wpIn_region_lit ?_
  refine wpi_exG (v := .agg #[.int .i64 0, .slice none 0 0]) (fun _ => trivial) (wn rfl) rfl (ex_buildN (vs := #[]) rfl (by simp only [List.map_toArray, List.map_nil]) (by kernel_rfl)) ?_
  refine wpi_exG (v := .int .i64 2) (fun _ => trivial) (wn rfl) rfl (ex_move rfl rfl) ?_
  refine wpi_exG (v := .pointer none) (fun _ => trivial) (wn rfl) rfl (ex_assign rfl rfl) ?_
  simp only [Act.put, List.setIfInBounds_toArray, List.set_cons_succ, List.set_cons_zero]
  refine sl_storeNAt 1 (new := [.int .i64 0, .slice none 0 0]) (pre := []) (mid := [.int .i64 0, .slice none 0 0]) (post := []) (L' := [.int .i64 0, .slice none 0 0]) (fun _ => trivial) (wn rfl) rfl rfl rfl hv rfl scsz55 rfl rfl rfl (one_cons rfl (one_cons rfl one_nil)) rfl (fun w13 hv => ?_)
  simp only [List.set_cons_succ, List.set_cons_zero] at hv
  refine wpi_exG (v := .bool false) (fun _ => trivial) (wn rfl) rfl (ex_assign rfl rfl) ?_
  refine wpi_exG (v := .int .i64 2) (fun _ => trivial) (wn rfl) rfl (ex_assign rfl rfl) ?_
  refine wpListIn_nil ?_
  simp only [Act.put, List.setIfInBounds_toArray, List.set_cons_succ, List.set_cons_zero]
  refine then_normal (hK12 _ _ ?_)
  clear hK12 K12
  refine wpIn_ret ?_
  refine then_ret ?_
  clear hK10 K10
  refine bodyPost_ret (res_tcell4 rfl rfl (run_load_mid (pre := []) (mid := [.int .i64 0, .slice none 0 0]) (post := []) scwd55 (show Blk _ b2 ([] ++ [.int .i64 0, .slice none 0 0] ++ []) _ from hv.get 1 rfl) rfl)) rfl ?_
  exact ⟨rfl, (hv.sub (List.Sublist.cons_cons _ (List.Sublist.cons _ (List.Sublist.refl _))))⟩
theorem sccallable27 : Callable Try.prog 27 := ⟨_, Try.func27, by kernel_rfl, by kernel_rfl⟩
theorem sccallable21 : Callable Try.prog 21 := ⟨_, Try.func21, by kernel_rfl, by kernel_rfl⟩
theorem sccallable28 : Callable Try.prog 28 := ⟨_, Try.func28, by kernel_rfl, by kernel_rfl⟩
theorem sces24 (w : World) : (sizeOf (Try.prog.elem 24)).run Try.prog w = .ok 1 w := by kernel_rfl
theorem sccallable22 : Callable Try.prog 22 := ⟨_, Try.func22, by kernel_rfl, by kernel_rfl⟩
theorem sccallable29 : Callable Try.prog 29 := ⟨_, Try.func29, by kernel_rfl, by kernel_rfl⟩
theorem sccallable30 : Callable Try.prog 30 := ⟨_, Try.func30, by kernel_rfl, by kernel_rfl⟩
theorem sccallable31 : Callable Try.prog 31 := ⟨_, Try.func31, by kernel_rfl, by kernel_rfl⟩
theorem sccallable32 : Callable Try.prog 32 := ⟨_, Try.func32, by kernel_rfl, by kernel_rfl⟩
theorem sccallable33 : Callable Try.prog 33 := ⟨_, Try.func33, by kernel_rfl, by kernel_rfl⟩
theorem scfa64_3 (w : World) (b o : Nat) : (Instr.fieldAt 64 (.pointer (some ⟨b, o, none⟩)) 3).run Try.prog w = .ok (.pointer (some ⟨b, o + 3, none⟩)) w := by kernel_rfl
theorem scna3 (w : World) : (isAgg 3).run Try.prog w = .ok false w := by kernel_rfl
theorem sccallable34 : Callable Try.prog 34 := ⟨_, Try.func34, by kernel_rfl, by kernel_rfl⟩
theorem sccallable35 : Callable Try.prog 35 := ⟨_, Try.func35, by kernel_rfl, by kernel_rfl⟩
set_option maxRecDepth 100000 in
set_option maxHeartbeats 4000000 in
theorem slotsScanMain (B : Base) (H : List Res) (w : World) (a1 a2 : Option Addr) (c1 c2 : Nat) (la lb : List UInt8) (z : Int) (hz : -9223372036854775808 ≤ z ∧ z ≤ 9223372036854775807) (hok1 : SliceOk a1 la.length c1) (hok2 : SliceOk a2 lb.length c2) (hra : RdV B [] a1 (la.map B8)) (hrb : RdV B [] a2 (lb.map B8)) (hv : Inv B H w) :
    Calls Try.prog 9 #[.slice a1 la.length c1, .slice a2 lb.length c2, .int .i64 z] w fun e w' => e = .returned (.bool true) ∧ Inv B H w' := by
  obtain ⟨r, n, hr, hra0, hrb0, hrn, hn1, hn2⟩ := wrap16 z
  refine (callsIn_wide (n := 5)).1 ?_
  refine callsIn_of_wp Try.func9 rfl trivial ?_
  simp only [Try.ntmps9, List.size_toArray, List.length_cons, List.length_nil, Nat.reduceAdd, Nat.reduceSub, Array.replicate_succ, Array.replicate_zero, List.push_toArray, List.append_toArray, List.nil_append, List.cons_append]
  refine wpIn_seq_k (fun K1 hK1 => ?_)
  refine wpIn_region_lit ?_
  refine wpi_exG (v := .bool false) (fun _ => trivial) (wn rfl) rfl (ex_assign rfl rfl) ?_
  refine wpListIn_nil ?_
  simp only [Act.put, List.setIfInBounds_toArray, List.set_cons_succ, List.set_cons_zero]
  refine then_normal (hK1 _ _ ?_)
  clear hK1 K1
  refine wpIn_seq_k (fun K2 hK2 => ?_)
  refine wpIn_seq_k (fun K3 hK3 => ?_)
  refine wpIn_region_lit ?_
  refine wpi_callG sccallable27 (fun _ => trivial) wideC rfl (wn rfl) rfl (args := #[]) (by simp only [List.map_toArray, List.map_nil]) ((lawAwake08 _ _ _ hv).mono ?_)
  rintro e w4 ⟨rfl, hv⟩
  refine ⟨_, rfl, ?_⟩
  refine wpi_exG (v := .bool false) (fun _ => trivial) (wn rfl) rfl (ex_not rfl rfl rfl) ?_
  refine wpi_exG (v := .bool false) (fun _ => trivial) (wn rfl) rfl (ex_move rfl rfl) ?_
  simp only [Act.put, List.setIfInBounds_toArray, List.set_cons_succ, List.set_cons_zero]
  refine wpi_exG (v := .slice a1 la.length c1) (fun _ => trivial) (wanted_of (j := 2) (d := 27) (b := false) rfl rfl rfl) rfl (ex_move rfl rfl) ?_
  refine wpi_exG (v := .int .i64 (la.length : Int)) (fun _ => trivial) (wanted_of (j := 2) (d := 27) (b := false) rfl rfl rfl) rfl (ex_len0 Try.underlying24 rfl rfl) ?_
  by_cases hb5 : (la.length : Int) > 1000
  · refine wpi_exG (v := .bool true) (fun _ => trivial) (wanted_of (j := 2) (d := 27) (b := false) rfl rfl rfl) rfl (ex_gtr (k := .i64) (m := (la.length : Int)) (n := 1000) rfl rfl rfl (decide_eq_true hb5)) ?_
    simp only [Act.put, List.setIfInBounds_toArray, List.set_cons_succ, List.set_cons_zero]
    refine wpi_exG (v := .bool true) (fun _ => trivial) (wn rfl) rfl (ex_pick (b := false) rfl rfl rfl) ?_
    refine wpi_exG (v := .bool true) (fun _ => trivial) (wn rfl) rfl (ex_move rfl rfl) ?_
    refine wpi_not (fun _ => trivial) (wanted_not (j := 7) (d := 32) (b := false) (b' := true) rfl rfl rfl (by decide)) ?_
    simp only [Act.put, List.setIfInBounds_toArray, List.set_cons_succ, List.set_cons_zero]
    refine wpi_not (fun _ => trivial) (wanted_not (j := 7) (d := 32) (b := false) (b' := true) rfl rfl rfl (by decide)) ?_
    refine wpi_not (fun _ => trivial) (wanted_not (j := 7) (d := 32) (b := false) (b' := true) rfl rfl rfl (by decide)) ?_
    refine wpi_exG (v := .bool true) (fun _ => trivial) (wn rfl) rfl (ex_pick (b := true) rfl rfl rfl) ?_
    refine wpListIn_nil ?_
    simp only [Act.put, List.setIfInBounds_toArray, List.set_cons_succ, List.set_cons_zero]
    refine then_normal (hK3 _ _ ?_)
    clear hK3 K3
    refine wpIn_cond_true rfl ?_
    refine wpIn_seq_k (fun K6 hK6 => ?_)
    refine wpIn_region_lit ?_
    refine wpi_callG sccallable27 (fun _ => trivial) wideC rfl (wn rfl) rfl (args := #[]) (by simp only [List.map_toArray, List.map_nil]) ((lawAwake08 _ _ _ hv).mono ?_)
    rintro e w7 ⟨rfl, hv⟩
    refine ⟨_, rfl, ?_⟩
    refine wpi_exG (v := .bool true) (fun _ => trivial) (wn rfl) rfl (ex_assign rfl rfl) ?_
    refine wpListIn_nil ?_
    simp only [Act.put, List.setIfInBounds_toArray, List.set_cons_succ, List.set_cons_zero]
    refine then_normal (hK6 _ _ ?_)
    clear hK6 K6
    refine wpIn_ret ?_
    refine then_ret ?_
    clear hK2 K2
    refine bodyPost_ret (results_tmp rfl _ _ _) rfl ?_
    exact ⟨rfl, hv.tail 0⟩
  · refine wpi_exG (v := .bool false) (fun _ => trivial) (wanted_of (j := 2) (d := 27) (b := false) rfl rfl rfl) rfl (ex_gtr (k := .i64) (m := (la.length : Int)) (n := 1000) rfl rfl rfl (decide_eq_false hb5)) ?_
    simp only [Act.put, List.setIfInBounds_toArray, List.set_cons_succ, List.set_cons_zero]
    refine wpi_exG (v := .bool false) (fun _ => trivial) (wn rfl) rfl (ex_pick (b := false) rfl rfl rfl) ?_
    refine wpi_exG (v := .bool false) (fun _ => trivial) (wn rfl) rfl (ex_move rfl rfl) ?_
    refine wpi_exG (v := .slice a2 lb.length c2) (fun _ => trivial) (wanted_of (j := 7) (d := 32) (b := false) rfl rfl rfl) rfl (ex_move rfl rfl) ?_
    simp only [Act.put, List.setIfInBounds_toArray, List.set_cons_succ, List.set_cons_zero]
    refine wpi_exG (v := .int .i64 (lb.length : Int)) (fun _ => trivial) (wanted_of (j := 7) (d := 32) (b := false) rfl rfl rfl) rfl (ex_len0 Try.underlying24 rfl rfl) ?_
    by_cases hb8 : (lb.length : Int) > 1000
    · refine wpi_exG (v := .bool true) (fun _ => trivial) (wanted_of (j := 7) (d := 32) (b := false) rfl rfl rfl) rfl (ex_gtr (k := .i64) (m := (lb.length : Int)) (n := 1000) rfl rfl rfl (decide_eq_true hb8)) ?_
      refine wpi_exG (v := .bool true) (fun _ => trivial) (wn rfl) rfl (ex_pick (b := false) rfl rfl rfl) ?_
      refine wpListIn_nil ?_
      simp only [Act.put, List.setIfInBounds_toArray, List.set_cons_succ, List.set_cons_zero]
      refine then_normal (hK3 _ _ ?_)
      clear hK3 K3
      refine wpIn_cond_true rfl ?_
      refine wpIn_seq_k (fun K9 hK9 => ?_)
      refine wpIn_region_lit ?_
      refine wpi_callG sccallable27 (fun _ => trivial) wideC rfl (wn rfl) rfl (args := #[]) (by simp only [List.map_toArray, List.map_nil]) ((lawAwake08 _ _ _ hv).mono ?_)
      rintro e w10 ⟨rfl, hv⟩
      refine ⟨_, rfl, ?_⟩
      refine wpi_exG (v := .bool true) (fun _ => trivial) (wn rfl) rfl (ex_assign rfl rfl) ?_
      refine wpListIn_nil ?_
      simp only [Act.put, List.setIfInBounds_toArray, List.set_cons_succ, List.set_cons_zero]
      refine then_normal (hK9 _ _ ?_)
      clear hK9 K9
      refine wpIn_ret ?_
      refine then_ret ?_
      clear hK2 K2
      refine bodyPost_ret (results_tmp rfl _ _ _) rfl ?_
      exact ⟨rfl, hv.tail 0⟩
    · refine wpi_exG (v := .bool false) (fun _ => trivial) (wanted_of (j := 7) (d := 32) (b := false) rfl rfl rfl) rfl (ex_gtr (k := .i64) (m := (lb.length : Int)) (n := 1000) rfl rfl rfl (decide_eq_false hb8)) ?_
      refine wpi_exG (v := .bool false) (fun _ => trivial) (wn rfl) rfl (ex_pick (b := false) rfl rfl rfl) ?_
      refine wpListIn_nil ?_
      simp only [Act.put, List.setIfInBounds_toArray, List.set_cons_succ, List.set_cons_zero]
      refine then_normal (hK3 _ _ ?_)
      clear hK3 K3
      refine wpIn_cond_false rfl ?_
      refine wpIn_skip ?_
      refine then_normal (hK2 _ _ ?_)
      clear hK2 K2
      refine wpIn_seq_k (fun K11 hK11 => ?_)
      refine wpIn_region_lit ?_
      refine wpi_exG (v := .int .i64 z) (fun _ => trivial) (wn rfl) rfl (ex_move rfl rfl) ?_
      refine wpi_exG (v := .int .i64 r) (fun _ => trivial) (wn rfl) rfl (ex_rem (m := z) (n := 16) rfl rfl rfl (by decide) hr) ?_
      refine wpi_exG (v := .int .i64 (r + 16)) (fun _ => trivial) (wn rfl) rfl (ex_add (m := r) (n := 16) rfl rfl rfl (i64_in (by omega))) ?_
      simp only [Act.put, List.setIfInBounds_toArray, List.set_cons_succ, List.set_cons_zero]
      refine wpi_exG (v := .int .i64 ((n : Int) - 1)) (fun _ => trivial) (wn rfl) rfl (ex_rem (m := (r + 16)) (n := 16) rfl rfl rfl (by decide) hrn) ?_
      refine wpi_exG (v := .int .i64 (n : Int)) (fun _ => trivial) (wn rfl) rfl (ex_add (m := 1) (n := ((n : Int) - 1)) rfl rfl rfl (by rw [i64_in (by omega)]; omega)) ?_
      refine wpi_exG (v := .int .i64 (n : Int)) (fun _ => trivial) (wn rfl) rfl (ex_assign rfl rfl) ?_
      refine wpListIn_nil ?_
      simp only [Act.put, List.setIfInBounds_toArray, List.set_cons_succ, List.set_cons_zero]
      refine then_normal (hK11 _ _ ?_)
      clear hK11 K11
      refine wpIn_seq_k (fun K12 hK12 => ?_)
      refine wpIn_region_lit ?_
      refine wpi_exG (v := .int .i64 (n : Int)) (fun _ => trivial) (wn rfl) rfl (ex_move rfl rfl) ?_
      refine wpi_exG (v := .int .i64 ((2 * n : Nat) : Int)) (fun _ => trivial) (wn rfl) rfl (ex_mul (m := 2) (n := (n : Int)) rfl rfl rfl (by rw [i64_in (by omega)]; omega)) ?_
      refine wpi_callG sccallable21 (fun _ => trivial) wideC rfl (wn rfl) rfl (args := #[.int .i64 ((2 * n : Nat) : Int)]) (by simp only [List.map_toArray, List.map_cons, List.map_nil]; rfl) ((diskNewSl _ _ _ (2 * n) (by omega) (by omega) hv).mono ?_)
      rintro e w13 ⟨p, F0, rfl, hv⟩
      refine ⟨_, rfl, ?_⟩
      simp only [Act.put, List.setIfInBounds_toArray, List.set_cons_succ, List.set_cons_zero]
      refine wpi_exG (v := .tuple #[.pointer (some ⟨p, 0, none⟩), .int .i64 0]) (fun _ => trivial) (wn rfl) rfl (ex_move rfl rfl) ?_
      refine wpi_exG (v := .pointer (some ⟨p, 0, none⟩)) (fun _ => trivial) (wn rfl) rfl (ex_extract rfl rfl rfl) ?_
      refine wpi_exG (v := .int .i64 0) (fun _ => trivial) (wn rfl) rfl (ex_extract rfl rfl rfl) ?_
      simp only [Act.put, List.setIfInBounds_toArray, List.set_cons_succ, List.set_cons_zero]
      refine wpi_exG (v := .pointer (some ⟨p, 0, none⟩)) (fun _ => trivial) (wn rfl) rfl (ex_assign rfl rfl) ?_
      refine wpi_exG (v := .int .i64 0) (fun _ => trivial) (wn rfl) rfl (ex_assign rfl rfl) ?_
      refine wpListIn_nil ?_
      simp only [Act.put, List.setIfInBounds_toArray, List.set_cons_succ, List.set_cons_zero]
      refine then_normal (hK12 _ _ ?_)
      clear hK12 K12
      refine wpIn_seq_k (fun K14 hK14 => ?_)
      refine wpIn_region_lit ?_
      refine wpi_exG (v := .int .i64 (n : Int)) (fun _ => trivial) (wn rfl) rfl (ex_move rfl rfl) ?_
      refine wpi_exG (v := .int .i64 ((2 * n : Nat) : Int)) (fun _ => trivial) (wn rfl) rfl (ex_mul (m := 2) (n := (n : Int)) rfl rfl rfl (by rw [i64_in (by omega)]; omega)) ?_
      refine wpi_callG sccallable28 (fun _ => trivial) wideC rfl (wn rfl) rfl (args := #[.int .i64 ((2 * n : Nat) : Int)]) (by simp only [List.map_toArray, List.map_cons, List.map_nil]; rfl) ((refNew _ _ _ (2 * n) (by omega) hv).mono ?_)
      rintro e w15 ⟨rp, sa, sc, rfl, hv⟩
      refine ⟨_, rfl, ?_⟩
      simp only [Act.put, List.setIfInBounds_toArray, List.set_cons_succ, List.set_cons_zero]
      refine wpi_exG (v := .pointer (some ⟨rp, 0, none⟩)) (fun _ => trivial) (wn rfl) rfl (ex_assign rfl rfl) ?_
      refine wpListIn_nil ?_
      simp only [Act.put, List.setIfInBounds_toArray, List.set_cons_succ, List.set_cons_zero]
      refine then_normal (hK14 _ _ ?_)
      clear hK14 K14
      refine wpIn_seq_k (fun K16 hK16 => ?_)
      refine wpIn_seq_k (fun K17 hK17 => ?_)
      refine wpIn_region_lit ?_
      refine wpi_exG (v := .pointer (some ⟨p, 0, none⟩)) (fun _ => trivial) (wn rfl) rfl (ex_move rfl rfl) ?_
      refine wpi_exG (v := .bool false) (fun _ => trivial) (wn rfl) rfl (ex_pisnil Try.underlying36 rfl rfl rfl rfl) ?_
      refine wpListIn_nil ?_
      simp only [Act.put, List.setIfInBounds_toArray, List.set_cons_succ, List.set_cons_zero]
      refine then_normal (hK17 _ _ ?_)
      clear hK17 K17
      refine wpIn_cond_false rfl ?_
      refine wpIn_skip ?_
      refine then_normal (hK16 _ _ ?_)
      clear hK16 K16
      refine wpIn_seq_k (fun K18 hK18 => ?_)
      refine wpIn_seq_k (fun K19 hK19 => ?_)
      refine wpIn_region_lit ?_
      refine wpi_exG (v := .int .i64 0) (fun _ => trivial) (wn rfl) rfl (ex_assign rfl rfl) ?_
      refine wpListIn_nil ?_
      simp only [Act.put, List.setIfInBounds_toArray, List.set_cons_succ, List.set_cons_zero]
      refine then_normal (hK19 _ _ ?_)
      clear hK19 K19
      refine wpIn_block ?_
      have hv0 := (((hv.front 1 rfl).front 1 rfl).front 2 rfl)
      have hv1 := (hv0.rowNil 9 1).rowNil 3 1
      have hv2 := (((((hv1.front 1 rfl).front 1 rfl).front 4 rfl).front 4 rfl).front 4 rfl)
      gi_loopw [11] (fun x11 wr => ∃ (i : Nat) (D : Disk) (F : List Nat) (aa : Option Addr) (ac : Nat) (wa : Option Addr) (wc : Nat), x11 = .int .i64 (i : Int) ∧ i ≤ 2 ∧ D.left = -1 ∧ D.dur.length = 2 * n ∧ D.pend.length ≤ 16 * i ∧ Inv B (diskR p D F :: Res.cell rp (refC D sa sc aa ac wa wc) 99 :: Res.row 9 1 (.slice sa D.dur.length sc) D.dur.length (D.dur.map strV) :: Res.row 3 1 (.slice aa D.pend.length ac) D.pend.length (D.pend.map atV) :: Res.row 9 1 (.slice wa D.pend.length wc) D.pend.length (D.pend.map whV) :: H) wr) (fun x11 _ => 2 - (intOf x11).toNat)
      case atStart => exact ⟨0, Disk.zero (2 * n), F0, none, 0, none, 0, rfl, by omega, rfl, lz_len _, Nat.le_refl _, by rw [refc_zero, lz_len, dur_zero]; exact hv2⟩
      case round =>
        obtain ⟨i, D, F, aa, ac, wa, wc, rfl, hi, hleft, hlen, hpl, hv⟩ := hrel
        refine wpIn_seq_k (fun K21 hK21 => ?_)
        refine wpIn_seq_k (fun K22 hK22 => ?_)
        refine wpIn_region_lit ?_
        refine wpi_exG (v := .int .i64 (i : Int)) (fun _ => trivial) (wn rfl) rfl (ex_move rfl rfl) ?_
        by_cases hb23 : (i : Int) < 2
        · refine wpi_exG (v := .bool true) (fun _ => trivial) (wn rfl) rfl (ex_lss (k := .i64) (m := (i : Int)) (n := 2) rfl rfl rfl (decide_eq_true hb23)) ?_
          refine wpListIn_nil ?_
          simp only [Act.put, List.setIfInBounds_toArray, List.set_cons_succ, List.set_cons_zero]
          refine then_normal (hK22 _ _ ?_)
          clear hK22 K22
          refine wpIn_cond_true rfl ?_
          refine wpIn_skip ?_
          refine then_normal (hK21 _ _ ?_)
          clear hK21 K21
          refine wpIn_seq_k (fun K24 hK24 => ?_)
          refine wpIn_block ?_
          refine wpIn_seq_k (fun K25 hK25 => ?_)
          refine wpIn_region_lit ?_
          refine wpi_exG (v := .slice a1 la.length c1) (fun _ => trivial) (wn rfl) rfl (ex_move rfl rfl) ?_
          refine wpi_exG (v := .slice a1 la.length c1) (fun _ => trivial) (wn rfl) rfl (ex_assign rfl rfl) ?_
          refine wpListIn_nil ?_
          simp only [Act.put, List.setIfInBounds_toArray, List.set_cons_succ, List.set_cons_zero]
          refine then_normal (hK25 _ _ ?_)
          clear hK25 K25
          refine wpIn_seq_k (fun K26 hK26 => ?_)
          refine wpIn_seq_k (fun K27 hK27 => ?_)
          refine wpIn_region_lit ?_
          refine wpi_exG (v := .int .i64 (i : Int)) (fun _ => trivial) (wn rfl) rfl (ex_move rfl rfl) ?_
          by_cases hb28 : (i : Int) = 1
          · refine wpi_exG (v := .bool true) (fun _ => trivial) (wn rfl) rfl (ex_eql (k := .i64) (m := (i : Int)) (n := 1) rfl rfl rfl (decide_eq_true hb28)) ?_
            refine wpListIn_nil ?_
            simp only [Act.put, List.setIfInBounds_toArray, List.set_cons_succ, List.set_cons_zero]
            refine then_normal (hK27 _ _ ?_)
            clear hK27 K27
            refine wpIn_cond_true rfl ?_
            refine wpIn_region_lit ?_
            refine wpi_exG (v := .slice a2 lb.length c2) (fun _ => trivial) (wn rfl) rfl (ex_move rfl rfl) ?_
            refine wpi_exG (v := .slice a2 lb.length c2) (fun _ => trivial) (wn rfl) rfl (ex_assign rfl rfl) ?_
            refine wpListIn_nil ?_
            simp only [Act.put, List.setIfInBounds_toArray, List.set_cons_succ, List.set_cons_zero]
            refine then_normal (hK26 _ _ ?_)
            clear hK26 K26
            refine wpIn_seq_k (fun K29 hK29 => ?_)
            refine wpIn_region_lit ?_
            refine wpi_exG (v := .slice a2 lb.length c2) (fun _ => trivial) (wn rfl) rfl (ex_move rfl rfl) ?_
            refine wpi_exG (v := .slice a2 lb.length c2) (fun _ => trivial) (wn rfl) rfl (ex_move rfl rfl) ?_
            refine wpi_exG (v := .int .i64 (lb.length : Int)) (fun _ => trivial) (wn rfl) rfl (ex_len0 Try.underlying24 rfl rfl) ?_
            simp only [Act.put, List.setIfInBounds_toArray, List.set_cons_succ, List.set_cons_zero]
            refine wpi_exG (v := .int .i64 (n : Int)) (fun _ => trivial) (wn rfl) rfl (ex_move rfl rfl) ?_
            refine wpi_exG (v := .int .i64 ((64 * n : Nat) : Int)) (fun _ => trivial) (wn rfl) rfl (ex_mul (m := 64) (n := (n : Int)) rfl rfl rfl (by rw [i64_in (by omega)]; omega)) ?_
            refine wpi_exG (v := .int .i64 ((min lb.length (64 * n) : Nat) : Int)) (fun _ => trivial) (wn rfl) rfl (ex_min2 (m := (lb.length : Int)) (n := ((64 * n : Nat) : Int)) rfl rfl rfl (by split <;> omega)) ?_
            simp only [Act.put, List.setIfInBounds_toArray, List.set_cons_succ, List.set_cons_zero]
            refine wpi_exG (v := .slice a2 (min lb.length (64 * n)) c2) (fun _ => trivial) (wn rfl) rfl (ex_slice (lo' := none) (hi' := some (.int .i64 ((min lb.length (64 * n) : Nat) : Int))) rfl rfl rfl rfl rfl (run_to1 Try.underlying24 sces24 (by have := hok2.le; omega) _)) ?_
            refine wpi_exG (v := .slice a2 (min lb.length (64 * n)) c2) (fun _ => trivial) (wn rfl) rfl (ex_assign rfl rfl) ?_
            refine wpListIn_nil ?_
            simp only [Act.put, List.setIfInBounds_toArray, List.set_cons_succ, List.set_cons_zero]
            refine then_normal (hK29 _ _ ?_)
            clear hK29 K29
            refine wpIn_seq_k (fun K30 hK30 => ?_)
            have hX : i * n ≤ n := by
              rcases (show i = 0 ∨ i = 1 by omega) with h | h <;> rw [h] <;> omega
            obtain ⟨l, hlx, hl64, hokl, hrl⟩ := cut_arg (n := n) hok2 hrb
            rw [← hlx]
            have hns := nsec_le hl64
            refine wpIn_region_lit ?_
            refine wpi_exG (v := .pointer (some ⟨p, 0, none⟩)) (fun _ => trivial) (wn rfl) rfl (ex_move rfl rfl) ?_
            refine wpi_exG (v := .int .i64 (i : Int)) (fun _ => trivial) (wn rfl) rfl (ex_move rfl rfl) ?_
            refine wpi_exG (v := .int .i64 (n : Int)) (fun _ => trivial) (wn rfl) rfl (ex_move rfl rfl) ?_
            simp only [Act.put, List.setIfInBounds_toArray, List.set_cons_succ, List.set_cons_zero]
            refine wpi_exG (v := .int .i64 ((i * n : Nat) : Int)) (fun _ => trivial) (wn rfl) rfl (ex_mul (m := (i : Int)) (n := (n : Int)) rfl rfl rfl (by rw [← Int.natCast_mul, i64_in (by omega)])) ?_
            refine wpi_exG (v := .slice a2 l.length c2) (fun _ => trivial) (wn rfl) rfl (ex_move rfl rfl) ?_
            by_cases hl31 : l.length = 0
            · refine wpi_callG sccallable22 (fun _ => trivial) wideC rfl (wn rfl) rfl (args := #[.pointer (some ⟨p, 0, none⟩), .int .i64 ((i * n : Nat) : Int), .slice a2 l.length c2]) (by simp only [List.map_toArray, List.map_cons, List.map_nil]; rfl) ((diskWriteBadSl _ _ _ p _ _ ((i * n : Nat) : Int) _ l.length _ l hv (by omega) rfl (by omega) (has_no hl31)).mono ?_)
              rintro e w32 ⟨rfl, hv⟩
              refine ⟨_, rfl, ?_⟩
              refine wpListIn_nil ?_
              simp only [Act.put, List.setIfInBounds_toArray, List.set_cons_succ, List.set_cons_zero]
              refine then_normal (hK30 _ _ ?_)
              clear hK30 K30
              refine wpIn_region_lit ?_
              refine wpi_exG (v := .pointer (some ⟨rp, 0, none⟩)) (fun _ => trivial) (wn rfl) rfl (ex_move rfl rfl) ?_
              refine wpi_exG (v := .int .i64 (i : Int)) (fun _ => trivial) (wn rfl) rfl (ex_move rfl rfl) ?_
              refine wpi_exG (v := .int .i64 (n : Int)) (fun _ => trivial) (wn rfl) rfl (ex_move rfl rfl) ?_
              simp only [Act.put, List.setIfInBounds_toArray, List.set_cons_succ, List.set_cons_zero]
              refine wpi_exG (v := .int .i64 ((i * n : Nat) : Int)) (fun _ => trivial) (wn rfl) rfl (ex_mul (m := (i : Int)) (n := (n : Int)) rfl rfl rfl (by rw [← Int.natCast_mul, i64_in (by omega)])) ?_
              refine wpi_exG (v := .slice a2 l.length c2) (fun _ => trivial) (wn rfl) rfl (ex_move rfl rfl) ?_
              replace hv := ((((hv.front 4 rfl).front 4 rfl).front 4 rfl).front 4 rfl)
              refine wpi_callG sccallable29 (fun _ => trivial) wideC rfl (wn rfl) rfl (args := #[.pointer (some ⟨rp, 0, none⟩), .int .i64 ((i * n : Nat) : Int), .slice a2 l.length c2]) (by simp only [List.map_toArray, List.map_cons, List.map_nil]; rfl) ((refWrite0 _ _ _ rp D sa sc aa ac wa wc (i * n) _ _ l (by omega) hokl hrl (by omega) (by omega) (by omega) hl31 hv).mono ?_)
              rintro e w33 ⟨rfl, hv⟩
              refine ⟨_, rfl, ?_⟩
              refine wpListIn_nil ?_
              simp only [Act.put, List.setIfInBounds_toArray, List.set_cons_succ, List.set_cons_zero]
              refine blk_normal ?_
              refine then_normal (hK24 _ _ ?_)
              clear hK24 K24
              refine wpIn_region_lit ?_
              refine wpi_exG (v := .int .i64 (i : Int)) (fun _ => trivial) (wn rfl) rfl (ex_move rfl rfl) ?_
              refine wpi_exG (v := .int .i64 ((i : Int) + 1)) (fun _ => trivial) (wn rfl) rfl (ex_add (m := (i : Int)) (n := 1) rfl rfl rfl (i64_in (by omega))) ?_
              refine wpi_exG (v := .int .i64 ((i : Int) + 1)) (fun _ => trivial) (wn rfl) rfl (ex_assign rfl rfl) ?_
              refine wpListIn_nil ?_
              simp only [Act.put, List.setIfInBounds_toArray, List.set_cons_succ, List.set_cons_zero]
              refine then_normal ?_
              go_roundw
              case rel => exact ⟨i + 1, D, _, _, _, _, _, by simp, by omega, hleft, hlen, by omega, (((((hv.front 3 rfl).front 3 rfl).front 3 rfl).front 3 rfl).front 4 rfl)⟩
              case measure => show 2 - ((i : Int) + 1).toNat < 2 - (i : Int).toNat; omega
            · have hnp := nsec_pos hl31
              refine wpi_callG sccallable22 (fun _ => trivial) wideC rfl (wn rfl) rfl (args := #[.pointer (some ⟨p, 0, none⟩), .int .i64 ((i * n : Nat) : Int), .slice a2 l.length c2]) (by simp only [List.map_toArray, List.map_cons, List.map_nil]; rfl) ((diskWriteSl _ _ _ p _ _ (i * n) _ l.length _ l hv rfl hokl hrl.any' (has_of hnp (by omega)) (by rw [hleft]; decide) (by omega)).mono ?_)
              rintro e w34 ⟨F2, rfl, hv⟩
              refine ⟨_, rfl, ?_⟩
              refine wpListIn_nil ?_
              simp only [Act.put, List.setIfInBounds_toArray, List.set_cons_succ, List.set_cons_zero]
              refine then_normal (hK30 _ _ ?_)
              clear hK30 K30
              refine wpIn_region_lit ?_
              refine wpi_exG (v := .pointer (some ⟨rp, 0, none⟩)) (fun _ => trivial) (wn rfl) rfl (ex_move rfl rfl) ?_
              refine wpi_exG (v := .int .i64 (i : Int)) (fun _ => trivial) (wn rfl) rfl (ex_move rfl rfl) ?_
              refine wpi_exG (v := .int .i64 (n : Int)) (fun _ => trivial) (wn rfl) rfl (ex_move rfl rfl) ?_
              simp only [Act.put, List.setIfInBounds_toArray, List.set_cons_succ, List.set_cons_zero]
              refine wpi_exG (v := .int .i64 ((i * n : Nat) : Int)) (fun _ => trivial) (wn rfl) rfl (ex_mul (m := (i : Int)) (n := (n : Int)) rfl rfl rfl (by rw [← Int.natCast_mul, i64_in (by omega)])) ?_
              refine wpi_exG (v := .slice a2 l.length c2) (fun _ => trivial) (wn rfl) rfl (ex_move rfl rfl) ?_
              replace hv := ((((hv.front 4 rfl).front 4 rfl).front 4 rfl).front 4 rfl)
              refine wpi_callG sccallable29 (fun _ => trivial) wideC rfl (wn rfl) rfl (args := #[.pointer (some ⟨rp, 0, none⟩), .int .i64 ((i * n : Nat) : Int), .slice a2 l.length c2]) (by simp only [List.map_toArray, List.map_cons, List.map_nil]; rfl) ((refWrite _ _ _ rp D sa sc aa ac wa wc (i * n) _ _ l (by omega) hokl hrl (by omega) (by omega) (by omega) (by omega) (by omega) hv).mono ?_)
              rintro e w35 ⟨aa2, ac2, wa2, wc2, rfl, hv⟩
              refine ⟨_, rfl, ?_⟩
              refine wpListIn_nil ?_
              simp only [Act.put, List.setIfInBounds_toArray, List.set_cons_succ, List.set_cons_zero]
              refine blk_normal ?_
              refine then_normal (hK24 _ _ ?_)
              clear hK24 K24
              refine wpIn_region_lit ?_
              refine wpi_exG (v := .int .i64 (i : Int)) (fun _ => trivial) (wn rfl) rfl (ex_move rfl rfl) ?_
              refine wpi_exG (v := .int .i64 ((i : Int) + 1)) (fun _ => trivial) (wn rfl) rfl (ex_add (m := (i : Int)) (n := 1) rfl rfl rfl (i64_in (by omega))) ?_
              refine wpi_exG (v := .int .i64 ((i : Int) + 1)) (fun _ => trivial) (wn rfl) rfl (ex_assign rfl rfl) ?_
              refine wpListIn_nil ?_
              simp only [Act.put, List.setIfInBounds_toArray, List.set_cons_succ, List.set_cons_zero]
              refine then_normal ?_
              go_roundw
              case rel => exact ⟨i + 1, D.write (i * n) l, _, _, _, _, _, by simp, by omega, write_free hleft _ _, hlen, by rw [write_pend]; omega, (((((hv.front 3 rfl).front 3 rfl).front 3 rfl).front 3 rfl).front 4 rfl)⟩
              case measure => show 2 - ((i : Int) + 1).toNat < 2 - (i : Int).toNat; omega
          · refine wpi_exG (v := .bool false) (fun _ => trivial) (wn rfl) rfl (ex_eql (k := .i64) (m := (i : Int)) (n := 1) rfl rfl rfl (decide_eq_false hb28)) ?_
            refine wpListIn_nil ?_
            simp only [Act.put, List.setIfInBounds_toArray, List.set_cons_succ, List.set_cons_zero]
            refine then_normal (hK27 _ _ ?_)
            clear hK27 K27
            refine wpIn_cond_false rfl ?_
            refine wpIn_skip ?_
            refine then_normal (hK26 _ _ ?_)
            clear hK26 K26
            refine wpIn_seq_k (fun K36 hK36 => ?_)
            refine wpIn_region_lit ?_
            refine wpi_exG (v := .slice a1 la.length c1) (fun _ => trivial) (wn rfl) rfl (ex_move rfl rfl) ?_
            refine wpi_exG (v := .slice a1 la.length c1) (fun _ => trivial) (wn rfl) rfl (ex_move rfl rfl) ?_
            refine wpi_exG (v := .int .i64 (la.length : Int)) (fun _ => trivial) (wn rfl) rfl (ex_len0 Try.underlying24 rfl rfl) ?_
            simp only [Act.put, List.setIfInBounds_toArray, List.set_cons_succ, List.set_cons_zero]
            refine wpi_exG (v := .int .i64 (n : Int)) (fun _ => trivial) (wn rfl) rfl (ex_move rfl rfl) ?_
            refine wpi_exG (v := .int .i64 ((64 * n : Nat) : Int)) (fun _ => trivial) (wn rfl) rfl (ex_mul (m := 64) (n := (n : Int)) rfl rfl rfl (by rw [i64_in (by omega)]; omega)) ?_
            refine wpi_exG (v := .int .i64 ((min la.length (64 * n) : Nat) : Int)) (fun _ => trivial) (wn rfl) rfl (ex_min2 (m := (la.length : Int)) (n := ((64 * n : Nat) : Int)) rfl rfl rfl (by split <;> omega)) ?_
            simp only [Act.put, List.setIfInBounds_toArray, List.set_cons_succ, List.set_cons_zero]
            refine wpi_exG (v := .slice a1 (min la.length (64 * n)) c1) (fun _ => trivial) (wn rfl) rfl (ex_slice (lo' := none) (hi' := some (.int .i64 ((min la.length (64 * n) : Nat) : Int))) rfl rfl rfl rfl rfl (run_to1 Try.underlying24 sces24 (by have := hok1.le; omega) _)) ?_
            refine wpi_exG (v := .slice a1 (min la.length (64 * n)) c1) (fun _ => trivial) (wn rfl) rfl (ex_assign rfl rfl) ?_
            refine wpListIn_nil ?_
            simp only [Act.put, List.setIfInBounds_toArray, List.set_cons_succ, List.set_cons_zero]
            refine then_normal (hK36 _ _ ?_)
            clear hK36 K36
            refine wpIn_seq_k (fun K37 hK37 => ?_)
            have hX : i * n ≤ n := by
              rcases (show i = 0 ∨ i = 1 by omega) with h | h <;> rw [h] <;> omega
            obtain ⟨l, hlx, hl64, hokl, hrl⟩ := cut_arg (n := n) hok1 hra
            rw [← hlx]
            have hns := nsec_le hl64
            refine wpIn_region_lit ?_
            refine wpi_exG (v := .pointer (some ⟨p, 0, none⟩)) (fun _ => trivial) (wn rfl) rfl (ex_move rfl rfl) ?_
            refine wpi_exG (v := .int .i64 (i : Int)) (fun _ => trivial) (wn rfl) rfl (ex_move rfl rfl) ?_
            refine wpi_exG (v := .int .i64 (n : Int)) (fun _ => trivial) (wn rfl) rfl (ex_move rfl rfl) ?_
            simp only [Act.put, List.setIfInBounds_toArray, List.set_cons_succ, List.set_cons_zero]
            refine wpi_exG (v := .int .i64 ((i * n : Nat) : Int)) (fun _ => trivial) (wn rfl) rfl (ex_mul (m := (i : Int)) (n := (n : Int)) rfl rfl rfl (by rw [← Int.natCast_mul, i64_in (by omega)])) ?_
            refine wpi_exG (v := .slice a1 l.length c1) (fun _ => trivial) (wn rfl) rfl (ex_move rfl rfl) ?_
            by_cases hl38 : l.length = 0
            · refine wpi_callG sccallable22 (fun _ => trivial) wideC rfl (wn rfl) rfl (args := #[.pointer (some ⟨p, 0, none⟩), .int .i64 ((i * n : Nat) : Int), .slice a1 l.length c1]) (by simp only [List.map_toArray, List.map_cons, List.map_nil]; rfl) ((diskWriteBadSl _ _ _ p _ _ ((i * n : Nat) : Int) _ l.length _ l hv (by omega) rfl (by omega) (has_no hl38)).mono ?_)
              rintro e w39 ⟨rfl, hv⟩
              refine ⟨_, rfl, ?_⟩
              refine wpListIn_nil ?_
              simp only [Act.put, List.setIfInBounds_toArray, List.set_cons_succ, List.set_cons_zero]
              refine then_normal (hK37 _ _ ?_)
              clear hK37 K37
              refine wpIn_region_lit ?_
              refine wpi_exG (v := .pointer (some ⟨rp, 0, none⟩)) (fun _ => trivial) (wn rfl) rfl (ex_move rfl rfl) ?_
              refine wpi_exG (v := .int .i64 (i : Int)) (fun _ => trivial) (wn rfl) rfl (ex_move rfl rfl) ?_
              refine wpi_exG (v := .int .i64 (n : Int)) (fun _ => trivial) (wn rfl) rfl (ex_move rfl rfl) ?_
              simp only [Act.put, List.setIfInBounds_toArray, List.set_cons_succ, List.set_cons_zero]
              refine wpi_exG (v := .int .i64 ((i * n : Nat) : Int)) (fun _ => trivial) (wn rfl) rfl (ex_mul (m := (i : Int)) (n := (n : Int)) rfl rfl rfl (by rw [← Int.natCast_mul, i64_in (by omega)])) ?_
              refine wpi_exG (v := .slice a1 l.length c1) (fun _ => trivial) (wn rfl) rfl (ex_move rfl rfl) ?_
              replace hv := ((((hv.front 4 rfl).front 4 rfl).front 4 rfl).front 4 rfl)
              refine wpi_callG sccallable29 (fun _ => trivial) wideC rfl (wn rfl) rfl (args := #[.pointer (some ⟨rp, 0, none⟩), .int .i64 ((i * n : Nat) : Int), .slice a1 l.length c1]) (by simp only [List.map_toArray, List.map_cons, List.map_nil]; rfl) ((refWrite0 _ _ _ rp D sa sc aa ac wa wc (i * n) _ _ l (by omega) hokl hrl (by omega) (by omega) (by omega) hl38 hv).mono ?_)
              rintro e w40 ⟨rfl, hv⟩
              refine ⟨_, rfl, ?_⟩
              refine wpListIn_nil ?_
              simp only [Act.put, List.setIfInBounds_toArray, List.set_cons_succ, List.set_cons_zero]
              refine blk_normal ?_
              refine then_normal (hK24 _ _ ?_)
              clear hK24 K24
              refine wpIn_region_lit ?_
              refine wpi_exG (v := .int .i64 (i : Int)) (fun _ => trivial) (wn rfl) rfl (ex_move rfl rfl) ?_
              refine wpi_exG (v := .int .i64 ((i : Int) + 1)) (fun _ => trivial) (wn rfl) rfl (ex_add (m := (i : Int)) (n := 1) rfl rfl rfl (i64_in (by omega))) ?_
              refine wpi_exG (v := .int .i64 ((i : Int) + 1)) (fun _ => trivial) (wn rfl) rfl (ex_assign rfl rfl) ?_
              refine wpListIn_nil ?_
              simp only [Act.put, List.setIfInBounds_toArray, List.set_cons_succ, List.set_cons_zero]
              refine then_normal ?_
              go_roundw
              case rel => exact ⟨i + 1, D, _, _, _, _, _, by simp, by omega, hleft, hlen, by omega, (((((hv.front 3 rfl).front 3 rfl).front 3 rfl).front 3 rfl).front 4 rfl)⟩
              case measure => show 2 - ((i : Int) + 1).toNat < 2 - (i : Int).toNat; omega
            · have hnp := nsec_pos hl38
              refine wpi_callG sccallable22 (fun _ => trivial) wideC rfl (wn rfl) rfl (args := #[.pointer (some ⟨p, 0, none⟩), .int .i64 ((i * n : Nat) : Int), .slice a1 l.length c1]) (by simp only [List.map_toArray, List.map_cons, List.map_nil]; rfl) ((diskWriteSl _ _ _ p _ _ (i * n) _ l.length _ l hv rfl hokl hrl.any' (has_of hnp (by omega)) (by rw [hleft]; decide) (by omega)).mono ?_)
              rintro e w41 ⟨F2, rfl, hv⟩
              refine ⟨_, rfl, ?_⟩
              refine wpListIn_nil ?_
              simp only [Act.put, List.setIfInBounds_toArray, List.set_cons_succ, List.set_cons_zero]
              refine then_normal (hK37 _ _ ?_)
              clear hK37 K37
              refine wpIn_region_lit ?_
              refine wpi_exG (v := .pointer (some ⟨rp, 0, none⟩)) (fun _ => trivial) (wn rfl) rfl (ex_move rfl rfl) ?_
              refine wpi_exG (v := .int .i64 (i : Int)) (fun _ => trivial) (wn rfl) rfl (ex_move rfl rfl) ?_
              refine wpi_exG (v := .int .i64 (n : Int)) (fun _ => trivial) (wn rfl) rfl (ex_move rfl rfl) ?_
              simp only [Act.put, List.setIfInBounds_toArray, List.set_cons_succ, List.set_cons_zero]
              refine wpi_exG (v := .int .i64 ((i * n : Nat) : Int)) (fun _ => trivial) (wn rfl) rfl (ex_mul (m := (i : Int)) (n := (n : Int)) rfl rfl rfl (by rw [← Int.natCast_mul, i64_in (by omega)])) ?_
              refine wpi_exG (v := .slice a1 l.length c1) (fun _ => trivial) (wn rfl) rfl (ex_move rfl rfl) ?_
              replace hv := ((((hv.front 4 rfl).front 4 rfl).front 4 rfl).front 4 rfl)
              refine wpi_callG sccallable29 (fun _ => trivial) wideC rfl (wn rfl) rfl (args := #[.pointer (some ⟨rp, 0, none⟩), .int .i64 ((i * n : Nat) : Int), .slice a1 l.length c1]) (by simp only [List.map_toArray, List.map_cons, List.map_nil]; rfl) ((refWrite _ _ _ rp D sa sc aa ac wa wc (i * n) _ _ l (by omega) hokl hrl (by omega) (by omega) (by omega) (by omega) (by omega) hv).mono ?_)
              rintro e w42 ⟨aa2, ac2, wa2, wc2, rfl, hv⟩
              refine ⟨_, rfl, ?_⟩
              refine wpListIn_nil ?_
              simp only [Act.put, List.setIfInBounds_toArray, List.set_cons_succ, List.set_cons_zero]
              refine blk_normal ?_
              refine then_normal (hK24 _ _ ?_)
              clear hK24 K24
              refine wpIn_region_lit ?_
              refine wpi_exG (v := .int .i64 (i : Int)) (fun _ => trivial) (wn rfl) rfl (ex_move rfl rfl) ?_
              refine wpi_exG (v := .int .i64 ((i : Int) + 1)) (fun _ => trivial) (wn rfl) rfl (ex_add (m := (i : Int)) (n := 1) rfl rfl rfl (i64_in (by omega))) ?_
              refine wpi_exG (v := .int .i64 ((i : Int) + 1)) (fun _ => trivial) (wn rfl) rfl (ex_assign rfl rfl) ?_
              refine wpListIn_nil ?_
              simp only [Act.put, List.setIfInBounds_toArray, List.set_cons_succ, List.set_cons_zero]
              refine then_normal ?_
              go_roundw
              case rel => exact ⟨i + 1, D.write (i * n) l, _, _, _, _, _, by simp, by omega, write_free hleft _ _, hlen, by rw [write_pend]; omega, (((((hv.front 3 rfl).front 3 rfl).front 3 rfl).front 3 rfl).front 4 rfl)⟩
              case measure => show 2 - ((i : Int) + 1).toNat < 2 - (i : Int).toNat; omega
        · refine wpi_exG (v := .bool false) (fun _ => trivial) (wn rfl) rfl (ex_lss (k := .i64) (m := (i : Int)) (n := 2) rfl rfl rfl (decide_eq_false hb23)) ?_
          refine wpListIn_nil ?_
          simp only [Act.put, List.setIfInBounds_toArray, List.set_cons_succ, List.set_cons_zero]
          refine then_normal (hK22 _ _ ?_)
          clear hK22 K22
          refine wpIn_cond_false rfl ?_
          refine wpIn_exit ?_
          refine then_exit ?_
          clear hK21 K21
          refine then_exit ?_
          refine blk_hit ?_
          refine then_normal (hK18 _ _ ?_)
          clear hK18 K18
          refine wpIn_seq_k (fun K43 hK43 => ?_)
          refine wpIn_region_lit ?_
          refine wpi_exG (v := .pointer (some ⟨p, 0, none⟩)) (fun _ => trivial) (wn rfl) rfl (ex_move rfl rfl) ?_
          refine wpi_exG (v := .int .i64 (n : Int)) (fun _ => trivial) (wn rfl) rfl (ex_move rfl rfl) ?_
          have hokD : D.Ok := (hv.get 0 rfl : DiskAt _ _ D _).1
          refine wpi_callG sccallable30 (fun _ => trivial) wideC rfl (wn rfl) rfl (args := #[.pointer (some ⟨p, 0, none⟩), .int .i64 0, .int .i64 (n : Int)]) (by simp only [List.map_toArray, List.map_cons, List.map_nil]; rfl) ((slotsOpen _ _ _ p 0 n D D _ (tick_free hleft) (by omega) (has_of (by omega) (by omega)) (by rw [hleft]; decide) hn1 (by omega) (by omega) (by omega) hv).mono ?_)
          rintro e w44 ⟨q, cur, ad, c, F3, hcur, rfl, hv⟩
          refine ⟨_, rfl, ?_⟩
          unfold slCells at hv
          replace hv := hv.front 1 rfl
          simp only [List.eraseIdx_cons_succ, List.eraseIdx_cons_zero] at hv
          obtain ⟨C45, hB46, hv7, hrx, -⟩ := Inv.rowStays hv
          clear hv
          have hv := hv7
          clear hv7
          replace hv := hv.front 3 rfl
          simp only [List.eraseIdx_cons_succ, List.eraseIdx_cons_zero] at hv
          obtain ⟨C47, hB48, hv7, hsa, -⟩ := Inv.rowStays hv
          clear hv
          have hv := hv7
          clear hv7
          replace hrx := hrx.more hB48 (fun _ h => h)
          replace hv := hv.front 3 rfl
          simp only [List.eraseIdx_cons_succ, List.eraseIdx_cons_zero] at hv
          obtain ⟨C49, hB50, hv7, haa, -⟩ := Inv.rowStays hv
          clear hv
          have hv := hv7
          clear hv7
          replace hrx := hrx.more hB50 (fun _ h => h)
          replace hsa := hsa.more hB50 (fun _ h => h)
          replace hv := hv.front 3 rfl
          simp only [List.eraseIdx_cons_succ, List.eraseIdx_cons_zero] at hv
          obtain ⟨C51, hB52, hv7, hwa, -⟩ := Inv.rowStays hv
          clear hv
          have hv := hv7
          clear hv7
          replace hrx := hrx.more hB52 (fun _ h => h)
          replace hsa := hsa.more hB52 (fun _ h => h)
          replace haa := haa.more hB52 (fun _ h => h)
          simp only [Act.put, List.setIfInBounds_toArray, List.set_cons_succ, List.set_cons_zero]
          refine wpi_exG (v := .tuple #[.pointer (some ⟨q, 0, none⟩), .agg #[.int .i64 (cT cur : Int), .slice ad ((cB cur).length) c], .bool (decide ((cG cur : Int) > 0)), .int .i64 0]) (fun _ => trivial) (wn rfl) rfl (ex_move rfl rfl) ?_
          refine wpi_exG (v := .pointer (some ⟨q, 0, none⟩)) (fun _ => trivial) (wn rfl) rfl (ex_extract rfl rfl rfl) ?_
          refine wpi_exG (v := .agg #[.int .i64 (cT cur : Int), .slice ad ((cB cur).length) c]) (fun _ => trivial) (wn rfl) rfl (ex_extract rfl rfl rfl) ?_
          simp only [Act.put, List.setIfInBounds_toArray, List.set_cons_succ, List.set_cons_zero]
          refine wpi_exG (v := .bool (decide ((cG cur : Int) > 0))) (fun _ => trivial) (wn rfl) rfl (ex_extract rfl rfl rfl) ?_
          refine wpi_exG (v := .int .i64 0) (fun _ => trivial) (wn rfl) rfl (ex_extract rfl rfl rfl) ?_
          refine sl_alloc (fun _ => trivial) (wn rfl) rfl hv scal55 (fun b53 w54 hv => ?_)
          simp only [Act.put, List.setIfInBounds_toArray, List.set_cons_succ, List.set_cons_zero]
          refine wpi_exG (v := .pointer (some ⟨q, 0, none⟩)) (fun _ => trivial) (wn rfl) rfl (ex_assign rfl rfl) ?_
          refine sl_storeNAt 0 (new := [.int .i64 (cT cur : Int), .slice ad ((cB cur).length) c]) (pre := []) (mid := [.int .i64 0, .slice none 0 0]) (post := []) (L' := [.int .i64 (cT cur : Int), .slice ad ((cB cur).length) c]) (fun _ => trivial) (wn rfl) rfl rfl rfl hv rfl scsz55 rfl rfl rfl (one_cons rfl (one_cons rfl one_nil)) rfl (fun w55 hv => ?_)
          simp only [List.set_cons_succ, List.set_cons_zero] at hv
          refine wpi_exG (v := .bool (decide ((cG cur : Int) > 0))) (fun _ => trivial) (wn rfl) rfl (ex_assign rfl rfl) ?_
          simp only [Act.put, List.setIfInBounds_toArray, List.set_cons_succ, List.set_cons_zero]
          refine wpi_exG (v := .int .i64 0) (fun _ => trivial) (wn rfl) rfl (ex_assign rfl rfl) ?_
          refine wpListIn_nil ?_
          simp only [Act.put, List.setIfInBounds_toArray, List.set_cons_succ, List.set_cons_zero]
          refine then_normal (hK43 _ _ ?_)
          clear hK43 K43
          refine wpIn_seq_k (fun K56 hK56 => ?_)
          refine wpIn_region_lit ?_
          refine wpi_exG (v := .pointer (some ⟨rp, 0, none⟩)) (fun _ => trivial) (wn rfl) rfl (ex_move rfl rfl) ?_
          refine wpi_exG (v := .int .i64 (n : Int)) (fun _ => trivial) (wn rfl) rfl (ex_move rfl rfl) ?_
          replace hv := hv.front 3 rfl
          simp only [List.eraseIdx_cons_succ, List.eraseIdx_cons_zero] at hv
          refine wpi_callG sccallable31 (fun _ => trivial) wideC rfl (wn rfl) rfl (args := #[.pointer (some ⟨rp, 0, none⟩), .int .i64 0, .int .i64 (n : Int)]) (by simp only [List.map_toArray, List.map_cons, List.map_nil]; rfl) ((refOpen _ _ _ rp D sa sc aa ac wa wc 0 n hokD hn1 (by omega) (by omega) hsa haa hwa (by omega) (by omega) hv).mono ?_)
          rintro e w59 ⟨C58, q2, cur2, ad2, c2, hB57, hcur2, rfl, hrx2, hv⟩
          refine ⟨_, rfl, ?_⟩
          have hcc : cur = cur2 := (curI_eq hcur).trans (curI_eq hcur2).symm
          subst hcc
          replace hrx := hrx.more hB57 (fun _ h => h)
          simp only [Act.put, List.setIfInBounds_toArray, List.set_cons_succ, List.set_cons_zero]
          refine wpi_exG (v := .tuple #[.pointer (some ⟨q2, 0, none⟩), .agg #[.int .i64 (cT cur : Int), .slice ad2 ((cB cur).length) c2], .bool (decide ((cG cur : Int) > 0)), .int .i64 0]) (fun _ => trivial) (wn rfl) rfl (ex_move rfl rfl) ?_
          refine wpi_exG (v := .pointer (some ⟨q2, 0, none⟩)) (fun _ => trivial) (wn rfl) rfl (ex_extract rfl rfl rfl) ?_
          refine wpi_exG (v := .agg #[.int .i64 (cT cur : Int), .slice ad2 ((cB cur).length) c2]) (fun _ => trivial) (wn rfl) rfl (ex_extract rfl rfl rfl) ?_
          simp only [Act.put, List.setIfInBounds_toArray, List.set_cons_succ, List.set_cons_zero]
          refine wpi_exG (v := .bool (decide ((cG cur : Int) > 0))) (fun _ => trivial) (wn rfl) rfl (ex_extract rfl rfl rfl) ?_
          refine wpi_exG (v := .int .i64 0) (fun _ => trivial) (wn rfl) rfl (ex_extract rfl rfl rfl) ?_
          refine sl_alloc (fun _ => trivial) (wn rfl) rfl hv scal55 (fun b60 w61 hv => ?_)
          simp only [Act.put, List.setIfInBounds_toArray, List.set_cons_succ, List.set_cons_zero]
          refine wpi_exG (v := .pointer (some ⟨q2, 0, none⟩)) (fun _ => trivial) (wn rfl) rfl (ex_assign rfl rfl) ?_
          refine sl_storeNAt 0 (new := [.int .i64 (cT cur : Int), .slice ad2 ((cB cur).length) c2]) (pre := []) (mid := [.int .i64 0, .slice none 0 0]) (post := []) (L' := [.int .i64 (cT cur : Int), .slice ad2 ((cB cur).length) c2]) (fun _ => trivial) (wn rfl) rfl rfl rfl hv rfl scsz55 rfl rfl rfl (one_cons rfl (one_cons rfl one_nil)) rfl (fun w62 hv => ?_)
          simp only [List.set_cons_succ, List.set_cons_zero] at hv
          refine wpi_exG (v := .bool (decide ((cG cur : Int) > 0))) (fun _ => trivial) (wn rfl) rfl (ex_assign rfl rfl) ?_
          simp only [Act.put, List.setIfInBounds_toArray, List.set_cons_succ, List.set_cons_zero]
          refine wpi_exG (v := .int .i64 0) (fun _ => trivial) (wn rfl) rfl (ex_assign rfl rfl) ?_
          refine wpListIn_nil ?_
          simp only [Act.put, List.setIfInBounds_toArray, List.set_cons_succ, List.set_cons_zero]
          refine then_normal (hK56 _ _ ?_)
          clear hK56 K56
          refine wpIn_seq_k (fun K63 hK63 => ?_)
          refine wpIn_seq_k (fun K64 hK64 => ?_)
          refine wpIn_region_lit ?_
          refine wpi_exG (v := .int .i64 0) (fun _ => trivial) (wn rfl) rfl (ex_move rfl rfl) ?_
          refine wpi_exG (v := .int .i64 0) (fun _ => trivial) (wn rfl) rfl (ex_move rfl rfl) ?_
          refine wpi_exG (v := .bool false) (fun _ => trivial) (wn rfl) rfl (ex_neq (k := .i64) (m := 0) (n := 0) rfl rfl rfl (by decide)) ?_
          simp only [Act.put, List.setIfInBounds_toArray, List.set_cons_succ, List.set_cons_zero]
          refine wpi_exG (v := .bool false) (fun _ => trivial) (wn rfl) rfl (ex_move rfl rfl) ?_
          refine wpi_exG (v := .bool (decide ((cG cur : Int) > 0))) (fun _ => trivial) (wanted_of (j := 3) (d := 100) (b := false) rfl rfl rfl) rfl (ex_move rfl rfl) ?_
          refine wpi_exG (v := .bool (decide ((cG cur : Int) > 0))) (fun _ => trivial) (wanted_of (j := 3) (d := 100) (b := false) rfl rfl rfl) rfl (ex_move rfl rfl) ?_
          simp only [Act.put, List.setIfInBounds_toArray, List.set_cons_succ, List.set_cons_zero]
          refine wpi_exG (v := .bool false) (fun _ => trivial) (wanted_of (j := 3) (d := 100) (b := false) rfl rfl rfl) rfl (ex_bneq (p := decide ((cG cur : Int) > 0)) (q := decide ((cG cur : Int) > 0)) Try.underlying4 rfl rfl rfl (by simp)) ?_
          refine wpi_exG (v := .bool false) (fun _ => trivial) (wn rfl) rfl (ex_pick (b := false) rfl rfl rfl) ?_
          refine wpi_exG (v := .bool false) (fun _ => trivial) (wn rfl) rfl (ex_move rfl rfl) ?_
          simp only [Act.put, List.setIfInBounds_toArray, List.set_cons_succ, List.set_cons_zero]
          refine wpi_exG (v := .agg #[.int .i64 (cT cur : Int), .slice ad ((cB cur).length) c]) (fun _ => trivial) (wanted_of (j := 8) (d := 105) (b := false) rfl rfl rfl) rfl (ex_load rfl rfl (run_load_mid (pre := []) (mid := [.int .i64 (cT cur : Int), .slice ad ((cB cur).length) c]) (post := []) scwd55 (show Blk _ b53 ([] ++ [.int .i64 (cT cur : Int), .slice ad ((cB cur).length) c] ++ []) _ from hv.get 3 rfl) rfl)) ?_
          refine wpi_exG (v := .agg #[.int .i64 (cT cur : Int), .slice ad2 ((cB cur).length) c2]) (fun _ => trivial) (wanted_of (j := 8) (d := 105) (b := false) rfl rfl rfl) rfl (ex_load rfl rfl (run_load_mid (pre := []) (mid := [.int .i64 (cT cur : Int), .slice ad2 ((cB cur).length) c2]) (post := []) scwd55 (show Blk _ b60 ([] ++ [.int .i64 (cT cur : Int), .slice ad2 ((cB cur).length) c2] ++ []) _ from hv.get 0 rfl) rfl)) ?_
          refine wpi_callG sccallable32 (fun _ => trivial) wideC rfl (wanted_of (j := 8) (d := 105) (b := false) rfl rfl rfl) rfl (args := #[.agg #[.int .i64 (cT cur : Int), .slice ad ((cB cur).length) c], .agg #[.int .i64 (cT cur : Int), .slice ad2 ((cB cur).length) c2]]) (by simp only [List.map_toArray, List.map_cons, List.map_nil]; rfl) ((lawSame08 _ _ _ (cT cur : Int) (cT cur : Int) _ _ _ _ _ _ (cB cur) (cB cur) rfl rfl hrx hrx2 hv).mono ?_)
          rintro e w65 ⟨he, hv⟩
          rw [show (decide ((cT cur : Int) = (cT cur : Int)) && decide (cB cur = cB cur)) = true by simp] at he
          subst he
          refine ⟨_, rfl, ?_⟩
          simp only [Act.put, List.setIfInBounds_toArray, List.set_cons_succ, List.set_cons_zero]
          refine wpi_exG (v := .bool false) (fun _ => trivial) (wanted_of (j := 8) (d := 105) (b := false) rfl rfl rfl) rfl (ex_not rfl rfl rfl) ?_
          refine wpi_exG (v := .bool false) (fun _ => trivial) (wn rfl) rfl (ex_pick (b := false) rfl rfl rfl) ?_
          refine wpi_exG (v := .bool false) (fun _ => trivial) (wn rfl) rfl (ex_move rfl rfl) ?_
          simp only [Act.put, List.setIfInBounds_toArray, List.set_cons_succ, List.set_cons_zero]
          refine wpi_exG (v := .pointer (some ⟨q, 0, none⟩)) (fun _ => trivial) (wanted_of (j := 14) (d := 111) (b := false) rfl rfl rfl) rfl (ex_move rfl rfl) ?_
          refine wpi_exG (v := .bool false) (fun _ => trivial) (wanted_of (j := 14) (d := 111) (b := false) rfl rfl rfl) rfl (ex_pisnil Try.underlying53 rfl rfl rfl rfl) ?_
          refine wpi_exG (v := .bool false) (fun _ => trivial) (wn rfl) rfl (ex_pick (b := false) rfl rfl rfl) ?_
          simp only [Act.put, List.setIfInBounds_toArray, List.set_cons_succ, List.set_cons_zero]
          refine wpi_exG (v := .bool false) (fun _ => trivial) (wn rfl) rfl (ex_move rfl rfl) ?_
          refine wpi_exG (v := .pointer (some ⟨q2, 0, none⟩)) (fun _ => trivial) (wanted_of (j := 18) (d := 115) (b := false) rfl rfl rfl) rfl (ex_move rfl rfl) ?_
          refine wpi_exG (v := .bool false) (fun _ => trivial) (wanted_of (j := 18) (d := 115) (b := false) rfl rfl rfl) rfl (ex_pisnil Try.underlying58 rfl rfl rfl rfl) ?_
          simp only [Act.put, List.setIfInBounds_toArray, List.set_cons_succ, List.set_cons_zero]
          refine wpi_exG (v := .bool false) (fun _ => trivial) (wn rfl) rfl (ex_pick (b := false) rfl rfl rfl) ?_
          refine wpListIn_nil ?_
          simp only [Act.put, List.setIfInBounds_toArray, List.set_cons_succ, List.set_cons_zero]
          refine then_normal (hK64 _ _ ?_)
          clear hK64 K64
          refine wpIn_cond_false rfl ?_
          refine wpIn_skip ?_
          refine then_normal (hK63 _ _ ?_)
          clear hK63 K63
          refine wpIn_seq_k (fun K66 hK66 => ?_)
          rcases (show (z < 1 ∨ z > 65536) ∨ (1 ≤ z ∧ z ≤ 65536 ∧ (n : Int) < z) ∨ (1 ≤ z ∧ z ≤ (n : Int)) by omega) with hz3 | hz3 | hz3
          · refine wpIn_region_lit ?_
            refine wpi_exG (v := .pointer (some ⟨p, 0, none⟩)) (fun _ => trivial) (wn rfl) rfl (ex_move rfl rfl) ?_
            refine wpi_exG (v := .int .i64 z) (fun _ => trivial) (wn rfl) rfl (ex_move rfl rfl) ?_
            refine wpi_callG sccallable30 (fun _ => trivial) wideC rfl (wn rfl) rfl (args := #[.pointer (some ⟨p, 0, none⟩), .int .i64 0, .int .i64 z]) (by simp only [List.map_toArray, List.map_cons, List.map_nil]; rfl) ((slotsOpenArg _ _ _ p z hz3 hv).mono ?_)
            rintro e w67 ⟨rfl, hv⟩
            refine ⟨_, rfl, ?_⟩
            simp only [Act.put, List.setIfInBounds_toArray, List.set_cons_succ, List.set_cons_zero]
            refine wpi_exG (v := .tuple #[.pointer none, .agg #[.int .i64 0, .slice none 0 0], .bool false, .int .i64 2]) (fun _ => trivial) (wn rfl) rfl (ex_move rfl rfl) ?_
            refine wpi_exG (v := .pointer none) (fun _ => trivial) (wn rfl) rfl (ex_extract rfl rfl rfl) ?_
            refine wpi_exG (v := .agg #[.int .i64 0, .slice none 0 0]) (fun _ => trivial) (wn rfl) rfl (ex_extract rfl rfl rfl) ?_
            simp only [Act.put, List.setIfInBounds_toArray, List.set_cons_succ, List.set_cons_zero]
            refine wpi_exG (v := .bool false) (fun _ => trivial) (wn rfl) rfl (ex_extract rfl rfl rfl) ?_
            refine wpi_exG (v := .int .i64 2) (fun _ => trivial) (wn rfl) rfl (ex_extract rfl rfl rfl) ?_
            refine sl_alloc (fun _ => trivial) (wn rfl) rfl hv scal55 (fun b68 w69 hv => ?_)
            simp only [Act.put, List.setIfInBounds_toArray, List.set_cons_succ, List.set_cons_zero]
            refine wpi_exG (v := .pointer none) (fun _ => trivial) (wn rfl) rfl (ex_assign rfl rfl) ?_
            refine sl_storeNAt 0 (new := [.int .i64 0, .slice none 0 0]) (pre := []) (mid := [.int .i64 0, .slice none 0 0]) (post := []) (L' := [.int .i64 0, .slice none 0 0]) (fun _ => trivial) (wn rfl) rfl rfl rfl hv rfl scsz55 rfl rfl rfl (one_cons rfl (one_cons rfl one_nil)) rfl (fun w70 hv => ?_)
            simp only [List.set_cons_succ, List.set_cons_zero] at hv
            refine wpi_exG (v := .bool false) (fun _ => trivial) (wn rfl) rfl (ex_assign rfl rfl) ?_
            simp only [Act.put, List.setIfInBounds_toArray, List.set_cons_succ, List.set_cons_zero]
            refine wpi_exG (v := .int .i64 2) (fun _ => trivial) (wn rfl) rfl (ex_assign rfl rfl) ?_
            refine wpListIn_nil ?_
            simp only [Act.put, List.setIfInBounds_toArray, List.set_cons_succ, List.set_cons_zero]
            refine then_normal (hK66 _ _ ?_)
            clear hK66 K66
            refine wpIn_seq_k (fun K71 hK71 => ?_)
            refine wpIn_seq_k (fun K72 hK72 => ?_)
            refine wpIn_region_lit ?_
            refine wpi_exG (v := .int .i64 z) (fun _ => trivial) (wn rfl) rfl (ex_move rfl rfl) ?_
            by_cases hb73 : z < 1
            · refine wpi_exG (v := .bool true) (fun _ => trivial) (wn rfl) rfl (ex_lss (k := .i64) (m := z) (n := 1) rfl rfl rfl (decide_eq_true hb73)) ?_
              refine wpi_exG (v := .bool true) (fun _ => trivial) (wn rfl) rfl (ex_move rfl rfl) ?_
              simp only [Act.put, List.setIfInBounds_toArray, List.set_cons_succ, List.set_cons_zero]
              refine wpi_not (fun _ => trivial) (wanted_not (j := 2) (d := 129) (b := false) (b' := true) rfl rfl rfl (by decide)) ?_
              refine wpi_not (fun _ => trivial) (wanted_not (j := 2) (d := 129) (b := false) (b' := true) rfl rfl rfl (by decide)) ?_
              refine wpi_not (fun _ => trivial) (wanted_not (j := 2) (d := 129) (b := false) (b' := true) rfl rfl rfl (by decide)) ?_
              simp only [Act.put, List.setIfInBounds_toArray, List.set_cons_succ, List.set_cons_zero]
              refine wpi_exG (v := .bool true) (fun _ => trivial) (wn rfl) rfl (ex_pick (b := true) rfl rfl rfl) ?_
              refine wpListIn_nil ?_
              simp only [Act.put, List.setIfInBounds_toArray, List.set_cons_succ, List.set_cons_zero]
              refine then_normal (hK72 _ _ ?_)
              clear hK72 K72
              refine wpIn_cond_true rfl ?_
              refine wpIn_seq_k (fun K74 hK74 => ?_)
              refine wpIn_region_lit ?_
              refine wpi_exG (v := .pointer none) (fun _ => trivial) (wn rfl) rfl (ex_move rfl rfl) ?_
              refine wpi_exG (v := .bool true) (fun _ => trivial) (wn rfl) rfl (ex_pisnil Try.underlying53 rfl rfl rfl rfl) ?_
              refine wpi_exG (v := .bool true) (fun _ => trivial) (wn rfl) rfl (ex_move rfl rfl) ?_
              simp only [Act.put, List.setIfInBounds_toArray, List.set_cons_succ, List.set_cons_zero]
              refine wpi_exG (v := .bool false) (fun _ => trivial) (wanted_of (j := 2) (d := 136) (b := true) rfl rfl rfl) rfl (ex_move rfl rfl) ?_
              refine wpi_exG (v := .bool true) (fun _ => trivial) (wanted_of (j := 2) (d := 136) (b := true) rfl rfl rfl) rfl (ex_not rfl rfl rfl) ?_
              refine wpi_exG (v := .bool true) (fun _ => trivial) (wn rfl) rfl (ex_pick (b := true) rfl rfl rfl) ?_
              simp only [Act.put, List.setIfInBounds_toArray, List.set_cons_succ, List.set_cons_zero]
              refine wpi_exG (v := .bool true) (fun _ => trivial) (wn rfl) rfl (ex_move rfl rfl) ?_
              refine wpi_exG (v := .int .i64 2) (fun _ => trivial) (wanted_of (j := 6) (d := 140) (b := true) rfl rfl rfl) rfl (ex_move rfl rfl) ?_
              refine wpi_exG (v := .bool true) (fun _ => trivial) (wanted_of (j := 6) (d := 140) (b := true) rfl rfl rfl) rfl (ex_eql (k := .i64) (m := 2) (n := 2) rfl rfl rfl (by decide)) ?_
              simp only [Act.put, List.setIfInBounds_toArray, List.set_cons_succ, List.set_cons_zero]
              refine wpi_exG (v := .bool true) (fun _ => trivial) (wn rfl) rfl (ex_pick (b := true) rfl rfl rfl) ?_
              refine wpi_exG (v := .bool true) (fun _ => trivial) (wn rfl) rfl (ex_assign rfl rfl) ?_
              refine wpListIn_nil ?_
              simp only [Act.put, List.setIfInBounds_toArray, List.set_cons_succ, List.set_cons_zero]
              refine then_normal (hK74 _ _ ?_)
              clear hK74 K74
              refine wpIn_ret ?_
              refine then_ret ?_
              clear hK71 K71
              refine bodyPost_ret (results_tmp rfl _ _ _) rfl ?_
              exact ⟨rfl, (hv.tail 7).weak ((((hB46.trans hB48).trans hB50).trans hB52).trans hB57)⟩
            · refine wpi_exG (v := .bool false) (fun _ => trivial) (wn rfl) rfl (ex_lss (k := .i64) (m := z) (n := 1) rfl rfl rfl (decide_eq_false hb73)) ?_
              refine wpi_exG (v := .bool false) (fun _ => trivial) (wn rfl) rfl (ex_move rfl rfl) ?_
              simp only [Act.put, List.setIfInBounds_toArray, List.set_cons_succ, List.set_cons_zero]
              refine wpi_exG (v := .int .i64 z) (fun _ => trivial) (wanted_of (j := 2) (d := 129) (b := false) rfl rfl rfl) rfl (ex_move rfl rfl) ?_
              refine wpi_exG (v := .int .i64 (n : Int)) (fun _ => trivial) (wanted_of (j := 2) (d := 129) (b := false) rfl rfl rfl) rfl (ex_move rfl rfl) ?_
              refine wpi_exG (v := .bool true) (fun _ => trivial) (wanted_of (j := 2) (d := 129) (b := false) rfl rfl rfl) rfl (ex_gtr (k := .i64) (m := z) (n := (n : Int)) rfl rfl rfl (decide_eq_true (by omega))) ?_
              simp only [Act.put, List.setIfInBounds_toArray, List.set_cons_succ, List.set_cons_zero]
              refine wpi_exG (v := .bool true) (fun _ => trivial) (wn rfl) rfl (ex_pick (b := false) rfl rfl rfl) ?_
              refine wpListIn_nil ?_
              simp only [Act.put, List.setIfInBounds_toArray, List.set_cons_succ, List.set_cons_zero]
              refine then_normal (hK72 _ _ ?_)
              clear hK72 K72
              refine wpIn_cond_true rfl ?_
              refine wpIn_seq_k (fun K75 hK75 => ?_)
              refine wpIn_region_lit ?_
              refine wpi_exG (v := .pointer none) (fun _ => trivial) (wn rfl) rfl (ex_move rfl rfl) ?_
              refine wpi_exG (v := .bool true) (fun _ => trivial) (wn rfl) rfl (ex_pisnil Try.underlying53 rfl rfl rfl rfl) ?_
              refine wpi_exG (v := .bool true) (fun _ => trivial) (wn rfl) rfl (ex_move rfl rfl) ?_
              simp only [Act.put, List.setIfInBounds_toArray, List.set_cons_succ, List.set_cons_zero]
              refine wpi_exG (v := .bool false) (fun _ => trivial) (wanted_of (j := 2) (d := 136) (b := true) rfl rfl rfl) rfl (ex_move rfl rfl) ?_
              refine wpi_exG (v := .bool true) (fun _ => trivial) (wanted_of (j := 2) (d := 136) (b := true) rfl rfl rfl) rfl (ex_not rfl rfl rfl) ?_
              refine wpi_exG (v := .bool true) (fun _ => trivial) (wn rfl) rfl (ex_pick (b := true) rfl rfl rfl) ?_
              simp only [Act.put, List.setIfInBounds_toArray, List.set_cons_succ, List.set_cons_zero]
              refine wpi_exG (v := .bool true) (fun _ => trivial) (wn rfl) rfl (ex_move rfl rfl) ?_
              refine wpi_exG (v := .int .i64 2) (fun _ => trivial) (wanted_of (j := 6) (d := 140) (b := true) rfl rfl rfl) rfl (ex_move rfl rfl) ?_
              refine wpi_exG (v := .bool true) (fun _ => trivial) (wanted_of (j := 6) (d := 140) (b := true) rfl rfl rfl) rfl (ex_eql (k := .i64) (m := 2) (n := 2) rfl rfl rfl (by decide)) ?_
              simp only [Act.put, List.setIfInBounds_toArray, List.set_cons_succ, List.set_cons_zero]
              refine wpi_exG (v := .bool true) (fun _ => trivial) (wn rfl) rfl (ex_pick (b := true) rfl rfl rfl) ?_
              refine wpi_exG (v := .bool true) (fun _ => trivial) (wn rfl) rfl (ex_assign rfl rfl) ?_
              refine wpListIn_nil ?_
              simp only [Act.put, List.setIfInBounds_toArray, List.set_cons_succ, List.set_cons_zero]
              refine then_normal (hK75 _ _ ?_)
              clear hK75 K75
              refine wpIn_ret ?_
              refine then_ret ?_
              clear hK71 K71
              refine bodyPost_ret (results_tmp rfl _ _ _) rfl ?_
              exact ⟨rfl, (hv.tail 7).weak ((((hB46.trans hB48).trans hB50).trans hB52).trans hB57)⟩
          · refine wpIn_region_lit ?_
            refine wpi_exG (v := .pointer (some ⟨p, 0, none⟩)) (fun _ => trivial) (wn rfl) rfl (ex_move rfl rfl) ?_
            refine wpi_exG (v := .int .i64 z) (fun _ => trivial) (wn rfl) rfl (ex_move rfl rfl) ?_
            replace hv := hv.front 5 rfl
            simp only [List.eraseIdx_cons_succ, List.eraseIdx_cons_zero] at hv
            refine wpi_callG sccallable30 (fun _ => trivial) wideC rfl (wn rfl) rfl (args := #[.pointer (some ⟨p, 0, none⟩), .int .i64 0, .int .i64 z]) (by simp only [List.map_toArray, List.map_cons, List.map_nil]; rfl) ((slotsOpenFar _ _ _ p D _ z (by omega) (by omega) (has_far (by omega)) hv).mono ?_)
            rintro e w76 ⟨rfl, hv⟩
            refine ⟨_, rfl, ?_⟩
            simp only [Act.put, List.setIfInBounds_toArray, List.set_cons_succ, List.set_cons_zero]
            refine wpi_exG (v := .tuple #[.pointer none, .agg #[.int .i64 0, .slice none 0 0], .bool false, .int .i64 2]) (fun _ => trivial) (wn rfl) rfl (ex_move rfl rfl) ?_
            refine wpi_exG (v := .pointer none) (fun _ => trivial) (wn rfl) rfl (ex_extract rfl rfl rfl) ?_
            refine wpi_exG (v := .agg #[.int .i64 0, .slice none 0 0]) (fun _ => trivial) (wn rfl) rfl (ex_extract rfl rfl rfl) ?_
            simp only [Act.put, List.setIfInBounds_toArray, List.set_cons_succ, List.set_cons_zero]
            refine wpi_exG (v := .bool false) (fun _ => trivial) (wn rfl) rfl (ex_extract rfl rfl rfl) ?_
            refine wpi_exG (v := .int .i64 2) (fun _ => trivial) (wn rfl) rfl (ex_extract rfl rfl rfl) ?_
            refine sl_alloc (fun _ => trivial) (wn rfl) rfl hv scal55 (fun b77 w78 hv => ?_)
            simp only [Act.put, List.setIfInBounds_toArray, List.set_cons_succ, List.set_cons_zero]
            refine wpi_exG (v := .pointer none) (fun _ => trivial) (wn rfl) rfl (ex_assign rfl rfl) ?_
            refine sl_storeNAt 0 (new := [.int .i64 0, .slice none 0 0]) (pre := []) (mid := [.int .i64 0, .slice none 0 0]) (post := []) (L' := [.int .i64 0, .slice none 0 0]) (fun _ => trivial) (wn rfl) rfl rfl rfl hv rfl scsz55 rfl rfl rfl (one_cons rfl (one_cons rfl one_nil)) rfl (fun w79 hv => ?_)
            simp only [List.set_cons_succ, List.set_cons_zero] at hv
            refine wpi_exG (v := .bool false) (fun _ => trivial) (wn rfl) rfl (ex_assign rfl rfl) ?_
            simp only [Act.put, List.setIfInBounds_toArray, List.set_cons_succ, List.set_cons_zero]
            refine wpi_exG (v := .int .i64 2) (fun _ => trivial) (wn rfl) rfl (ex_assign rfl rfl) ?_
            refine wpListIn_nil ?_
            simp only [Act.put, List.setIfInBounds_toArray, List.set_cons_succ, List.set_cons_zero]
            refine then_normal (hK66 _ _ ?_)
            clear hK66 K66
            refine wpIn_seq_k (fun K80 hK80 => ?_)
            refine wpIn_seq_k (fun K81 hK81 => ?_)
            refine wpIn_region_lit ?_
            refine wpi_exG (v := .int .i64 z) (fun _ => trivial) (wn rfl) rfl (ex_move rfl rfl) ?_
            refine wpi_exG (v := .bool false) (fun _ => trivial) (wn rfl) rfl (ex_lss (k := .i64) (m := z) (n := 1) rfl rfl rfl (decide_eq_false (by omega))) ?_
            refine wpi_exG (v := .bool false) (fun _ => trivial) (wn rfl) rfl (ex_move rfl rfl) ?_
            simp only [Act.put, List.setIfInBounds_toArray, List.set_cons_succ, List.set_cons_zero]
            refine wpi_exG (v := .int .i64 z) (fun _ => trivial) (wanted_of (j := 2) (d := 129) (b := false) rfl rfl rfl) rfl (ex_move rfl rfl) ?_
            refine wpi_exG (v := .int .i64 (n : Int)) (fun _ => trivial) (wanted_of (j := 2) (d := 129) (b := false) rfl rfl rfl) rfl (ex_move rfl rfl) ?_
            refine wpi_exG (v := .bool true) (fun _ => trivial) (wanted_of (j := 2) (d := 129) (b := false) rfl rfl rfl) rfl (ex_gtr (k := .i64) (m := z) (n := (n : Int)) rfl rfl rfl (decide_eq_true (by omega))) ?_
            simp only [Act.put, List.setIfInBounds_toArray, List.set_cons_succ, List.set_cons_zero]
            refine wpi_exG (v := .bool true) (fun _ => trivial) (wn rfl) rfl (ex_pick (b := false) rfl rfl rfl) ?_
            refine wpListIn_nil ?_
            simp only [Act.put, List.setIfInBounds_toArray, List.set_cons_succ, List.set_cons_zero]
            refine then_normal (hK81 _ _ ?_)
            clear hK81 K81
            refine wpIn_cond_true rfl ?_
            refine wpIn_seq_k (fun K82 hK82 => ?_)
            refine wpIn_region_lit ?_
            refine wpi_exG (v := .pointer none) (fun _ => trivial) (wn rfl) rfl (ex_move rfl rfl) ?_
            refine wpi_exG (v := .bool true) (fun _ => trivial) (wn rfl) rfl (ex_pisnil Try.underlying53 rfl rfl rfl rfl) ?_
            refine wpi_exG (v := .bool true) (fun _ => trivial) (wn rfl) rfl (ex_move rfl rfl) ?_
            simp only [Act.put, List.setIfInBounds_toArray, List.set_cons_succ, List.set_cons_zero]
            refine wpi_exG (v := .bool false) (fun _ => trivial) (wanted_of (j := 2) (d := 136) (b := true) rfl rfl rfl) rfl (ex_move rfl rfl) ?_
            refine wpi_exG (v := .bool true) (fun _ => trivial) (wanted_of (j := 2) (d := 136) (b := true) rfl rfl rfl) rfl (ex_not rfl rfl rfl) ?_
            refine wpi_exG (v := .bool true) (fun _ => trivial) (wn rfl) rfl (ex_pick (b := true) rfl rfl rfl) ?_
            simp only [Act.put, List.setIfInBounds_toArray, List.set_cons_succ, List.set_cons_zero]
            refine wpi_exG (v := .bool true) (fun _ => trivial) (wn rfl) rfl (ex_move rfl rfl) ?_
            refine wpi_exG (v := .int .i64 2) (fun _ => trivial) (wanted_of (j := 6) (d := 140) (b := true) rfl rfl rfl) rfl (ex_move rfl rfl) ?_
            refine wpi_exG (v := .bool true) (fun _ => trivial) (wanted_of (j := 6) (d := 140) (b := true) rfl rfl rfl) rfl (ex_eql (k := .i64) (m := 2) (n := 2) rfl rfl rfl (by decide)) ?_
            simp only [Act.put, List.setIfInBounds_toArray, List.set_cons_succ, List.set_cons_zero]
            refine wpi_exG (v := .bool true) (fun _ => trivial) (wn rfl) rfl (ex_pick (b := true) rfl rfl rfl) ?_
            refine wpi_exG (v := .bool true) (fun _ => trivial) (wn rfl) rfl (ex_assign rfl rfl) ?_
            refine wpListIn_nil ?_
            simp only [Act.put, List.setIfInBounds_toArray, List.set_cons_succ, List.set_cons_zero]
            refine then_normal (hK82 _ _ ?_)
            clear hK82 K82
            refine wpIn_ret ?_
            refine then_ret ?_
            clear hK80 K80
            refine bodyPost_ret (results_tmp rfl _ _ _) rfl ?_
            exact ⟨rfl, (hv.tail 7).weak ((((hB46.trans hB48).trans hB50).trans hB52).trans hB57)⟩
          · obtain ⟨ez, rfl⟩ : ∃ ez : Nat, z = (ez : Int) := ⟨z.toNat, by omega⟩
            refine wpIn_region_lit ?_
            refine wpi_exG (v := .pointer (some ⟨p, 0, none⟩)) (fun _ => trivial) (wn rfl) rfl (ex_move rfl rfl) ?_
            refine wpi_exG (v := .int .i64 (ez : Int)) (fun _ => trivial) (wn rfl) rfl (ex_move rfl rfl) ?_
            replace hv := hv.front 5 rfl
            simp only [List.eraseIdx_cons_succ, List.eraseIdx_cons_zero] at hv
            refine wpi_callG sccallable30 (fun _ => trivial) wideC rfl (wn rfl) rfl (args := #[.pointer (some ⟨p, 0, none⟩), .int .i64 0, .int .i64 (ez : Int)]) (by simp only [List.map_toArray, List.map_cons, List.map_nil]; rfl) ((slotsOpen _ _ _ p 0 ez D D _ (tick_free hleft) (by omega) (has_of (by omega) (by omega)) (by rw [hleft]; decide) (by omega) (by omega) (by omega) (by omega) hv).mono ?_)
            rintro e w83 ⟨q3, cur3, ad3, c3, F4, -, rfl, hv⟩
            refine ⟨_, rfl, ?_⟩
            simp only [Act.put, List.setIfInBounds_toArray, List.set_cons_succ, List.set_cons_zero]
            refine wpi_exG (v := .tuple #[.pointer (some ⟨q3, 0, none⟩), .agg #[.int .i64 (cT cur3 : Int), .slice ad3 ((cB cur3).length) c3], .bool (decide ((cG cur3 : Int) > 0)), .int .i64 0]) (fun _ => trivial) (wn rfl) rfl (ex_move rfl rfl) ?_
            refine wpi_exG (v := .pointer (some ⟨q3, 0, none⟩)) (fun _ => trivial) (wn rfl) rfl (ex_extract rfl rfl rfl) ?_
            refine wpi_exG (v := .agg #[.int .i64 (cT cur3 : Int), .slice ad3 ((cB cur3).length) c3]) (fun _ => trivial) (wn rfl) rfl (ex_extract rfl rfl rfl) ?_
            simp only [Act.put, List.setIfInBounds_toArray, List.set_cons_succ, List.set_cons_zero]
            refine wpi_exG (v := .bool (decide ((cG cur3 : Int) > 0))) (fun _ => trivial) (wn rfl) rfl (ex_extract rfl rfl rfl) ?_
            refine wpi_exG (v := .int .i64 0) (fun _ => trivial) (wn rfl) rfl (ex_extract rfl rfl rfl) ?_
            refine sl_alloc (fun _ => trivial) (wn rfl) rfl hv scal55 (fun b84 w85 hv => ?_)
            simp only [Act.put, List.setIfInBounds_toArray, List.set_cons_succ, List.set_cons_zero]
            refine wpi_exG (v := .pointer (some ⟨q3, 0, none⟩)) (fun _ => trivial) (wn rfl) rfl (ex_assign rfl rfl) ?_
            refine sl_storeNAt 0 (new := [.int .i64 (cT cur3 : Int), .slice ad3 ((cB cur3).length) c3]) (pre := []) (mid := [.int .i64 0, .slice none 0 0]) (post := []) (L' := [.int .i64 (cT cur3 : Int), .slice ad3 ((cB cur3).length) c3]) (fun _ => trivial) (wn rfl) rfl rfl rfl hv rfl scsz55 rfl rfl rfl (one_cons rfl (one_cons rfl one_nil)) rfl (fun w86 hv => ?_)
            simp only [List.set_cons_succ, List.set_cons_zero] at hv
            refine wpi_exG (v := .bool (decide ((cG cur3 : Int) > 0))) (fun _ => trivial) (wn rfl) rfl (ex_assign rfl rfl) ?_
            simp only [Act.put, List.setIfInBounds_toArray, List.set_cons_succ, List.set_cons_zero]
            refine wpi_exG (v := .int .i64 0) (fun _ => trivial) (wn rfl) rfl (ex_assign rfl rfl) ?_
            refine wpListIn_nil ?_
            simp only [Act.put, List.setIfInBounds_toArray, List.set_cons_succ, List.set_cons_zero]
            refine then_normal (hK66 _ _ ?_)
            clear hK66 K66
            refine wpIn_seq_k (fun K87 hK87 => ?_)
            refine wpIn_seq_k (fun K88 hK88 => ?_)
            refine wpIn_region_lit ?_
            refine wpi_exG (v := .int .i64 (ez : Int)) (fun _ => trivial) (wn rfl) rfl (ex_move rfl rfl) ?_
            refine wpi_exG (v := .bool false) (fun _ => trivial) (wn rfl) rfl (ex_lss (k := .i64) (m := (ez : Int)) (n := 1) rfl rfl rfl (decide_eq_false (by omega))) ?_
            refine wpi_exG (v := .bool false) (fun _ => trivial) (wn rfl) rfl (ex_move rfl rfl) ?_
            simp only [Act.put, List.setIfInBounds_toArray, List.set_cons_succ, List.set_cons_zero]
            refine wpi_exG (v := .int .i64 (ez : Int)) (fun _ => trivial) (wanted_of (j := 2) (d := 129) (b := false) rfl rfl rfl) rfl (ex_move rfl rfl) ?_
            refine wpi_exG (v := .int .i64 (n : Int)) (fun _ => trivial) (wanted_of (j := 2) (d := 129) (b := false) rfl rfl rfl) rfl (ex_move rfl rfl) ?_
            refine wpi_exG (v := .bool false) (fun _ => trivial) (wanted_of (j := 2) (d := 129) (b := false) rfl rfl rfl) rfl (ex_gtr (k := .i64) (m := (ez : Int)) (n := (n : Int)) rfl rfl rfl (decide_eq_false (by omega))) ?_
            simp only [Act.put, List.setIfInBounds_toArray, List.set_cons_succ, List.set_cons_zero]
            refine wpi_exG (v := .bool false) (fun _ => trivial) (wn rfl) rfl (ex_pick (b := false) rfl rfl rfl) ?_
            refine wpListIn_nil ?_
            simp only [Act.put, List.setIfInBounds_toArray, List.set_cons_succ, List.set_cons_zero]
            refine then_normal (hK88 _ _ ?_)
            clear hK88 K88
            refine wpIn_cond_false rfl ?_
            refine wpIn_skip ?_
            refine then_normal (hK87 _ _ ?_)
            clear hK87 K87
            refine wpIn_seq_k (fun K89 hK89 => ?_)
            refine region_st mixed [.pointer (some ⟨q, 0, none⟩), .int .i64 (cG cur : Int), .pointer (some ⟨q2, 0, none⟩), .pointer (some ⟨q2, 0, none⟩), .pointer (some ⟨q2, 3, none⟩), .int .i64 (cG cur : Int), .bool true, .bool true, .pointer (some ⟨q, 0, none⟩), .int .i64 (roomOf n : Int), .pointer (some ⟨q2, 0, none⟩), .int .i64 (roomOf n : Int), .bool true, .bool true, .bool true] [] [⟨fun vals w => vals = [] ∧ Inv C58 (Res.cell b84 [.int .i64 (cT cur3 : Int), .slice ad3 ((cB cur3).length) c3] 55 :: Res.cell q3 (slCells p 0 ez (cG cur3) false) 102 :: Res.row 5 1 (.slice ad3 ((cB cur3).length) c3) ((cB cur3).length) ((cB cur3).map B8) :: diskR p D F4 :: Res.cell b60 [.int .i64 (cT cur : Int), .slice ad2 ((cB cur).length) c2] 55 :: Res.cell q2 [.pointer (some ⟨rp, 0, none⟩), .int .i64 ((0 : Nat) : Int), .int .i64 (n : Int), .int .i64 (cG cur : Int), .bool false] 64 :: Res.cell rp (refC D sa sc aa ac wa wc) 99 :: Res.cell b53 [.int .i64 (cT cur : Int), .slice ad ((cB cur).length) c] 55 :: Res.cell q [.pointer (some ⟨p, 0, none⟩), .int .i64 ((0 : Nat) : Int), .int .i64 (n : Int), .int .i64 (cG cur : Int), .bool false] 102 :: H) w, fun _ _ _ ⟨h, hi⟩ he => ⟨h, hi.ext he⟩⟩] 158 rfl (by kernel_rfl) ⟨rfl, hv⟩ ⟨?_, ?_, ?_, ?_, ?_, ?_, ?_, ?_, ?_, ?_, ?_, ?_, ?_, ?_, ?_, trivial⟩ ?_
            · intro aa ww vals hJ hR
              exact add_step' rfl (Ex.adds' (ex_move rfl (show aa.eval (.tmp 13) = _ from hR.keep 13 rfl)) (wn rfl) rfl)
            · intro aa ww vals hJ hR
              have hl : vals.length = 0 := by have := JS.le (n := 0) (by rfl) hJ; omega
              obtain ⟨hvals, hv⟩ := hJ.at0 hl
              exact add_step' rfl (stepOk_calls sccallable33 (wn rfl) rfl (args := #[.pointer (some ⟨q, 0, none⟩)]) (by simp only [List.map_toArray, List.map_cons, List.map_nil]; rw [show aa.eval (.tmp 144) = .pointer (some ⟨q, 0, none⟩) from hR.v 0 144 rfl rfl rfl rfl] <;> rfl) ((slotsGeneration _ _ _ q p 0 n (cG cur) false (hv.front 8 rfl)).mono fun e w9 ⟨he, hw⟩ => ⟨_, he, by subst hw; exact Ext.rfl' _, rfl⟩))
            · intro aa ww vals hJ hR
              exact add_step' rfl (Ex.adds' (ex_move rfl (show aa.eval (.tmp 17) = _ from hR.keep 17 rfl)) (wn rfl) rfl)
            · intro aa ww vals hJ hR
              exact add_step' rfl (Ex.adds' (ex_nil rfl (show aa.eval (.tmp 146) = _ from hR.v 2 146 rfl rfl rfl rfl)) (wn rfl) rfl)
            · intro aa ww vals hJ hR
              exact add_step' rfl (Ex.adds' (ex_field rfl (show aa.eval (.tmp 147) = _ from hR.v 3 147 rfl rfl rfl rfl) (scfa64_3 _ _ _)) (wn rfl) rfl)
            · intro aa ww vals hJ hR
              have hl : vals.length = 0 := by have := JS.le (n := 0) (by rfl) hJ; omega
              obtain ⟨hvals, hv⟩ := hJ.at0 hl
              exact add_step' rfl (Ex.adds' (ex_load rfl (show aa.eval (.tmp 148) = _ from hR.v 4 148 rfl rfl rfl rfl) (run_load1 scna3 (hv.load 5 3 rfl rfl))) (wn rfl) rfl)
            · intro aa ww vals hJ hR
              exact add_step' rfl (Ex.adds' (ex_eql (k := .i64) (m := (cG cur : Int)) (n := (cG cur : Int)) rfl (show aa.eval (.tmp 145) = _ from hR.v 1 145 rfl rfl rfl rfl) (show aa.eval (.tmp 149) = _ from hR.v 5 149 rfl rfl rfl rfl) (decide_eq_true (rfl))) (wn rfl) rfl)
            · intro aa ww vals hJ hR
              exact add_step' rfl (Ex.adds' (ex_move rfl (show aa.eval (.tmp 150) = _ from hR.v 6 150 rfl rfl rfl rfl)) (wn rfl) rfl)
            · intro aa ww vals hJ hR
              exact add_step' rfl (Ex.adds' (ex_move rfl (show aa.eval (.tmp 13) = _ from hR.keep 13 rfl)) (wanted_of (j := 7) (d := 151) (b := true) rfl rfl (hR.v 7 151 rfl rfl rfl rfl)) rfl)
            · intro aa ww vals hJ hR
              have hl : vals.length = 0 := by have := JS.le (n := 0) (by rfl) hJ; omega
              obtain ⟨hvals, hv⟩ := hJ.at0 hl
              exact add_step' rfl (stepOk_calls sccallable34 (wanted_of (j := 7) (d := 151) (b := true) rfl rfl (hR.v 7 151 rfl rfl rfl rfl)) rfl (args := #[.pointer (some ⟨q, 0, none⟩)]) (by simp only [List.map_toArray, List.map_cons, List.map_nil]; rw [show aa.eval (.tmp 152) = .pointer (some ⟨q, 0, none⟩) from hR.v 8 152 rfl rfl rfl rfl] <;> rfl) ((slotsRoom _ _ _ q p 0 n (cG cur) false hn1 (by omega) (hv.front 8 rfl)).mono fun e w9 ⟨he, hw⟩ => ⟨_, he, by subst hw; exact Ext.rfl' _, rfl⟩))
            · intro aa ww vals hJ hR
              exact add_step' rfl (Ex.adds' (ex_move rfl (show aa.eval (.tmp 17) = _ from hR.keep 17 rfl)) (wanted_of (j := 7) (d := 151) (b := true) rfl rfl (hR.v 7 151 rfl rfl rfl rfl)) rfl)
            · intro aa ww vals hJ hR
              have hl : vals.length = 0 := by have := JS.le (n := 0) (by rfl) hJ; omega
              obtain ⟨hvals, hv⟩ := hJ.at0 hl
              exact add_step' rfl (stepOk_calls sccallable35 (wanted_of (j := 7) (d := 151) (b := true) rfl rfl (hR.v 7 151 rfl rfl rfl rfl)) rfl (args := #[.pointer (some ⟨q2, 0, none⟩)]) (by simp only [List.map_toArray, List.map_cons, List.map_nil]; rw [show aa.eval (.tmp 154) = .pointer (some ⟨q2, 0, none⟩) from hR.v 10 154 rfl rfl rfl rfl] <;> rfl) ((refRoom _ _ _ q2 rp 0 n (cG cur) false hn1 (by omega) (hv.front 5 rfl)).mono fun e w9 ⟨he, hw⟩ => ⟨_, he, by subst hw; exact Ext.rfl' _, rfl⟩))
            · intro aa ww vals hJ hR
              exact add_step' rfl (Ex.adds' (ex_eql (k := .i64) (m := (roomOf n : Int)) (n := (roomOf n : Int)) rfl (show aa.eval (.tmp 153) = _ from hR.v 9 153 rfl rfl rfl rfl) (show aa.eval (.tmp 155) = _ from hR.v 11 155 rfl rfl rfl rfl) (decide_eq_true (rfl))) (wanted_of (j := 7) (d := 151) (b := true) rfl rfl (hR.v 7 151 rfl rfl rfl rfl)) rfl)
            · intro aa ww vals hJ hR
              exact add_step' rfl (Ex.adds' (ex_pick (b := true) rfl (show aa.eval (.tmp 151) = _ from hR.v 7 151 rfl rfl rfl rfl) (show aa.eval (.tmp 156) = _ from hR.v 12 156 rfl rfl rfl rfl)) (wn rfl) rfl)
            · intro aa ww vals hJ hR
              exact add_step' rfl (Ex.adds' (ex_assign rfl (show aa.eval (.tmp 157) = _ from hR.v 13 157 rfl rfl rfl rfl)) (wn rfl) rfl)
            rintro w90 vals ⟨rfl, hv⟩
            rw [show mixV [] [] 0 [.pointer (some ⟨q, 0, none⟩), .int .i64 (cG cur : Int), .pointer (some ⟨q2, 0, none⟩), .pointer (some ⟨q2, 0, none⟩), .pointer (some ⟨q2, 3, none⟩), .int .i64 (cG cur : Int), .bool true, .bool true, .pointer (some ⟨q, 0, none⟩), .int .i64 (roomOf n : Int), .pointer (some ⟨q2, 0, none⟩), .int .i64 (roomOf n : Int), .bool true, .bool true, .bool true] = [.pointer (some ⟨q, 0, none⟩), .int .i64 (cG cur : Int), .pointer (some ⟨q2, 0, none⟩), .pointer (some ⟨q2, 0, none⟩), .pointer (some ⟨q2, 3, none⟩), .int .i64 (cG cur : Int), .bool true, .bool true, .pointer (some ⟨q, 0, none⟩), .int .i64 (roomOf n : Int), .pointer (some ⟨q2, 0, none⟩), .int .i64 (roomOf n : Int), .bool true, .bool true, .bool true] from rfl]
            simp only [putAll, Act.put, List.setIfInBounds_toArray, List.set_cons_succ, List.set_cons_zero]
            refine then_normal (hK89 _ _ ?_)
            clear hK89 K89
            refine wpIn_ret ?_
            refine bodyPost_ret (results_tmp rfl _ _ _) rfl ?_
            exact ⟨rfl, (hv.tail 9).weak ((((hB46.trans hB48).trans hB50).trans hB52).trans hB57)⟩
end Go.Proofs.Ytkannfkjnohdlaa
