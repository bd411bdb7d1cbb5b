/- pentimentoref08: Save, Open. -/
import Derived.Test.YtkannfkjnohdlaaMsH
import Derived.Test.YtkannfkjnohdlaaMsF
namespace Go.Proofs.Ytkannfkjnohdlaa
open Go.RowKit Go.Pm
def SavePost (B : Base) (H : List Res) (l : List UInt8) (i : Nat) (e : Ending) (w : World) : Prop :=
  (¬ CkOk l i ∧ e = .returned ckNo ∧ Inv B H w) ∨ (CkOk l i ∧ ∃ (C : Base) (ad : Option Addr) (c : Nat), B.Le C ∧ e = .returned (.tuple #[.agg #[.int .i64 (ckT l : Int), .slice ad (ckB l).length c], .int .i64 (ckG l : Int), .bool true]) ∧ RdV C [] ad ((ckB l).map B8) ∧ Inv C H w)
theorem run_body {P : Program} {t : TypeId} {l : List UInt8} (ht : P.underlying t = some .string) (h : numOf (piece l 17 4) + 64 ≤ l.length) (w : World) : (Instr.sliceAt t (.string ⟨l.toArray⟩) (some (.int .i64 64)) (some (.int .i64 ((64 + numOf (piece l 17 4) : Nat) : Int))) none).run P w = .ok (.string ⟨(ckB l).toArray⟩) w := by
  have := run_ss (P := P) (l := l) ht (i := 64) (j := 64 + numOf (piece l 17 4)) (by omega) (by omega) w
  rw [show 64 + numOf (piece l 17 4) - 64 = numOf (piece l 17 4) by omega] at this
  exact this
theorem run_slot0 {P : Program} {t : TypeId} {rb : List UInt8} {each : Nat} (ht : P.underlying t = some .string) (h : rb.length = 2 * each * 64) (w : World) : (Instr.sliceAt t (.string ⟨rb.toArray⟩) none (some (.int .i64 ((64 * each : Nat) : Int))) none).run P w = .ok (.string ⟨(slotOf rb each 0).toArray⟩) w := by
  rw [run_ssh ht (by omega), slot_0]
theorem run_slot1 {P : Program} {t : TypeId} {rb : List UInt8} {each : Nat} (ht : P.underlying t = some .string) (h : rb.length = 2 * each * 64) (w : World) : (Instr.sliceAt t (.string ⟨rb.toArray⟩) (some (.int .i64 ((64 * each : Nat) : Int))) none none).run P w = .ok (.string ⟨(slotOf rb each 1).toArray⟩) w := by
  rw [run_ssl ht (by omega), slot_1 h]

theorem r9al55 (w : World) : (Instr.alloc 55 true (.tuple #[])).run Try.prog w = .ok (.pointer (some ⟨w.heap.size, 0, none⟩)) (w.alloc (.cells ([.int .i64 0, .slice none 0 0] : List Value).toArray 55)) := by kernel_rfl
theorem r9callable60 : Callable Try.prog 60 := ⟨_, Try.func60, by kernel_rfl, by kernel_rfl⟩
theorem r9sz55 : (Try.prog.info? 55).map (·.size) = some 2 := by kernel_rfl
theorem r9wd55 : Wide Try.prog 55 2 := wide_of (fun w => by kernel_rfl) (by kernel_rfl)
theorem r9fa55_0 (w : World) (b o : Nat) : (Instr.fieldAt 55 (.pointer (some ⟨b, o, none⟩)) 0).run Try.prog w = .ok (.pointer (some ⟨b, o + 0, none⟩)) w := by kernel_rfl
theorem r9na3 (w : World) : (isAgg 3).run Try.prog w = .ok false w := by kernel_rfl
theorem r9fa55_1 (w : World) (b o : Nat) : (Instr.fieldAt 55 (.pointer (some ⟨b, o, none⟩)) 1).run Try.prog w = .ok (.pointer (some ⟨b, o + 1, none⟩)) w := by kernel_rfl
theorem r9sz24 : (Try.prog.info? 24).map (·.size) = some 1 := by kernel_rfl
theorem r9callable61 : Callable Try.prog 61 := ⟨_, Try.func61, by kernel_rfl, by kernel_rfl⟩
set_option maxRecDepth 100000 in
set_option maxHeartbeats 2000000 in
theorem refSave (B : Base) (H : List Res) (w : World) (l : List UInt8) (i : Nat) (h64 : 64 ≤ l.length) (hi2 : i < 2) (hmx : l.length ≤ 1000000000) (hv : Inv B H w) :
    Calls Try.prog 52 #[.string ⟨l.toArray⟩, .int .i64 (i : Int)] w (SavePost B H l i) := by
  have hn4 := num4 l 17
  have hs4 := num4 l 21
  have hg8 := num8 l 1
  have ht8 := num8 l 9
  refine (callsIn_wide (n := 5)).1 ?_
  refine callsIn_of_wp Try.func52 rfl trivial ?_
  simp only [Try.ntmps52, List.size_toArray, List.length_cons, List.length_nil, Nat.reduceAdd, Nat.reduceSub, Array.replicate_succ, Array.replicate_zero, List.push_toArray, List.append_toArray, List.nil_append, List.cons_append]
  refine wpIn_seq_k (fun K1 hK1 => ?_)
  refine wpIn_region_lit ?_
  refine sl_alloc (fun _ => trivial) (wn rfl) rfl hv r9al55 (fun b2 w3 hv => ?_)
  refine wpi_exG (v := .int .i64 0) (fun _ => trivial) (wn rfl) rfl (ex_assign rfl rfl) ?_
  refine wpi_exG (v := .bool false) (fun _ => trivial) (wn rfl) rfl (ex_assign rfl rfl) ?_
  refine wpListIn_nil ?_
  simp only [Act.put, List.setIfInBounds_toArray, List.set_cons_succ, List.set_cons_zero]
  refine then_normal (hK1 _ _ ?_)
  clear hK1 K1
  refine wpIn_seq_k (fun K4 hK4 => ?_)
  refine wpIn_region_lit ?_
  refine wpi_exG (v := .string ⟨l.toArray⟩) (fun _ => trivial) (wn rfl) rfl (ex_move rfl rfl) ?_
  refine wpi_exG (v := .string ⟨(piece l 1 8).toArray⟩) (fun _ => trivial) (wn rfl) rfl (ex_slice (lo' := some (.int .i64 1)) (hi' := some (.int .i64 9)) rfl rfl rfl rfl rfl (run_ss Try.underlying9 (i := 1) (j := 9) (by omega) (by omega) _)) ?_
  refine wpi_callG r9callable60 (fun _ => trivial) wideC rfl (wn rfl) rfl (args := #[.string ⟨(piece l 1 8).toArray⟩]) (by simp only [List.map_toArray, List.map_cons, List.map_nil]; rfl) ((refNumber _ _ _ (piece l 1 8) (by rw [piece_length (by omega)]; omega) hv).mono ?_)
  rintro e w5 ⟨gv, rfl, hgv, hv⟩
  refine ⟨_, rfl, ?_⟩
  simp only [Act.put, List.setIfInBounds_toArray, List.set_cons_succ, List.set_cons_zero]
  refine wpi_exG (v := .int .i64 gv) (fun _ => trivial) (wn rfl) rfl (ex_assign rfl rfl) ?_
  refine wpListIn_nil ?_
  simp only [Act.put, List.setIfInBounds_toArray, List.set_cons_succ, List.set_cons_zero]
  refine then_normal (hK4 _ _ ?_)
  clear hK4 K4
  refine wpIn_seq_k (fun K6 hK6 => ?_)
  refine wpIn_region_lit ?_
  refine wpi_exG (v := .string ⟨l.toArray⟩) (fun _ => trivial) (wn rfl) rfl (ex_move rfl rfl) ?_
  refine wpi_exG (v := .string ⟨(piece l 9 8).toArray⟩) (fun _ => trivial) (wn rfl) rfl (ex_slice (lo' := some (.int .i64 9)) (hi' := some (.int .i64 17)) rfl rfl rfl rfl rfl (run_ss Try.underlying9 (i := 9) (j := 17) (by omega) (by omega) _)) ?_
  refine wpi_callG r9callable60 (fun _ => trivial) wideC rfl (wn rfl) rfl (args := #[.string ⟨(piece l 9 8).toArray⟩]) (by simp only [List.map_toArray, List.map_cons, List.map_nil]; rfl) ((refNumber _ _ _ (piece l 9 8) (by rw [piece_length (by omega)]; omega) hv).mono ?_)
  rintro e w7 ⟨sv, rfl, hsv, hv⟩
  refine ⟨_, rfl, ?_⟩
  simp only [Act.put, List.setIfInBounds_toArray, List.set_cons_succ, List.set_cons_zero]
  refine wpi_exG (v := .agg #[.int .i64 sv, .slice none 0 0]) (fun _ => trivial) (wn rfl) rfl (ex_buildN (vs := #[(0, .int .i64 sv)]) rfl (by simp only [List.map_toArray, List.map_cons, List.map_nil]; rfl) (by kernel_rfl)) ?_
  refine sl_alloc (fun _ => trivial) (wn rfl) rfl hv r9al55 (fun b8 w9 hv => ?_)
  refine sl_storeNAt 0 (new := [.int .i64 sv, .slice none 0 0]) (pre := []) (mid := [.int .i64 0, .slice none 0 0]) (post := []) (L' := [.int .i64 sv, .slice none 0 0]) (fun _ => trivial) (wn rfl) rfl rfl rfl hv rfl r9sz55 rfl rfl rfl (one_cons rfl (one_cons rfl one_nil)) rfl (fun w10 hv => ?_)
  simp only [List.set_cons_succ, List.set_cons_zero] at hv
  refine wpListIn_nil ?_
  simp only [Act.put, List.setIfInBounds_toArray, List.set_cons_succ, List.set_cons_zero]
  refine then_normal (hK6 _ _ ?_)
  clear hK6 K6
  refine wpIn_seq_k (fun K11 hK11 => ?_)
  refine wpIn_region_lit ?_
  refine wpi_exG (v := .string ⟨l.toArray⟩) (fun _ => trivial) (wn rfl) rfl (ex_move rfl rfl) ?_
  refine wpi_exG (v := .string ⟨(piece l 17 4).toArray⟩) (fun _ => trivial) (wn rfl) rfl (ex_slice (lo' := some (.int .i64 17)) (hi' := some (.int .i64 21)) rfl rfl rfl rfl rfl (run_ss Try.underlying9 (i := 17) (j := 21) (by omega) (by omega) _)) ?_
  refine wpi_callG r9callable60 (fun _ => trivial) wideC rfl (wn rfl) rfl (args := #[.string ⟨(piece l 17 4).toArray⟩]) (by simp only [List.map_toArray, List.map_cons, List.map_nil]; rfl) ((refNumber _ _ _ (piece l 17 4) (by rw [piece_length (by omega)]; omega) hv).mono ?_)
  rintro e w12 ⟨nv, rfl, hnv, hv⟩
  refine ⟨_, rfl, ?_⟩
  obtain rfl : nv = ((numOf (piece l 17 4) : Nat) : Int) := by omega
  simp only [Act.put, List.setIfInBounds_toArray, List.set_cons_succ, List.set_cons_zero]
  refine wpi_exG (v := .int .i64 (numOf (piece l 17 4) : Int)) (fun _ => trivial) (wn rfl) rfl (ex_assign rfl rfl) ?_
  refine wpListIn_nil ?_
  simp only [Act.put, List.setIfInBounds_toArray, List.set_cons_succ, List.set_cons_zero]
  refine then_normal (hK11 _ _ ?_)
  clear hK11 K11
  refine wpIn_seq_k (fun K13 hK13 => ?_)
  refine wpIn_seq_k (fun K14 hK14 => ?_)
  refine wpIn_region_lit ?_
  refine wpi_exG (v := .int .i64 gv) (fun _ => trivial) (wn rfl) rfl (ex_move rfl rfl) ?_
  by_cases hb15 : gv < 1
  · refine wpi_exG (v := .bool true) (fun _ => trivial) (wn rfl) rfl (ex_lss (k := .i64) (m := gv) (n := 1) rfl rfl rfl (decide_eq_true hb15)) ?_
    refine wpi_exG (v := .bool true) (fun _ => trivial) (wn rfl) rfl (ex_move rfl rfl) ?_
    simp only [Act.put, List.setIfInBounds_toArray, List.set_cons_succ, List.set_cons_zero]
    refine wpi_not (fun _ => trivial) (wanted_not (j := 2) (d := 22) (b := false) (b' := true) rfl rfl rfl (by decide)) ?_
    refine wpi_not (fun _ => trivial) (wanted_not (j := 2) (d := 22) (b := false) (b' := true) rfl rfl rfl (by decide)) ?_
    refine wpi_not (fun _ => trivial) (wanted_not (j := 2) (d := 22) (b := false) (b' := true) rfl rfl rfl (by decide)) ?_
    simp only [Act.put, List.setIfInBounds_toArray, List.set_cons_succ, List.set_cons_zero]
    refine wpi_not (fun _ => trivial) (wanted_not (j := 2) (d := 22) (b := false) (b' := true) rfl rfl rfl (by decide)) ?_
    refine wpi_exG (v := .bool true) (fun _ => trivial) (wn rfl) rfl (ex_pick (b := true) rfl rfl rfl) ?_
    refine wpi_exG (v := .bool true) (fun _ => trivial) (wn rfl) rfl (ex_move rfl rfl) ?_
    simp only [Act.put, List.setIfInBounds_toArray, List.set_cons_succ, List.set_cons_zero]
    refine wpi_not (fun _ => trivial) (wanted_not (j := 8) (d := 28) (b := false) (b' := true) rfl rfl rfl (by decide)) ?_
    refine wpi_not (fun _ => trivial) (wanted_not (j := 8) (d := 28) (b := false) (b' := true) rfl rfl rfl (by decide)) ?_
    refine wpi_not (fun _ => trivial) (wanted_not (j := 8) (d := 28) (b := false) (b' := true) rfl rfl rfl (by decide)) ?_
    simp only [Act.put, List.setIfInBounds_toArray, List.set_cons_succ, List.set_cons_zero]
    refine wpi_exG (v := .bool true) (fun _ => trivial) (wn rfl) rfl (ex_pick (b := true) rfl rfl rfl) ?_
    refine wpi_exG (v := .bool true) (fun _ => trivial) (wn rfl) rfl (ex_move rfl rfl) ?_
    refine wpi_not (fun _ => trivial) (wanted_not (j := 13) (d := 33) (b := false) (b' := true) rfl rfl rfl (by decide)) ?_
    simp only [Act.put, List.setIfInBounds_toArray, List.set_cons_succ, List.set_cons_zero]
    refine wpi_not (fun _ => trivial) (wanted_not (j := 13) (d := 33) (b := false) (b' := true) rfl rfl rfl (by decide)) ?_
    refine wpi_not (fun _ => trivial) (wanted_not (j := 13) (d := 33) (b := false) (b' := true) rfl rfl rfl (by decide)) ?_
    refine wpi_exG (v := .bool true) (fun _ => trivial) (wn rfl) rfl (ex_pick (b := true) rfl rfl rfl) ?_
    simp only [Act.put, List.setIfInBounds_toArray, List.set_cons_succ, List.set_cons_zero]
    refine wpi_exG (v := .bool true) (fun _ => trivial) (wn rfl) rfl (ex_move rfl rfl) ?_
    refine wpi_not (fun _ => trivial) (wanted_not (j := 18) (d := 38) (b := false) (b' := true) rfl rfl rfl (by decide)) ?_
    refine wpi_not (fun _ => trivial) (wanted_not (j := 18) (d := 38) (b := false) (b' := true) rfl rfl rfl (by decide)) ?_
    simp only [Act.put, List.setIfInBounds_toArray, List.set_cons_succ, List.set_cons_zero]
    refine wpi_exG (v := .bool true) (fun _ => trivial) (wn rfl) rfl (ex_pick (b := true) rfl rfl rfl) ?_
    refine wpi_exG (v := .bool true) (fun _ => trivial) (wn rfl) rfl (ex_move rfl rfl) ?_
    refine wpi_not (fun _ => trivial) (wanted_not (j := 22) (d := 42) (b := false) (b' := true) rfl rfl rfl (by decide)) ?_
    simp only [Act.put, List.setIfInBounds_toArray, List.set_cons_succ, List.set_cons_zero]
    refine wpi_not (fun _ => trivial) (wanted_not (j := 22) (d := 42) (b := false) (b' := true) rfl rfl rfl (by decide)) ?_
    refine wpi_not (fun _ => trivial) (wanted_not (j := 22) (d := 42) (b := false) (b' := true) rfl rfl rfl (by decide)) ?_
    refine wpi_not (fun _ => trivial) (wanted_not (j := 22) (d := 42) (b := false) (b' := true) rfl rfl rfl (by decide)) ?_
    simp only [Act.put, List.setIfInBounds_toArray, List.set_cons_succ, List.set_cons_zero]
    refine wpi_not (fun _ => trivial) (wanted_not (j := 22) (d := 42) (b := false) (b' := true) rfl rfl rfl (by decide)) ?_
    refine wpi_exG (v := .bool true) (fun _ => trivial) (wn rfl) rfl (ex_pick (b := true) rfl rfl rfl) ?_
    refine wpListIn_nil ?_
    simp only [Act.put, List.setIfInBounds_toArray, List.set_cons_succ, List.set_cons_zero]
    refine then_normal (hK14 _ _ ?_)
    clear hK14 K14
    refine wpIn_cond_true rfl ?_
    refine wpIn_seq_k (fun K16 hK16 => ?_)
    refine wpIn_region_lit ?_
    refine wpi_exG (v := .agg #[.int .i64 0, .slice none 0 0]) (fun _ => trivial) (wn rfl) rfl (ex_buildN (vs := #[]) rfl (by simp only [List.map_toArray, List.map_nil]) (by kernel_rfl)) ?_
    refine sl_storeNAt 1 (new := [.int .i64 0, .slice none 0 0]) (pre := []) (mid := [.int .i64 0, .slice none 0 0]) (post := []) (L' := [.int .i64 0, .slice none 0 0]) (fun _ => trivial) (wn rfl) rfl rfl rfl hv rfl r9sz55 rfl rfl rfl (one_cons rfl (one_cons rfl one_nil)) rfl (fun w17 hv => ?_)
    simp only [List.set_cons_succ, List.set_cons_zero] at hv
    refine wpi_exG (v := .int .i64 0) (fun _ => trivial) (wn rfl) rfl (ex_assign rfl rfl) ?_
    simp only [Act.put, List.setIfInBounds_toArray, List.set_cons_succ, List.set_cons_zero]
    refine wpi_exG (v := .bool false) (fun _ => trivial) (wn rfl) rfl (ex_assign rfl rfl) ?_
    refine wpListIn_nil ?_
    simp only [Act.put, List.setIfInBounds_toArray, List.set_cons_succ, List.set_cons_zero]
    refine then_normal (hK16 _ _ ?_)
    clear hK16 K16
    refine wpIn_ret ?_
    refine then_ret ?_
    clear hK13 K13
    refine bodyPost_ret (res_cell3 rfl rfl (run_load_mid (pre := []) (mid := [.int .i64 0, .slice none 0 0]) (post := []) r9wd55 (show Blk _ b2 ([] ++ [.int .i64 0, .slice none 0 0] ++ []) _ from hv.get 1 rfl) rfl)) rfl ?_
    exact .inl ⟨(fun h9 => by
      have h1 := h9.g1; have h2 := h9.g2; have h3 := h9.turn; have h4 := h9.stamp; have h5 := h9.n1; have h6 := h9.n2
      unfold ckG at h1 h2 h3; unfold ckT at h4; unfold ckN at h5 h6
      omega), rfl, hv.tail 2⟩
  · have htm : gv.tmod 2 = gv % 2 := Int.tmod_eq_emod_of_nonneg (by omega)
    refine wpi_exG (v := .bool false) (fun _ => trivial) (wn rfl) rfl (ex_lss (k := .i64) (m := gv) (n := 1) rfl rfl rfl (decide_eq_false hb15)) ?_
    refine wpi_exG (v := .bool false) (fun _ => trivial) (wn rfl) rfl (ex_move rfl rfl) ?_
    simp only [Act.put, List.setIfInBounds_toArray, List.set_cons_succ, List.set_cons_zero]
    refine wpi_exG (v := .int .i64 gv) (fun _ => trivial) (wanted_of (j := 2) (d := 22) (b := false) rfl rfl rfl) rfl (ex_move rfl rfl) ?_
    refine wpi_exG (v := .int .i64 (gv.tmod 2)) (fun _ => trivial) (wanted_of (j := 2) (d := 22) (b := false) rfl rfl rfl) rfl (ex_rem (m := gv) (n := 2) rfl rfl rfl (by decide) rfl) ?_
    refine wpi_exG (v := .int .i64 (i : Int)) (fun _ => trivial) (wanted_of (j := 2) (d := 22) (b := false) rfl rfl rfl) rfl (ex_move rfl rfl) ?_
    simp only [Act.put, List.setIfInBounds_toArray, List.set_cons_succ, List.set_cons_zero]
    by_cases hb18 : (gv.tmod 2) ≠ (i : Int)
    · refine wpi_exG (v := .bool true) (fun _ => trivial) (wanted_of (j := 2) (d := 22) (b := false) rfl rfl rfl) rfl (ex_neq (k := .i64) (m := (gv.tmod 2)) (n := (i : Int)) rfl rfl rfl (decide_eq_true hb18)) ?_
      refine wpi_exG (v := .bool true) (fun _ => trivial) (wn rfl) rfl (ex_pick (b := false) rfl rfl rfl) ?_
      refine wpi_exG (v := .bool true) (fun _ => trivial) (wn rfl) rfl (ex_move rfl rfl) ?_
      simp only [Act.put, List.setIfInBounds_toArray, List.set_cons_succ, List.set_cons_zero]
      refine wpi_not (fun _ => trivial) (wanted_not (j := 8) (d := 28) (b := false) (b' := true) rfl rfl rfl (by decide)) ?_
      refine wpi_not (fun _ => trivial) (wanted_not (j := 8) (d := 28) (b := false) (b' := true) rfl rfl rfl (by decide)) ?_
      refine wpi_not (fun _ => trivial) (wanted_not (j := 8) (d := 28) (b := false) (b' := true) rfl rfl rfl (by decide)) ?_
      simp only [Act.put, List.setIfInBounds_toArray, List.set_cons_succ, List.set_cons_zero]
      refine wpi_exG (v := .bool true) (fun _ => trivial) (wn rfl) rfl (ex_pick (b := true) rfl rfl rfl) ?_
      refine wpi_exG (v := .bool true) (fun _ => trivial) (wn rfl) rfl (ex_move rfl rfl) ?_
      refine wpi_not (fun _ => trivial) (wanted_not (j := 13) (d := 33) (b := false) (b' := true) rfl rfl rfl (by decide)) ?_
      simp only [Act.put, List.setIfInBounds_toArray, List.set_cons_succ, List.set_cons_zero]
      refine wpi_not (fun _ => trivial) (wanted_not (j := 13) (d := 33) (b := false) (b' := true) rfl rfl rfl (by decide)) ?_
      refine wpi_not (fun _ => trivial) (wanted_not (j := 13) (d := 33) (b := false) (b' := true) rfl rfl rfl (by decide)) ?_
      refine wpi_exG (v := .bool true) (fun _ => trivial) (wn rfl) rfl (ex_pick (b := true) rfl rfl rfl) ?_
      simp only [Act.put, List.setIfInBounds_toArray, List.set_cons_succ, List.set_cons_zero]
      refine wpi_exG (v := .bool true) (fun _ => trivial) (wn rfl) rfl (ex_move rfl rfl) ?_
      refine wpi_not (fun _ => trivial) (wanted_not (j := 18) (d := 38) (b := false) (b' := true) rfl rfl rfl (by decide)) ?_
      refine wpi_not (fun _ => trivial) (wanted_not (j := 18) (d := 38) (b := false) (b' := true) rfl rfl rfl (by decide)) ?_
      simp only [Act.put, List.setIfInBounds_toArray, List.set_cons_succ, List.set_cons_zero]
      refine wpi_exG (v := .bool true) (fun _ => trivial) (wn rfl) rfl (ex_pick (b := true) rfl rfl rfl) ?_
      refine wpi_exG (v := .bool true) (fun _ => trivial) (wn rfl) rfl (ex_move rfl rfl) ?_
      refine wpi_not (fun _ => trivial) (wanted_not (j := 22) (d := 42) (b := false) (b' := true) rfl rfl rfl (by decide)) ?_
      simp only [Act.put, List.setIfInBounds_toArray, List.set_cons_succ, List.set_cons_zero]
      refine wpi_not (fun _ => trivial) (wanted_not (j := 22) (d := 42) (b := false) (b' := true) rfl rfl rfl (by decide)) ?_
      refine wpi_not (fun _ => trivial) (wanted_not (j := 22) (d := 42) (b := false) (b' := true) rfl rfl rfl (by decide)) ?_
      refine wpi_not (fun _ => trivial) (wanted_not (j := 22) (d := 42) (b := false) (b' := true) rfl rfl rfl (by decide)) ?_
      simp only [Act.put, List.setIfInBounds_toArray, List.set_cons_succ, List.set_cons_zero]
      refine wpi_not (fun _ => trivial) (wanted_not (j := 22) (d := 42) (b := false) (b' := true) rfl rfl rfl (by decide)) ?_
      refine wpi_exG (v := .bool true) (fun _ => trivial) (wn rfl) rfl (ex_pick (b := true) rfl rfl rfl) ?_
      refine wpListIn_nil ?_
      simp only [Act.put, List.setIfInBounds_toArray, List.set_cons_succ, List.set_cons_zero]
      refine then_normal (hK14 _ _ ?_)
      clear hK14 K14
      refine wpIn_cond_true rfl ?_
      refine wpIn_seq_k (fun K19 hK19 => ?_)
      refine wpIn_region_lit ?_
      refine wpi_exG (v := .agg #[.int .i64 0, .slice none 0 0]) (fun _ => trivial) (wn rfl) rfl (ex_buildN (vs := #[]) rfl (by simp only [List.map_toArray, List.map_nil]) (by kernel_rfl)) ?_
      refine sl_storeNAt 1 (new := [.int .i64 0, .slice none 0 0]) (pre := []) (mid := [.int .i64 0, .slice none 0 0]) (post := []) (L' := [.int .i64 0, .slice none 0 0]) (fun _ => trivial) (wn rfl) rfl rfl rfl hv rfl r9sz55 rfl rfl rfl (one_cons rfl (one_cons rfl one_nil)) rfl (fun w20 hv => ?_)
      simp only [List.set_cons_succ, List.set_cons_zero] at hv
      refine wpi_exG (v := .int .i64 0) (fun _ => trivial) (wn rfl) rfl (ex_assign rfl rfl) ?_
      simp only [Act.put, List.setIfInBounds_toArray, List.set_cons_succ, List.set_cons_zero]
      refine wpi_exG (v := .bool false) (fun _ => trivial) (wn rfl) rfl (ex_assign rfl rfl) ?_
      refine wpListIn_nil ?_
      simp only [Act.put, List.setIfInBounds_toArray, List.set_cons_succ, List.set_cons_zero]
      refine then_normal (hK19 _ _ ?_)
      clear hK19 K19
      refine wpIn_ret ?_
      refine then_ret ?_
      clear hK13 K13
      refine bodyPost_ret (res_cell3 rfl rfl (run_load_mid (pre := []) (mid := [.int .i64 0, .slice none 0 0]) (post := []) r9wd55 (show Blk _ b2 ([] ++ [.int .i64 0, .slice none 0 0] ++ []) _ from hv.get 1 rfl) rfl)) rfl ?_
      exact .inl ⟨(fun h9 => by
        have h1 := h9.g1; have h2 := h9.g2; have h3 := h9.turn; have h4 := h9.stamp; have h5 := h9.n1; have h6 := h9.n2
        unfold ckG at h1 h2 h3; unfold ckT at h4; unfold ckN at h5 h6
        omega), rfl, hv.tail 2⟩
    · refine wpi_exG (v := .bool false) (fun _ => trivial) (wanted_of (j := 2) (d := 22) (b := false) rfl rfl rfl) rfl (ex_neq (k := .i64) (m := (gv.tmod 2)) (n := (i : Int)) rfl rfl rfl (decide_eq_false hb18)) ?_
      refine wpi_exG (v := .bool false) (fun _ => trivial) (wn rfl) rfl (ex_pick (b := false) rfl rfl rfl) ?_
      refine wpi_exG (v := .bool false) (fun _ => trivial) (wn rfl) rfl (ex_move rfl rfl) ?_
      simp only [Act.put, List.setIfInBounds_toArray, List.set_cons_succ, List.set_cons_zero]
      refine wpi_exG (v := .pointer (some ⟨b8, 0, none⟩)) (fun _ => trivial) (wanted_of (j := 8) (d := 28) (b := false) rfl rfl rfl) rfl (ex_field rfl rfl (r9fa55_0 _ _ _)) ?_
      refine wpi_exG (v := .int .i64 sv) (fun _ => trivial) (wanted_of (j := 8) (d := 28) (b := false) rfl rfl rfl) rfl (ex_load rfl rfl (run_load1 r9na3 (hv.load 0 0 rfl rfl))) ?_
      by_cases hb21 : sv < 0
      · refine wpi_exG (v := .bool true) (fun _ => trivial) (wanted_of (j := 8) (d := 28) (b := false) rfl rfl rfl) rfl (ex_lss (k := .i64) (m := sv) (n := 0) rfl rfl rfl (decide_eq_true hb21)) ?_
        simp only [Act.put, List.setIfInBounds_toArray, List.set_cons_succ, List.set_cons_zero]
        refine wpi_exG (v := .bool true) (fun _ => trivial) (wn rfl) rfl (ex_pick (b := false) rfl rfl rfl) ?_
        refine wpi_exG (v := .bool true) (fun _ => trivial) (wn rfl) rfl (ex_move rfl rfl) ?_
        refine wpi_not (fun _ => trivial) (wanted_not (j := 13) (d := 33) (b := false) (b' := true) rfl rfl rfl (by decide)) ?_
        simp only [Act.put, List.setIfInBounds_toArray, List.set_cons_succ, List.set_cons_zero]
        refine wpi_not (fun _ => trivial) (wanted_not (j := 13) (d := 33) (b := false) (b' := true) rfl rfl rfl (by decide)) ?_
        refine wpi_not (fun _ => trivial) (wanted_not (j := 13) (d := 33) (b := false) (b' := true) rfl rfl rfl (by decide)) ?_
        refine wpi_exG (v := .bool true) (fun _ => trivial) (wn rfl) rfl (ex_pick (b := true) rfl rfl rfl) ?_
        simp only [Act.put, List.setIfInBounds_toArray, List.set_cons_succ, List.set_cons_zero]
        refine wpi_exG (v := .bool true) (fun _ => trivial) (wn rfl) rfl (ex_move rfl rfl) ?_
        refine wpi_not (fun _ => trivial) (wanted_not (j := 18) (d := 38) (b := false) (b' := true) rfl rfl rfl (by decide)) ?_
        refine wpi_not (fun _ => trivial) (wanted_not (j := 18) (d := 38) (b := false) (b' := true) rfl rfl rfl (by decide)) ?_
        simp only [Act.put, List.setIfInBounds_toArray, List.set_cons_succ, List.set_cons_zero]
        refine wpi_exG (v := .bool true) (fun _ => trivial) (wn rfl) rfl (ex_pick (b := true) rfl rfl rfl) ?_
        refine wpi_exG (v := .bool true) (fun _ => trivial) (wn rfl) rfl (ex_move rfl rfl) ?_
        refine wpi_not (fun _ => trivial) (wanted_not (j := 22) (d := 42) (b := false) (b' := true) rfl rfl rfl (by decide)) ?_
        simp only [Act.put, List.setIfInBounds_toArray, List.set_cons_succ, List.set_cons_zero]
        refine wpi_not (fun _ => trivial) (wanted_not (j := 22) (d := 42) (b := false) (b' := true) rfl rfl rfl (by decide)) ?_
        refine wpi_not (fun _ => trivial) (wanted_not (j := 22) (d := 42) (b := false) (b' := true) rfl rfl rfl (by decide)) ?_
        refine wpi_not (fun _ => trivial) (wanted_not (j := 22) (d := 42) (b := false) (b' := true) rfl rfl rfl (by decide)) ?_
        simp only [Act.put, List.setIfInBounds_toArray, List.set_cons_succ, List.set_cons_zero]
        refine wpi_not (fun _ => trivial) (wanted_not (j := 22) (d := 42) (b := false) (b' := true) rfl rfl rfl (by decide)) ?_
        refine wpi_exG (v := .bool true) (fun _ => trivial) (wn rfl) rfl (ex_pick (b := true) rfl rfl rfl) ?_
        refine wpListIn_nil ?_
        simp only [Act.put, List.setIfInBounds_toArray, List.set_cons_succ, List.set_cons_zero]
        refine then_normal (hK14 _ _ ?_)
        clear hK14 K14
        refine wpIn_cond_true rfl ?_
        refine wpIn_seq_k (fun K22 hK22 => ?_)
        refine wpIn_region_lit ?_
        refine wpi_exG (v := .agg #[.int .i64 0, .slice none 0 0]) (fun _ => trivial) (wn rfl) rfl (ex_buildN (vs := #[]) rfl (by simp only [List.map_toArray, List.map_nil]) (by kernel_rfl)) ?_
        refine sl_storeNAt 1 (new := [.int .i64 0, .slice none 0 0]) (pre := []) (mid := [.int .i64 0, .slice none 0 0]) (post := []) (L' := [.int .i64 0, .slice none 0 0]) (fun _ => trivial) (wn rfl) rfl rfl rfl hv rfl r9sz55 rfl rfl rfl (one_cons rfl (one_cons rfl one_nil)) rfl (fun w23 hv => ?_)
        simp only [List.set_cons_succ, List.set_cons_zero] at hv
        refine wpi_exG (v := .int .i64 0) (fun _ => trivial) (wn rfl) rfl (ex_assign rfl rfl) ?_
        simp only [Act.put, List.setIfInBounds_toArray, List.set_cons_succ, List.set_cons_zero]
        refine wpi_exG (v := .bool false) (fun _ => trivial) (wn rfl) rfl (ex_assign rfl rfl) ?_
        refine wpListIn_nil ?_
        simp only [Act.put, List.setIfInBounds_toArray, List.set_cons_succ, List.set_cons_zero]
        refine then_normal (hK22 _ _ ?_)
        clear hK22 K22
        refine wpIn_ret ?_
        refine then_ret ?_
        clear hK13 K13
        refine bodyPost_ret (res_cell3 rfl rfl (run_load_mid (pre := []) (mid := [.int .i64 0, .slice none 0 0]) (post := []) r9wd55 (show Blk _ b2 ([] ++ [.int .i64 0, .slice none 0 0] ++ []) _ from hv.get 1 rfl) rfl)) rfl ?_
        exact .inl ⟨(fun h9 => by
          have h1 := h9.g1; have h2 := h9.g2; have h3 := h9.turn; have h4 := h9.stamp; have h5 := h9.n1; have h6 := h9.n2
          unfold ckG at h1 h2 h3; unfold ckT at h4; unfold ckN at h5 h6
          omega), rfl, hv.tail 2⟩
      · refine wpi_exG (v := .bool false) (fun _ => trivial) (wanted_of (j := 8) (d := 28) (b := false) rfl rfl rfl) rfl (ex_lss (k := .i64) (m := sv) (n := 0) rfl rfl rfl (decide_eq_false hb21)) ?_
        simp only [Act.put, List.setIfInBounds_toArray, List.set_cons_succ, List.set_cons_zero]
        refine wpi_exG (v := .bool false) (fun _ => trivial) (wn rfl) rfl (ex_pick (b := false) rfl rfl rfl) ?_
        refine wpi_exG (v := .bool false) (fun _ => trivial) (wn rfl) rfl (ex_move rfl rfl) ?_
        refine wpi_exG (v := .pointer (some ⟨b8, 0, none⟩)) (fun _ => trivial) (wanted_of (j := 13) (d := 33) (b := false) rfl rfl rfl) rfl (ex_field rfl rfl (r9fa55_0 _ _ _)) ?_
        simp only [Act.put, List.setIfInBounds_toArray, List.set_cons_succ, List.set_cons_zero]
        refine wpi_exG (v := .int .i64 sv) (fun _ => trivial) (wanted_of (j := 13) (d := 33) (b := false) rfl rfl rfl) rfl (ex_load rfl rfl (run_load1 r9na3 (hv.load 0 0 rfl rfl))) ?_
        by_cases hb24 : sv > 1152921504606846975
        · refine wpi_exG (v := .bool true) (fun _ => trivial) (wanted_of (j := 13) (d := 33) (b := false) rfl rfl rfl) rfl (ex_gtr (k := .i64) (m := sv) (n := 1152921504606846975) rfl rfl rfl (decide_eq_true hb24)) ?_
          refine wpi_exG (v := .bool true) (fun _ => trivial) (wn rfl) rfl (ex_pick (b := false) rfl rfl rfl) ?_
          simp only [Act.put, List.setIfInBounds_toArray, List.set_cons_succ, List.set_cons_zero]
          refine wpi_exG (v := .bool true) (fun _ => trivial) (wn rfl) rfl (ex_move rfl rfl) ?_
          refine wpi_not (fun _ => trivial) (wanted_not (j := 18) (d := 38) (b := false) (b' := true) rfl rfl rfl (by decide)) ?_
          refine wpi_not (fun _ => trivial) (wanted_not (j := 18) (d := 38) (b := false) (b' := true) rfl rfl rfl (by decide)) ?_
          simp only [Act.put, List.setIfInBounds_toArray, List.set_cons_succ, List.set_cons_zero]
          refine wpi_exG (v := .bool true) (fun _ => trivial) (wn rfl) rfl (ex_pick (b := true) rfl rfl rfl) ?_
          refine wpi_exG (v := .bool true) (fun _ => trivial) (wn rfl) rfl (ex_move rfl rfl) ?_
          refine wpi_not (fun _ => trivial) (wanted_not (j := 22) (d := 42) (b := false) (b' := true) rfl rfl rfl (by decide)) ?_
          simp only [Act.put, List.setIfInBounds_toArray, List.set_cons_succ, List.set_cons_zero]
          refine wpi_not (fun _ => trivial) (wanted_not (j := 22) (d := 42) (b := false) (b' := true) rfl rfl rfl (by decide)) ?_
          refine wpi_not (fun _ => trivial) (wanted_not (j := 22) (d := 42) (b := false) (b' := true) rfl rfl rfl (by decide)) ?_
          refine wpi_not (fun _ => trivial) (wanted_not (j := 22) (d := 42) (b := false) (b' := true) rfl rfl rfl (by decide)) ?_
          simp only [Act.put, List.setIfInBounds_toArray, List.set_cons_succ, List.set_cons_zero]
          refine wpi_not (fun _ => trivial) (wanted_not (j := 22) (d := 42) (b := false) (b' := true) rfl rfl rfl (by decide)) ?_
          refine wpi_exG (v := .bool true) (fun _ => trivial) (wn rfl) rfl (ex_pick (b := true) rfl rfl rfl) ?_
          refine wpListIn_nil ?_
          simp only [Act.put, List.setIfInBounds_toArray, List.set_cons_succ, List.set_cons_zero]
          refine then_normal (hK14 _ _ ?_)
          clear hK14 K14
          refine wpIn_cond_true rfl ?_
          refine wpIn_seq_k (fun K25 hK25 => ?_)
          refine wpIn_region_lit ?_
          refine wpi_exG (v := .agg #[.int .i64 0, .slice none 0 0]) (fun _ => trivial) (wn rfl) rfl (ex_buildN (vs := #[]) rfl (by simp only [List.map_toArray, List.map_nil]) (by kernel_rfl)) ?_
          refine sl_storeNAt 1 (new := [.int .i64 0, .slice none 0 0]) (pre := []) (mid := [.int .i64 0, .slice none 0 0]) (post := []) (L' := [.int .i64 0, .slice none 0 0]) (fun _ => trivial) (wn rfl) rfl rfl rfl hv rfl r9sz55 rfl rfl rfl (one_cons rfl (one_cons rfl one_nil)) rfl (fun w26 hv => ?_)
          simp only [List.set_cons_succ, List.set_cons_zero] at hv
          refine wpi_exG (v := .int .i64 0) (fun _ => trivial) (wn rfl) rfl (ex_assign rfl rfl) ?_
          simp only [Act.put, List.setIfInBounds_toArray, List.set_cons_succ, List.set_cons_zero]
          refine wpi_exG (v := .bool false) (fun _ => trivial) (wn rfl) rfl (ex_assign rfl rfl) ?_
          refine wpListIn_nil ?_
          simp only [Act.put, List.setIfInBounds_toArray, List.set_cons_succ, List.set_cons_zero]
          refine then_normal (hK25 _ _ ?_)
          clear hK25 K25
          refine wpIn_ret ?_
          refine then_ret ?_
          clear hK13 K13
          refine bodyPost_ret (res_cell3 rfl rfl (run_load_mid (pre := []) (mid := [.int .i64 0, .slice none 0 0]) (post := []) r9wd55 (show Blk _ b2 ([] ++ [.int .i64 0, .slice none 0 0] ++ []) _ from hv.get 1 rfl) rfl)) rfl ?_
          exact .inl ⟨(fun h9 => by
            have h1 := h9.g1; have h2 := h9.g2; have h3 := h9.turn; have h4 := h9.stamp; have h5 := h9.n1; have h6 := h9.n2
            unfold ckG at h1 h2 h3; unfold ckT at h4; unfold ckN at h5 h6
            omega), rfl, hv.tail 2⟩
        · refine wpi_exG (v := .bool false) (fun _ => trivial) (wanted_of (j := 13) (d := 33) (b := false) rfl rfl rfl) rfl (ex_gtr (k := .i64) (m := sv) (n := 1152921504606846975) rfl rfl rfl (decide_eq_false hb24)) ?_
          refine wpi_exG (v := .bool false) (fun _ => trivial) (wn rfl) rfl (ex_pick (b := false) rfl rfl rfl) ?_
          simp only [Act.put, List.setIfInBounds_toArray, List.set_cons_succ, List.set_cons_zero]
          refine wpi_exG (v := .bool false) (fun _ => trivial) (wn rfl) rfl (ex_move rfl rfl) ?_
          refine wpi_exG (v := .int .i64 (numOf (piece l 17 4) : Int)) (fun _ => trivial) (wanted_of (j := 18) (d := 38) (b := false) rfl rfl rfl) rfl (ex_move rfl rfl) ?_
          by_cases hb27 : (numOf (piece l 17 4) : Int) > 1048576
          · refine wpi_exG (v := .bool true) (fun _ => trivial) (wanted_of (j := 18) (d := 38) (b := false) rfl rfl rfl) rfl (ex_gtr (k := .i64) (m := (numOf (piece l 17 4) : Int)) (n := 1048576) rfl rfl rfl (decide_eq_true hb27)) ?_
            simp only [Act.put, List.setIfInBounds_toArray, List.set_cons_succ, List.set_cons_zero]
            refine wpi_exG (v := .bool true) (fun _ => trivial) (wn rfl) rfl (ex_pick (b := false) rfl rfl rfl) ?_
            refine wpi_exG (v := .bool true) (fun _ => trivial) (wn rfl) rfl (ex_move rfl rfl) ?_
            refine wpi_not (fun _ => trivial) (wanted_not (j := 22) (d := 42) (b := false) (b' := true) rfl rfl rfl (by decide)) ?_
            simp only [Act.put, List.setIfInBounds_toArray, List.set_cons_succ, List.set_cons_zero]
            refine wpi_not (fun _ => trivial) (wanted_not (j := 22) (d := 42) (b := false) (b' := true) rfl rfl rfl (by decide)) ?_
            refine wpi_not (fun _ => trivial) (wanted_not (j := 22) (d := 42) (b := false) (b' := true) rfl rfl rfl (by decide)) ?_
            refine wpi_not (fun _ => trivial) (wanted_not (j := 22) (d := 42) (b := false) (b' := true) rfl rfl rfl (by decide)) ?_
            simp only [Act.put, List.setIfInBounds_toArray, List.set_cons_succ, List.set_cons_zero]
            refine wpi_not (fun _ => trivial) (wanted_not (j := 22) (d := 42) (b := false) (b' := true) rfl rfl rfl (by decide)) ?_
            refine wpi_exG (v := .bool true) (fun _ => trivial) (wn rfl) rfl (ex_pick (b := true) rfl rfl rfl) ?_
            refine wpListIn_nil ?_
            simp only [Act.put, List.setIfInBounds_toArray, List.set_cons_succ, List.set_cons_zero]
            refine then_normal (hK14 _ _ ?_)
            clear hK14 K14
            refine wpIn_cond_true rfl ?_
            refine wpIn_seq_k (fun K28 hK28 => ?_)
            refine wpIn_region_lit ?_
            refine wpi_exG (v := .agg #[.int .i64 0, .slice none 0 0]) (fun _ => trivial) (wn rfl) rfl (ex_buildN (vs := #[]) rfl (by simp only [List.map_toArray, List.map_nil]) (by kernel_rfl)) ?_
            refine sl_storeNAt 1 (new := [.int .i64 0, .slice none 0 0]) (pre := []) (mid := [.int .i64 0, .slice none 0 0]) (post := []) (L' := [.int .i64 0, .slice none 0 0]) (fun _ => trivial) (wn rfl) rfl rfl rfl hv rfl r9sz55 rfl rfl rfl (one_cons rfl (one_cons rfl one_nil)) rfl (fun w29 hv => ?_)
            simp only [List.set_cons_succ, List.set_cons_zero] at hv
            refine wpi_exG (v := .int .i64 0) (fun _ => trivial) (wn rfl) rfl (ex_assign rfl rfl) ?_
            simp only [Act.put, List.setIfInBounds_toArray, List.set_cons_succ, List.set_cons_zero]
            refine wpi_exG (v := .bool false) (fun _ => trivial) (wn rfl) rfl (ex_assign rfl rfl) ?_
            refine wpListIn_nil ?_
            simp only [Act.put, List.setIfInBounds_toArray, List.set_cons_succ, List.set_cons_zero]
            refine then_normal (hK28 _ _ ?_)
            clear hK28 K28
            refine wpIn_ret ?_
            refine then_ret ?_
            clear hK13 K13
            refine bodyPost_ret (res_cell3 rfl rfl (run_load_mid (pre := []) (mid := [.int .i64 0, .slice none 0 0]) (post := []) r9wd55 (show Blk _ b2 ([] ++ [.int .i64 0, .slice none 0 0] ++ []) _ from hv.get 1 rfl) rfl)) rfl ?_
            exact .inl ⟨(fun h9 => by
              have h1 := h9.g1; have h2 := h9.g2; have h3 := h9.turn; have h4 := h9.stamp; have h5 := h9.n1; have h6 := h9.n2
              unfold ckG at h1 h2 h3; unfold ckT at h4; unfold ckN at h5 h6
              omega), rfl, hv.tail 2⟩
          · refine wpi_exG (v := .bool false) (fun _ => trivial) (wanted_of (j := 18) (d := 38) (b := false) rfl rfl rfl) rfl (ex_gtr (k := .i64) (m := (numOf (piece l 17 4) : Int)) (n := 1048576) rfl rfl rfl (decide_eq_false hb27)) ?_
            simp only [Act.put, List.setIfInBounds_toArray, List.set_cons_succ, List.set_cons_zero]
            refine wpi_exG (v := .bool false) (fun _ => trivial) (wn rfl) rfl (ex_pick (b := false) rfl rfl rfl) ?_
            refine wpi_exG (v := .bool false) (fun _ => trivial) (wn rfl) rfl (ex_move rfl rfl) ?_
            refine wpi_exG (v := .int .i64 (numOf (piece l 17 4) : Int)) (fun _ => trivial) (wanted_of (j := 22) (d := 42) (b := false) rfl rfl rfl) rfl (ex_move rfl rfl) ?_
            simp only [Act.put, List.setIfInBounds_toArray, List.set_cons_succ, List.set_cons_zero]
            refine wpi_exG (v := .string ⟨l.toArray⟩) (fun _ => trivial) (wanted_of (j := 22) (d := 42) (b := false) rfl rfl rfl) rfl (ex_move rfl rfl) ?_
            refine wpi_exG (v := .int .i64 (l.length : Int)) (fun _ => trivial) (wanted_of (j := 22) (d := 42) (b := false) rfl rfl rfl) rfl (ex_lenStr Try.underlying9 rfl rfl) ?_
            refine wpi_exG (v := .int .i64 ((l.length : Int) - 64)) (fun _ => trivial) (wanted_of (j := 22) (d := 42) (b := false) rfl rfl rfl) rfl (ex_sub (m := (l.length : Int)) (n := 64) rfl rfl rfl (i64_in (by omega))) ?_
            simp only [Act.put, List.setIfInBounds_toArray, List.set_cons_succ, List.set_cons_zero]
            by_cases hb30 : (numOf (piece l 17 4) : Int) > ((l.length : Int) - 64)
            · refine wpi_exG (v := .bool true) (fun _ => trivial) (wanted_of (j := 22) (d := 42) (b := false) rfl rfl rfl) rfl (ex_gtr (k := .i64) (m := (numOf (piece l 17 4) : Int)) (n := ((l.length : Int) - 64)) rfl rfl rfl (decide_eq_true hb30)) ?_
              refine wpi_exG (v := .bool true) (fun _ => trivial) (wn rfl) rfl (ex_pick (b := false) rfl rfl rfl) ?_
              refine wpListIn_nil ?_
              simp only [Act.put, List.setIfInBounds_toArray, List.set_cons_succ, List.set_cons_zero]
              refine then_normal (hK14 _ _ ?_)
              clear hK14 K14
              refine wpIn_cond_true rfl ?_
              refine wpIn_seq_k (fun K31 hK31 => ?_)
              refine wpIn_region_lit ?_
              refine wpi_exG (v := .agg #[.int .i64 0, .slice none 0 0]) (fun _ => trivial) (wn rfl) rfl (ex_buildN (vs := #[]) rfl (by simp only [List.map_toArray, List.map_nil]) (by kernel_rfl)) ?_
              refine sl_storeNAt 1 (new := [.int .i64 0, .slice none 0 0]) (pre := []) (mid := [.int .i64 0, .slice none 0 0]) (post := []) (L' := [.int .i64 0, .slice none 0 0]) (fun _ => trivial) (wn rfl) rfl rfl rfl hv rfl r9sz55 rfl rfl rfl (one_cons rfl (one_cons rfl one_nil)) rfl (fun w32 hv => ?_)
              simp only [List.set_cons_succ, List.set_cons_zero] at hv
              refine wpi_exG (v := .int .i64 0) (fun _ => trivial) (wn rfl) rfl (ex_assign rfl rfl) ?_
              simp only [Act.put, List.setIfInBounds_toArray, List.set_cons_succ, List.set_cons_zero]
              refine wpi_exG (v := .bool false) (fun _ => trivial) (wn rfl) rfl (ex_assign rfl rfl) ?_
              refine wpListIn_nil ?_
              simp only [Act.put, List.setIfInBounds_toArray, List.set_cons_succ, List.set_cons_zero]
              refine then_normal (hK31 _ _ ?_)
              clear hK31 K31
              refine wpIn_ret ?_
              refine then_ret ?_
              clear hK13 K13
              refine bodyPost_ret (res_cell3 rfl rfl (run_load_mid (pre := []) (mid := [.int .i64 0, .slice none 0 0]) (post := []) r9wd55 (show Blk _ b2 ([] ++ [.int .i64 0, .slice none 0 0] ++ []) _ from hv.get 1 rfl) rfl)) rfl ?_
              exact .inl ⟨(fun h9 => by
                have h1 := h9.g1; have h2 := h9.g2; have h3 := h9.turn; have h4 := h9.stamp; have h5 := h9.n1; have h6 := h9.n2
                unfold ckG at h1 h2 h3; unfold ckT at h4; unfold ckN at h5 h6
                omega), rfl, hv.tail 2⟩
            · refine wpi_exG (v := .bool false) (fun _ => trivial) (wanted_of (j := 22) (d := 42) (b := false) rfl rfl rfl) rfl (ex_gtr (k := .i64) (m := (numOf (piece l 17 4) : Int)) (n := ((l.length : Int) - 64)) rfl rfl rfl (decide_eq_false hb30)) ?_
              refine wpi_exG (v := .bool false) (fun _ => trivial) (wn rfl) rfl (ex_pick (b := false) rfl rfl rfl) ?_
              refine wpListIn_nil ?_
              simp only [Act.put, List.setIfInBounds_toArray, List.set_cons_succ, List.set_cons_zero]
              refine then_normal (hK14 _ _ ?_)
              clear hK14 K14
              refine wpIn_cond_false rfl ?_
              refine wpIn_skip ?_
              refine then_normal (hK13 _ _ ?_)
              clear hK13 K13
              refine wpIn_seq_k (fun K33 hK33 => ?_)
              obtain rfl : gv = ((numOf (piece l 1 8) : Nat) : Int) := by omega
              obtain rfl : sv = ((numOf (piece l 9 8) : Nat) : Int) := by omega
              have hbl : (ckB l).length = numOf (piece l 17 4) := piece_length (by unfold ckN; omega)
              refine wpIn_region_lit ?_
              refine wpi_exG (v := .string ⟨l.toArray⟩) (fun _ => trivial) (wn rfl) rfl (ex_move rfl rfl) ?_
              refine wpi_exG (v := .int .i64 (numOf (piece l 17 4) : Int)) (fun _ => trivial) (wn rfl) rfl (ex_move rfl rfl) ?_
              refine wpi_exG (v := .int .i64 ((64 + numOf (piece l 17 4) : Nat) : Int)) (fun _ => trivial) (wn rfl) rfl (ex_add (m := 64) (n := (numOf (piece l 17 4) : Int)) rfl rfl rfl (by rw [i64_in (by omega)]; omega)) ?_
              simp only [Act.put, List.setIfInBounds_toArray, List.set_cons_succ, List.set_cons_zero]
              refine wpi_exG (v := .string ⟨(ckB l).toArray⟩) (fun _ => trivial) (wn rfl) rfl (ex_slice (lo' := some (.int .i64 64)) (hi' := some (.int .i64 ((64 + numOf (piece l 17 4) : Nat) : Int))) rfl rfl rfl rfl rfl (run_body Try.underlying9 (by omega) _)) ?_
              refine sl_bytesOf (fun _ => trivial) (wn rfl) rfl rfl Try.underlying9 Try.underlying24 Try.underlying5 (by unfold maxLen; omega) hv (fun C34 w35 b36 c37 hB38 hv hrb hokb => ?_)
              refine wpi_exG (v := .pointer (some ⟨b8, 1, none⟩)) (fun _ => trivial) (wn rfl) rfl (ex_field rfl rfl (r9fa55_1 _ _ _)) ?_
              simp only [Act.put, List.setIfInBounds_toArray, List.set_cons_succ, List.set_cons_zero]
              refine sl_storeAt 0 (v := .slice (some ⟨b36, 0, none⟩) ((ckB l).length) c37) (L' := [.int .i64 (numOf (piece l 9 8) : Int), .slice (some ⟨b36, 0, none⟩) ((ckB l).length) c37]) (fun _ => trivial) (wn rfl) rfl rfl rfl hv rfl r9sz24 (by simp) rfl rfl rfl (fun w39 hv => ?_)
              simp only [List.set_cons_succ, List.set_cons_zero] at hv
              refine wpListIn_nil ?_
              simp only [Act.put, List.setIfInBounds_toArray, List.set_cons_succ, List.set_cons_zero]
              refine then_normal (hK33 _ _ ?_)
              clear hK33 K33
              refine wpIn_seq_k (fun K40 hK40 => ?_)
              refine wpIn_seq_k (fun K41 hK41 => ?_)
              by_cases hb42 : (headOf (numOf (piece l 1 8)) (numOf (piece l 9 8)) (ckB l)) ≠ (l.take 64)
              · refine region_st mixed [.int .i64 (numOf (piece l 1 8) : Int), .agg #[.int .i64 (numOf (piece l 9 8) : Int), .slice (some ⟨b36, 0, none⟩) ((ckB l).length) c37], .string ⟨(headOf (numOf (piece l 1 8)) (numOf (piece l 9 8)) (ckB l)).toArray⟩, .string ⟨l.toArray⟩, .string ⟨(l.take 64).toArray⟩, .bool true] [] [⟨fun vals w => vals = [] ∧ Inv C34 (Res.cell b8 [.int .i64 (numOf (piece l 9 8) : Int), .slice (some ⟨b36, 0, none⟩) ((ckB l).length) c37] 55 :: Res.cell b2 [.int .i64 0, .slice none 0 0] 55 :: H) w, fun _ _ _ ⟨h, hi⟩ he => ⟨h, hi.ext he⟩⟩] 65 rfl (by kernel_rfl) ⟨rfl, hv⟩ ⟨?_, ?_, ?_, ?_, ?_, ?_, trivial⟩ ?_
                · intro aa ww vals hJ hR
                  exact add_step' rfl (Ex.adds' (ex_move rfl (show aa.eval (.tmp 7) = _ from hR.keep 7 rfl)) (wn rfl) rfl)
                · intro aa ww vals hJ hR
                  have hl : vals.length = 0 := by have := JS.le (n := 0) (by rfl) hJ; omega
                  obtain ⟨hvals, hv⟩ := hJ.at0 hl
                  exact add_step' rfl (Ex.adds' (ex_load rfl (show aa.eval (.tmp 8) = _ from hR.keep 8 rfl) (run_load_mid (pre := []) (mid := [.int .i64 (numOf (piece l 9 8) : Int), .slice (some ⟨b36, 0, none⟩) ((ckB l).length) c37]) (post := []) r9wd55 (show Blk _ b8 ([] ++ [.int .i64 (numOf (piece l 9 8) : Int), .slice (some ⟨b36, 0, none⟩) ((ckB l).length) c37] ++ []) _ from hv.get 0 rfl) rfl)) (wn rfl) rfl)
                · intro aa ww vals hJ hR
                  have hl : vals.length = 0 := by have := JS.le (n := 0) (by rfl) hJ; omega
                  obtain ⟨hvals, hv⟩ := hJ.at0 hl
                  exact add_step' rfl (stepOk_calls r9callable61 (wn rfl) rfl (args := #[.int .i64 (numOf (piece l 1 8) : Int), .agg #[.int .i64 (numOf (piece l 9 8) : Int), .slice (some ⟨b36, 0, none⟩) ((ckB l).length) c37]]) (by simp only [List.map_toArray, List.map_cons, List.map_nil]; rw [show aa.eval (.tmp 56) = .int .i64 (numOf (piece l 1 8) : Int) from hR.v 0 56 rfl rfl rfl rfl, show aa.eval (.tmp 57) = .agg #[.int .i64 (numOf (piece l 9 8) : Int), .slice (some ⟨b36, 0, none⟩) ((ckB l).length) c37] from hR.v 1 57 rfl rfl rfl rfl] <;> rfl) ((refHead (Base.of _) [] _ (numOf (piece l 1 8)) (numOf (piece l 9 8)) (some ⟨b36, 0, none⟩) c37 (ckB l) (by omega) (by omega) (by omega) (rdV_of _ (RdV.src hrb.any' hv)) (Inv.start _)).mono fun e w9 ⟨he, hw⟩ => ⟨_, he, ext_of hw, rfl⟩))
                · intro aa ww vals hJ hR
                  exact add_step' rfl (Ex.adds' (ex_move rfl (show aa.eval (.tmp 0) = _ from hR.keep 0 rfl)) (wn rfl) rfl)
                · intro aa ww vals hJ hR
                  exact add_step' rfl (Ex.adds' (ex_slice (lo' := none) (hi' := some (.int .i64 64)) rfl (show aa.eval (.tmp 59) = _ from hR.v 3 59 rfl rfl rfl rfl) rfl rfl rfl (run_ssh Try.underlying9 (j := 64) (by omega) _)) (wn rfl) rfl)
                · intro aa ww vals hJ hR
                  exact add_step' rfl (Ex.adds' (ex_sneq (s := (headOf (numOf (piece l 1 8)) (numOf (piece l 9 8)) (ckB l))) (s' := (l.take 64)) rfl (show aa.eval (.tmp 58) = _ from hR.v 2 58 rfl rfl rfl rfl) (show aa.eval (.tmp 60) = _ from hR.v 4 60 rfl rfl rfl rfl) (decide_eq_true hb42)) (wn rfl) rfl)
                rintro w43 vals ⟨rfl, hv⟩
                rw [show mixV [] [] 0 [.int .i64 (numOf (piece l 1 8) : Int), .agg #[.int .i64 (numOf (piece l 9 8) : Int), .slice (some ⟨b36, 0, none⟩) ((ckB l).length) c37], .string ⟨(headOf (numOf (piece l 1 8)) (numOf (piece l 9 8)) (ckB l)).toArray⟩, .string ⟨l.toArray⟩, .string ⟨(l.take 64).toArray⟩, .bool true] = [.int .i64 (numOf (piece l 1 8) : Int), .agg #[.int .i64 (numOf (piece l 9 8) : Int), .slice (some ⟨b36, 0, none⟩) ((ckB l).length) c37], .string ⟨(headOf (numOf (piece l 1 8)) (numOf (piece l 9 8)) (ckB l)).toArray⟩, .string ⟨l.toArray⟩, .string ⟨(l.take 64).toArray⟩, .bool true] from rfl]
                simp only [putAll, Act.put, List.setIfInBounds_toArray, List.set_cons_succ, List.set_cons_zero]
                refine then_normal (hK41 _ _ ?_)
                clear hK41 K41
                refine wpIn_cond_true rfl ?_
                refine wpIn_seq_k (fun K44 hK44 => ?_)
                refine wpIn_region_lit ?_
                refine wpi_exG (v := .agg #[.int .i64 0, .slice none 0 0]) (fun _ => trivial) (wn rfl) rfl (ex_buildN (vs := #[]) rfl (by simp only [List.map_toArray, List.map_nil]) (by kernel_rfl)) ?_
                refine sl_storeNAt 1 (new := [.int .i64 0, .slice none 0 0]) (pre := []) (mid := [.int .i64 0, .slice none 0 0]) (post := []) (L' := [.int .i64 0, .slice none 0 0]) (fun _ => trivial) (wn rfl) rfl rfl rfl hv rfl r9sz55 rfl rfl rfl (one_cons rfl (one_cons rfl one_nil)) rfl (fun w45 hv => ?_)
                simp only [List.set_cons_succ, List.set_cons_zero] at hv
                refine wpi_exG (v := .int .i64 0) (fun _ => trivial) (wn rfl) rfl (ex_assign rfl rfl) ?_
                simp only [Act.put, List.setIfInBounds_toArray, List.set_cons_succ, List.set_cons_zero]
                refine wpi_exG (v := .bool false) (fun _ => trivial) (wn rfl) rfl (ex_assign rfl rfl) ?_
                refine wpListIn_nil ?_
                simp only [Act.put, List.setIfInBounds_toArray, List.set_cons_succ, List.set_cons_zero]
                refine then_normal (hK44 _ _ ?_)
                clear hK44 K44
                refine wpIn_ret ?_
                refine then_ret ?_
                clear hK40 K40
                refine bodyPost_ret (res_cell3 rfl rfl (run_load_mid (pre := []) (mid := [.int .i64 0, .slice none 0 0]) (post := []) r9wd55 (show Blk _ b2 ([] ++ [.int .i64 0, .slice none 0 0] ++ []) _ from hv.get 1 rfl) rfl)) rfl ?_
                exact .inl ⟨fun h9 => hb42 (head_of_ok h9), rfl, (hv.tail 2).weak hB38⟩
              · refine region_st mixed [.int .i64 (numOf (piece l 1 8) : Int), .agg #[.int .i64 (numOf (piece l 9 8) : Int), .slice (some ⟨b36, 0, none⟩) ((ckB l).length) c37], .string ⟨(headOf (numOf (piece l 1 8)) (numOf (piece l 9 8)) (ckB l)).toArray⟩, .string ⟨l.toArray⟩, .string ⟨(l.take 64).toArray⟩, .bool false] [] [⟨fun vals w => vals = [] ∧ Inv C34 (Res.cell b8 [.int .i64 (numOf (piece l 9 8) : Int), .slice (some ⟨b36, 0, none⟩) ((ckB l).length) c37] 55 :: Res.cell b2 [.int .i64 0, .slice none 0 0] 55 :: H) w, fun _ _ _ ⟨h, hi⟩ he => ⟨h, hi.ext he⟩⟩] 65 rfl (by kernel_rfl) ⟨rfl, hv⟩ ⟨?_, ?_, ?_, ?_, ?_, ?_, trivial⟩ ?_
                · intro aa ww vals hJ hR
                  exact add_step' rfl (Ex.adds' (ex_move rfl (show aa.eval (.tmp 7) = _ from hR.keep 7 rfl)) (wn rfl) rfl)
                · intro aa ww vals hJ hR
                  have hl : vals.length = 0 := by have := JS.le (n := 0) (by rfl) hJ; omega
                  obtain ⟨hvals, hv⟩ := hJ.at0 hl
                  exact add_step' rfl (Ex.adds' (ex_load rfl (show aa.eval (.tmp 8) = _ from hR.keep 8 rfl) (run_load_mid (pre := []) (mid := [.int .i64 (numOf (piece l 9 8) : Int), .slice (some ⟨b36, 0, none⟩) ((ckB l).length) c37]) (post := []) r9wd55 (show Blk _ b8 ([] ++ [.int .i64 (numOf (piece l 9 8) : Int), .slice (some ⟨b36, 0, none⟩) ((ckB l).length) c37] ++ []) _ from hv.get 0 rfl) rfl)) (wn rfl) rfl)
                · intro aa ww vals hJ hR
                  have hl : vals.length = 0 := by have := JS.le (n := 0) (by rfl) hJ; omega
                  obtain ⟨hvals, hv⟩ := hJ.at0 hl
                  exact add_step' rfl (stepOk_calls r9callable61 (wn rfl) rfl (args := #[.int .i64 (numOf (piece l 1 8) : Int), .agg #[.int .i64 (numOf (piece l 9 8) : Int), .slice (some ⟨b36, 0, none⟩) ((ckB l).length) c37]]) (by simp only [List.map_toArray, List.map_cons, List.map_nil]; rw [show aa.eval (.tmp 56) = .int .i64 (numOf (piece l 1 8) : Int) from hR.v 0 56 rfl rfl rfl rfl, show aa.eval (.tmp 57) = .agg #[.int .i64 (numOf (piece l 9 8) : Int), .slice (some ⟨b36, 0, none⟩) ((ckB l).length) c37] from hR.v 1 57 rfl rfl rfl rfl] <;> rfl) ((refHead (Base.of _) [] _ (numOf (piece l 1 8)) (numOf (piece l 9 8)) (some ⟨b36, 0, none⟩) c37 (ckB l) (by omega) (by omega) (by omega) (rdV_of _ (RdV.src hrb.any' hv)) (Inv.start _)).mono fun e w9 ⟨he, hw⟩ => ⟨_, he, ext_of hw, rfl⟩))
                · intro aa ww vals hJ hR
                  exact add_step' rfl (Ex.adds' (ex_move rfl (show aa.eval (.tmp 0) = _ from hR.keep 0 rfl)) (wn rfl) rfl)
                · intro aa ww vals hJ hR
                  exact add_step' rfl (Ex.adds' (ex_slice (lo' := none) (hi' := some (.int .i64 64)) rfl (show aa.eval (.tmp 59) = _ from hR.v 3 59 rfl rfl rfl rfl) rfl rfl rfl (run_ssh Try.underlying9 (j := 64) (by omega) _)) (wn rfl) rfl)
                · intro aa ww vals hJ hR
                  exact add_step' rfl (Ex.adds' (ex_sneq (s := (headOf (numOf (piece l 1 8)) (numOf (piece l 9 8)) (ckB l))) (s' := (l.take 64)) rfl (show aa.eval (.tmp 58) = _ from hR.v 2 58 rfl rfl rfl rfl) (show aa.eval (.tmp 60) = _ from hR.v 4 60 rfl rfl rfl rfl) (decide_eq_false hb42)) (wn rfl) rfl)
                rintro w46 vals ⟨rfl, hv⟩
                rw [show mixV [] [] 0 [.int .i64 (numOf (piece l 1 8) : Int), .agg #[.int .i64 (numOf (piece l 9 8) : Int), .slice (some ⟨b36, 0, none⟩) ((ckB l).length) c37], .string ⟨(headOf (numOf (piece l 1 8)) (numOf (piece l 9 8)) (ckB l)).toArray⟩, .string ⟨l.toArray⟩, .string ⟨(l.take 64).toArray⟩, .bool false] = [.int .i64 (numOf (piece l 1 8) : Int), .agg #[.int .i64 (numOf (piece l 9 8) : Int), .slice (some ⟨b36, 0, none⟩) ((ckB l).length) c37], .string ⟨(headOf (numOf (piece l 1 8)) (numOf (piece l 9 8)) (ckB l)).toArray⟩, .string ⟨l.toArray⟩, .string ⟨(l.take 64).toArray⟩, .bool false] from rfl]
                simp only [putAll, Act.put, List.setIfInBounds_toArray, List.set_cons_succ, List.set_cons_zero]
                refine then_normal (hK41 _ _ ?_)
                clear hK41 K41
                refine wpIn_cond_false rfl ?_
                refine wpIn_skip ?_
                refine then_normal (hK40 _ _ ?_)
                clear hK40 K40
                refine wpIn_seq_k (fun K47 hK47 => ?_)
                refine wpIn_region_lit ?_
                refine wpi_exG (v := .agg #[.int .i64 (numOf (piece l 9 8) : Int), .slice (some ⟨b36, 0, none⟩) ((ckB l).length) c37]) (fun _ => trivial) (wn rfl) rfl (ex_load rfl rfl (run_load_mid (pre := []) (mid := [.int .i64 (numOf (piece l 9 8) : Int), .slice (some ⟨b36, 0, none⟩) ((ckB l).length) c37]) (post := []) r9wd55 (show Blk _ b8 ([] ++ [.int .i64 (numOf (piece l 9 8) : Int), .slice (some ⟨b36, 0, none⟩) ((ckB l).length) c37] ++ []) _ from hv.get 0 rfl) rfl)) ?_
                refine wpi_exG (v := .int .i64 (numOf (piece l 1 8) : Int)) (fun _ => trivial) (wn rfl) rfl (ex_move rfl rfl) ?_
                refine sl_storeNAt 1 (new := [.int .i64 (numOf (piece l 9 8) : Int), .slice (some ⟨b36, 0, none⟩) ((ckB l).length) c37]) (pre := []) (mid := [.int .i64 0, .slice none 0 0]) (post := []) (L' := [.int .i64 (numOf (piece l 9 8) : Int), .slice (some ⟨b36, 0, none⟩) ((ckB l).length) c37]) (fun _ => trivial) (wn rfl) rfl rfl rfl hv rfl r9sz55 rfl rfl rfl (one_cons rfl (one_cons rfl one_nil)) rfl (fun w48 hv => ?_)
                simp only [List.set_cons_succ, List.set_cons_zero] at hv
                simp only [Act.put, List.setIfInBounds_toArray, List.set_cons_succ, List.set_cons_zero]
                refine wpi_exG (v := .int .i64 (numOf (piece l 1 8) : Int)) (fun _ => trivial) (wn rfl) rfl (ex_assign rfl rfl) ?_
                refine wpi_exG (v := .bool true) (fun _ => trivial) (wn rfl) rfl (ex_assign rfl rfl) ?_
                refine wpListIn_nil ?_
                simp only [Act.put, List.setIfInBounds_toArray, List.set_cons_succ, List.set_cons_zero]
                refine then_normal (hK47 _ _ ?_)
                clear hK47 K47
                refine wpIn_ret ?_
                refine bodyPost_ret (res_cell3 rfl rfl (run_load_mid (pre := []) (mid := [.int .i64 (numOf (piece l 9 8) : Int), .slice (some ⟨b36, 0, none⟩) ((ckB l).length) c37]) (post := []) r9wd55 (show Blk _ b2 ([] ++ [.int .i64 (numOf (piece l 9 8) : Int), .slice (some ⟨b36, 0, none⟩) ((ckB l).length) c37] ++ []) _ from hv.get 1 rfl) rfl)) rfl ?_
                exact .inr ⟨ok_of_head (by unfold ckN; omega) (by unfold ckG; omega) (by unfold ckG; omega) (by unfold ckG; omega) (by unfold ckT; omega) (by unfold ckN; omega) (Classical.not_not.1 hb42), _, _, _, hB38, rfl, hrb, hv.tail 2⟩
theorem r9callable51 : Callable Try.prog 51 := ⟨_, Try.func51, by kernel_rfl, by kernel_rfl⟩
theorem r9callable52 : Callable Try.prog 52 := ⟨_, Try.func52, by kernel_rfl, by kernel_rfl⟩
theorem r9fa64_3 (w : World) (b o : Nat) : (Instr.fieldAt 64 (.pointer (some ⟨b, o, none⟩)) 3).run Try.prog w = .ok (.pointer (some ⟨b, o + 3, none⟩)) w := by kernel_rfl
theorem r9sz3 : (Try.prog.info? 3).map (·.size) = some 1 := by kernel_rfl
set_option maxRecDepth 100000 in
set_option maxHeartbeats 4000000 in
theorem refOpen (B : Base) (H : List Res) (w : World) (p : Nat) (D : Disk) (sa : Option Addr) (sc : Nat) (aa : Option Addr) (ac : Nat) (wa : Option Addr) (wc : Nat) (from_ each : Nat) (hok : D.Ok) (he1 : 1 ≤ each) (he2 : each ≤ 30000) (hf : from_ + 2 * each ≤ D.dur.length) (hsa : RdV B [] sa (D.dur.map strV)) (haa : RdV B [] aa (D.pend.map atV)) (hwa : RdV B [] wa (D.pend.map whV)) (hdm : D.dur.length ≤ 100000) (hpm : D.pend.length ≤ 100000) (hv : Inv B (Res.cell p (refC D sa sc aa ac wa wc) 99 :: H) w) :
    Calls Try.prog 31 #[.pointer (some ⟨p, 0, none⟩), .int .i64 (from_ : Int), .int .i64 (each : Int)] w fun e w' => ∃ (C : Base) (q : Nat) (cur : Option (List UInt8)) (ad : Option Addr) (c : Nat), B.Le C ∧ CurI (D.view D.pend from_ (2 * each)).flatten each 2 cur ∧ e = .returned (.tuple #[.pointer (some ⟨q, 0, none⟩), .agg #[.int .i64 (cT cur : Int), .slice ad (cB cur).length c], .bool (decide ((cG cur : Int) > 0)), .int .i64 0]) ∧ RdV C [] ad ((cB cur).map B8) ∧ Inv C (Res.cell q [.pointer (some ⟨p, 0, none⟩), .int .i64 (from_ : Int), .int .i64 (each : Int), .int .i64 (cG cur : Int), .bool false] 64 :: Res.cell p (refC D sa sc aa ac wa wc) 99 :: H) w' := by
  unfold refC at hv ⊢
  refine (callsIn_wide (n := 5)).1 ?_
  refine callsIn_of_wp Try.func31 rfl trivial ?_
  simp only [Try.ntmps31, List.size_toArray, List.length_cons, List.length_nil, Nat.reduceAdd, Nat.reduceSub, Array.replicate_succ, Array.replicate_zero, List.push_toArray, List.append_toArray, List.nil_append, List.cons_append]
  refine wpIn_seq_k (fun K1 hK1 => ?_)
  refine wpIn_region_lit ?_
  refine wpi_exG (v := .pointer none) (fun _ => trivial) (wn rfl) rfl (ex_assign rfl rfl) ?_
  refine sl_alloc (fun _ => trivial) (wn rfl) rfl hv r9al55 (fun b2 w3 hv => ?_)
  refine wpi_exG (v := .bool false) (fun _ => trivial) (wn rfl) rfl (ex_assign rfl rfl) ?_
  simp only [Act.put, List.setIfInBounds_toArray, List.set_cons_succ, List.set_cons_zero]
  refine wpi_exG (v := .int .i64 0) (fun _ => trivial) (wn rfl) rfl (ex_assign rfl rfl) ?_
  refine wpListIn_nil ?_
  simp only [Act.put, List.setIfInBounds_toArray, List.set_cons_succ, List.set_cons_zero]
  refine then_normal (hK1 _ _ ?_)
  clear hK1 K1
  refine wpIn_seq_k (fun K4 hK4 => ?_)
  refine wpIn_seq_k (fun K5 hK5 => ?_)
  refine wpIn_region_lit ?_
  refine wpi_exG (v := .int .i64 (each : Int)) (fun _ => trivial) (wn rfl) rfl (ex_move rfl rfl) ?_
  refine wpi_exG (v := .bool false) (fun _ => trivial) (wn rfl) rfl (ex_lss (k := .i64) (m := (each : Int)) (n := 1) rfl rfl rfl (decide_eq_false (by omega))) ?_
  refine wpi_exG (v := .bool false) (fun _ => trivial) (wn rfl) rfl (ex_move rfl rfl) ?_
  simp only [Act.put, List.setIfInBounds_toArray, List.set_cons_succ, List.set_cons_zero]
  refine wpi_exG (v := .int .i64 (each : Int)) (fun _ => trivial) (wanted_of (j := 2) (d := 21) (b := false) rfl rfl rfl) rfl (ex_move rfl rfl) ?_
  refine wpi_exG (v := .bool false) (fun _ => trivial) (wanted_of (j := 2) (d := 21) (b := false) rfl rfl rfl) rfl (ex_gtr (k := .i64) (m := (each : Int)) (n := 65536) rfl rfl rfl (decide_eq_false (by omega))) ?_
  refine wpi_exG (v := .bool false) (fun _ => trivial) (wn rfl) rfl (ex_pick (b := false) rfl rfl rfl) ?_
  refine wpListIn_nil ?_
  simp only [Act.put, List.setIfInBounds_toArray, List.set_cons_succ, List.set_cons_zero]
  refine then_normal (hK5 _ _ ?_)
  clear hK5 K5
  refine wpIn_cond_false rfl ?_
  refine wpIn_skip ?_
  refine then_normal (hK4 _ _ ?_)
  clear hK4 K4
  refine wpIn_seq_k (fun K6 hK6 => ?_)
  refine wpIn_region_lit ?_
  refine wpi_exG (v := .pointer (some ⟨p, 0, none⟩)) (fun _ => trivial) (wn rfl) rfl (ex_move rfl rfl) ?_
  refine wpi_exG (v := .int .i64 (from_ : Int)) (fun _ => trivial) (wn rfl) rfl (ex_move rfl rfl) ?_
  refine wpi_exG (v := .int .i64 (each : Int)) (fun _ => trivial) (wn rfl) rfl (ex_move rfl rfl) ?_
  simp only [Act.put, List.setIfInBounds_toArray, List.set_cons_succ, List.set_cons_zero]
  refine wpi_exG (v := .int .i64 ((2 * each : Nat) : Int)) (fun _ => trivial) (wn rfl) rfl (ex_mul (m := 2) (n := (each : Int)) rfl rfl rfl (by rw [i64_in (by omega)]; omega)) ?_
  replace hv := hv.front 1 rfl
  simp only [List.eraseIdx_cons_succ, List.eraseIdx_cons_zero] at hv
  refine wpi_callG r9callable51 (fun _ => trivial) wideC rfl (wn rfl) rfl (args := #[.pointer (some ⟨p, 0, none⟩), .int .i64 (from_ : Int), .int .i64 ((2 * each : Nat) : Int)]) (by simp only [List.map_toArray, List.map_cons, List.map_nil]; rfl) ((refRead _ _ _ p D _ _ _ _ _ _ from_ (2 * each) hok (by omega) hf hsa haa hwa hdm hpm hv).mono ?_)
  rintro e w7 ⟨rfl, hv⟩
  refine ⟨_, rfl, ?_⟩
  obtain ⟨rb, hrb⟩ : ∃ rb, rb = (D.view D.pend from_ (2 * each)).flatten := ⟨_, rfl⟩
  rw [← hrb]
  have hrl : rb.length = 2 * each * 64 := by rw [hrb]; exact view_len64 hok hf
  unfold refC at hv
  refine wpi_exG (v := .tuple #[.string ⟨rb.toArray⟩, .int .i64 0]) (fun _ => trivial) (wn rfl) rfl (ex_move rfl rfl) ?_
  simp only [Act.put, List.setIfInBounds_toArray, List.set_cons_succ, List.set_cons_zero]
  refine wpi_exG (v := .string ⟨rb.toArray⟩) (fun _ => trivial) (wn rfl) rfl (ex_extract rfl rfl rfl) ?_
  refine wpi_exG (v := .int .i64 0) (fun _ => trivial) (wn rfl) rfl (ex_extract rfl rfl rfl) ?_
  refine wpi_exG (v := .string ⟨rb.toArray⟩) (fun _ => trivial) (wn rfl) rfl (ex_assign rfl rfl) ?_
  simp only [Act.put, List.setIfInBounds_toArray, List.set_cons_succ, List.set_cons_zero]
  refine wpi_exG (v := .int .i64 0) (fun _ => trivial) (wn rfl) rfl (ex_assign rfl rfl) ?_
  refine wpListIn_nil ?_
  simp only [Act.put, List.setIfInBounds_toArray, List.set_cons_succ, List.set_cons_zero]
  refine then_normal (hK6 _ _ ?_)
  clear hK6 K6
  refine wpIn_seq_k (fun K8 hK8 => ?_)
  refine wpIn_seq_k (fun K9 hK9 => ?_)
  refine wpIn_region_lit ?_
  refine wpi_exG (v := .int .i64 0) (fun _ => trivial) (wn rfl) rfl (ex_move rfl rfl) ?_
  refine wpi_exG (v := .bool false) (fun _ => trivial) (wn rfl) rfl (ex_neq (k := .i64) (m := 0) (n := 0) rfl rfl rfl (by decide)) ?_
  refine wpListIn_nil ?_
  simp only [Act.put, List.setIfInBounds_toArray, List.set_cons_succ, List.set_cons_zero]
  refine then_normal (hK9 _ _ ?_)
  clear hK9 K9
  refine wpIn_cond_false rfl ?_
  refine wpIn_skip ?_
  refine then_normal (hK8 _ _ ?_)
  clear hK8 K8
  refine wpIn_seq_k (fun K10 hK10 => ?_)
  refine wpIn_region_lit ?_
  refine wpi_exG (v := .pointer (some ⟨p, 0, none⟩)) (fun _ => trivial) (wn rfl) rfl (ex_move rfl rfl) ?_
  refine wpi_exG (v := .int .i64 (from_ : Int)) (fun _ => trivial) (wn rfl) rfl (ex_move rfl rfl) ?_
  refine wpi_exG (v := .int .i64 (each : Int)) (fun _ => trivial) (wn rfl) rfl (ex_move rfl rfl) ?_
  simp only [Act.put, List.setIfInBounds_toArray, List.set_cons_succ, List.set_cons_zero]
  refine wpi_exG (v := .agg #[.pointer (some ⟨p, 0, none⟩), .int .i64 (from_ : Int), .int .i64 (each : Int), .int .i64 0, .bool false]) (fun _ => trivial) (wn rfl) rfl (ex_buildN (vs := #[(0, .pointer (some ⟨p, 0, none⟩)), (1, .int .i64 (from_ : Int)), (2, .int .i64 (each : Int))]) rfl (by simp only [List.map_toArray, List.map_cons, List.map_nil]; rfl) (by kernel_rfl)) ?_
  refine sl_box (L := [.pointer (some ⟨p, 0, none⟩), .int .i64 (from_ : Int), .int .i64 (each : Int), .int .i64 0, .bool false]) (fun _ => trivial) (wn rfl) rfl (p := .agg #[.pointer (some ⟨p, 0, none⟩), .int .i64 (from_ : Int), .int .i64 (each : Int), .int .i64 0, .bool false]) rfl hv (fun w => by kernel_rfl) (fun b11 w12 hv => ?_)
  refine wpi_exG (v := .pointer (some ⟨b11, 0, none⟩)) (fun _ => trivial) (wn rfl) rfl (ex_assign rfl rfl) ?_
  refine wpListIn_nil ?_
  simp only [Act.put, List.setIfInBounds_toArray, List.set_cons_succ, List.set_cons_zero]
  refine then_normal (hK10 _ _ ?_)
  clear hK10 K10
  refine wpIn_seq_k (fun K13 hK13 => ?_)
  refine wpIn_region_lit ?_
  refine wpi_exG (v := .string ⟨rb.toArray⟩) (fun _ => trivial) (wn rfl) rfl (ex_move rfl rfl) ?_
  refine wpi_exG (v := .int .i64 (each : Int)) (fun _ => trivial) (wn rfl) rfl (ex_move rfl rfl) ?_
  refine wpi_exG (v := .int .i64 ((64 * each : Nat) : Int)) (fun _ => trivial) (wn rfl) rfl (ex_mul (m := 64) (n := (each : Int)) rfl rfl rfl (by rw [i64_in (by omega)]; omega)) ?_
  simp only [Act.put, List.setIfInBounds_toArray, List.set_cons_succ, List.set_cons_zero]
  refine wpi_exG (v := .string ⟨(slotOf rb each 0).toArray⟩) (fun _ => trivial) (wn rfl) rfl (ex_slice (lo' := none) (hi' := (some (.int .i64 ((64 * each : Nat) : Int)))) rfl rfl rfl rfl rfl (run_slot0 Try.underlying9 hrl _)) ?_
  refine wpi_callG r9callable52 (fun _ => trivial) wideC rfl (wn rfl) rfl (args := #[.string ⟨(slotOf rb each 0).toArray⟩, .int .i64 0]) (by simp only [List.map_toArray, List.map_cons, List.map_nil]; rfl) ((refSave _ _ _ (slotOf rb each 0) 0 (by rw [slot_len hrl (by omega)]; omega) (by omega) (by rw [slot_len hrl (by omega)]; omega) hv).mono ?_)
  rintro e w14 (⟨hno0, rfl, hv⟩ | ⟨hyes0, C0, ad0, c0, hB0, rfl, hr0, hv⟩)
  · refine ⟨_, rfl, ?_⟩
    unfold ckNo
    refine wpi_exG (v := .tuple #[.agg #[.int .i64 0, .slice none 0 0], .int .i64 0, .bool false]) (fun _ => trivial) (wn rfl) rfl (ex_move rfl rfl) ?_
    simp only [Act.put, List.setIfInBounds_toArray, List.set_cons_succ, List.set_cons_zero]
    refine wpi_exG (v := .agg #[.int .i64 0, .slice none 0 0]) (fun _ => trivial) (wn rfl) rfl (ex_extract rfl rfl rfl) ?_
    refine wpi_exG (v := .int .i64 0) (fun _ => trivial) (wn rfl) rfl (ex_extract rfl rfl rfl) ?_
    refine wpi_exG (v := .bool false) (fun _ => trivial) (wn rfl) rfl (ex_extract rfl rfl rfl) ?_
    simp only [Act.put, List.setIfInBounds_toArray, List.set_cons_succ, List.set_cons_zero]
    refine sl_alloc (fun _ => trivial) (wn rfl) rfl hv r9al55 (fun b15 w16 hv => ?_)
    refine sl_storeNAt 0 (new := [.int .i64 0, .slice none 0 0]) (pre := []) (mid := [.int .i64 0, .slice none 0 0]) (post := []) (L' := [.int .i64 0, .slice none 0 0]) (fun _ => trivial) (wn rfl) rfl rfl rfl hv rfl r9sz55 rfl rfl rfl (one_cons rfl (one_cons rfl one_nil)) rfl (fun w17 hv => ?_)
    simp only [List.set_cons_succ, List.set_cons_zero] at hv
    refine wpi_exG (v := .int .i64 0) (fun _ => trivial) (wn rfl) rfl (ex_assign rfl rfl) ?_
    simp only [Act.put, List.setIfInBounds_toArray, List.set_cons_succ, List.set_cons_zero]
    refine wpi_exG (v := .bool false) (fun _ => trivial) (wn rfl) rfl (ex_assign rfl rfl) ?_
    refine wpListIn_nil ?_
    simp only [Act.put, List.setIfInBounds_toArray, List.set_cons_succ, List.set_cons_zero]
    refine then_normal (hK13 _ _ ?_)
    clear hK13 K13
    refine wpIn_seq_k (fun K18 hK18 => ?_)
    refine wpIn_region_lit ?_
    refine wpi_exG (v := .string ⟨rb.toArray⟩) (fun _ => trivial) (wn rfl) rfl (ex_move rfl rfl) ?_
    refine wpi_exG (v := .int .i64 (each : Int)) (fun _ => trivial) (wn rfl) rfl (ex_move rfl rfl) ?_
    refine wpi_exG (v := .int .i64 ((64 * each : Nat) : Int)) (fun _ => trivial) (wn rfl) rfl (ex_mul (m := 64) (n := (each : Int)) rfl rfl rfl (by rw [i64_in (by omega)]; omega)) ?_
    simp only [Act.put, List.setIfInBounds_toArray, List.set_cons_succ, List.set_cons_zero]
    refine wpi_exG (v := .string ⟨(slotOf rb each 1).toArray⟩) (fun _ => trivial) (wn rfl) rfl (ex_slice (lo' := (some (.int .i64 ((64 * each : Nat) : Int)))) (hi' := none) rfl rfl rfl rfl rfl (run_slot1 Try.underlying9 hrl _)) ?_
    refine wpi_callG r9callable52 (fun _ => trivial) wideC rfl (wn rfl) rfl (args := #[.string ⟨(slotOf rb each 1).toArray⟩, .int .i64 1]) (by simp only [List.map_toArray, List.map_cons, List.map_nil]; rfl) ((refSave _ _ _ (slotOf rb each 1) 1 (by rw [slot_len hrl (by omega)]; omega) (by omega) (by rw [slot_len hrl (by omega)]; omega) hv).mono ?_)
    rintro e w19 (⟨hno1, rfl, hv⟩ | ⟨hyes1, C1, ad1, c1, hB1, rfl, hr1, hv⟩)
    · refine ⟨_, rfl, ?_⟩
      unfold ckNo
      refine wpi_exG (v := .tuple #[.agg #[.int .i64 0, .slice none 0 0], .int .i64 0, .bool false]) (fun _ => trivial) (wn rfl) rfl (ex_move rfl rfl) ?_
      simp only [Act.put, List.setIfInBounds_toArray, List.set_cons_succ, List.set_cons_zero]
      refine wpi_exG (v := .agg #[.int .i64 0, .slice none 0 0]) (fun _ => trivial) (wn rfl) rfl (ex_extract rfl rfl rfl) ?_
      refine wpi_exG (v := .int .i64 0) (fun _ => trivial) (wn rfl) rfl (ex_extract rfl rfl rfl) ?_
      refine wpi_exG (v := .bool false) (fun _ => trivial) (wn rfl) rfl (ex_extract rfl rfl rfl) ?_
      simp only [Act.put, List.setIfInBounds_toArray, List.set_cons_succ, List.set_cons_zero]
      refine sl_alloc (fun _ => trivial) (wn rfl) rfl hv r9al55 (fun b20 w21 hv => ?_)
      refine sl_storeNAt 0 (new := [.int .i64 0, .slice none 0 0]) (pre := []) (mid := [.int .i64 0, .slice none 0 0]) (post := []) (L' := [.int .i64 0, .slice none 0 0]) (fun _ => trivial) (wn rfl) rfl rfl rfl hv rfl r9sz55 rfl rfl rfl (one_cons rfl (one_cons rfl one_nil)) rfl (fun w22 hv => ?_)
      simp only [List.set_cons_succ, List.set_cons_zero] at hv
      refine wpi_exG (v := .int .i64 0) (fun _ => trivial) (wn rfl) rfl (ex_assign rfl rfl) ?_
      simp only [Act.put, List.setIfInBounds_toArray, List.set_cons_succ, List.set_cons_zero]
      refine wpi_exG (v := .bool false) (fun _ => trivial) (wn rfl) rfl (ex_assign rfl rfl) ?_
      refine wpListIn_nil ?_
      simp only [Act.put, List.setIfInBounds_toArray, List.set_cons_succ, List.set_cons_zero]
      refine then_normal (hK18 _ _ ?_)
      clear hK18 K18
      refine wpIn_seq_k (fun K23 hK23 => ?_)
      refine wpIn_seq_k (fun K24 hK24 => ?_)
      refine wpIn_region_lit ?_
      refine wpi_exG (v := .bool false) (fun _ => trivial) (wn rfl) rfl (ex_move rfl rfl) ?_
      refine wpi_exG (v := .bool false) (fun _ => trivial) (wn rfl) rfl (ex_move rfl rfl) ?_
      refine wpi_not (fun _ => trivial) (wanted_not (j := 1) (d := 62) (b := true) (b' := false) rfl rfl rfl (by decide)) ?_
      simp only [Act.put, List.setIfInBounds_toArray, List.set_cons_succ, List.set_cons_zero]
      refine wpi_not (fun _ => trivial) (wanted_not (j := 1) (d := 62) (b := true) (b' := false) rfl rfl rfl (by decide)) ?_
      refine wpi_not (fun _ => trivial) (wanted_not (j := 1) (d := 62) (b := true) (b' := false) rfl rfl rfl (by decide)) ?_
      refine wpi_not (fun _ => trivial) (wanted_undef (j := 4) (d := 65) rfl rfl rfl) ?_
      simp only [Act.put, List.setIfInBounds_toArray, List.set_cons_succ, List.set_cons_zero]
      refine wpi_not (fun _ => trivial) (wanted_undef (j := 4) (d := 65) rfl rfl rfl) ?_
      refine wpi_not (fun _ => trivial) (wanted_undef (j := 4) (d := 65) rfl rfl rfl) ?_
      refine wpi_not (fun _ => trivial) (wanted_not (j := 1) (d := 62) (b := true) (b' := false) rfl rfl rfl (by decide)) ?_
      simp only [Act.put, List.setIfInBounds_toArray, List.set_cons_succ, List.set_cons_zero]
      refine wpi_exG (v := .bool false) (fun _ => trivial) (wn rfl) rfl (ex_pick (b := false) rfl rfl rfl) ?_
      refine wpListIn_nil ?_
      simp only [Act.put, List.setIfInBounds_toArray, List.set_cons_succ, List.set_cons_zero]
      refine then_normal (hK24 _ _ ?_)
      clear hK24 K24
      refine wpIn_cond_false rfl ?_
      refine wpIn_skip ?_
      refine then_normal (hK23 _ _ ?_)
      clear hK23 K23
      refine wpIn_seq_k (fun K25 hK25 => ?_)
      refine wpIn_seq_k (fun K26 hK26 => ?_)
      refine wpIn_region_lit ?_
      refine wpi_exG (v := .bool false) (fun _ => trivial) (wn rfl) rfl (ex_move rfl rfl) ?_
      refine wpi_exG (v := .bool true) (fun _ => trivial) (wn rfl) rfl (ex_not rfl rfl rfl) ?_
      refine wpListIn_nil ?_
      simp only [Act.put, List.setIfInBounds_toArray, List.set_cons_succ, List.set_cons_zero]
      refine then_normal (hK26 _ _ ?_)
      clear hK26 K26
      refine wpIn_cond_true rfl ?_
      refine wpIn_seq_k (fun K27 hK27 => ?_)
      refine wpIn_region_lit ?_
      refine wpi_exG (v := .pointer (some ⟨b11, 0, none⟩)) (fun _ => trivial) (wn rfl) rfl (ex_move rfl rfl) ?_
      refine wpi_exG (v := .agg #[.int .i64 0, .slice none 0 0]) (fun _ => trivial) (wn rfl) rfl (ex_buildN (vs := #[]) rfl (by simp only [List.map_toArray, List.map_nil]) (by kernel_rfl)) ?_
      refine wpi_exG (v := .pointer (some ⟨b11, 0, none⟩)) (fun _ => trivial) (wn rfl) rfl (ex_assign rfl rfl) ?_
      simp only [Act.put, List.setIfInBounds_toArray, List.set_cons_succ, List.set_cons_zero]
      refine sl_storeNAt 4 (new := [.int .i64 0, .slice none 0 0]) (pre := []) (mid := [.int .i64 0, .slice none 0 0]) (post := []) (L' := [.int .i64 0, .slice none 0 0]) (fun _ => trivial) (wn rfl) rfl rfl rfl hv rfl r9sz55 rfl rfl rfl (one_cons rfl (one_cons rfl one_nil)) rfl (fun w28 hv => ?_)
      simp only [List.set_cons_succ, List.set_cons_zero] at hv
      refine wpi_exG (v := .bool false) (fun _ => trivial) (wn rfl) rfl (ex_assign rfl rfl) ?_
      refine wpi_exG (v := .int .i64 0) (fun _ => trivial) (wn rfl) rfl (ex_assign rfl rfl) ?_
      refine wpListIn_nil ?_
      simp only [Act.put, List.setIfInBounds_toArray, List.set_cons_succ, List.set_cons_zero]
      refine then_normal (hK27 _ _ ?_)
      clear hK27 K27
      refine wpIn_ret ?_
      refine then_ret ?_
      clear hK25 K25
      refine bodyPost_ret (res_tcell4 rfl rfl (run_load_mid (pre := []) (mid := [.int .i64 0, .slice none 0 0]) (post := []) r9wd55 (show Blk _ b2 ([] ++ [.int .i64 0, .slice none 0 0] ++ []) _ from hv.get 4 rfl) rfl)) rfl ?_
      have hcur : CurI rb each 2 none := .no (cur_n hno0) (fun h => hno1 h.1)
      rw [hrb] at hcur
      exact ⟨_, _, none, none, 0, (Base.Le.refl _), hcur, rfl, rdV_nil, (((hv.front 3 rfl).front 3 rfl).sub (List.Sublist.cons_cons _ (List.Sublist.cons_cons _ (List.Sublist.cons _ (List.Sublist.cons _ (List.Sublist.cons _ (List.Sublist.refl _)))))))⟩
    · refine ⟨_, rfl, ?_⟩
      refine wpi_exG (v := .tuple #[.agg #[.int .i64 (ckT (slotOf rb each 1) : Int), .slice ad1 ((ckB (slotOf rb each 1)).length) c1], .int .i64 (ckG (slotOf rb each 1) : Int), .bool true]) (fun _ => trivial) (wn rfl) rfl (ex_move rfl rfl) ?_
      simp only [Act.put, List.setIfInBounds_toArray, List.set_cons_succ, List.set_cons_zero]
      refine wpi_exG (v := .agg #[.int .i64 (ckT (slotOf rb each 1) : Int), .slice ad1 ((ckB (slotOf rb each 1)).length) c1]) (fun _ => trivial) (wn rfl) rfl (ex_extract rfl rfl rfl) ?_
      refine wpi_exG (v := .int .i64 (ckG (slotOf rb each 1) : Int)) (fun _ => trivial) (wn rfl) rfl (ex_extract rfl rfl rfl) ?_
      refine wpi_exG (v := .bool true) (fun _ => trivial) (wn rfl) rfl (ex_extract rfl rfl rfl) ?_
      simp only [Act.put, List.setIfInBounds_toArray, List.set_cons_succ, List.set_cons_zero]
      refine sl_alloc (fun _ => trivial) (wn rfl) rfl hv r9al55 (fun b29 w30 hv => ?_)
      refine sl_storeNAt 0 (new := [.int .i64 (ckT (slotOf rb each 1) : Int), .slice ad1 ((ckB (slotOf rb each 1)).length) c1]) (pre := []) (mid := [.int .i64 0, .slice none 0 0]) (post := []) (L' := [.int .i64 (ckT (slotOf rb each 1) : Int), .slice ad1 ((ckB (slotOf rb each 1)).length) c1]) (fun _ => trivial) (wn rfl) rfl rfl rfl hv rfl r9sz55 rfl rfl rfl (one_cons rfl (one_cons rfl one_nil)) rfl (fun w31 hv => ?_)
      simp only [List.set_cons_succ, List.set_cons_zero] at hv
      refine wpi_exG (v := .int .i64 (ckG (slotOf rb each 1) : Int)) (fun _ => trivial) (wn rfl) rfl (ex_assign rfl rfl) ?_
      simp only [Act.put, List.setIfInBounds_toArray, List.set_cons_succ, List.set_cons_zero]
      refine wpi_exG (v := .bool true) (fun _ => trivial) (wn rfl) rfl (ex_assign rfl rfl) ?_
      refine wpListIn_nil ?_
      simp only [Act.put, List.setIfInBounds_toArray, List.set_cons_succ, List.set_cons_zero]
      refine then_normal (hK18 _ _ ?_)
      clear hK18 K18
      refine wpIn_seq_k (fun K32 hK32 => ?_)
      refine wpIn_seq_k (fun K33 hK33 => ?_)
      refine wpIn_region_lit ?_
      refine wpi_exG (v := .bool true) (fun _ => trivial) (wn rfl) rfl (ex_move rfl rfl) ?_
      refine wpi_exG (v := .bool true) (fun _ => trivial) (wn rfl) rfl (ex_move rfl rfl) ?_
      refine wpi_exG (v := .bool false) (fun _ => trivial) (wanted_of (j := 1) (d := 62) (b := true) rfl rfl rfl) rfl (ex_move rfl rfl) ?_
      simp only [Act.put, List.setIfInBounds_toArray, List.set_cons_succ, List.set_cons_zero]
      refine wpi_exG (v := .bool true) (fun _ => trivial) (wanted_of (j := 1) (d := 62) (b := true) rfl rfl rfl) rfl (ex_not rfl rfl rfl) ?_
      refine wpi_exG (v := .bool true) (fun _ => trivial) (wanted_of (j := 1) (d := 62) (b := true) rfl rfl rfl) rfl (ex_move rfl rfl) ?_
      refine wpi_not (fun _ => trivial) (wanted_not (j := 4) (d := 65) (b := false) (b' := true) rfl rfl rfl (by decide)) ?_
      simp only [Act.put, List.setIfInBounds_toArray, List.set_cons_succ, List.set_cons_zero]
      refine wpi_not (fun _ => trivial) (wanted_not (j := 4) (d := 65) (b := false) (b' := true) rfl rfl rfl (by decide)) ?_
      refine wpi_not (fun _ => trivial) (wanted_not (j := 4) (d := 65) (b := false) (b' := true) rfl rfl rfl (by decide)) ?_
      refine wpi_exG (v := .bool true) (fun _ => trivial) (wanted_of (j := 1) (d := 62) (b := true) rfl rfl rfl) rfl (ex_pick (b := true) rfl rfl rfl) ?_
      simp only [Act.put, List.setIfInBounds_toArray, List.set_cons_succ, List.set_cons_zero]
      refine wpi_exG (v := .bool true) (fun _ => trivial) (wn rfl) rfl (ex_pick (b := true) rfl rfl rfl) ?_
      refine wpListIn_nil ?_
      simp only [Act.put, List.setIfInBounds_toArray, List.set_cons_succ, List.set_cons_zero]
      refine then_normal (hK33 _ _ ?_)
      clear hK33 K33
      refine wpIn_cond_true rfl ?_
      refine wpIn_region_lit ?_
      refine wpi_exG (v := .agg #[.int .i64 (ckT (slotOf rb each 1) : Int), .slice ad1 ((ckB (slotOf rb each 1)).length) c1]) (fun _ => trivial) (wn rfl) rfl (ex_load rfl rfl (run_load_mid (pre := []) (mid := [.int .i64 (ckT (slotOf rb each 1) : Int), .slice ad1 ((ckB (slotOf rb each 1)).length) c1]) (post := []) r9wd55 (show Blk _ b29 ([] ++ [.int .i64 (ckT (slotOf rb each 1) : Int), .slice ad1 ((ckB (slotOf rb each 1)).length) c1] ++ []) _ from hv.get 0 rfl) rfl)) ?_
      refine wpi_exG (v := .int .i64 (ckG (slotOf rb each 1) : Int)) (fun _ => trivial) (wn rfl) rfl (ex_move rfl rfl) ?_
      refine wpi_exG (v := .bool true) (fun _ => trivial) (wn rfl) rfl (ex_move rfl rfl) ?_
      simp only [Act.put, List.setIfInBounds_toArray, List.set_cons_succ, List.set_cons_zero]
      refine sl_storeNAt 1 (new := [.int .i64 (ckT (slotOf rb each 1) : Int), .slice ad1 ((ckB (slotOf rb each 1)).length) c1]) (pre := []) (mid := [.int .i64 0, .slice none 0 0]) (post := []) (L' := [.int .i64 (ckT (slotOf rb each 1) : Int), .slice ad1 ((ckB (slotOf rb each 1)).length) c1]) (fun _ => trivial) (wn rfl) rfl rfl rfl hv rfl r9sz55 rfl rfl rfl (one_cons rfl (one_cons rfl one_nil)) rfl (fun w34 hv => ?_)
      simp only [List.set_cons_succ, List.set_cons_zero] at hv
      refine wpi_exG (v := .int .i64 (ckG (slotOf rb each 1) : Int)) (fun _ => trivial) (wn rfl) rfl (ex_assign rfl rfl) ?_
      refine wpi_exG (v := .bool true) (fun _ => trivial) (wn rfl) rfl (ex_assign rfl rfl) ?_
      refine wpListIn_nil ?_
      simp only [Act.put, List.setIfInBounds_toArray, List.set_cons_succ, List.set_cons_zero]
      refine then_normal (hK32 _ _ ?_)
      clear hK32 K32
      refine wpIn_seq_k (fun K35 hK35 => ?_)
      refine wpIn_seq_k (fun K36 hK36 => ?_)
      refine wpIn_region_lit ?_
      refine wpi_exG (v := .bool true) (fun _ => trivial) (wn rfl) rfl (ex_move rfl rfl) ?_
      refine wpi_exG (v := .bool false) (fun _ => trivial) (wn rfl) rfl (ex_not rfl rfl rfl) ?_
      refine wpListIn_nil ?_
      simp only [Act.put, List.setIfInBounds_toArray, List.set_cons_succ, List.set_cons_zero]
      refine then_normal (hK36 _ _ ?_)
      clear hK36 K36
      refine wpIn_cond_false rfl ?_
      refine wpIn_skip ?_
      refine then_normal (hK35 _ _ ?_)
      clear hK35 K35
      refine wpIn_seq_k (fun K37 hK37 => ?_)
      refine wpIn_region_lit ?_
      refine wpi_exG (v := .pointer (some ⟨b11, 0, none⟩)) (fun _ => trivial) (wn rfl) rfl (ex_move rfl rfl) ?_
      refine wpi_exG (v := .int .i64 (ckG (slotOf rb each 1) : Int)) (fun _ => trivial) (wn rfl) rfl (ex_move rfl rfl) ?_
      refine wpi_exG (v := .pointer (some ⟨b11, 0, none⟩)) (fun _ => trivial) (wn rfl) rfl (ex_nil rfl rfl) ?_
      simp only [Act.put, List.setIfInBounds_toArray, List.set_cons_succ, List.set_cons_zero]
      refine wpi_exG (v := .pointer (some ⟨b11, 3, none⟩)) (fun _ => trivial) (wn rfl) rfl (ex_field rfl rfl (r9fa64_3 _ _ _)) ?_
      refine sl_storeAt 2 (v := .int .i64 (ckG (slotOf rb each 1) : Int)) (L' := [.pointer (some ⟨p, 0, none⟩), .int .i64 (from_ : Int), .int .i64 (each : Int), .int .i64 (ckG (slotOf rb each 1) : Int), .bool false]) (fun _ => trivial) (wn rfl) rfl rfl rfl hv rfl r9sz3 (by simp) rfl rfl rfl (fun w38 hv => ?_)
      simp only [List.set_cons_succ, List.set_cons_zero] at hv
      refine wpListIn_nil ?_
      simp only [Act.put, List.setIfInBounds_toArray, List.set_cons_succ, List.set_cons_zero]
      refine then_normal (hK37 _ _ ?_)
      clear hK37 K37
      refine wpIn_seq_k (fun K39 hK39 => ?_)
      refine region_st mixed [.pointer (some ⟨b11, 0, none⟩), .agg #[.int .i64 (ckT (slotOf rb each 1) : Int), .slice ad1 ((ckB (slotOf rb each 1)).length) c1], .pointer (some ⟨b11, 0, none⟩), undef, .bool true, .int .i64 0] [3] [⟨fun vals w => vals = [] ∧ Inv C1 (Res.cell b29 [.int .i64 (ckT (slotOf rb each 1) : Int), .slice ad1 ((ckB (slotOf rb each 1)).length) c1] 55 :: Res.cell b15 [.int .i64 (ckT (slotOf rb each 1) : Int), .slice ad1 ((ckB (slotOf rb each 1)).length) c1] 55 :: Res.cell b11 [.pointer (some ⟨p, 0, none⟩), .int .i64 (from_ : Int), .int .i64 (each : Int), .int .i64 (ckG (slotOf rb each 1) : Int), .bool false] 64 :: Res.cell p [.slice sa D.dur.length sc, .slice aa D.pend.length ac, .slice wa D.pend.length wc, .int .i64 (-1)] 99 :: Res.cell b2 [.int .i64 0, .slice none 0 0] 55 :: H) w, fun _ _ _ ⟨h, hi⟩ he => ⟨h, hi.ext he⟩⟩, ⟨fun vals w => vals = [undef] ∧ Inv C1 (Res.cell b29 [.int .i64 (ckT (slotOf rb each 1) : Int), .slice ad1 ((ckB (slotOf rb each 1)).length) c1] 55 :: Res.cell b15 [.int .i64 (ckT (slotOf rb each 1) : Int), .slice ad1 ((ckB (slotOf rb each 1)).length) c1] 55 :: Res.cell b11 [.pointer (some ⟨p, 0, none⟩), .int .i64 (from_ : Int), .int .i64 (each : Int), .int .i64 (ckG (slotOf rb each 1) : Int), .bool false] 64 :: Res.cell p [.slice sa D.dur.length sc, .slice aa D.pend.length ac, .slice wa D.pend.length wc, .int .i64 (-1)] 99 :: Res.cell b2 [.int .i64 (ckT (slotOf rb each 1) : Int), .slice ad1 ((ckB (slotOf rb each 1)).length) c1] 55 :: H) w, fun _ _ _ ⟨h, hi⟩ he => ⟨h, hi.ext he⟩⟩] 84 rfl (by kernel_rfl) ⟨rfl, hv⟩ ⟨?_, ?_, ?_, ?_, ?_, ?_, trivial⟩ ?_
      · intro aa ww vals hJ hR
        exact add_step' rfl (Ex.adds' (ex_move rfl (show aa.eval (.tmp 12) = _ from hR.keep 12 rfl)) (wn rfl) rfl)
      · intro aa ww vals hJ hR
        have h2 : vals.length ≤ 0 := hR.hi 3 (by simp) rfl
        have hl : vals.length = 0 := by omega
        obtain ⟨hvals, hv⟩ := hJ.at0 hl
        exact add_step' rfl (Ex.adds' (ex_load rfl (show aa.eval (.tmp 13) = _ from hR.keep 13 rfl) (run_load_mid (pre := []) (mid := [.int .i64 (ckT (slotOf rb each 1) : Int), .slice ad1 ((ckB (slotOf rb each 1)).length) c1]) (post := []) r9wd55 (show Blk _ b15 ([] ++ [.int .i64 (ckT (slotOf rb each 1) : Int), .slice ad1 ((ckB (slotOf rb each 1)).length) c1] ++ []) _ from hv.get 1 rfl) rfl)) (wn rfl) rfl)
      · intro aa ww vals hJ hR
        exact add_step' rfl (Ex.adds' (ex_assign rfl (show aa.eval (.tmp 82) = _ from hR.v 0 82 rfl rfl rfl rfl)) (wn rfl) rfl)
      · intro aa ww vals hJ hR
        refine mem_step' rfl fun hvl => ?_
        have hl : vals.length = 0 := hvl
        obtain ⟨hvals, hv⟩ := hJ.at0 hl
        refine mem_storeNAt 4 (new := [.int .i64 (ckT (slotOf rb each 1) : Int), .slice ad1 ((ckB (slotOf rb each 1)).length) c1]) (pre := []) (mid := [.int .i64 0, .slice none 0 0]) (post := []) (L' := [.int .i64 (ckT (slotOf rb each 1) : Int), .slice ad1 ((ckB (slotOf rb each 1)).length) c1]) (wn rfl) rfl (show aa.eval (.tmp 7) = _ from hR.keep 7 rfl) (show aa.eval (.tmp 83) = _ from hR.v 1 83 rfl rfl rfl rfl) hv rfl r9sz55 rfl rfl rfl (one_cons rfl (one_cons rfl one_nil)) rfl (fun w40 hv => ?_)
        exact JS.next hl ⟨by rw [hvals]; rfl, hv⟩
      · intro aa ww vals hJ hR
        exact add_step' rfl (Ex.adds' (ex_assign rfl rfl) (wn rfl) rfl)
      · intro aa ww vals hJ hR
        exact add_step' rfl (Ex.adds' (ex_assign rfl rfl) (wn rfl) rfl)
      rintro w41 vals ⟨rfl, hv⟩
      rw [show mixV [3] [undef] 0 [.pointer (some ⟨b11, 0, none⟩), .agg #[.int .i64 (ckT (slotOf rb each 1) : Int), .slice ad1 ((ckB (slotOf rb each 1)).length) c1], .pointer (some ⟨b11, 0, none⟩), undef, .bool true, .int .i64 0] = [.pointer (some ⟨b11, 0, none⟩), .agg #[.int .i64 (ckT (slotOf rb each 1) : Int), .slice ad1 ((ckB (slotOf rb each 1)).length) c1], .pointer (some ⟨b11, 0, none⟩), undef, .bool true, .int .i64 0] from rfl]
      simp only [putAll, Act.put, List.setIfInBounds_toArray, List.set_cons_succ, List.set_cons_zero]
      refine then_normal (hK39 _ _ ?_)
      clear hK39 K39
      refine wpIn_ret ?_
      refine bodyPost_ret (res_tcell4 rfl rfl (run_load_mid (pre := []) (mid := [.int .i64 (ckT (slotOf rb each 1) : Int), .slice ad1 ((ckB (slotOf rb each 1)).length) c1]) (post := []) r9wd55 (show Blk _ b2 ([] ++ [.int .i64 (ckT (slotOf rb each 1) : Int), .slice ad1 ((ckB (slotOf rb each 1)).length) c1] ++ []) _ from hv.get 4 rfl) rfl)) rfl ?_
      have hcur : CurI rb each 2 (some (slotOf rb each 1)) := .yes (cur_n hno0) hyes1 (by have := hyes1.g1; show _ > 0; omega)
      have hd9 : decide ((cG (some (slotOf rb each 1)) : Int) > 0) = true := decide_eq_true (by have := hyes1.g1; show ((ckG (slotOf rb each 1) : Nat) : Int) > 0; omega)
      rw [hrb] at hcur hd9
      subst hrb
      exact ⟨_, _, some _, _, _, hB1, hcur, by rw [hd9]; rfl, hr1, (((hv.front 3 rfl).front 3 rfl).sub (List.Sublist.cons_cons _ (List.Sublist.cons_cons _ (List.Sublist.cons _ (List.Sublist.cons _ (List.Sublist.cons _ (List.Sublist.refl _)))))))⟩
  · refine ⟨_, rfl, ?_⟩
    refine wpi_exG (v := .tuple #[.agg #[.int .i64 (ckT (slotOf rb each 0) : Int), .slice ad0 ((ckB (slotOf rb each 0)).length) c0], .int .i64 (ckG (slotOf rb each 0) : Int), .bool true]) (fun _ => trivial) (wn rfl) rfl (ex_move rfl rfl) ?_
    simp only [Act.put, List.setIfInBounds_toArray, List.set_cons_succ, List.set_cons_zero]
    refine wpi_exG (v := .agg #[.int .i64 (ckT (slotOf rb each 0) : Int), .slice ad0 ((ckB (slotOf rb each 0)).length) c0]) (fun _ => trivial) (wn rfl) rfl (ex_extract rfl rfl rfl) ?_
    refine wpi_exG (v := .int .i64 (ckG (slotOf rb each 0) : Int)) (fun _ => trivial) (wn rfl) rfl (ex_extract rfl rfl rfl) ?_
    refine wpi_exG (v := .bool true) (fun _ => trivial) (wn rfl) rfl (ex_extract rfl rfl rfl) ?_
    simp only [Act.put, List.setIfInBounds_toArray, List.set_cons_succ, List.set_cons_zero]
    refine sl_alloc (fun _ => trivial) (wn rfl) rfl hv r9al55 (fun b42 w43 hv => ?_)
    refine sl_storeNAt 0 (new := [.int .i64 (ckT (slotOf rb each 0) : Int), .slice ad0 ((ckB (slotOf rb each 0)).length) c0]) (pre := []) (mid := [.int .i64 0, .slice none 0 0]) (post := []) (L' := [.int .i64 (ckT (slotOf rb each 0) : Int), .slice ad0 ((ckB (slotOf rb each 0)).length) c0]) (fun _ => trivial) (wn rfl) rfl rfl rfl hv rfl r9sz55 rfl rfl rfl (one_cons rfl (one_cons rfl one_nil)) rfl (fun w44 hv => ?_)
    simp only [List.set_cons_succ, List.set_cons_zero] at hv
    refine wpi_exG (v := .int .i64 (ckG (slotOf rb each 0) : Int)) (fun _ => trivial) (wn rfl) rfl (ex_assign rfl rfl) ?_
    simp only [Act.put, List.setIfInBounds_toArray, List.set_cons_succ, List.set_cons_zero]
    refine wpi_exG (v := .bool true) (fun _ => trivial) (wn rfl) rfl (ex_assign rfl rfl) ?_
    refine wpListIn_nil ?_
    simp only [Act.put, List.setIfInBounds_toArray, List.set_cons_succ, List.set_cons_zero]
    refine then_normal (hK13 _ _ ?_)
    clear hK13 K13
    refine wpIn_seq_k (fun K45 hK45 => ?_)
    refine wpIn_region_lit ?_
    refine wpi_exG (v := .string ⟨rb.toArray⟩) (fun _ => trivial) (wn rfl) rfl (ex_move rfl rfl) ?_
    refine wpi_exG (v := .int .i64 (each : Int)) (fun _ => trivial) (wn rfl) rfl (ex_move rfl rfl) ?_
    refine wpi_exG (v := .int .i64 ((64 * each : Nat) : Int)) (fun _ => trivial) (wn rfl) rfl (ex_mul (m := 64) (n := (each : Int)) rfl rfl rfl (by rw [i64_in (by omega)]; omega)) ?_
    simp only [Act.put, List.setIfInBounds_toArray, List.set_cons_succ, List.set_cons_zero]
    refine wpi_exG (v := .string ⟨(slotOf rb each 1).toArray⟩) (fun _ => trivial) (wn rfl) rfl (ex_slice (lo' := (some (.int .i64 ((64 * each : Nat) : Int)))) (hi' := none) rfl rfl rfl rfl rfl (run_slot1 Try.underlying9 hrl _)) ?_
    refine wpi_callG r9callable52 (fun _ => trivial) wideC rfl (wn rfl) rfl (args := #[.string ⟨(slotOf rb each 1).toArray⟩, .int .i64 1]) (by simp only [List.map_toArray, List.map_cons, List.map_nil]; rfl) ((refSave _ _ _ (slotOf rb each 1) 1 (by rw [slot_len hrl (by omega)]; omega) (by omega) (by rw [slot_len hrl (by omega)]; omega) hv).mono ?_)
    rintro e w46 (⟨hno1, rfl, hv⟩ | ⟨hyes1, C1, ad1, c1, hB1, rfl, hr1, hv⟩)
    · refine ⟨_, rfl, ?_⟩
      unfold ckNo
      refine wpi_exG (v := .tuple #[.agg #[.int .i64 0, .slice none 0 0], .int .i64 0, .bool false]) (fun _ => trivial) (wn rfl) rfl (ex_move rfl rfl) ?_
      simp only [Act.put, List.setIfInBounds_toArray, List.set_cons_succ, List.set_cons_zero]
      refine wpi_exG (v := .agg #[.int .i64 0, .slice none 0 0]) (fun _ => trivial) (wn rfl) rfl (ex_extract rfl rfl rfl) ?_
      refine wpi_exG (v := .int .i64 0) (fun _ => trivial) (wn rfl) rfl (ex_extract rfl rfl rfl) ?_
      refine wpi_exG (v := .bool false) (fun _ => trivial) (wn rfl) rfl (ex_extract rfl rfl rfl) ?_
      simp only [Act.put, List.setIfInBounds_toArray, List.set_cons_succ, List.set_cons_zero]
      refine sl_alloc (fun _ => trivial) (wn rfl) rfl hv r9al55 (fun b47 w48 hv => ?_)
      refine sl_storeNAt 0 (new := [.int .i64 0, .slice none 0 0]) (pre := []) (mid := [.int .i64 0, .slice none 0 0]) (post := []) (L' := [.int .i64 0, .slice none 0 0]) (fun _ => trivial) (wn rfl) rfl rfl rfl hv rfl r9sz55 rfl rfl rfl (one_cons rfl (one_cons rfl one_nil)) rfl (fun w49 hv => ?_)
      simp only [List.set_cons_succ, List.set_cons_zero] at hv
      refine wpi_exG (v := .int .i64 0) (fun _ => trivial) (wn rfl) rfl (ex_assign rfl rfl) ?_
      simp only [Act.put, List.setIfInBounds_toArray, List.set_cons_succ, List.set_cons_zero]
      refine wpi_exG (v := .bool false) (fun _ => trivial) (wn rfl) rfl (ex_assign rfl rfl) ?_
      refine wpListIn_nil ?_
      simp only [Act.put, List.setIfInBounds_toArray, List.set_cons_succ, List.set_cons_zero]
      refine then_normal (hK45 _ _ ?_)
      clear hK45 K45
      refine wpIn_seq_k (fun K50 hK50 => ?_)
      refine wpIn_seq_k (fun K51 hK51 => ?_)
      refine wpIn_region_lit ?_
      refine wpi_exG (v := .bool false) (fun _ => trivial) (wn rfl) rfl (ex_move rfl rfl) ?_
      refine wpi_exG (v := .bool false) (fun _ => trivial) (wn rfl) rfl (ex_move rfl rfl) ?_
      refine wpi_not (fun _ => trivial) (wanted_not (j := 1) (d := 62) (b := true) (b' := false) rfl rfl rfl (by decide)) ?_
      simp only [Act.put, List.setIfInBounds_toArray, List.set_cons_succ, List.set_cons_zero]
      refine wpi_not (fun _ => trivial) (wanted_not (j := 1) (d := 62) (b := true) (b' := false) rfl rfl rfl (by decide)) ?_
      refine wpi_not (fun _ => trivial) (wanted_not (j := 1) (d := 62) (b := true) (b' := false) rfl rfl rfl (by decide)) ?_
      refine wpi_not (fun _ => trivial) (wanted_undef (j := 4) (d := 65) rfl rfl rfl) ?_
      simp only [Act.put, List.setIfInBounds_toArray, List.set_cons_succ, List.set_cons_zero]
      refine wpi_not (fun _ => trivial) (wanted_undef (j := 4) (d := 65) rfl rfl rfl) ?_
      refine wpi_not (fun _ => trivial) (wanted_undef (j := 4) (d := 65) rfl rfl rfl) ?_
      refine wpi_not (fun _ => trivial) (wanted_not (j := 1) (d := 62) (b := true) (b' := false) rfl rfl rfl (by decide)) ?_
      simp only [Act.put, List.setIfInBounds_toArray, List.set_cons_succ, List.set_cons_zero]
      refine wpi_exG (v := .bool false) (fun _ => trivial) (wn rfl) rfl (ex_pick (b := false) rfl rfl rfl) ?_
      refine wpListIn_nil ?_
      simp only [Act.put, List.setIfInBounds_toArray, List.set_cons_succ, List.set_cons_zero]
      refine then_normal (hK51 _ _ ?_)
      clear hK51 K51
      refine wpIn_cond_false rfl ?_
      refine wpIn_skip ?_
      refine then_normal (hK50 _ _ ?_)
      clear hK50 K50
      refine wpIn_seq_k (fun K52 hK52 => ?_)
      refine wpIn_seq_k (fun K53 hK53 => ?_)
      refine wpIn_region_lit ?_
      refine wpi_exG (v := .bool true) (fun _ => trivial) (wn rfl) rfl (ex_move rfl rfl) ?_
      refine wpi_exG (v := .bool false) (fun _ => trivial) (wn rfl) rfl (ex_not rfl rfl rfl) ?_
      refine wpListIn_nil ?_
      simp only [Act.put, List.setIfInBounds_toArray, List.set_cons_succ, List.set_cons_zero]
      refine then_normal (hK53 _ _ ?_)
      clear hK53 K53
      refine wpIn_cond_false rfl ?_
      refine wpIn_skip ?_
      refine then_normal (hK52 _ _ ?_)
      clear hK52 K52
      refine wpIn_seq_k (fun K54 hK54 => ?_)
      refine wpIn_region_lit ?_
      refine wpi_exG (v := .pointer (some ⟨b11, 0, none⟩)) (fun _ => trivial) (wn rfl) rfl (ex_move rfl rfl) ?_
      refine wpi_exG (v := .int .i64 (ckG (slotOf rb each 0) : Int)) (fun _ => trivial) (wn rfl) rfl (ex_move rfl rfl) ?_
      refine wpi_exG (v := .pointer (some ⟨b11, 0, none⟩)) (fun _ => trivial) (wn rfl) rfl (ex_nil rfl rfl) ?_
      simp only [Act.put, List.setIfInBounds_toArray, List.set_cons_succ, List.set_cons_zero]
      refine wpi_exG (v := .pointer (some ⟨b11, 3, none⟩)) (fun _ => trivial) (wn rfl) rfl (ex_field rfl rfl (r9fa64_3 _ _ _)) ?_
      refine sl_storeAt 2 (v := .int .i64 (ckG (slotOf rb each 0) : Int)) (L' := [.pointer (some ⟨p, 0, none⟩), .int .i64 (from_ : Int), .int .i64 (each : Int), .int .i64 (ckG (slotOf rb each 0) : Int), .bool false]) (fun _ => trivial) (wn rfl) rfl rfl rfl hv rfl r9sz3 (by simp) rfl rfl rfl (fun w55 hv => ?_)
      simp only [List.set_cons_succ, List.set_cons_zero] at hv
      refine wpListIn_nil ?_
      simp only [Act.put, List.setIfInBounds_toArray, List.set_cons_succ, List.set_cons_zero]
      refine then_normal (hK54 _ _ ?_)
      clear hK54 K54
      refine wpIn_seq_k (fun K56 hK56 => ?_)
      refine region_st mixed [.pointer (some ⟨b11, 0, none⟩), .agg #[.int .i64 (ckT (slotOf rb each 0) : Int), .slice ad0 ((ckB (slotOf rb each 0)).length) c0], .pointer (some ⟨b11, 0, none⟩), undef, .bool true, .int .i64 0] [3] [⟨fun vals w => vals = [] ∧ Inv C0 (Res.cell b47 [.int .i64 0, .slice none 0 0] 55 :: Res.cell b42 [.int .i64 (ckT (slotOf rb each 0) : Int), .slice ad0 ((ckB (slotOf rb each 0)).length) c0] 55 :: Res.cell b11 [.pointer (some ⟨p, 0, none⟩), .int .i64 (from_ : Int), .int .i64 (each : Int), .int .i64 (ckG (slotOf rb each 0) : Int), .bool false] 64 :: Res.cell p [.slice sa D.dur.length sc, .slice aa D.pend.length ac, .slice wa D.pend.length wc, .int .i64 (-1)] 99 :: Res.cell b2 [.int .i64 0, .slice none 0 0] 55 :: H) w, fun _ _ _ ⟨h, hi⟩ he => ⟨h, hi.ext he⟩⟩, ⟨fun vals w => vals = [undef] ∧ Inv C0 (Res.cell b47 [.int .i64 0, .slice none 0 0] 55 :: Res.cell b42 [.int .i64 (ckT (slotOf rb each 0) : Int), .slice ad0 ((ckB (slotOf rb each 0)).length) c0] 55 :: Res.cell b11 [.pointer (some ⟨p, 0, none⟩), .int .i64 (from_ : Int), .int .i64 (each : Int), .int .i64 (ckG (slotOf rb each 0) : Int), .bool false] 64 :: Res.cell p [.slice sa D.dur.length sc, .slice aa D.pend.length ac, .slice wa D.pend.length wc, .int .i64 (-1)] 99 :: Res.cell b2 [.int .i64 (ckT (slotOf rb each 0) : Int), .slice ad0 ((ckB (slotOf rb each 0)).length) c0] 55 :: H) w, fun _ _ _ ⟨h, hi⟩ he => ⟨h, hi.ext he⟩⟩] 84 rfl (by kernel_rfl) ⟨rfl, hv⟩ ⟨?_, ?_, ?_, ?_, ?_, ?_, trivial⟩ ?_
      · intro aa ww vals hJ hR
        exact add_step' rfl (Ex.adds' (ex_move rfl (show aa.eval (.tmp 12) = _ from hR.keep 12 rfl)) (wn rfl) rfl)
      · intro aa ww vals hJ hR
        have h2 : vals.length ≤ 0 := hR.hi 3 (by simp) rfl
        have hl : vals.length = 0 := by omega
        obtain ⟨hvals, hv⟩ := hJ.at0 hl
        exact add_step' rfl (Ex.adds' (ex_load rfl (show aa.eval (.tmp 13) = _ from hR.keep 13 rfl) (run_load_mid (pre := []) (mid := [.int .i64 (ckT (slotOf rb each 0) : Int), .slice ad0 ((ckB (slotOf rb each 0)).length) c0]) (post := []) r9wd55 (show Blk _ b42 ([] ++ [.int .i64 (ckT (slotOf rb each 0) : Int), .slice ad0 ((ckB (slotOf rb each 0)).length) c0] ++ []) _ from hv.get 1 rfl) rfl)) (wn rfl) rfl)
      · intro aa ww vals hJ hR
        exact add_step' rfl (Ex.adds' (ex_assign rfl (show aa.eval (.tmp 82) = _ from hR.v 0 82 rfl rfl rfl rfl)) (wn rfl) rfl)
      · intro aa ww vals hJ hR
        refine mem_step' rfl fun hvl => ?_
        have hl : vals.length = 0 := hvl
        obtain ⟨hvals, hv⟩ := hJ.at0 hl
        refine mem_storeNAt 4 (new := [.int .i64 (ckT (slotOf rb each 0) : Int), .slice ad0 ((ckB (slotOf rb each 0)).length) c0]) (pre := []) (mid := [.int .i64 0, .slice none 0 0]) (post := []) (L' := [.int .i64 (ckT (slotOf rb each 0) : Int), .slice ad0 ((ckB (slotOf rb each 0)).length) c0]) (wn rfl) rfl (show aa.eval (.tmp 7) = _ from hR.keep 7 rfl) (show aa.eval (.tmp 83) = _ from hR.v 1 83 rfl rfl rfl rfl) hv rfl r9sz55 rfl rfl rfl (one_cons rfl (one_cons rfl one_nil)) rfl (fun w57 hv => ?_)
        exact JS.next hl ⟨by rw [hvals]; rfl, hv⟩
      · intro aa ww vals hJ hR
        exact add_step' rfl (Ex.adds' (ex_assign rfl rfl) (wn rfl) rfl)
      · intro aa ww vals hJ hR
        exact add_step' rfl (Ex.adds' (ex_assign rfl rfl) (wn rfl) rfl)
      rintro w58 vals ⟨rfl, hv⟩
      rw [show mixV [3] [undef] 0 [.pointer (some ⟨b11, 0, none⟩), .agg #[.int .i64 (ckT (slotOf rb each 0) : Int), .slice ad0 ((ckB (slotOf rb each 0)).length) c0], .pointer (some ⟨b11, 0, none⟩), undef, .bool true, .int .i64 0] = [.pointer (some ⟨b11, 0, none⟩), .agg #[.int .i64 (ckT (slotOf rb each 0) : Int), .slice ad0 ((ckB (slotOf rb each 0)).length) c0], .pointer (some ⟨b11, 0, none⟩), undef, .bool true, .int .i64 0] from rfl]
      simp only [putAll, Act.put, List.setIfInBounds_toArray, List.set_cons_succ, List.set_cons_zero]
      refine then_normal (hK56 _ _ ?_)
      clear hK56 K56
      refine wpIn_ret ?_
      refine bodyPost_ret (res_tcell4 rfl rfl (run_load_mid (pre := []) (mid := [.int .i64 (ckT (slotOf rb each 0) : Int), .slice ad0 ((ckB (slotOf rb each 0)).length) c0]) (post := []) r9wd55 (show Blk _ b2 ([] ++ [.int .i64 (ckT (slotOf rb each 0) : Int), .slice ad0 ((ckB (slotOf rb each 0)).length) c0] ++ []) _ from hv.get 4 rfl) rfl)) rfl ?_
      have hcur : CurI rb each 2 (some (slotOf rb each 0)) := .no (cur_0 hyes0) (fun h => hno1 h.1)
      have hd9 : decide ((cG (some (slotOf rb each 0)) : Int) > 0) = true := decide_eq_true (by have := hyes0.g1; show ((ckG (slotOf rb each 0) : Nat) : Int) > 0; omega)
      rw [hrb] at hcur hd9
      subst hrb
      exact ⟨_, _, some _, _, _, hB0, hcur, by rw [hd9]; rfl, hr0, (((hv.front 3 rfl).front 3 rfl).sub (List.Sublist.cons_cons _ (List.Sublist.cons_cons _ (List.Sublist.cons _ (List.Sublist.cons _ (List.Sublist.cons _ (List.Sublist.refl _)))))))⟩
    · refine ⟨_, rfl, ?_⟩
      replace hr0 := hr0.more hB1 (fun _ h => h)
      refine wpi_exG (v := .tuple #[.agg #[.int .i64 (ckT (slotOf rb each 1) : Int), .slice ad1 ((ckB (slotOf rb each 1)).length) c1], .int .i64 (ckG (slotOf rb each 1) : Int), .bool true]) (fun _ => trivial) (wn rfl) rfl (ex_move rfl rfl) ?_
      simp only [Act.put, List.setIfInBounds_toArray, List.set_cons_succ, List.set_cons_zero]
      refine wpi_exG (v := .agg #[.int .i64 (ckT (slotOf rb each 1) : Int), .slice ad1 ((ckB (slotOf rb each 1)).length) c1]) (fun _ => trivial) (wn rfl) rfl (ex_extract rfl rfl rfl) ?_
      refine wpi_exG (v := .int .i64 (ckG (slotOf rb each 1) : Int)) (fun _ => trivial) (wn rfl) rfl (ex_extract rfl rfl rfl) ?_
      refine wpi_exG (v := .bool true) (fun _ => trivial) (wn rfl) rfl (ex_extract rfl rfl rfl) ?_
      simp only [Act.put, List.setIfInBounds_toArray, List.set_cons_succ, List.set_cons_zero]
      refine sl_alloc (fun _ => trivial) (wn rfl) rfl hv r9al55 (fun b59 w60 hv => ?_)
      refine sl_storeNAt 0 (new := [.int .i64 (ckT (slotOf rb each 1) : Int), .slice ad1 ((ckB (slotOf rb each 1)).length) c1]) (pre := []) (mid := [.int .i64 0, .slice none 0 0]) (post := []) (L' := [.int .i64 (ckT (slotOf rb each 1) : Int), .slice ad1 ((ckB (slotOf rb each 1)).length) c1]) (fun _ => trivial) (wn rfl) rfl rfl rfl hv rfl r9sz55 rfl rfl rfl (one_cons rfl (one_cons rfl one_nil)) rfl (fun w61 hv => ?_)
      simp only [List.set_cons_succ, List.set_cons_zero] at hv
      refine wpi_exG (v := .int .i64 (ckG (slotOf rb each 1) : Int)) (fun _ => trivial) (wn rfl) rfl (ex_assign rfl rfl) ?_
      simp only [Act.put, List.setIfInBounds_toArray, List.set_cons_succ, List.set_cons_zero]
      refine wpi_exG (v := .bool true) (fun _ => trivial) (wn rfl) rfl (ex_assign rfl rfl) ?_
      refine wpListIn_nil ?_
      simp only [Act.put, List.setIfInBounds_toArray, List.set_cons_succ, List.set_cons_zero]
      refine then_normal (hK45 _ _ ?_)
      clear hK45 K45
      refine wpIn_seq_k (fun K62 hK62 => ?_)
      refine wpIn_seq_k (fun K63 hK63 => ?_)
      refine wpIn_region_lit ?_
      refine wpi_exG (v := .bool true) (fun _ => trivial) (wn rfl) rfl (ex_move rfl rfl) ?_
      refine wpi_exG (v := .bool true) (fun _ => trivial) (wn rfl) rfl (ex_move rfl rfl) ?_
      refine wpi_exG (v := .bool true) (fun _ => trivial) (wanted_of (j := 1) (d := 62) (b := true) rfl rfl rfl) rfl (ex_move rfl rfl) ?_
      simp only [Act.put, List.setIfInBounds_toArray, List.set_cons_succ, List.set_cons_zero]
      refine wpi_exG (v := .bool false) (fun _ => trivial) (wanted_of (j := 1) (d := 62) (b := true) rfl rfl rfl) rfl (ex_not rfl rfl rfl) ?_
      refine wpi_exG (v := .bool false) (fun _ => trivial) (wanted_of (j := 1) (d := 62) (b := true) rfl rfl rfl) rfl (ex_move rfl rfl) ?_
      refine wpi_exG (v := .int .i64 (ckG (slotOf rb each 1) : Int)) (fun _ => trivial) (wanted_of (j := 4) (d := 65) (b := false) rfl rfl rfl) rfl (ex_move rfl rfl) ?_
      simp only [Act.put, List.setIfInBounds_toArray, List.set_cons_succ, List.set_cons_zero]
      refine wpi_exG (v := .int .i64 (ckG (slotOf rb each 0) : Int)) (fun _ => trivial) (wanted_of (j := 4) (d := 65) (b := false) rfl rfl rfl) rfl (ex_move rfl rfl) ?_
      by_cases hb64 : (ckG (slotOf rb each 1) : Int) > (ckG (slotOf rb each 0) : Int)
      · refine wpi_exG (v := .bool true) (fun _ => trivial) (wanted_of (j := 4) (d := 65) (b := false) rfl rfl rfl) rfl (ex_gtr (k := .i64) (m := (ckG (slotOf rb each 1) : Int)) (n := (ckG (slotOf rb each 0) : Int)) rfl rfl rfl (decide_eq_true hb64)) ?_
        refine wpi_exG (v := .bool true) (fun _ => trivial) (wanted_of (j := 1) (d := 62) (b := true) rfl rfl rfl) rfl (ex_pick (b := false) rfl rfl rfl) ?_
        simp only [Act.put, List.setIfInBounds_toArray, List.set_cons_succ, List.set_cons_zero]
        refine wpi_exG (v := .bool true) (fun _ => trivial) (wn rfl) rfl (ex_pick (b := true) rfl rfl rfl) ?_
        refine wpListIn_nil ?_
        simp only [Act.put, List.setIfInBounds_toArray, List.set_cons_succ, List.set_cons_zero]
        refine then_normal (hK63 _ _ ?_)
        clear hK63 K63
        refine wpIn_cond_true rfl ?_
        refine wpIn_region_lit ?_
        refine wpi_exG (v := .agg #[.int .i64 (ckT (slotOf rb each 1) : Int), .slice ad1 ((ckB (slotOf rb each 1)).length) c1]) (fun _ => trivial) (wn rfl) rfl (ex_load rfl rfl (run_load_mid (pre := []) (mid := [.int .i64 (ckT (slotOf rb each 1) : Int), .slice ad1 ((ckB (slotOf rb each 1)).length) c1]) (post := []) r9wd55 (show Blk _ b59 ([] ++ [.int .i64 (ckT (slotOf rb each 1) : Int), .slice ad1 ((ckB (slotOf rb each 1)).length) c1] ++ []) _ from hv.get 0 rfl) rfl)) ?_
        refine wpi_exG (v := .int .i64 (ckG (slotOf rb each 1) : Int)) (fun _ => trivial) (wn rfl) rfl (ex_move rfl rfl) ?_
        refine wpi_exG (v := .bool true) (fun _ => trivial) (wn rfl) rfl (ex_move rfl rfl) ?_
        simp only [Act.put, List.setIfInBounds_toArray, List.set_cons_succ, List.set_cons_zero]
        refine sl_storeNAt 1 (new := [.int .i64 (ckT (slotOf rb each 1) : Int), .slice ad1 ((ckB (slotOf rb each 1)).length) c1]) (pre := []) (mid := [.int .i64 (ckT (slotOf rb each 0) : Int), .slice ad0 ((ckB (slotOf rb each 0)).length) c0]) (post := []) (L' := [.int .i64 (ckT (slotOf rb each 1) : Int), .slice ad1 ((ckB (slotOf rb each 1)).length) c1]) (fun _ => trivial) (wn rfl) rfl rfl rfl hv rfl r9sz55 rfl rfl rfl (one_cons rfl (one_cons rfl one_nil)) rfl (fun w65 hv => ?_)
        simp only [List.set_cons_succ, List.set_cons_zero] at hv
        refine wpi_exG (v := .int .i64 (ckG (slotOf rb each 1) : Int)) (fun _ => trivial) (wn rfl) rfl (ex_assign rfl rfl) ?_
        refine wpi_exG (v := .bool true) (fun _ => trivial) (wn rfl) rfl (ex_assign rfl rfl) ?_
        refine wpListIn_nil ?_
        simp only [Act.put, List.setIfInBounds_toArray, List.set_cons_succ, List.set_cons_zero]
        refine then_normal (hK62 _ _ ?_)
        clear hK62 K62
        refine wpIn_seq_k (fun K66 hK66 => ?_)
        refine wpIn_seq_k (fun K67 hK67 => ?_)
        refine wpIn_region_lit ?_
        refine wpi_exG (v := .bool true) (fun _ => trivial) (wn rfl) rfl (ex_move rfl rfl) ?_
        refine wpi_exG (v := .bool false) (fun _ => trivial) (wn rfl) rfl (ex_not rfl rfl rfl) ?_
        refine wpListIn_nil ?_
        simp only [Act.put, List.setIfInBounds_toArray, List.set_cons_succ, List.set_cons_zero]
        refine then_normal (hK67 _ _ ?_)
        clear hK67 K67
        refine wpIn_cond_false rfl ?_
        refine wpIn_skip ?_
        refine then_normal (hK66 _ _ ?_)
        clear hK66 K66
        refine wpIn_seq_k (fun K68 hK68 => ?_)
        refine wpIn_region_lit ?_
        refine wpi_exG (v := .pointer (some ⟨b11, 0, none⟩)) (fun _ => trivial) (wn rfl) rfl (ex_move rfl rfl) ?_
        refine wpi_exG (v := .int .i64 (ckG (slotOf rb each 1) : Int)) (fun _ => trivial) (wn rfl) rfl (ex_move rfl rfl) ?_
        refine wpi_exG (v := .pointer (some ⟨b11, 0, none⟩)) (fun _ => trivial) (wn rfl) rfl (ex_nil rfl rfl) ?_
        simp only [Act.put, List.setIfInBounds_toArray, List.set_cons_succ, List.set_cons_zero]
        refine wpi_exG (v := .pointer (some ⟨b11, 3, none⟩)) (fun _ => trivial) (wn rfl) rfl (ex_field rfl rfl (r9fa64_3 _ _ _)) ?_
        refine sl_storeAt 2 (v := .int .i64 (ckG (slotOf rb each 1) : Int)) (L' := [.pointer (some ⟨p, 0, none⟩), .int .i64 (from_ : Int), .int .i64 (each : Int), .int .i64 (ckG (slotOf rb each 1) : Int), .bool false]) (fun _ => trivial) (wn rfl) rfl rfl rfl hv rfl r9sz3 (by simp) rfl rfl rfl (fun w69 hv => ?_)
        simp only [List.set_cons_succ, List.set_cons_zero] at hv
        refine wpListIn_nil ?_
        simp only [Act.put, List.setIfInBounds_toArray, List.set_cons_succ, List.set_cons_zero]
        refine then_normal (hK68 _ _ ?_)
        clear hK68 K68
        refine wpIn_seq_k (fun K70 hK70 => ?_)
        refine region_st mixed [.pointer (some ⟨b11, 0, none⟩), .agg #[.int .i64 (ckT (slotOf rb each 1) : Int), .slice ad1 ((ckB (slotOf rb each 1)).length) c1], .pointer (some ⟨b11, 0, none⟩), undef, .bool true, .int .i64 0] [3] [⟨fun vals w => vals = [] ∧ Inv C1 (Res.cell b59 [.int .i64 (ckT (slotOf rb each 1) : Int), .slice ad1 ((ckB (slotOf rb each 1)).length) c1] 55 :: Res.cell b42 [.int .i64 (ckT (slotOf rb each 1) : Int), .slice ad1 ((ckB (slotOf rb each 1)).length) c1] 55 :: Res.cell b11 [.pointer (some ⟨p, 0, none⟩), .int .i64 (from_ : Int), .int .i64 (each : Int), .int .i64 (ckG (slotOf rb each 1) : Int), .bool false] 64 :: Res.cell p [.slice sa D.dur.length sc, .slice aa D.pend.length ac, .slice wa D.pend.length wc, .int .i64 (-1)] 99 :: Res.cell b2 [.int .i64 0, .slice none 0 0] 55 :: H) w, fun _ _ _ ⟨h, hi⟩ he => ⟨h, hi.ext he⟩⟩, ⟨fun vals w => vals = [undef] ∧ Inv C1 (Res.cell b59 [.int .i64 (ckT (slotOf rb each 1) : Int), .slice ad1 ((ckB (slotOf rb each 1)).length) c1] 55 :: Res.cell b42 [.int .i64 (ckT (slotOf rb each 1) : Int), .slice ad1 ((ckB (slotOf rb each 1)).length) c1] 55 :: Res.cell b11 [.pointer (some ⟨p, 0, none⟩), .int .i64 (from_ : Int), .int .i64 (each : Int), .int .i64 (ckG (slotOf rb each 1) : Int), .bool false] 64 :: Res.cell p [.slice sa D.dur.length sc, .slice aa D.pend.length ac, .slice wa D.pend.length wc, .int .i64 (-1)] 99 :: Res.cell b2 [.int .i64 (ckT (slotOf rb each 1) : Int), .slice ad1 ((ckB (slotOf rb each 1)).length) c1] 55 :: H) w, fun _ _ _ ⟨h, hi⟩ he => ⟨h, hi.ext he⟩⟩] 84 rfl (by kernel_rfl) ⟨rfl, hv⟩ ⟨?_, ?_, ?_, ?_, ?_, ?_, trivial⟩ ?_
        · intro aa ww vals hJ hR
          exact add_step' rfl (Ex.adds' (ex_move rfl (show aa.eval (.tmp 12) = _ from hR.keep 12 rfl)) (wn rfl) rfl)
        · intro aa ww vals hJ hR
          have h2 : vals.length ≤ 0 := hR.hi 3 (by simp) rfl
          have hl : vals.length = 0 := by omega
          obtain ⟨hvals, hv⟩ := hJ.at0 hl
          exact add_step' rfl (Ex.adds' (ex_load rfl (show aa.eval (.tmp 13) = _ from hR.keep 13 rfl) (run_load_mid (pre := []) (mid := [.int .i64 (ckT (slotOf rb each 1) : Int), .slice ad1 ((ckB (slotOf rb each 1)).length) c1]) (post := []) r9wd55 (show Blk _ b42 ([] ++ [.int .i64 (ckT (slotOf rb each 1) : Int), .slice ad1 ((ckB (slotOf rb each 1)).length) c1] ++ []) _ from hv.get 1 rfl) rfl)) (wn rfl) rfl)
        · intro aa ww vals hJ hR
          exact add_step' rfl (Ex.adds' (ex_assign rfl (show aa.eval (.tmp 82) = _ from hR.v 0 82 rfl rfl rfl rfl)) (wn rfl) rfl)
        · intro aa ww vals hJ hR
          refine mem_step' rfl fun hvl => ?_
          have hl : vals.length = 0 := hvl
          obtain ⟨hvals, hv⟩ := hJ.at0 hl
          refine mem_storeNAt 4 (new := [.int .i64 (ckT (slotOf rb each 1) : Int), .slice ad1 ((ckB (slotOf rb each 1)).length) c1]) (pre := []) (mid := [.int .i64 0, .slice none 0 0]) (post := []) (L' := [.int .i64 (ckT (slotOf rb each 1) : Int), .slice ad1 ((ckB (slotOf rb each 1)).length) c1]) (wn rfl) rfl (show aa.eval (.tmp 7) = _ from hR.keep 7 rfl) (show aa.eval (.tmp 83) = _ from hR.v 1 83 rfl rfl rfl rfl) hv rfl r9sz55 rfl rfl rfl (one_cons rfl (one_cons rfl one_nil)) rfl (fun w71 hv => ?_)
          exact JS.next hl ⟨by rw [hvals]; rfl, hv⟩
        · intro aa ww vals hJ hR
          exact add_step' rfl (Ex.adds' (ex_assign rfl rfl) (wn rfl) rfl)
        · intro aa ww vals hJ hR
          exact add_step' rfl (Ex.adds' (ex_assign rfl rfl) (wn rfl) rfl)
        rintro w72 vals ⟨rfl, hv⟩
        rw [show mixV [3] [undef] 0 [.pointer (some ⟨b11, 0, none⟩), .agg #[.int .i64 (ckT (slotOf rb each 1) : Int), .slice ad1 ((ckB (slotOf rb each 1)).length) c1], .pointer (some ⟨b11, 0, none⟩), undef, .bool true, .int .i64 0] = [.pointer (some ⟨b11, 0, none⟩), .agg #[.int .i64 (ckT (slotOf rb each 1) : Int), .slice ad1 ((ckB (slotOf rb each 1)).length) c1], .pointer (some ⟨b11, 0, none⟩), undef, .bool true, .int .i64 0] from rfl]
        simp only [putAll, Act.put, List.setIfInBounds_toArray, List.set_cons_succ, List.set_cons_zero]
        refine then_normal (hK70 _ _ ?_)
        clear hK70 K70
        refine wpIn_ret ?_
        refine bodyPost_ret (res_tcell4 rfl rfl (run_load_mid (pre := []) (mid := [.int .i64 (ckT (slotOf rb each 1) : Int), .slice ad1 ((ckB (slotOf rb each 1)).length) c1]) (post := []) r9wd55 (show Blk _ b2 ([] ++ [.int .i64 (ckT (slotOf rb each 1) : Int), .slice ad1 ((ckB (slotOf rb each 1)).length) c1] ++ []) _ from hv.get 4 rfl) rfl)) rfl ?_
        have hcur : CurI rb each 2 (some (slotOf rb each 1)) := .yes (cur_0 hyes0) hyes1 (by show ckG (slotOf rb each 1) > ckG (slotOf rb each 0); omega)
        have hd9 : decide ((cG (some (slotOf rb each 1)) : Int) > 0) = true := decide_eq_true (by have := hyes1.g1; show ((ckG (slotOf rb each 1) : Nat) : Int) > 0; omega)
        rw [hrb] at hcur hd9
        subst hrb
        exact ⟨_, _, some _, _, _, (hB0.trans hB1), hcur, by rw [hd9]; rfl, hr1, (((hv.front 3 rfl).front 3 rfl).sub (List.Sublist.cons_cons _ (List.Sublist.cons_cons _ (List.Sublist.cons _ (List.Sublist.cons _ (List.Sublist.cons _ (List.Sublist.refl _)))))))⟩
      · refine wpi_exG (v := .bool false) (fun _ => trivial) (wanted_of (j := 4) (d := 65) (b := false) rfl rfl rfl) rfl (ex_gtr (k := .i64) (m := (ckG (slotOf rb each 1) : Int)) (n := (ckG (slotOf rb each 0) : Int)) rfl rfl rfl (decide_eq_false hb64)) ?_
        refine wpi_exG (v := .bool false) (fun _ => trivial) (wanted_of (j := 1) (d := 62) (b := true) rfl rfl rfl) rfl (ex_pick (b := false) rfl rfl rfl) ?_
        simp only [Act.put, List.setIfInBounds_toArray, List.set_cons_succ, List.set_cons_zero]
        refine wpi_exG (v := .bool false) (fun _ => trivial) (wn rfl) rfl (ex_pick (b := true) rfl rfl rfl) ?_
        refine wpListIn_nil ?_
        simp only [Act.put, List.setIfInBounds_toArray, List.set_cons_succ, List.set_cons_zero]
        refine then_normal (hK63 _ _ ?_)
        clear hK63 K63
        refine wpIn_cond_false rfl ?_
        refine wpIn_skip ?_
        refine then_normal (hK62 _ _ ?_)
        clear hK62 K62
        refine wpIn_seq_k (fun K73 hK73 => ?_)
        refine wpIn_seq_k (fun K74 hK74 => ?_)
        refine wpIn_region_lit ?_
        refine wpi_exG (v := .bool true) (fun _ => trivial) (wn rfl) rfl (ex_move rfl rfl) ?_
        refine wpi_exG (v := .bool false) (fun _ => trivial) (wn rfl) rfl (ex_not rfl rfl rfl) ?_
        refine wpListIn_nil ?_
        simp only [Act.put, List.setIfInBounds_toArray, List.set_cons_succ, List.set_cons_zero]
        refine then_normal (hK74 _ _ ?_)
        clear hK74 K74
        refine wpIn_cond_false rfl ?_
        refine wpIn_skip ?_
        refine then_normal (hK73 _ _ ?_)
        clear hK73 K73
        refine wpIn_seq_k (fun K75 hK75 => ?_)
        refine wpIn_region_lit ?_
        refine wpi_exG (v := .pointer (some ⟨b11, 0, none⟩)) (fun _ => trivial) (wn rfl) rfl (ex_move rfl rfl) ?_
        refine wpi_exG (v := .int .i64 (ckG (slotOf rb each 0) : Int)) (fun _ => trivial) (wn rfl) rfl (ex_move rfl rfl) ?_
        refine wpi_exG (v := .pointer (some ⟨b11, 0, none⟩)) (fun _ => trivial) (wn rfl) rfl (ex_nil rfl rfl) ?_
        simp only [Act.put, List.setIfInBounds_toArray, List.set_cons_succ, List.set_cons_zero]
        refine wpi_exG (v := .pointer (some ⟨b11, 3, none⟩)) (fun _ => trivial) (wn rfl) rfl (ex_field rfl rfl (r9fa64_3 _ _ _)) ?_
        refine sl_storeAt 2 (v := .int .i64 (ckG (slotOf rb each 0) : Int)) (L' := [.pointer (some ⟨p, 0, none⟩), .int .i64 (from_ : Int), .int .i64 (each : Int), .int .i64 (ckG (slotOf rb each 0) : Int), .bool false]) (fun _ => trivial) (wn rfl) rfl rfl rfl hv rfl r9sz3 (by simp) rfl rfl rfl (fun w76 hv => ?_)
        simp only [List.set_cons_succ, List.set_cons_zero] at hv
        refine wpListIn_nil ?_
        simp only [Act.put, List.setIfInBounds_toArray, List.set_cons_succ, List.set_cons_zero]
        refine then_normal (hK75 _ _ ?_)
        clear hK75 K75
        refine wpIn_seq_k (fun K77 hK77 => ?_)
        refine region_st mixed [.pointer (some ⟨b11, 0, none⟩), .agg #[.int .i64 (ckT (slotOf rb each 0) : Int), .slice ad0 ((ckB (slotOf rb each 0)).length) c0], .pointer (some ⟨b11, 0, none⟩), undef, .bool true, .int .i64 0] [3] [⟨fun vals w => vals = [] ∧ Inv C1 (Res.cell b59 [.int .i64 (ckT (slotOf rb each 1) : Int), .slice ad1 ((ckB (slotOf rb each 1)).length) c1] 55 :: Res.cell b42 [.int .i64 (ckT (slotOf rb each 0) : Int), .slice ad0 ((ckB (slotOf rb each 0)).length) c0] 55 :: Res.cell b11 [.pointer (some ⟨p, 0, none⟩), .int .i64 (from_ : Int), .int .i64 (each : Int), .int .i64 (ckG (slotOf rb each 0) : Int), .bool false] 64 :: Res.cell p [.slice sa D.dur.length sc, .slice aa D.pend.length ac, .slice wa D.pend.length wc, .int .i64 (-1)] 99 :: Res.cell b2 [.int .i64 0, .slice none 0 0] 55 :: H) w, fun _ _ _ ⟨h, hi⟩ he => ⟨h, hi.ext he⟩⟩, ⟨fun vals w => vals = [undef] ∧ Inv C1 (Res.cell b59 [.int .i64 (ckT (slotOf rb each 1) : Int), .slice ad1 ((ckB (slotOf rb each 1)).length) c1] 55 :: Res.cell b42 [.int .i64 (ckT (slotOf rb each 0) : Int), .slice ad0 ((ckB (slotOf rb each 0)).length) c0] 55 :: Res.cell b11 [.pointer (some ⟨p, 0, none⟩), .int .i64 (from_ : Int), .int .i64 (each : Int), .int .i64 (ckG (slotOf rb each 0) : Int), .bool false] 64 :: Res.cell p [.slice sa D.dur.length sc, .slice aa D.pend.length ac, .slice wa D.pend.length wc, .int .i64 (-1)] 99 :: Res.cell b2 [.int .i64 (ckT (slotOf rb each 0) : Int), .slice ad0 ((ckB (slotOf rb each 0)).length) c0] 55 :: H) w, fun _ _ _ ⟨h, hi⟩ he => ⟨h, hi.ext he⟩⟩] 84 rfl (by kernel_rfl) ⟨rfl, hv⟩ ⟨?_, ?_, ?_, ?_, ?_, ?_, trivial⟩ ?_
        · intro aa ww vals hJ hR
          exact add_step' rfl (Ex.adds' (ex_move rfl (show aa.eval (.tmp 12) = _ from hR.keep 12 rfl)) (wn rfl) rfl)
        · intro aa ww vals hJ hR
          have h2 : vals.length ≤ 0 := hR.hi 3 (by simp) rfl
          have hl : vals.length = 0 := by omega
          obtain ⟨hvals, hv⟩ := hJ.at0 hl
          exact add_step' rfl (Ex.adds' (ex_load rfl (show aa.eval (.tmp 13) = _ from hR.keep 13 rfl) (run_load_mid (pre := []) (mid := [.int .i64 (ckT (slotOf rb each 0) : Int), .slice ad0 ((ckB (slotOf rb each 0)).length) c0]) (post := []) r9wd55 (show Blk _ b42 ([] ++ [.int .i64 (ckT (slotOf rb each 0) : Int), .slice ad0 ((ckB (slotOf rb each 0)).length) c0] ++ []) _ from hv.get 1 rfl) rfl)) (wn rfl) rfl)
        · intro aa ww vals hJ hR
          exact add_step' rfl (Ex.adds' (ex_assign rfl (show aa.eval (.tmp 82) = _ from hR.v 0 82 rfl rfl rfl rfl)) (wn rfl) rfl)
        · intro aa ww vals hJ hR
          refine mem_step' rfl fun hvl => ?_
          have hl : vals.length = 0 := hvl
          obtain ⟨hvals, hv⟩ := hJ.at0 hl
          refine mem_storeNAt 4 (new := [.int .i64 (ckT (slotOf rb each 0) : Int), .slice ad0 ((ckB (slotOf rb each 0)).length) c0]) (pre := []) (mid := [.int .i64 0, .slice none 0 0]) (post := []) (L' := [.int .i64 (ckT (slotOf rb each 0) : Int), .slice ad0 ((ckB (slotOf rb each 0)).length) c0]) (wn rfl) rfl (show aa.eval (.tmp 7) = _ from hR.keep 7 rfl) (show aa.eval (.tmp 83) = _ from hR.v 1 83 rfl rfl rfl rfl) hv rfl r9sz55 rfl rfl rfl (one_cons rfl (one_cons rfl one_nil)) rfl (fun w78 hv => ?_)
          exact JS.next hl ⟨by rw [hvals]; rfl, hv⟩
        · intro aa ww vals hJ hR
          exact add_step' rfl (Ex.adds' (ex_assign rfl rfl) (wn rfl) rfl)
        · intro aa ww vals hJ hR
          exact add_step' rfl (Ex.adds' (ex_assign rfl rfl) (wn rfl) rfl)
        rintro w79 vals ⟨rfl, hv⟩
        rw [show mixV [3] [undef] 0 [.pointer (some ⟨b11, 0, none⟩), .agg #[.int .i64 (ckT (slotOf rb each 0) : Int), .slice ad0 ((ckB (slotOf rb each 0)).length) c0], .pointer (some ⟨b11, 0, none⟩), undef, .bool true, .int .i64 0] = [.pointer (some ⟨b11, 0, none⟩), .agg #[.int .i64 (ckT (slotOf rb each 0) : Int), .slice ad0 ((ckB (slotOf rb each 0)).length) c0], .pointer (some ⟨b11, 0, none⟩), undef, .bool true, .int .i64 0] from rfl]
        simp only [putAll, Act.put, List.setIfInBounds_toArray, List.set_cons_succ, List.set_cons_zero]
        refine then_normal (hK77 _ _ ?_)
        clear hK77 K77
        refine wpIn_ret ?_
        refine bodyPost_ret (res_tcell4 rfl rfl (run_load_mid (pre := []) (mid := [.int .i64 (ckT (slotOf rb each 0) : Int), .slice ad0 ((ckB (slotOf rb each 0)).length) c0]) (post := []) r9wd55 (show Blk _ b2 ([] ++ [.int .i64 (ckT (slotOf rb each 0) : Int), .slice ad0 ((ckB (slotOf rb each 0)).length) c0] ++ []) _ from hv.get 4 rfl) rfl)) rfl ?_
        have hcur : CurI rb each 2 (some (slotOf rb each 0)) := .no (cur_0 hyes0) (fun h => by have h7 : ckG (slotOf rb each 1) > ckG (slotOf rb each 0) := h.2; omega)
        have hd9 : decide ((cG (some (slotOf rb each 0)) : Int) > 0) = true := decide_eq_true (by have := hyes0.g1; show ((ckG (slotOf rb each 0) : Nat) : Int) > 0; omega)
        rw [hrb] at hcur hd9
        subst hrb
        exact ⟨_, _, some _, _, _, (hB0.trans hB1), hcur, by rw [hd9]; rfl, hr0, (((hv.front 3 rfl).front 3 rfl).sub (List.Sublist.cons_cons _ (List.Sublist.cons_cons _ (List.Sublist.cons _ (List.Sublist.cons _ (List.Sublist.cons _ (List.Sublist.refl _)))))))⟩
end Go.Proofs.Ytkannfkjnohdlaa
/- SlotsScan: what its walk needs. -/
namespace Go.Pm
open Go.RowKit
section
variable {P : Program} {a : Act} {w : World} {o : Oper} {t u e : TypeId} {x y : Operand}
theorem ex_bneq {p q b : Bool} (ht : P.underlying t = some .bool) (ho : o.op = .binOp .neq t x y u) (hx : a.eval x = .bool p) (hy : a.eval y = .bool q) (hb : (p != q) = b) : Ex P a o w (.bool b) w := by
  subst hb
  have he : (Op.equal t (.bool p) (.bool q)).run P w = .ok (p == q) w := run_equal_bool w t p q ht
  unfold Ex; simp [execOp, ho, hx, hy, eqGuard, binOp, he]
  cases p <;> cases q <;> rfl
theorem run_to1 {ad : Option Addr} {n c k : Nat} (ht : P.underlying t = some (.slice (P.elem t))) (hs : ∀ w, (sizeOf (P.elem t)).run P w = .ok 1 w) (hk : k ≤ c) (w : World) : (Instr.sliceAt t (.slice ad n c) none (some (.int .i64 (k : Int))) none).run P w = .ok (.slice ad k c) w := by
  rw [run_sliceAt_slice w t _ _ _ _ ht, run_slice_h w t ad n c ht .i64 (k : Int) (by omega) (by omega), hs]
  simp only [Result.andThen, sliced, Int.toNat_natCast, Nat.zero_mul, Nat.sub_zero]
  split
  · rfl
  · cases ad with
    | none => rfl
    | some q => simp [Addr.add]
end
end Go.Pm
namespace Go.Proofs.Ytkannfkjnohdlaa
open Go.RowKit Go.Pm
theorem wrap16 (z : Int) : ∃ (r : Int) (n : Nat), z.tmod 16 = r ∧ -16 < r ∧ r < 16 ∧ (r + 16).tmod 16 = (n : Int) - 1 ∧ 1 ≤ n ∧ n ≤ 16 := by
  have h1 := Int.tmod_lt_of_pos z (show (0 : Int) < 16 by decide)
  have h2 : -16 < z.tmod 16 := by
    have := Int.tmod_lt_of_pos (-z) (show (0 : Int) < 16 by decide)
    rw [Int.neg_tmod] at this
    omega
  refine ⟨_, ((z.tmod 16 + 16) % 16 + 1).toNat, rfl, h2, h1, ?_, by omega, by omega⟩
  rw [Int.tmod_eq_emod_of_nonneg (by omega)]
  omega
theorem tick_free {D : Disk} (h : D.left = -1) : D.tick = D := by
  unfold Disk.tick
  rw [if_neg (by rw [h]; decide)]
theorem has_no {D : Disk} {at_ : Int} {l : List UInt8} (h : l.length = 0) : D.has at_ (Disk.nsec l) = false := by
  have : Disk.nsec l = 0 := by unfold Disk.nsec; omega
  rw [this]
  rfl
theorem has_far {D : Disk} {z : Int} (h : (D.dur.length : Int) < z) : D.has 0 z = false := by
  unfold Disk.has
  rw [show decide (z ≤ (D.dur.length : Int) - 0) = false from decide_eq_false (by omega), Bool.and_false]
theorem rd_pre {B : Base} {H : List Res} {ad : Option Addr} {l : List UInt8} {k : Nat} (h : RdV B H ad (l.map B8)) : RdV B H ad ((l.take k).map B8) := fun i hi => by
  have h1 : i < l.length := by
    rw [List.length_map, List.length_take] at hi
    omega
  obtain ⟨b, off, e1, e2⟩ := h i (by rw [List.length_map]; exact h1)
  refine ⟨b, off, e1, ?_⟩
  simp only [List.getElem_map, List.getElem_take]
  simpa using e2
theorem cut_arg {B : Base} {ad : Option Addr} {l : List UInt8} {c n : Nat} (hok : SliceOk ad l.length c) (hr : RdV B [] ad (l.map B8)) : ∃ x : List UInt8, x.length = min l.length (64 * n) ∧ x.length ≤ 64 * n ∧ SliceOk ad x.length c ∧ RdV B [] ad (x.map B8) := by
  have e : (l.take (min l.length (64 * n))).length = min l.length (64 * n) := by rw [List.length_take]; omega
  refine ⟨l.take (min l.length (64 * n)), e, by omega, ⟨by have := hok.le; omega, hok.max, hok.nil⟩, rd_pre hr⟩
theorem refc_zero (m : Nat) (sa : Option Addr) (sc : Nat) : refC (Disk.zero m) sa sc none 0 none 0 = [.slice sa m sc, .slice none 0 0, .slice none 0 0, .int .i64 (-1)] := by
  unfold refC
  rw [lz_len]
  rfl
theorem dur_zero (m : Nat) : (Disk.zero m).dur.map strV = List.replicate m (strV zsx) := by
  show (List.replicate m (List.replicate 64 0)).map strV = _
  rw [List.map_replicate]
  rfl
end Go.Proofs.Ytkannfkjnohdlaa
