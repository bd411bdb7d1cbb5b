/- slots.Open -/
import Derived.Test.YtkannfkjnohdlaaSlots4
namespace Go.Proofs.Ytkannfkjnohdlaa
open Go.RowKit Go.Pm
theorem view_bytes8 (v : List (List UInt8)) : durCells v = v.flatten.map B8 := by
  unfold durCells
  rw [List.map_flatten]
theorem view_flat_len {E : Disk} (hok : E.Ok) {at_ n : Nat} (h : at_ + n ≤ E.dur.length) : (E.view E.pend at_ n).flatten.length = n * 64 := by
  have h64 := Disk.view_64 hok (l := E.pend) (fun p hp => (hok.pend p hp).2) h
  have := durCells_length h64
  rw [view_bytes8, List.length_map, Disk.view_len] at this
  exact this
def cG : Option (List UInt8) → Nat | none => 0 | some s => ckG s
def cT : Option (List UInt8) → Nat | none => 0 | some s => ckT s
def cB : Option (List UInt8) → List UInt8 | none => [] | some s => ckB s
def slotOf (rb : List UInt8) (each i : Nat) : List UInt8 := piece rb (i * each * 64) (each * 64)
/-- which slot counts, of the first i -/
inductive CurI (rb : List UInt8) (each : Nat) : Nat → Option (List UInt8) → Prop
  | zero : CurI rb each 0 none
  | no {i : Nat} {c : Option (List UInt8)} (h : CurI rb each i c) (hn : ¬ (CkOk (slotOf rb each i) i ∧ ckG (slotOf rb each i) > cG c)) : CurI rb each (i + 1) c
  | yes {i : Nat} {c : Option (List UInt8)} (h : CurI rb each i c) (h1 : CkOk (slotOf rb each i) i) (h2 : ckG (slotOf rb each i) > cG c) : CurI rb each (i + 1) (some (slotOf rb each i))
theorem ckB_len {s : List UInt8} {i : Nat} (h : CkOk s i) : (ckB s).length = ckN s := piece_length (by have := h.n2; omega)
theorem rd_slot {B : Base} {H : List Res} {b : Nat} {t : TypeId} {rb : List UInt8} (k : Nat) (hk : H[k]? = some (Res.cell b (rb.map B8) t)) (off n : Nat) (h : off + n ≤ rb.length) : RdV B H (some ⟨b, 0 + off, none⟩) ((piece rb off n).map B8) := by
  refine rdV_cell (L := rb.map B8) (t := t) (0 + off) (List.mem_of_getElem? hk) (fun i hi => ?_)
  have hl : i < n := by rw [List.length_map, piece_length (by omega)] at hi; exact hi
  have h1 : (piece rb off n)[i]? = rb[off + i]? := piece_get hl
  rw [List.getElem?_eq_getElem (by rw [piece_length (by omega)]; exact hl)] at h1
  rw [List.getElem?_map, Nat.zero_add, ← h1]
  simp
def slCells (p from_ each gen : Nat) (failed : Bool) : List Value := [.pointer (some ⟨p, 0, none⟩), .int .i64 (from_ : Int), .int .i64 (each : Int), .int .i64 (gen : Int), .bool failed]
theorem cur_row {rb : List UInt8} {each i : Nat} {s : List UInt8} (h : CkOk s i) : (cB (some s)).length = ckN s := ckB_len h

theorem s5al55 (w : World) : (Instr.alloc 55 true (.tuple #[])).run Try.prog w = .ok (.pointer (some ⟨w.heap.size, 0, none⟩)) (w.alloc (.cells ([.int .i64 0, .slice none 0 0] : List Value).toArray 55)) := by kernel_rfl
theorem s5callable26 : Callable Try.prog 26 := ⟨_, Try.func26, by kernel_rfl, by kernel_rfl⟩
theorem s5es24 (w : World) : (sizeOf (Try.prog.elem 24)).run Try.prog w = .ok 1 w := by kernel_rfl
theorem s5callable50 : Callable Try.prog 50 := ⟨_, Try.func50, by kernel_rfl, by kernel_rfl⟩
theorem s5sz55 : (Try.prog.info? 55).map (·.size) = some 2 := by kernel_rfl
theorem s5fa102_3 (w : World) (b o : Nat) : (Instr.fieldAt 102 (.pointer (some ⟨b, o, none⟩)) 3).run Try.prog w = .ok (.pointer (some ⟨b, o + 3, none⟩)) w := by kernel_rfl
theorem s5na3 (w : World) : (isAgg 3).run Try.prog w = .ok false w := by kernel_rfl
theorem s5wd55 : Wide Try.prog 55 2 := wide_of (fun w => by kernel_rfl) (by kernel_rfl)
theorem s5sz3 : (Try.prog.info? 3).map (·.size) = some 1 := by kernel_rfl
set_option maxRecDepth 100000 in
set_option maxHeartbeats 2000000 in
theorem slotsOpen (B : Base) (H : List Res) (w : World) (p from_ each : Nat) (D E : Disk) (F : List Nat) (hE : D.tick = E) (hpl : E.pend.length ≤ 1000000000) (hhas : D.has (from_ : Int) ((2 * each : Nat) : Int) = true) (hl : D.left ≠ 0) (he1 : 1 ≤ each) (he2 : each ≤ 30000) (hfit : from_ + 2 * each ≤ E.dur.length) (hdm : E.dur.length ≤ 65536) (hv : Inv B (diskR p D F :: H) w) :
    Calls Try.prog 30 #[.pointer (some ⟨p, 0, none⟩), .int .i64 (from_ : Int), .int .i64 (each : Int)] w fun e w' => ∃ (q : Nat) (cur : Option (List UInt8)) (ad : Option Addr) (c : Nat) (F' : List Nat), CurI (E.view E.pend from_ (2 * each)).flatten each 2 cur ∧ e = .returned (.tuple #[.pointer (some ⟨q, 0, none⟩), .agg #[.int .i64 (cT cur : Int), .slice ad (cB cur).length c], .bool (decide ((cG cur : Int) > 0)), .int .i64 0]) ∧ Inv B (Res.cell q (slCells p from_ each (cG cur) false) 102 :: Res.row 5 1 (.slice ad (cB cur).length c) (cB cur).length ((cB cur).map B8) :: diskR p E F' :: H) w' := by
  refine (callsIn_wide (n := 5)).1 ?_
  refine callsIn_of_wp Try.func30 rfl trivial ?_
  simp only [Try.ntmps30, List.size_toArray, List.length_cons, List.length_nil, Nat.reduceAdd, Nat.reduceSub, Array.replicate_succ, Array.replicate_zero, List.push_toArray, List.append_toArray, List.nil_append, List.cons_append]
  refine wpIn_seq_k (fun K1 hK1 => ?_)
  refine wpIn_region_lit ?_
  refine wpi_exG (v := .pointer none) (fun _ => trivial) (wn rfl) rfl (ex_assign rfl rfl) ?_
  refine sl_alloc (fun _ => trivial) (wn rfl) rfl hv s5al55 (fun b2 w3 hv => ?_)
  refine wpi_exG (v := .bool false) (fun _ => trivial) (wn rfl) rfl (ex_assign rfl rfl) ?_
  simp only [Act.put, List.setIfInBounds_toArray, List.set_cons_succ, List.set_cons_zero]
  refine wpi_exG (v := .int .i64 0) (fun _ => trivial) (wn rfl) rfl (ex_assign rfl rfl) ?_
  refine wpListIn_nil ?_
  simp only [Act.put, List.setIfInBounds_toArray, List.set_cons_succ, List.set_cons_zero]
  refine then_normal (hK1 _ _ ?_)
  clear hK1 K1
  refine wpIn_seq_k (fun K4 hK4 => ?_)
  refine wpIn_seq_k (fun K5 hK5 => ?_)
  refine wpIn_region_lit ?_
  refine wpi_exG (v := .pointer (some ⟨p, 0, none⟩)) (fun _ => trivial) (wn rfl) rfl (ex_move rfl rfl) ?_
  refine wpi_exG (v := .bool false) (fun _ => trivial) (wn rfl) rfl (ex_pisnil Try.underlying36 rfl rfl rfl rfl) ?_
  refine wpListIn_nil ?_
  simp only [Act.put, List.setIfInBounds_toArray, List.set_cons_succ, List.set_cons_zero]
  refine then_normal (hK5 _ _ ?_)
  clear hK5 K5
  refine wpIn_cond_false rfl ?_
  refine wpIn_skip ?_
  refine then_normal (hK4 _ _ ?_)
  clear hK4 K4
  refine wpIn_seq_k (fun K6 hK6 => ?_)
  refine wpIn_seq_k (fun K7 hK7 => ?_)
  refine wpIn_region_lit ?_
  refine wpi_exG (v := .int .i64 (each : Int)) (fun _ => trivial) (wn rfl) rfl (ex_move rfl rfl) ?_
  refine wpi_exG (v := .bool false) (fun _ => trivial) (wn rfl) rfl (ex_lss (k := .i64) (m := (each : Int)) (n := 1) rfl rfl rfl (decide_eq_false (by omega))) ?_
  refine wpi_exG (v := .bool false) (fun _ => trivial) (wn rfl) rfl (ex_move rfl rfl) ?_
  simp only [Act.put, List.setIfInBounds_toArray, List.set_cons_succ, List.set_cons_zero]
  refine wpi_exG (v := .int .i64 (each : Int)) (fun _ => trivial) (wanted_of (j := 2) (d := 24) (b := false) rfl rfl rfl) rfl (ex_move rfl rfl) ?_
  refine wpi_exG (v := .bool false) (fun _ => trivial) (wanted_of (j := 2) (d := 24) (b := false) rfl rfl rfl) rfl (ex_gtr (k := .i64) (m := (each : Int)) (n := 65536) rfl rfl rfl (decide_eq_false (by omega))) ?_
  refine wpi_exG (v := .bool false) (fun _ => trivial) (wn rfl) rfl (ex_pick (b := false) rfl rfl rfl) ?_
  refine wpListIn_nil ?_
  simp only [Act.put, List.setIfInBounds_toArray, List.set_cons_succ, List.set_cons_zero]
  refine then_normal (hK7 _ _ ?_)
  clear hK7 K7
  refine wpIn_cond_false rfl ?_
  refine wpIn_skip ?_
  refine then_normal (hK6 _ _ ?_)
  clear hK6 K6
  refine wpIn_seq_k (fun K8 hK8 => ?_)
  refine wpIn_region_lit ?_
  refine wpi_exG (v := .pointer (some ⟨p, 0, none⟩)) (fun _ => trivial) (wn rfl) rfl (ex_move rfl rfl) ?_
  refine wpi_exG (v := .int .i64 (from_ : Int)) (fun _ => trivial) (wn rfl) rfl (ex_move rfl rfl) ?_
  refine wpi_exG (v := .int .i64 (each : Int)) (fun _ => trivial) (wn rfl) rfl (ex_move rfl rfl) ?_
  simp only [Act.put, List.setIfInBounds_toArray, List.set_cons_succ, List.set_cons_zero]
  refine wpi_exG (v := .int .i64 ((2 * each : Nat) : Int)) (fun _ => trivial) (wn rfl) rfl (ex_mul (m := 2) (n := (each : Int)) rfl rfl rfl (by rw [i64_in (by omega)]; omega)) ?_
  replace hv := hv.front 1 rfl
  simp only [List.eraseIdx_cons_succ, List.eraseIdx_cons_zero] at hv
  refine wpi_callG s5callable26 (fun _ => trivial) wideC rfl (wn rfl) rfl (args := #[.pointer (some ⟨p, 0, none⟩), .int .i64 (from_ : Int), .int .i64 ((2 * each : Nat) : Int)]) (by simp only [List.map_toArray, List.map_cons, List.map_nil]; rfl) ((diskReadOk _ _ _ p _ _ from_ (2 * each) hv E hE hpl hhas hl (by omega) (by omega) (by omega)).mono ?_)
  rintro e w11 ⟨b10, rfl, F9, hv⟩
  refine ⟨_, rfl, ?_⟩
  have hok : E.Ok := (hv.get 1 rfl : DiskAt _ _ E _).1
  have hrl := view_flat_len hok hfit
  rw [view_bytes8] at hv
  obtain ⟨rb, hrb⟩ : ∃ rb, rb = (E.view E.pend from_ (2 * each)).flatten := ⟨_, rfl⟩
  rw [← hrb] at hv hrl
  refine wpi_exG (v := .tuple #[.slice (some ⟨b10, 0, none⟩) (2 * each * 64) (2 * each * 64), .int .i64 0]) (fun _ => trivial) (wn rfl) rfl (ex_move rfl rfl) ?_
  simp only [Act.put, List.setIfInBounds_toArray, List.set_cons_succ, List.set_cons_zero]
  refine wpi_exG (v := .slice (some ⟨b10, 0, none⟩) (2 * each * 64) (2 * each * 64)) (fun _ => trivial) (wn rfl) rfl (ex_extract rfl rfl rfl) ?_
  refine wpi_exG (v := .int .i64 0) (fun _ => trivial) (wn rfl) rfl (ex_extract rfl rfl rfl) ?_
  refine wpi_exG (v := .slice (some ⟨b10, 0, none⟩) (2 * each * 64) (2 * each * 64)) (fun _ => trivial) (wn rfl) rfl (ex_assign rfl rfl) ?_
  simp only [Act.put, List.setIfInBounds_toArray, List.set_cons_succ, List.set_cons_zero]
  refine wpi_exG (v := .int .i64 0) (fun _ => trivial) (wn rfl) rfl (ex_assign rfl rfl) ?_
  refine wpListIn_nil ?_
  simp only [Act.put, List.setIfInBounds_toArray, List.set_cons_succ, List.set_cons_zero]
  refine then_normal (hK8 _ _ ?_)
  clear hK8 K8
  refine wpIn_seq_k (fun K12 hK12 => ?_)
  refine wpIn_seq_k (fun K13 hK13 => ?_)
  refine wpIn_region_lit ?_
  refine wpi_exG (v := .int .i64 0) (fun _ => trivial) (wn rfl) rfl (ex_move rfl rfl) ?_
  refine wpi_exG (v := .bool false) (fun _ => trivial) (wn rfl) rfl (ex_neq (k := .i64) (m := 0) (n := 0) rfl rfl rfl (by decide)) ?_
  refine wpListIn_nil ?_
  simp only [Act.put, List.setIfInBounds_toArray, List.set_cons_succ, List.set_cons_zero]
  refine then_normal (hK13 _ _ ?_)
  clear hK13 K13
  refine wpIn_cond_false rfl ?_
  refine wpIn_skip ?_
  refine then_normal (hK12 _ _ ?_)
  clear hK12 K12
  refine wpIn_seq_k (fun K14 hK14 => ?_)
  refine wpIn_region_lit ?_
  refine wpi_exG (v := .pointer (some ⟨p, 0, none⟩)) (fun _ => trivial) (wn rfl) rfl (ex_move rfl rfl) ?_
  refine wpi_exG (v := .int .i64 (from_ : Int)) (fun _ => trivial) (wn rfl) rfl (ex_move rfl rfl) ?_
  refine wpi_exG (v := .int .i64 (each : Int)) (fun _ => trivial) (wn rfl) rfl (ex_move rfl rfl) ?_
  simp only [Act.put, List.setIfInBounds_toArray, List.set_cons_succ, List.set_cons_zero]
  refine wpi_exG (v := .agg #[.pointer (some ⟨p, 0, none⟩), .int .i64 (from_ : Int), .int .i64 (each : Int), .int .i64 0, .bool false]) (fun _ => trivial) (wn rfl) rfl (ex_buildN (vs := #[(0, .pointer (some ⟨p, 0, none⟩)), (1, .int .i64 (from_ : Int)), (2, .int .i64 (each : Int))]) rfl (by simp only [List.map_toArray, List.map_cons, List.map_nil]; rfl) (by kernel_rfl)) ?_
  refine sl_box (L := [.pointer (some ⟨p, 0, none⟩), .int .i64 (from_ : Int), .int .i64 (each : Int), .int .i64 0, .bool false]) (fun _ => trivial) (wn rfl) rfl (p := .agg #[.pointer (some ⟨p, 0, none⟩), .int .i64 (from_ : Int), .int .i64 (each : Int), .int .i64 0, .bool false]) rfl hv (fun w => by kernel_rfl) (fun b15 w16 hv => ?_)
  refine wpi_exG (v := .pointer (some ⟨b15, 0, none⟩)) (fun _ => trivial) (wn rfl) rfl (ex_assign rfl rfl) ?_
  refine wpListIn_nil ?_
  simp only [Act.put, List.setIfInBounds_toArray, List.set_cons_succ, List.set_cons_zero]
  refine then_normal (hK14 _ _ ?_)
  clear hK14 K14
  refine wpIn_seq_k (fun K17 hK17 => ?_)
  refine wpIn_region_lit ?_
  refine sl_alloc (fun _ => trivial) (wn rfl) rfl hv s5al55 (fun b18 w19 hv => ?_)
  refine wpListIn_nil ?_
  simp only [Act.put, List.setIfInBounds_toArray, List.set_cons_succ, List.set_cons_zero]
  refine then_normal (hK17 _ _ ?_)
  clear hK17 K17
  refine wpIn_seq_k (fun K20 hK20 => ?_)
  refine wpIn_seq_k (fun K21 hK21 => ?_)
  refine wpIn_region_lit ?_
  refine wpi_exG (v := .int .i64 0) (fun _ => trivial) (wn rfl) rfl (ex_move rfl rfl) ?_
  refine wpListIn_nil ?_
  simp only [Act.put, List.setIfInBounds_toArray, List.set_cons_succ, List.set_cons_zero]
  refine then_normal (hK21 _ _ ?_)
  clear hK21 K21
  refine wpIn_block ?_
  replace hv := hv.new (Ext.rfl' _) (Res.row 5 1 (.slice none 0 0) 0 []) (World.ownsRow_nil _ _ _ _) (fun b hb => by simp [Value.ownBlock] at hb) (by simp [Value.ownBlock])
  gi_loopw [46] (fun x46 wr => ∃ (i : Nat) (cur : Option (List UInt8)) (ad : Option Addr) (c : Nat), x46 = .int .i64 (i : Int) ∧ i ≤ 2 ∧ CurI rb each i cur ∧ Inv B (Res.row 5 1 (.slice ad ((cB cur).length) c) ((cB cur).length) ((cB cur).map B8) :: Res.cell b18 [.int .i64 (cT cur : Int), .slice ad ((cB cur).length) c] 55 :: Res.cell b15 [.pointer (some ⟨p, 0, none⟩), .int .i64 (from_ : Int), .int .i64 (each : Int), .int .i64 (cG cur : Int), .bool false] 102 :: Res.cell b10 (rb.map B8) 5 :: diskR p E F9 :: Res.cell b2 [.int .i64 0, .slice none 0 0] 55 :: H) wr) (fun x46 _ => 2 - (intOf x46).toNat)
  case atStart => exact ⟨0, none, none, 0, rfl, by omega, .zero, hv⟩
  case round =>
    obtain ⟨i, cur, ad, c, rfl, hi, hcur, hv⟩ := hrel
    refine wpIn_seq_k (fun K23 hK23 => ?_)
    refine wpIn_region_lit ?_
    by_cases hb24 : (i : Int) < 2
    · have hX : i * each ≤ each := by
        rcases (show i = 0 ∨ i = 1 by omega) with h | h <;> rw [h] <;> omega
      have hY : (i + 1) * each = i * each + each := Nat.succ_mul _ _
      skip
      refine wpi_exG (v := .bool true) (fun _ => trivial) (wn rfl) rfl (ex_lss (k := .i64) (m := (i : Int)) (n := 2) rfl rfl rfl (decide_eq_true hb24)) ?_
      refine wpListIn_nil ?_
      simp only [Act.put, List.setIfInBounds_toArray, List.set_cons_succ, List.set_cons_zero]
      refine then_normal (hK23 _ _ ?_)
      clear hK23 K23
      refine wpIn_seq_k (fun K25 hK25 => ?_)
      refine wpIn_cond_true rfl ?_
      refine wpIn_skip ?_
      refine then_normal (hK25 _ _ ?_)
      clear hK25 K25
      refine wpIn_seq_k (fun K26 hK26 => ?_)
      refine wpIn_block ?_
      refine wpIn_seq_k (fun K27 hK27 => ?_)
      refine wpIn_region_lit ?_
      refine wpi_exG (v := .int .i64 (i : Int)) (fun _ => trivial) (wn rfl) rfl (ex_move rfl rfl) ?_
      refine wpi_exG (v := .int .i64 (i : Int)) (fun _ => trivial) (wn rfl) rfl (ex_assign rfl rfl) ?_
      refine wpListIn_nil ?_
      simp only [Act.put, List.setIfInBounds_toArray, List.set_cons_succ, List.set_cons_zero]
      refine then_normal (hK27 _ _ ?_)
      clear hK27 K27
      refine wpIn_seq_k (fun K28 hK28 => ?_)
      refine wpIn_region_lit ?_
      refine wpi_exG (v := .slice (some ⟨b10, 0, none⟩) (2 * each * 64) (2 * each * 64)) (fun _ => trivial) (wn rfl) rfl (ex_move rfl rfl) ?_
      refine wpi_exG (v := .int .i64 (i : Int)) (fun _ => trivial) (wn rfl) rfl (ex_move rfl rfl) ?_
      refine wpi_exG (v := .int .i64 (each : Int)) (fun _ => trivial) (wn rfl) rfl (ex_move rfl rfl) ?_
      simp only [Act.put, List.setIfInBounds_toArray, List.set_cons_succ, List.set_cons_zero]
      refine wpi_exG (v := .int .i64 ((i * each : Nat) : Int)) (fun _ => trivial) (wn rfl) rfl (ex_mul (m := (i : Int)) (n := (each : Int)) rfl rfl rfl (by rw [← Int.natCast_mul, i64_in (by omega)])) ?_
      refine wpi_exG (v := .int .i64 ((i * each * 64 : Nat) : Int)) (fun _ => trivial) (wn rfl) rfl (ex_mul (m := ((i * each : Nat) : Int)) (n := 64) rfl rfl rfl (by rw [i64_in (by omega)]; omega)) ?_
      refine wpi_exG (v := .int .i64 (i : Int)) (fun _ => trivial) (wn rfl) rfl (ex_move rfl rfl) ?_
      simp only [Act.put, List.setIfInBounds_toArray, List.set_cons_succ, List.set_cons_zero]
      refine wpi_exG (v := .int .i64 ((i + 1 : Nat) : Int)) (fun _ => trivial) (wn rfl) rfl (ex_add (m := (i : Int)) (n := 1) rfl rfl rfl (by rw [i64_in (by omega)]; omega)) ?_
      refine wpi_exG (v := .int .i64 (each : Int)) (fun _ => trivial) (wn rfl) rfl (ex_move rfl rfl) ?_
      refine wpi_exG (v := .int .i64 (((i + 1) * each : Nat) : Int)) (fun _ => trivial) (wn rfl) rfl (ex_mul (m := ((i + 1 : Nat) : Int)) (n := (each : Int)) rfl rfl rfl (by rw [← Int.natCast_mul, i64_in (by omega)])) ?_
      simp only [Act.put, List.setIfInBounds_toArray, List.set_cons_succ, List.set_cons_zero]
      refine wpi_exG (v := .int .i64 (((i + 1) * each * 64 : Nat) : Int)) (fun _ => trivial) (wn rfl) rfl (ex_mul (m := (((i + 1) * each : Nat) : Int)) (n := 64) rfl rfl rfl (by rw [i64_in (by omega)]; omega)) ?_
      refine wpi_exG (v := .slice (some ⟨b10, 0 + (i * each * 64 : Nat), none⟩) (((i + 1) * each * 64 : Nat) - (i * each * 64 : Nat)) (2 * each * 64 - (i * each * 64 : Nat))) (fun _ => trivial) (wn rfl) rfl (ex_slice (lo' := some (.int .i64 ((i * each * 64 : Nat) : Int))) (hi' := some (.int .i64 (((i + 1) * each * 64 : Nat) : Int))) rfl rfl (congrArg some rfl) (congrArg some rfl) rfl (run_lohi1 Try.underlying24 s5es24 (by omega) (by omega) (by omega))) ?_
      refine wpi_exG (v := .slice (some ⟨b10, 0 + (i * each * 64 : Nat), none⟩) (((i + 1) * each * 64 : Nat) - (i * each * 64 : Nat)) (2 * each * 64 - (i * each * 64 : Nat))) (fun _ => trivial) (wn rfl) rfl (ex_assign rfl rfl) ?_
      refine wpListIn_nil ?_
      simp only [Act.put, List.setIfInBounds_toArray, List.set_cons_succ, List.set_cons_zero]
      refine then_normal (hK28 _ _ ?_)
      clear hK28 K28
      refine wpIn_seq_k (fun K29 hK29 => ?_)
      refine wpIn_region_lit ?_
      refine wpi_exG (v := .slice (some ⟨b10, 0 + (i * each * 64 : Nat), none⟩) (((i + 1) * each * 64 : Nat) - (i * each * 64 : Nat)) (2 * each * 64 - (i * each * 64 : Nat))) (fun _ => trivial) (wn rfl) rfl (ex_move rfl rfl) ?_
      refine wpi_exG (v := .int .i64 (i : Int)) (fun _ => trivial) (wn rfl) rfl (ex_move rfl rfl) ?_
      refine wpi_callG s5callable50 (fun _ => trivial) wideC rfl (wn rfl) rfl (args := #[.slice (some ⟨b10, 0 + (i * each * 64 : Nat), none⟩) (((i + 1) * each * 64 : Nat) - (i * each * 64 : Nat)) (2 * each * 64 - (i * each * 64 : Nat)), .int .i64 (i : Int)]) (by simp only [List.map_toArray, List.map_cons, List.map_nil]; rfl) ((slotsCheckpoint _ _ _ _ _ _ (slotOf rb each i) i (by unfold slotOf; rw [piece_length (by omega)]; omega) (by omega) ⟨by omega, by unfold maxLen; omega, fun h => by cases h⟩ (rd_slot 3 rfl _ _ (by omega)) (by omega) (by omega) hv).mono ?_)
      rintro e w30 (⟨hno, rfl, hv⟩ | ⟨hyes, ad31, c32, rfl, hv⟩)
      · refine ⟨_, rfl, ?_⟩
        unfold ckNo
        simp only [Act.put, List.setIfInBounds_toArray, List.set_cons_succ, List.set_cons_zero]
        refine wpi_exG (v := .tuple #[.agg #[.int .i64 0, .slice none 0 0], .int .i64 0, .bool false]) (fun _ => trivial) (wn rfl) rfl (ex_move rfl rfl) ?_
        refine wpi_exG (v := .agg #[.int .i64 0, .slice none 0 0]) (fun _ => trivial) (wn rfl) rfl (ex_extract rfl rfl rfl) ?_
        refine wpi_exG (v := .int .i64 0) (fun _ => trivial) (wn rfl) rfl (ex_extract rfl rfl rfl) ?_
        simp only [Act.put, List.setIfInBounds_toArray, List.set_cons_succ, List.set_cons_zero]
        refine wpi_exG (v := .bool false) (fun _ => trivial) (wn rfl) rfl (ex_extract rfl rfl rfl) ?_
        refine sl_alloc (fun _ => trivial) (wn rfl) rfl hv s5al55 (fun b33 w34 hv => ?_)
        refine sl_storeNAt 0 (new := [.int .i64 0, .slice none 0 0]) (pre := []) (mid := [.int .i64 0, .slice none 0 0]) (post := []) (L' := [.int .i64 0, .slice none 0 0]) (fun _ => trivial) (wn rfl) rfl rfl rfl hv rfl s5sz55 rfl rfl rfl (one_cons rfl (one_cons rfl one_nil)) rfl (fun w35 hv => ?_)
        simp only [List.set_cons_succ, List.set_cons_zero] at hv
        simp only [Act.put, List.setIfInBounds_toArray, List.set_cons_succ, List.set_cons_zero]
        refine wpi_exG (v := .int .i64 0) (fun _ => trivial) (wn rfl) rfl (ex_assign rfl rfl) ?_
        refine wpi_exG (v := .bool false) (fun _ => trivial) (wn rfl) rfl (ex_assign rfl rfl) ?_
        refine wpListIn_nil ?_
        simp only [Act.put, List.setIfInBounds_toArray, List.set_cons_succ, List.set_cons_zero]
        refine then_normal (hK29 _ _ ?_)
        clear hK29 K29
        refine wpIn_seq_k (fun K36 hK36 => ?_)
        refine wpIn_region_lit ?_
        refine wpi_exG (v := .bool false) (fun _ => trivial) (wn rfl) rfl (ex_move rfl rfl) ?_
        refine wpi_exG (v := .bool false) (fun _ => trivial) (wn rfl) rfl (ex_move rfl rfl) ?_
        refine wpi_not (fun _ => trivial) (wanted_not (j := 1) (d := 68) (b := true) (b' := false) rfl rfl rfl (by decide)) ?_
        simp only [Act.put, List.setIfInBounds_toArray, List.set_cons_succ, List.set_cons_zero]
        refine wpi_not (fun _ => trivial) (wanted_not (j := 1) (d := 68) (b := true) (b' := false) rfl rfl rfl (by decide)) ?_
        refine wpi_not (fun _ => trivial) (wanted_not (j := 1) (d := 68) (b := true) (b' := false) rfl rfl rfl (by decide)) ?_
        refine wpi_not (fun _ => trivial) (wanted_not (j := 1) (d := 68) (b := true) (b' := false) rfl rfl rfl (by decide)) ?_
        simp only [Act.put, List.setIfInBounds_toArray, List.set_cons_succ, List.set_cons_zero]
        refine wpi_not (fun _ => trivial) (wanted_not (j := 1) (d := 68) (b := true) (b' := false) rfl rfl rfl (by decide)) ?_
        refine wpi_not (fun _ => trivial) (wanted_not (j := 1) (d := 68) (b := true) (b' := false) rfl rfl rfl (by decide)) ?_
        refine wpi_exG (v := .bool false) (fun _ => trivial) (wn rfl) rfl (ex_pick (b := false) rfl rfl rfl) ?_
        refine wpListIn_nil ?_
        simp only [Act.put, List.setIfInBounds_toArray, List.set_cons_succ, List.set_cons_zero]
        refine then_normal (hK36 _ _ ?_)
        clear hK36 K36
        refine wpIn_cond_false rfl ?_
        refine wpIn_skip ?_
        refine blk_normal ?_
        refine then_normal (hK26 _ _ ?_)
        clear hK26 K26
        refine wpIn_region_lit ?_
        refine wpi_exG (v := .int .i64 ((i : Int) + 1)) (fun _ => trivial) (wn rfl) rfl (ex_add (m := (i : Int)) (n := 1) rfl rfl rfl (i64_in (by omega))) ?_
        refine wpi_exG (v := .int .i64 ((i : Int) + 1)) (fun _ => trivial) (wn rfl) rfl (ex_move rfl rfl) ?_
        refine wpListIn_nil ?_
        simp only [Act.put, List.setIfInBounds_toArray, List.set_cons_succ, List.set_cons_zero]
        refine then_normal ?_
        go_roundw
        case rel => exact ⟨i + 1, cur, _, _, by simp, by omega, .no hcur (fun h => hno h.1), (((((((hv.front 6 rfl).front 6 rfl).front 6 rfl).front 6 rfl).front 6 rfl).front 6 rfl).sub (List.Sublist.cons_cons _ (List.Sublist.cons_cons _ (List.Sublist.cons_cons _ (List.Sublist.cons_cons _ (List.Sublist.cons_cons _ (List.Sublist.cons_cons _ (List.Sublist.cons _ (List.Sublist.refl _)))))))))⟩
        case measure => show 2 - ((i : Int) + 1).toNat < 2 - (i : Int).toNat; omega
      · refine ⟨_, rfl, ?_⟩
        simp only [Act.put, List.setIfInBounds_toArray, List.set_cons_succ, List.set_cons_zero]
        refine wpi_exG (v := .tuple #[.agg #[.int .i64 (ckT (slotOf rb each i) : Int), .slice ad31 (ckN (slotOf rb each i)) c32], .int .i64 (ckG (slotOf rb each i) : Int), .bool true]) (fun _ => trivial) (wn rfl) rfl (ex_move rfl rfl) ?_
        refine wpi_exG (v := .agg #[.int .i64 (ckT (slotOf rb each i) : Int), .slice ad31 (ckN (slotOf rb each i)) c32]) (fun _ => trivial) (wn rfl) rfl (ex_extract rfl rfl rfl) ?_
        refine wpi_exG (v := .int .i64 (ckG (slotOf rb each i) : Int)) (fun _ => trivial) (wn rfl) rfl (ex_extract rfl rfl rfl) ?_
        simp only [Act.put, List.setIfInBounds_toArray, List.set_cons_succ, List.set_cons_zero]
        refine wpi_exG (v := .bool true) (fun _ => trivial) (wn rfl) rfl (ex_extract rfl rfl rfl) ?_
        refine sl_alloc (fun _ => trivial) (wn rfl) rfl hv s5al55 (fun b37 w38 hv => ?_)
        refine sl_storeNAt 0 (new := [.int .i64 (ckT (slotOf rb each i) : Int), .slice ad31 (ckN (slotOf rb each i)) c32]) (pre := []) (mid := [.int .i64 0, .slice none 0 0]) (post := []) (L' := [.int .i64 (ckT (slotOf rb each i) : Int), .slice ad31 (ckN (slotOf rb each i)) c32]) (fun _ => trivial) (wn rfl) rfl rfl rfl hv rfl s5sz55 rfl rfl rfl (one_cons rfl (one_cons rfl one_nil)) rfl (fun w39 hv => ?_)
        simp only [List.set_cons_succ, List.set_cons_zero] at hv
        simp only [Act.put, List.setIfInBounds_toArray, List.set_cons_succ, List.set_cons_zero]
        refine wpi_exG (v := .int .i64 (ckG (slotOf rb each i) : Int)) (fun _ => trivial) (wn rfl) rfl (ex_assign rfl rfl) ?_
        refine wpi_exG (v := .bool true) (fun _ => trivial) (wn rfl) rfl (ex_assign rfl rfl) ?_
        refine wpListIn_nil ?_
        simp only [Act.put, List.setIfInBounds_toArray, List.set_cons_succ, List.set_cons_zero]
        refine then_normal (hK29 _ _ ?_)
        clear hK29 K29
        refine wpIn_seq_k (fun K40 hK40 => ?_)
        refine wpIn_region_lit ?_
        refine wpi_exG (v := .bool true) (fun _ => trivial) (wn rfl) rfl (ex_move rfl rfl) ?_
        refine wpi_exG (v := .bool true) (fun _ => trivial) (wn rfl) rfl (ex_move rfl rfl) ?_
        refine wpi_exG (v := .int .i64 (ckG (slotOf rb each i) : Int)) (fun _ => trivial) (wanted_of (j := 1) (d := 68) (b := true) rfl rfl rfl) rfl (ex_move rfl rfl) ?_
        simp only [Act.put, List.setIfInBounds_toArray, List.set_cons_succ, List.set_cons_zero]
        refine wpi_exG (v := .pointer (some ⟨b15, 0, none⟩)) (fun _ => trivial) (wanted_of (j := 1) (d := 68) (b := true) rfl rfl rfl) rfl (ex_move rfl rfl) ?_
        refine wpi_exG (v := .pointer (some ⟨b15, 0, none⟩)) (fun _ => trivial) (wanted_of (j := 1) (d := 68) (b := true) rfl rfl rfl) rfl (ex_nil rfl rfl) ?_
        refine wpi_exG (v := .pointer (some ⟨b15, 3, none⟩)) (fun _ => trivial) (wanted_of (j := 1) (d := 68) (b := true) rfl rfl rfl) rfl (ex_field rfl rfl (s5fa102_3 _ _ _)) ?_
        simp only [Act.put, List.setIfInBounds_toArray, List.set_cons_succ, List.set_cons_zero]
        refine wpi_exG (v := .int .i64 (cG cur : Int)) (fun _ => trivial) (wanted_of (j := 1) (d := 68) (b := true) rfl rfl rfl) rfl (ex_load rfl rfl (run_load1 s5na3 (hv.load 4 3 rfl rfl))) ?_
        by_cases hb41 : (ckG (slotOf rb each i) : Int) > (cG cur : Int)
        · refine wpi_exG (v := .bool true) (fun _ => trivial) (wanted_of (j := 1) (d := 68) (b := true) rfl rfl rfl) rfl (ex_gtr (k := .i64) (m := (ckG (slotOf rb each i) : Int)) (n := (cG cur : Int)) rfl rfl rfl (decide_eq_true hb41)) ?_
          refine wpi_exG (v := .bool true) (fun _ => trivial) (wn rfl) rfl (ex_pick (b := true) rfl rfl rfl) ?_
          refine wpListIn_nil ?_
          simp only [Act.put, List.setIfInBounds_toArray, List.set_cons_succ, List.set_cons_zero]
          refine then_normal (hK40 _ _ ?_)
          clear hK40 K40
          refine wpIn_cond_true rfl ?_
          refine region_st mixed [.pointer (some ⟨b15, 0, none⟩), .int .i64 (ckG (slotOf rb each i) : Int), .agg #[.int .i64 (ckT (slotOf rb each i) : Int), .slice ad31 (ckN (slotOf rb each i)) c32], .pointer (some ⟨b15, 0, none⟩), .pointer (some ⟨b15, 3, none⟩), undef, undef] [5, 6] [⟨fun vals w => vals = [] ∧ Inv B (Res.cell b37 [.int .i64 (ckT (slotOf rb each i) : Int), .slice ad31 (ckN (slotOf rb each i)) c32] 55 :: Res.row 5 1 (.slice ad31 (ckN (slotOf rb each i)) c32) (ckN (slotOf rb each i)) ((ckB (slotOf rb each i)).map B8) :: Res.row 5 1 (.slice ad ((cB cur).length) c) ((cB cur).length) ((cB cur).map B8) :: Res.cell b18 [.int .i64 (cT cur : Int), .slice ad ((cB cur).length) c] 55 :: Res.cell b15 [.pointer (some ⟨p, 0, none⟩), .int .i64 (from_ : Int), .int .i64 (each : Int), .int .i64 (cG cur : Int), .bool false] 102 :: Res.cell b10 (rb.map B8) 5 :: diskR p E F9 :: Res.cell b2 [.int .i64 0, .slice none 0 0] 55 :: H) w, fun _ _ _ ⟨h, hi⟩ he => ⟨h, hi.ext he⟩⟩, ⟨fun vals w => vals = [undef] ∧ Inv B (Res.cell b37 [.int .i64 (ckT (slotOf rb each i) : Int), .slice ad31 (ckN (slotOf rb each i)) c32] 55 :: Res.row 5 1 (.slice ad31 (ckN (slotOf rb each i)) c32) (ckN (slotOf rb each i)) ((ckB (slotOf rb each i)).map B8) :: Res.row 5 1 (.slice ad ((cB cur).length) c) ((cB cur).length) ((cB cur).map B8) :: Res.cell b18 [.int .i64 (cT cur : Int), .slice ad ((cB cur).length) c] 55 :: Res.cell b15 [.pointer (some ⟨p, 0, none⟩), .int .i64 (from_ : Int), .int .i64 (each : Int), .int .i64 (ckG (slotOf rb each i) : Int), .bool false] 102 :: Res.cell b10 (rb.map B8) 5 :: diskR p E F9 :: Res.cell b2 [.int .i64 0, .slice none 0 0] 55 :: H) w, fun _ _ _ ⟨h, hi⟩ he => ⟨h, hi.ext he⟩⟩, ⟨fun vals w => vals = [undef, undef] ∧ Inv B (Res.cell b37 [.int .i64 (ckT (slotOf rb each i) : Int), .slice ad31 (ckN (slotOf rb each i)) c32] 55 :: Res.row 5 1 (.slice ad31 (ckN (slotOf rb each i)) c32) (ckN (slotOf rb each i)) ((ckB (slotOf rb each i)).map B8) :: Res.row 5 1 (.slice ad ((cB cur).length) c) ((cB cur).length) ((cB cur).map B8) :: Res.cell b18 [.int .i64 (ckT (slotOf rb each i) : Int), .slice ad31 (ckN (slotOf rb each i)) c32] 55 :: Res.cell b15 [.pointer (some ⟨p, 0, none⟩), .int .i64 (from_ : Int), .int .i64 (each : Int), .int .i64 (ckG (slotOf rb each i) : Int), .bool false] 102 :: Res.cell b10 (rb.map B8) 5 :: diskR p E F9 :: Res.cell b2 [.int .i64 0, .slice none 0 0] 55 :: H) w, fun _ _ _ ⟨h, hi⟩ he => ⟨h, hi.ext he⟩⟩] 89 rfl (by kernel_rfl) ⟨rfl, hv⟩ ⟨?_, ?_, ?_, ?_, ?_, ?_, ?_, trivial⟩ ?_
          · intro aa ww vals hJ hR
            exact add_step' rfl (Ex.adds' (ex_move rfl (show aa.eval (.tmp 12) = _ from hR.keep 12 rfl)) (wn rfl) rfl)
          · intro aa ww vals hJ hR
            exact add_step' rfl (Ex.adds' (ex_move rfl (show aa.eval (.tmp 17) = _ from hR.keep 17 rfl)) (wn rfl) rfl)
          · intro aa ww vals hJ hR
            have h2 : vals.length ≤ 1 := hR.hi 6 (by simp) rfl
            rcases (show vals.length = 0 ∨ vals.length = 1 by omega) with hl | hl
            · obtain ⟨hvals, hv⟩ := hJ.at0 hl
              exact add_step' rfl (Ex.adds' (ex_load rfl (show aa.eval (.tmp 16) = _ from hR.keep 16 rfl) (run_load_mid (pre := []) (mid := [.int .i64 (ckT (slotOf rb each i) : Int), .slice ad31 (ckN (slotOf rb each i)) c32]) (post := []) s5wd55 (show Blk _ b37 ([] ++ [.int .i64 (ckT (slotOf rb each i) : Int), .slice ad31 (ckN (slotOf rb each i)) c32] ++ []) _ from hv.get 0 rfl) rfl)) (wn rfl) rfl)
            · obtain ⟨hvals, hv⟩ := hJ.at0 hl
              exact add_step' rfl (Ex.adds' (ex_load rfl (show aa.eval (.tmp 16) = _ from hR.keep 16 rfl) (run_load_mid (pre := []) (mid := [.int .i64 (ckT (slotOf rb each i) : Int), .slice ad31 (ckN (slotOf rb each i)) c32]) (post := []) s5wd55 (show Blk _ b37 ([] ++ [.int .i64 (ckT (slotOf rb each i) : Int), .slice ad31 (ckN (slotOf rb each i)) c32] ++ []) _ from hv.get 0 rfl) rfl)) (wn rfl) rfl)
          · intro aa ww vals hJ hR
            exact add_step' rfl (Ex.adds' (ex_nil rfl (show aa.eval (.tmp 76) = _ from hR.v 0 76 rfl rfl rfl rfl)) (wn rfl) rfl)
          · intro aa ww vals hJ hR
            exact add_step' rfl (Ex.adds' (ex_field rfl (show aa.eval (.tmp 79) = _ from hR.v 3 79 rfl rfl rfl rfl) (s5fa102_3 _ _ _)) (wn rfl) rfl)
          · intro aa ww vals hJ hR
            refine mem_step' rfl fun hvl => ?_
            have hl : vals.length = 0 := hvl
            obtain ⟨hvals, hv⟩ := hJ.at0 hl
            refine mem_storeAt 4 (v := .int .i64 (ckG (slotOf rb each i) : Int)) (L' := [.pointer (some ⟨p, 0, none⟩), .int .i64 (from_ : Int), .int .i64 (each : Int), .int .i64 (ckG (slotOf rb each i) : Int), .bool false]) (wn rfl) rfl (show aa.eval (.tmp 80) = _ from hR.v 4 80 rfl rfl rfl rfl) (show aa.eval (.tmp 77) = _ from hR.v 1 77 rfl rfl rfl rfl) hv rfl s5sz3 (by simp) rfl rfl rfl (fun w42 hv => ?_)
            exact JS.next hl ⟨by rw [hvals]; rfl, hv⟩
          · intro aa ww vals hJ hR
            refine mem_step' rfl fun hvl => ?_
            have hl : vals.length = 1 := hvl
            obtain ⟨hvals, hv⟩ := hJ.at0 hl
            refine mem_storeNAt 3 (new := [.int .i64 (ckT (slotOf rb each i) : Int), .slice ad31 (ckN (slotOf rb each i)) c32]) (pre := []) (mid := [.int .i64 (cT cur : Int), .slice ad ((cB cur).length) c]) (post := []) (L' := [.int .i64 (ckT (slotOf rb each i) : Int), .slice ad31 (ckN (slotOf rb each i)) c32]) (wn rfl) rfl (show aa.eval (.tmp 13) = _ from hR.keep 13 rfl) (show aa.eval (.tmp 78) = _ from hR.v 2 78 rfl rfl rfl rfl) hv rfl s5sz55 rfl rfl rfl (one_cons rfl (one_cons rfl one_nil)) rfl (fun w43 hv => ?_)
            exact JS.next hl ⟨by rw [hvals]; rfl, hv⟩
          rintro w44 vals ⟨rfl, hv⟩
          rw [show mixV [5, 6] [undef, undef] 0 [.pointer (some ⟨b15, 0, none⟩), .int .i64 (ckG (slotOf rb each i) : Int), .agg #[.int .i64 (ckT (slotOf rb each i) : Int), .slice ad31 (ckN (slotOf rb each i)) c32], .pointer (some ⟨b15, 0, none⟩), .pointer (some ⟨b15, 3, none⟩), undef, undef] = [.pointer (some ⟨b15, 0, none⟩), .int .i64 (ckG (slotOf rb each i) : Int), .agg #[.int .i64 (ckT (slotOf rb each i) : Int), .slice ad31 (ckN (slotOf rb each i)) c32], .pointer (some ⟨b15, 0, none⟩), .pointer (some ⟨b15, 3, none⟩), undef, undef] from rfl]
          simp only [putAll, Act.put, List.setIfInBounds_toArray, List.set_cons_succ, List.set_cons_zero]
          refine blk_normal ?_
          refine then_normal (hK26 _ _ ?_)
          clear hK26 K26
          refine wpIn_region_lit ?_
          refine wpi_exG (v := .int .i64 ((i : Int) + 1)) (fun _ => trivial) (wn rfl) rfl (ex_add (m := (i : Int)) (n := 1) rfl rfl rfl (i64_in (by omega))) ?_
          refine wpi_exG (v := .int .i64 ((i : Int) + 1)) (fun _ => trivial) (wn rfl) rfl (ex_move rfl rfl) ?_
          refine wpListIn_nil ?_
          simp only [Act.put, List.setIfInBounds_toArray, List.set_cons_succ, List.set_cons_zero]
          refine then_normal ?_
          go_roundw
          case rel => have hbl := ckB_len hyes; exact ⟨i + 1, some (slotOf rb each i), _, _, by simp, by omega, .yes hcur hyes (by omega), by simp only [cB, cT, cG, hbl]; exact (((((((hv.front 7 rfl).front 7 rfl).front 7 rfl).front 7 rfl).front 7 rfl).front 6 rfl).sub (List.Sublist.cons_cons _ (List.Sublist.cons_cons _ (List.Sublist.cons_cons _ (List.Sublist.cons_cons _ (List.Sublist.cons_cons _ (List.Sublist.cons_cons _ (List.Sublist.cons _ (List.Sublist.cons _ (List.Sublist.refl _))))))))))⟩
          case measure => show 2 - ((i : Int) + 1).toNat < 2 - (i : Int).toNat; omega
        · refine wpi_exG (v := .bool false) (fun _ => trivial) (wanted_of (j := 1) (d := 68) (b := true) rfl rfl rfl) rfl (ex_gtr (k := .i64) (m := (ckG (slotOf rb each i) : Int)) (n := (cG cur : Int)) rfl rfl rfl (decide_eq_false hb41)) ?_
          refine wpi_exG (v := .bool false) (fun _ => trivial) (wn rfl) rfl (ex_pick (b := true) rfl rfl rfl) ?_
          refine wpListIn_nil ?_
          simp only [Act.put, List.setIfInBounds_toArray, List.set_cons_succ, List.set_cons_zero]
          refine then_normal (hK40 _ _ ?_)
          clear hK40 K40
          refine wpIn_cond_false rfl ?_
          refine wpIn_skip ?_
          refine blk_normal ?_
          refine then_normal (hK26 _ _ ?_)
          clear hK26 K26
          refine wpIn_region_lit ?_
          refine wpi_exG (v := .int .i64 ((i : Int) + 1)) (fun _ => trivial) (wn rfl) rfl (ex_add (m := (i : Int)) (n := 1) rfl rfl rfl (i64_in (by omega))) ?_
          refine wpi_exG (v := .int .i64 ((i : Int) + 1)) (fun _ => trivial) (wn rfl) rfl (ex_move rfl rfl) ?_
          refine wpListIn_nil ?_
          simp only [Act.put, List.setIfInBounds_toArray, List.set_cons_succ, List.set_cons_zero]
          refine then_normal ?_
          go_roundw
          case rel => exact ⟨i + 1, cur, _, _, by simp, by omega, .no hcur (by omega), (((((((hv.front 7 rfl).front 7 rfl).front 7 rfl).front 7 rfl).front 7 rfl).front 7 rfl).sub (List.Sublist.cons_cons _ (List.Sublist.cons_cons _ (List.Sublist.cons_cons _ (List.Sublist.cons_cons _ (List.Sublist.cons_cons _ (List.Sublist.cons_cons _ (List.Sublist.cons _ (List.Sublist.cons _ (List.Sublist.refl _))))))))))⟩
          case measure => show 2 - ((i : Int) + 1).toNat < 2 - (i : Int).toNat; omega
    · refine wpi_exG (v := .bool false) (fun _ => trivial) (wn rfl) rfl (ex_lss (k := .i64) (m := (i : Int)) (n := 2) rfl rfl rfl (decide_eq_false hb24)) ?_
      refine wpListIn_nil ?_
      simp only [Act.put, List.setIfInBounds_toArray, List.set_cons_succ, List.set_cons_zero]
      refine then_normal (hK23 _ _ ?_)
      clear hK23 K23
      refine wpIn_seq_k (fun K45 hK45 => ?_)
      refine wpIn_cond_false rfl ?_
      refine wpIn_exit ?_
      refine then_exit ?_
      clear hK45 K45
      refine then_exit ?_
      refine blk_hit ?_
      refine then_normal (hK20 _ _ ?_)
      clear hK20 K20
      refine wpIn_seq_k (fun K46 hK46 => ?_)
      refine region_st mixed [.pointer (some ⟨b15, 0, none⟩), .agg #[.int .i64 (cT cur : Int), .slice ad ((cB cur).length) c], .pointer (some ⟨b15, 0, none⟩), .pointer (some ⟨b15, 0, none⟩), .pointer (some ⟨b15, 3, none⟩), .int .i64 (cG cur : Int), .bool (decide ((cG cur : Int) > 0)), .pointer (some ⟨b15, 0, none⟩), undef, .bool (decide ((cG cur : Int) > 0)), .int .i64 0] [8] [⟨fun vals w => vals = [] ∧ Inv B (Res.row 5 1 (.slice ad ((cB cur).length) c) ((cB cur).length) ((cB cur).map B8) :: Res.cell b18 [.int .i64 (cT cur : Int), .slice ad ((cB cur).length) c] 55 :: Res.cell b15 [.pointer (some ⟨p, 0, none⟩), .int .i64 (from_ : Int), .int .i64 (each : Int), .int .i64 (cG cur : Int), .bool false] 102 :: Res.cell b10 (rb.map B8) 5 :: diskR p E F9 :: Res.cell b2 [.int .i64 0, .slice none 0 0] 55 :: H) w, fun _ _ _ ⟨h, hi⟩ he => ⟨h, hi.ext he⟩⟩, ⟨fun vals w => vals = [undef] ∧ Inv B (Res.row 5 1 (.slice ad ((cB cur).length) c) ((cB cur).length) ((cB cur).map B8) :: Res.cell b18 [.int .i64 (cT cur : Int), .slice ad ((cB cur).length) c] 55 :: Res.cell b15 [.pointer (some ⟨p, 0, none⟩), .int .i64 (from_ : Int), .int .i64 (each : Int), .int .i64 (cG cur : Int), .bool false] 102 :: Res.cell b10 (rb.map B8) 5 :: diskR p E F9 :: Res.cell b2 [.int .i64 (cT cur : Int), .slice ad ((cB cur).length) c] 55 :: H) w, fun _ _ _ ⟨h, hi⟩ he => ⟨h, hi.ext he⟩⟩] 89 rfl (by kernel_rfl) ⟨rfl, hv⟩ ⟨?_, ?_, ?_, ?_, ?_, ?_, ?_, ?_, ?_, ?_, ?_, trivial⟩ ?_
      · intro aa ww vals hJ hR
        exact add_step' rfl (Ex.adds' (ex_move rfl (show aa.eval (.tmp 12) = _ from hR.keep 12 rfl)) (wn rfl) rfl)
      · intro aa ww vals hJ hR
        have h2 : vals.length ≤ 0 := hR.hi 8 (by simp) rfl
        have hl : vals.length = 0 := by omega
        obtain ⟨hvals, hv⟩ := hJ.at0 hl
        exact add_step' rfl (Ex.adds' (ex_load rfl (show aa.eval (.tmp 13) = _ from hR.keep 13 rfl) (run_load_mid (pre := []) (mid := [.int .i64 (cT cur : Int), .slice ad ((cB cur).length) c]) (post := []) s5wd55 (show Blk _ b18 ([] ++ [.int .i64 (cT cur : Int), .slice ad ((cB cur).length) c] ++ []) _ from hv.get 1 rfl) rfl)) (wn rfl) rfl)
      · intro aa ww vals hJ hR
        exact add_step' rfl (Ex.adds' (ex_move rfl (show aa.eval (.tmp 12) = _ from hR.keep 12 rfl)) (wn rfl) rfl)
      · intro aa ww vals hJ hR
        exact add_step' rfl (Ex.adds' (ex_nil rfl (show aa.eval (.tmp 84) = _ from hR.v 2 84 rfl rfl rfl rfl)) (wn rfl) rfl)
      · intro aa ww vals hJ hR
        exact add_step' rfl (Ex.adds' (ex_field rfl (show aa.eval (.tmp 85) = _ from hR.v 3 85 rfl rfl rfl rfl) (s5fa102_3 _ _ _)) (wn rfl) rfl)
      · intro aa ww vals hJ hR
        have h2 : vals.length ≤ 1 := JS.le (by rfl) hJ
        rcases (show vals.length = 0 ∨ vals.length = 1 by omega) with hl | hl
        · obtain ⟨hvals, hv⟩ := hJ.at0 hl
          exact add_step' rfl (Ex.adds' (ex_load rfl (show aa.eval (.tmp 86) = _ from hR.v 4 86 rfl rfl rfl rfl) (run_load1 s5na3 (hv.load 2 3 rfl rfl))) (wn rfl) rfl)
        · obtain ⟨hvals, hv⟩ := hJ.at0 hl
          exact add_step' rfl (Ex.adds' (ex_load rfl (show aa.eval (.tmp 86) = _ from hR.v 4 86 rfl rfl rfl rfl) (run_load1 s5na3 (hv.load 2 3 rfl rfl))) (wn rfl) rfl)
      · intro aa ww vals hJ hR
        exact add_step' rfl (Ex.adds' (ex_gtr (k := .i64) (m := (cG cur : Int)) (n := 0) rfl (show aa.eval (.tmp 87) = _ from hR.v 5 87 rfl rfl rfl rfl) rfl rfl) (wn rfl) rfl)
      · intro aa ww vals hJ hR
        exact add_step' rfl (Ex.adds' (ex_assign rfl (show aa.eval (.tmp 82) = _ from hR.v 0 82 rfl rfl rfl rfl)) (wn rfl) rfl)
      · intro aa ww vals hJ hR
        refine mem_step' rfl fun hvl => ?_
        have hl : vals.length = 0 := hvl
        obtain ⟨hvals, hv⟩ := hJ.at0 hl
        refine mem_storeNAt 5 (new := [.int .i64 (cT cur : Int), .slice ad ((cB cur).length) c]) (pre := []) (mid := [.int .i64 0, .slice none 0 0]) (post := []) (L' := [.int .i64 (cT cur : Int), .slice ad ((cB cur).length) c]) (wn rfl) rfl (show aa.eval (.tmp 7) = _ from hR.keep 7 rfl) (show aa.eval (.tmp 83) = _ from hR.v 1 83 rfl rfl rfl rfl) hv rfl s5sz55 rfl rfl rfl (one_cons rfl (one_cons rfl one_nil)) rfl (fun w47 hv => ?_)
        exact JS.next hl ⟨by rw [hvals]; rfl, hv⟩
      · intro aa ww vals hJ hR
        exact add_step' rfl (Ex.adds' (ex_assign rfl (show aa.eval (.tmp 88) = _ from hR.v 6 88 rfl rfl rfl rfl)) (wn rfl) rfl)
      · intro aa ww vals hJ hR
        exact add_step' rfl (Ex.adds' (ex_assign rfl rfl) (wn rfl) rfl)
      rintro w48 vals ⟨rfl, hv⟩
      rw [show mixV [8] [undef] 0 [.pointer (some ⟨b15, 0, none⟩), .agg #[.int .i64 (cT cur : Int), .slice ad ((cB cur).length) c], .pointer (some ⟨b15, 0, none⟩), .pointer (some ⟨b15, 0, none⟩), .pointer (some ⟨b15, 3, none⟩), .int .i64 (cG cur : Int), .bool (decide ((cG cur : Int) > 0)), .pointer (some ⟨b15, 0, none⟩), undef, .bool (decide ((cG cur : Int) > 0)), .int .i64 0] = [.pointer (some ⟨b15, 0, none⟩), .agg #[.int .i64 (cT cur : Int), .slice ad ((cB cur).length) c], .pointer (some ⟨b15, 0, none⟩), .pointer (some ⟨b15, 0, none⟩), .pointer (some ⟨b15, 3, none⟩), .int .i64 (cG cur : Int), .bool (decide ((cG cur : Int) > 0)), .pointer (some ⟨b15, 0, none⟩), undef, .bool (decide ((cG cur : Int) > 0)), .int .i64 0] from rfl]
      simp only [putAll, Act.put, List.setIfInBounds_toArray, List.set_cons_succ, List.set_cons_zero]
      refine then_normal (hK46 _ _ ?_)
      clear hK46 K46
      refine wpIn_ret ?_
      refine bodyPost_ret (res_tcell4 rfl rfl (run_load_mid (pre := []) (mid := [.int .i64 (cT cur : Int), .slice ad ((cB cur).length) c]) (post := []) s5wd55 (show Blk _ b2 ([] ++ [.int .i64 (cT cur : Int), .slice ad ((cB cur).length) c] ++ []) _ from hv.get 5 rfl) rfl)) rfl ?_
      obtain rfl : i = 2 := by omega
      rw [hrb] at hcur
      exact ⟨_, _, _, _, _, hcur, rfl, ((((hv.front 4 rfl).front 1 rfl).front 3 rfl).sub (List.Sublist.cons_cons _ (List.Sublist.cons_cons _ (List.Sublist.cons_cons _ (List.Sublist.cons _ (List.Sublist.cons _ (List.Sublist.cons _ (List.Sublist.refl _))))))))⟩
end Go.Proofs.Ytkannfkjnohdlaa
