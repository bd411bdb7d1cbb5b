/- slots.Open -/
import Derived.Test.YtkannfkjnohdlaaMgE
import Derived.Test.YtkannfkjnohdlaaMgD
namespace Go.Proofs.Ytkannfkjnohdlaa
open Go.RowKit Go.Pm
theorem view_bytes8 (v : List (List UInt8)) : durCells v = v.flatten.map B8 := by
  unfold durCells
  rw [List.map_flatten]
theorem view_flat_len {E : Disk} (hok : E.Ok) {at_ n : Nat} (h : at_ + n ≤ E.dur.length) : (E.view E.pend at_ n).flatten.length = n * 64 := by
  have h64 := Disk.view_64 hok (l := E.pend) (fun p hp => (hok.pend p hp).2) h
  have := durCells_length h64
  rw [view_bytes8, List.length_map, Disk.view_len] at this
  exact this
def cG : Option (List UInt8) → Nat | none => 0 | some s => ckG s
def cT : Option (List UInt8) → Nat | none => 0 | some s => ckT s
def cB : Option (List UInt8) → List UInt8 | none => [] | some s => ckB s
def slotOf (rb : List UInt8) (each i : Nat) : List UInt8 := piece rb (i * each * 64) (each * 64)
/-- which slot counts, of the first i -/
inductive CurI (rb : List UInt8) (each : Nat) : Nat → Option (List UInt8) → Prop
  | zero : CurI rb each 0 none
  | no {i : Nat} {c : Option (List UInt8)} (h : CurI rb each i c) (hn : ¬ (CkOk (slotOf rb each i) i ∧ ckG (slotOf rb each i) > cG c)) : CurI rb each (i + 1) c
  | yes {i : Nat} {c : Option (List UInt8)} (h : CurI rb each i c) (h1 : CkOk (slotOf rb each i) i) (h2 : ckG (slotOf rb each i) > cG c) : CurI rb each (i + 1) (some (slotOf rb each i))
theorem ckB_len {s : List UInt8} {i : Nat} (h : CkOk s i) : (ckB s).length = ckN s := piece_length (by have := h.n2; omega)
theorem rd_slot {B : Base} {H : List Res} {b : Nat} {t : TypeId} {rb : List UInt8} (k : Nat) (hk : H[k]? = some (Res.cell b (rb.map B8) t)) (off n : Nat) (h : off + n ≤ rb.length) : RdV B H (some ⟨b, 0 + off, none⟩) ((piece rb off n).map B8) := by
  refine rdV_cell (L := rb.map B8) (t := t) (0 + off) (List.mem_of_getElem? hk) (fun i hi => ?_)
  have hl : i < n := by rw [List.length_map, piece_length (by omega)] at hi; exact hi
  have h1 : (piece rb off n)[i]? = rb[off + i]? := piece_get hl
  rw [List.getElem?_eq_getElem (by rw [piece_length (by omega)]; exact hl)] at h1
  rw [List.getElem?_map, Nat.zero_add, ← h1]
  simp
def slCells (p from_ each gen : Nat) (failed : Bool) : List Value := [.pointer (some ⟨p, 0, none⟩), .int .i64 (from_ : Int), .int .i64 (each : Int), .int .i64 (gen : Int), .bool failed]
theorem cur_row {rb : List UInt8} {each i : Nat} {s : List UInt8} (h : CkOk s i) : (cB (some s)).length = ckN s := ckB_len h

theorem s5al55 (w : World) : (Instr.alloc 55 true (.tuple #[])).run Try.prog w = .ok (.pointer (some ⟨w.heap.size, 0, none⟩)) (w.alloc (.cells ([.int .i64 0, .slice none 0 0] : List Value).toArray 55)) := by kernel_rfl
theorem s5callable26 : Callable Try.prog 26 := ⟨_, Try.func26, by kernel_rfl, by kernel_rfl⟩
theorem s5es24 (w : World) : (sizeOf (Try.prog.elem 24)).run Try.prog w = .ok 1 w := by kernel_rfl
theorem s5callable50 : Callable Try.prog 50 := ⟨_, Try.func50, by kernel_rfl, by kernel_rfl⟩
theorem s5sz55 : (Try.prog.info? 55).map (·.size) = some 2 := by kernel_rfl
theorem s5fa102_3 (w : World) (b o : Nat) : (Instr.fieldAt 102 (.pointer (some ⟨b, o, none⟩)) 3).run Try.prog w = .ok (.pointer (some ⟨b, o + 3, none⟩)) w := by kernel_rfl
theorem s5na3 (w : World) : (isAgg 3).run Try.prog w = .ok false w := by kernel_rfl
theorem s5wd55 : Wide Try.prog 55 2 := wide_of (fun w => by kernel_rfl) (by kernel_rfl)
theorem s5sz3 : (Try.prog.info? 3).map (·.size) = some 1 := by kernel_rfl
set_option maxRecDepth 100000 in
set_option maxHeartbeats 2000000 in
theorem slotsOpen (B : Base) (H : List Res) (w : World) (p from_ each : Nat) (D E : Disk) (F : List Nat) (hE : D.tick = E) (hpl : E.pend.length ≤ 1000000000) (hhas : D.has (from_ : Int) ((2 * each : Nat) : Int) = true) (hl : D.left ≠ 0) (he1 : 1 ≤ each) (he2 : each ≤ 30000) (hfit : from_ + 2 * each ≤ E.dur.length) (hdm : E.dur.length ≤ 65536) (hv : Inv B (diskR p D F :: H) w) :
    Calls Try.prog 30 #[.pointer (some ⟨p, 0, none⟩), .int .i64 (from_ : Int), .int .i64 (each : Int)] w fun e w' => ∃ (q : Nat) (cur : Option (List UInt8)) (ad : Option Addr) (c : Nat) (F' : List Nat), CurI (E.view E.pend from_ (2 * each)).flatten each 2 cur ∧ e = .returned (.tuple #[.pointer (some ⟨q, 0, none⟩), .agg #[.int .i64 (cT cur : Int), .slice ad (cB cur).length c], .bool (decide ((cG cur : Int) > 0)), .int .i64 0]) ∧ Inv B (Res.cell q (slCells p from_ each (cG cur) false) 102 :: Res.row 5 1 (.slice ad (cB cur).length c) (cB cur).length ((cB cur).map B8) :: diskR p E F' :: H) w' := by
  refine (callsIn_wide (n := 5)).1 ?_
  refine callsIn_of_wp Try.func30 rfl trivial ?_
  simp only [Try.ntmps30, List.size_toArray, List.length_cons, List.length_nil, Nat.reduceAdd, Nat.reduceSub, Array.replicate_succ, Array.replicate_zero, List.push_toArray, List.append_toArray, List.nil_append, List.cons_append]
  refine wpIn_seq_k (fun K1 hK1 => ?_)
  refine wpIn_region_lit ?_
  refine wpi_exG (v := .pointer none) (fun _ => trivial) (wn rfl) rfl (ex_assign rfl rfl) ?_
  refine sl_alloc (fun _ => trivial) (wn rfl) rfl hv s5al55 (fun b2 w3 hv => ?_)
  refine wpi_exG (v := .bool false) (fun _ => trivial) (wn rfl) rfl (ex_assign rfl rfl) ?_
  simp only [Act.put, List.setIfInBounds_toArray, List.set_cons_succ, List.set_cons_zero]
  refine wpi_exG (v := .int .i64 0) (fun _ => trivial) (wn rfl) rfl (ex_assign rfl rfl) ?_
  refine wpListIn_nil ?_
  simp only [Act.put, List.setIfInBounds_toArray, List.set_cons_succ, List.set_cons_zero]
  refine then_normal (hK1 _ _ ?_)
  clear hK1 K1
  refine wpIn_seq_k (fun K4 hK4 => ?_)
  refine wpIn_seq_k (fun K5 hK5 => ?_)
  refine wpIn_region_lit ?_
  refine wpi_exG (v := .pointer (some ⟨p, 0, none⟩)) (fun _ => trivial) (wn rfl) rfl (ex_move rfl rfl) ?_
  refine wpi_exG (v := .bool false) (fun _ => trivial) (wn rfl) rfl (ex_pisnil Try.underlying36 rfl rfl rfl rfl) ?_
  refine wpListIn_nil ?_
  simp only [Act.put, List.setIfInBounds_toArray, List.set_cons_succ, List.set_cons_zero]
  refine then_normal (hK5 _ _ ?_)
  clear hK5 K5
  refine wpIn_cond_false rfl ?_
  refine wpIn_skip ?_
  refine then_normal (hK4 _ _ ?_)
  clear hK4 K4
  refine wpIn_seq_k (fun K6 hK6 => ?_)
  refine wpIn_seq_k (fun K7 hK7 => ?_)
  refine wpIn_region_lit ?_
  refine wpi_exG (v := .int .i64 (each : Int)) (fun _ => trivial) (wn rfl) rfl (ex_move rfl rfl) ?_
  refine wpi_exG (v := .bool false) (fun _ => trivial) (wn rfl) rfl (ex_lss (k := .i64) (m := (each : Int)) (n := 1) rfl rfl rfl (decide_eq_false (by omega))) ?_
  refine wpi_exG (v := .bool false) (fun _ => trivial) (wn rfl) rfl (ex_move rfl rfl) ?_
  simp only [Act.put, List.setIfInBounds_toArray, List.set_cons_succ, List.set_cons_zero]
  refine wpi_exG (v := .int .i64 (each : Int)) (fun _ => trivial) (wanted_of (j := 2) (d := 24) (b := false) rfl rfl rfl) rfl (ex_move rfl rfl) ?_
  refine wpi_exG (v := .bool false) (fun _ => trivial) (wanted_of (j := 2) (d := 24) (b := false) rfl rfl rfl) rfl (ex_gtr (k := .i64) (m := (each : Int)) (n := 65536) rfl rfl rfl (decide_eq_false (by omega))) ?_
  refine wpi_exG (v := .bool false) (fun _ => trivial) (wn rfl) rfl (ex_pick (b := false) rfl rfl rfl) ?_
  refine wpListIn_nil ?_
  simp only [Act.put, List.setIfInBounds_toArray, List.set_cons_succ, List.set_cons_zero]
  refine then_normal (hK7 _ _ ?_)
  clear hK7 K7
  refine wpIn_cond_false rfl ?_
  refine wpIn_skip ?_
  refine then_normal (hK6 _ _ ?_)
  clear hK6 K6
  refine wpIn_seq_k (fun K8 hK8 => ?_)
  refine wpIn_region_lit ?_
  refine wpi_exG (v := .pointer (some ⟨p, 0, none⟩)) (fun _ => trivial) (wn rfl) rfl (ex_move rfl rfl) ?_
  refine wpi_exG (v := .int .i64 (from_ : Int)) (fun _ => trivial) (wn rfl) rfl (ex_move rfl rfl) ?_
  refine wpi_exG (v := .int .i64 (each : Int)) (fun _ => trivial) (wn rfl) rfl (ex_move rfl rfl) ?_
  simp only [Act.put, List.setIfInBounds_toArray, List.set_cons_succ, List.set_cons_zero]
  refine wpi_exG (v := .int .i64 ((2 * each : Nat) : Int)) (fun _ => trivial) (wn rfl) rfl (ex_mul (m := 2) (n := (each : Int)) rfl rfl rfl (by rw [i64_in (by omega)]; omega)) ?_
  replace hv := hv.front 1 rfl
  simp only [List.eraseIdx_cons_succ, List.eraseIdx_cons_zero] at hv
  refine wpi_callG s5callable26 (fun _ => trivial) wideC rfl (wn rfl) rfl (args := #[.pointer (some ⟨p, 0, none⟩), .int .i64 (from_ : Int), .int .i64 ((2 * each : Nat) : Int)]) (by simp only [List.map_toArray, List.map_cons, List.map_nil]; rfl) ((diskReadOk _ _ _ p _ _ from_ (2 * each) hv E hE hpl hhas hl (by omega) (by omega) (by omega)).mono ?_)
  rintro e w11 ⟨b10, rfl, F9, hv⟩
  refine ⟨_, rfl, ?_⟩
  have hok : E.Ok := (hv.get 1 rfl : DiskAt _ _ E _).1
  have hrl := view_flat_len hok hfit
  rw [view_bytes8] at hv
  obtain ⟨rb, hrb⟩ : ∃ rb, rb = (E.view E.pend from_ (2 * each)).flatten := ⟨_, rfl⟩
  rw [← hrb] at hv hrl
  refine wpi_exG (v := .tuple #[.slice (some ⟨b10, 0, none⟩) (2 * each * 64) (2 * each * 64), .int .i64 0]) (fun _ => trivial) (wn rfl) rfl (ex_move rfl rfl) ?_
  simp only [Act.put, List.setIfInBounds_toArray, List.set_cons_succ, List.set_cons_zero]
  refine wpi_exG (v := .slice (some ⟨b10, 0, none⟩) (2 * each * 64) (2 * each * 64)) (fun _ => trivial) (wn rfl) rfl (ex_extract rfl rfl rfl) ?_
  refine wpi_exG (v := .int .i64 0) (fun _ => trivial) (wn rfl) rfl (ex_extract rfl rfl rfl) ?_
  refine wpi_exG (v := .slice (some ⟨b10, 0, none⟩) (2 * each * 64) (2 * each * 64)) (fun _ => trivial) (wn rfl) rfl (ex_assign rfl rfl) ?_
  simp only [Act.put, List.setIfInBounds_toArray, List.set_cons_succ, List.set_cons_zero]
  refine wpi_exG (v := .int .i64 0) (fun _ => trivial) (wn rfl) rfl (ex_assign rfl rfl) ?_
  refine wpListIn_nil ?_
  simp only [Act.put, List.setIfInBounds_toArray, List.set_cons_succ, List.set_cons_zero]
  refine then_normal (hK8 _ _ ?_)
  clear hK8 K8
  refine wpIn_seq_k (fun K12 hK12 => ?_)
  refine wpIn_seq_k (fun K13 hK13 => ?_)
  refine wpIn_region_lit ?_
  refine wpi_exG (v := .int .i64 0) (fun _ => trivial) (wn rfl) rfl (ex_move rfl rfl) ?_
  refine wpi_exG (v := .bool false) (fun _ => trivial) (wn rfl) rfl (ex_neq (k := .i64) (m := 0) (n := 0) rfl rfl rfl (by decide)) ?_
  refine wpListIn_nil ?_
  simp only [Act.put, List.setIfInBounds_toArray, List.set_cons_succ, List.set_cons_zero]
  refine then_normal (hK13 _ _ ?_)
  clear hK13 K13
  refine wpIn_cond_false rfl ?_
  refine wpIn_skip ?_
  refine then_normal (hK12 _ _ ?_)
  clear hK12 K12
  refine wpIn_seq_k (fun K14 hK14 => ?_)
  refine wpIn_region_lit ?_
  refine wpi_exG (v := .pointer (some ⟨p, 0, none⟩)) (fun _ => trivial) (wn rfl) rfl (ex_move rfl rfl) ?_
  refine wpi_exG (v := .int .i64 (from_ : Int)) (fun _ => trivial) (wn rfl) rfl (ex_move rfl rfl) ?_
  refine wpi_exG (v := .int .i64 (each : Int)) (fun _ => trivial) (wn rfl) rfl (ex_move rfl rfl) ?_
  simp only [Act.put, List.setIfInBounds_toArray, List.set_cons_succ, List.set_cons_zero]
  refine wpi_exG (v := .agg #[.pointer (some ⟨p, 0, none⟩), .int .i64 (from_ : Int), .int .i64 (each : Int), .int .i64 0, .bool false]) (fun _ => trivial) (wn rfl) rfl (ex_buildN (vs := #[(0, .pointer (some ⟨p, 0, none⟩)), (1, .int .i64 (from_ : Int)), (2, .int .i64 (each : Int))]) rfl (by simp only [List.map_toArray, List.map_cons, List.map_nil]; rfl) (by kernel_rfl)) ?_
  refine sl_box (L := [.pointer (some ⟨p, 0, none⟩), .int .i64 (from_ : Int), .int .i64 (each : Int), .int .i64 0, .bool false]) (fun _ => trivial) (wn rfl) rfl (p := .agg #[.pointer (some ⟨p, 0, none⟩), .int .i64 (from_ : Int), .int .i64 (each : Int), .int .i64 0, .bool false]) rfl hv (fun w => by kernel_rfl) (fun b15 w16 hv => ?_)
  refine wpi_exG (v := .pointer (some ⟨b15, 0, none⟩)) (fun _ => trivial) (wn rfl) rfl (ex_assign rfl rfl) ?_
  refine wpListIn_nil ?_
  simp only [Act.put, List.setIfInBounds_toArray, List.set_cons_succ, List.set_cons_zero]
  refine then_normal (hK14 _ _ ?_)
  clear hK14 K14
  refine wpIn_seq_k (fun K17 hK17 => ?_)
  refine wpIn_region_lit ?_
  refine sl_alloc (fun _ => trivial) (wn rfl) rfl hv s5al55 (fun b18 w19 hv => ?_)
  refine wpListIn_nil ?_
  simp only [Act.put, List.setIfInBounds_toArray, List.set_cons_succ, List.set_cons_zero]
  refine then_normal (hK17 _ _ ?_)
  clear hK17 K17
  refine wpIn_seq_k (fun K20 hK20 => ?_)
  refine wpIn_seq_k (fun K21 hK21 => ?_)
  refine wpIn_region_lit ?_
  refine wpi_exG (v := .int .i64 0) (fun _ => trivial) (wn rfl) rfl (ex_move rfl rfl) ?_
  refine wpListIn_nil ?_
  simp only [Act.put, List.setIfInBounds_toArray, List.set_cons_succ, List.set_cons_zero]
  refine then_normal (hK21 _ _ ?_)
  clear hK21 K21
  refine wpIn_block ?_
  replace hv := hv.new (Ext.rfl' _) (Res.row 5 1 (.slice none 0 0) 0 []) (World.ownsRow_nil _ _ _ _) (fun b hb => by simp [Value.ownBlock] at hb) (by simp [Value.ownBlock])
  gi_loopw [46] (fun x46 wr => ∃ (i : Nat) (cur : Option (List UInt8)) (ad : Option Addr) (c : Nat), x46 = .int .i64 (i : Int) ∧ i ≤ 2 ∧ CurI rb each i cur ∧ Inv B (Res.row 5 1 (.slice ad ((cB cur).length) c) ((cB cur).length) ((cB cur).map B8) :: Res.cell b18 [.int .i64 (cT cur : Int), .slice ad ((cB cur).length) c] 55 :: Res.cell b15 [.pointer (some ⟨p, 0, none⟩), .int .i64 (from_ : Int), .int .i64 (each : Int), .int .i64 (cG cur : Int), .bool false] 102 :: Res.cell b10 (rb.map B8) 5 :: diskR p E F9 :: Res.cell b2 [.int .i64 0, .slice none 0 0] 55 :: H) wr) (fun x46 _ => 2 - (intOf x46).toNat)
  case atStart => exact ⟨0, none, none, 0, rfl, by omega, .zero, hv⟩
  case round =>
    obtain ⟨i, cur, ad, c, rfl, hi, hcur, hv⟩ := hrel
    refine wpIn_seq_k (fun K23 hK23 => ?_)
    refine wpIn_region_lit ?_
    by_cases hb24 : (i : Int) < 2
    · have hX : i * each ≤ each := by
        rcases (show i = 0 ∨ i = 1 by omega) with h | h <;> rw [h] <;> omega
      have hY : (i + 1) * each = i * each + each := Nat.succ_mul _ _
      skip
      refine wpi_exG (v := .bool true) (fun _ => trivial) (wn rfl) rfl (ex_lss (k := .i64) (m := (i : Int)) (n := 2) rfl rfl rfl (decide_eq_true hb24)) ?_
      refine wpListIn_nil ?_
      simp only [Act.put, List.setIfInBounds_toArray, List.set_cons_succ, List.set_cons_zero]
      refine then_normal (hK23 _ _ ?_)
      clear hK23 K23
      refine wpIn_seq_k (fun K25 hK25 => ?_)
      refine wpIn_cond_true rfl ?_
      refine wpIn_skip ?_
      refine then_normal (hK25 _ _ ?_)
      clear hK25 K25
      refine wpIn_seq_k (fun K26 hK26 => ?_)
      refine wpIn_block ?_
      refine wpIn_seq_k (fun K27 hK27 => ?_)
      refine wpIn_region_lit ?_
      refine wpi_exG (v := .int .i64 (i : Int)) (fun _ => trivial) (wn rfl) rfl (ex_move rfl rfl) ?_
      refine wpi_exG (v := .int .i64 (i : Int)) (fun _ => trivial) (wn rfl) rfl (ex_assign rfl rfl) ?_
      refine wpListIn_nil ?_
      simp only [Act.put, List.setIfInBounds_toArray, List.set_cons_succ, List.set_cons_zero]
      refine then_normal (hK27 _ _ ?_)
      clear hK27 K27
      refine wpIn_seq_k (fun K28 hK28 => ?_)
      refine wpIn_region_lit ?_
      refine wpi_exG (v := .slice (some ⟨b10, 0, none⟩) (2 * each * 64) (2 * each * 64)) (fun _ => trivial) (wn rfl) rfl (ex_move rfl rfl) ?_
      refine wpi_exG (v := .int .i64 (i : Int)) (fun _ => trivial) (wn rfl) rfl (ex_move rfl rfl) ?_
      refine wpi_exG (v := .int .i64 (each : Int)) (fun _ => trivial) (wn rfl) rfl (ex_move rfl rfl) ?_
      simp only [Act.put, List.setIfInBounds_toArray, List.set_cons_succ, List.set_cons_zero]
      refine wpi_exG (v := .int .i64 ((i * each : Nat) : Int)) (fun _ => trivial) (wn rfl) rfl (ex_mul (m := (i : Int)) (n := (each : Int)) rfl rfl rfl (by rw [← Int.natCast_mul, i64_in (by omega)])) ?_
      refine wpi_exG (v := .int .i64 ((i * each * 64 : Nat) : Int)) (fun _ => trivial) (wn rfl) rfl (ex_mul (m := ((i * each : Nat) : Int)) (n := 64) rfl rfl rfl (by rw [i64_in (by omega)]; omega)) ?_
      refine wpi_exG (v := .int .i64 (i : Int)) (fun _ => trivial) (wn rfl) rfl (ex_move rfl rfl) ?_
      simp only [Act.put, List.setIfInBounds_toArray, List.set_cons_succ, List.set_cons_zero]
      refine wpi_exG (v := .int .i64 ((i + 1 : Nat) : Int)) (fun _ => trivial) (wn rfl) rfl (ex_add (m := (i : Int)) (n := 1) rfl rfl rfl (by rw [i64_in (by omega)]; omega)) ?_
      refine wpi_exG (v := .int .i64 (each : Int)) (fun _ => trivial) (wn rfl) rfl (ex_move rfl rfl) ?_
      refine wpi_exG (v := .int .i64 (((i + 1) * each : Nat) : Int)) (fun _ => trivial) (wn rfl) rfl (ex_mul (m := ((i + 1 : Nat) : Int)) (n := (each : Int)) rfl rfl rfl (by rw [← Int.natCast_mul, i64_in (by omega)])) ?_
      simp only [Act.put, List.setIfInBounds_toArray, List.set_cons_succ, List.set_cons_zero]
      refine wpi_exG (v := .int .i64 (((i + 1) * each * 64 : Nat) : Int)) (fun _ => trivial) (wn rfl) rfl (ex_mul (m := (((i + 1) * each : Nat) : Int)) (n := 64) rfl rfl rfl (by rw [i64_in (by omega)]; omega)) ?_
      refine wpi_exG (v := .slice (some ⟨b10, 0 + (i * each * 64 : Nat), none⟩) (((i + 1) * each * 64 : Nat) - (i * each * 64 : Nat)) (2 * each * 64 - (i * each * 64 : Nat))) (fun _ => trivial) (wn rfl) rfl (ex_slice (lo' := some (.int .i64 ((i * each * 64 : Nat) : Int))) (hi' := some (.int .i64 (((i + 1) * each * 64 : Nat) : Int))) rfl rfl (congrArg some rfl) (congrArg some rfl) rfl (run_lohi1 Try.underlying24 s5es24 (by omega) (by omega) (by omega))) ?_
      refine wpi_exG (v := .slice (some ⟨b10, 0 + (i * each * 64 : Nat), none⟩) (((i + 1) * each * 64 : Nat) - (i * each * 64 : Nat)) (2 * each * 64 - (i * each * 64 : Nat))) (fun _ => trivial) (wn rfl) rfl (ex_assign rfl rfl) ?_
      refine wpListIn_nil ?_
      simp only [Act.put, List.setIfInBounds_toArray, List.set_cons_succ, List.set_cons_zero]
      refine then_normal (hK28 _ _ ?_)
      clear hK28 K28
      refine wpIn_seq_k (fun K29 hK29 => ?_)
      refine wpIn_region_lit ?_
      refine wpi_exG (v := .slice (some ⟨b10, 0 + (i * each * 64 : Nat), none⟩) (((i + 1) * each * 64 : Nat) - (i * each * 64 : Nat)) (2 * each * 64 - (i * each * 64 : Nat))) (fun _ => trivial) (wn rfl) rfl (ex_move rfl rfl) ?_
      refine wpi_exG (v := .int .i64 (i : Int)) (fun _ => trivial) (wn rfl) rfl (ex_move rfl rfl) ?_
      refine wpi_callG s5callable50 (fun _ => trivial) wideC rfl (wn rfl) rfl (args := #[.slice (some ⟨b10, 0 + (i * each * 64 : Nat), none⟩) (((i + 1) * each * 64 : Nat) - (i * each * 64 : Nat)) (2 * each * 64 - (i * each * 64 : Nat)), .int .i64 (i : Int)]) (by simp only [List.map_toArray, List.map_cons, List.map_nil]; rfl) ((slotsCheckpoint _ _ _ _ _ _ (slotOf rb each i) i (by unfold slotOf; rw [piece_length (by omega)]; omega) (by omega) ⟨by omega, by unfold maxLen; omega, fun h => by cases h⟩ (rd_slot 3 rfl _ _ (by omega)) (by omega) (by omega) hv).mono ?_)
      rintro e w30 (⟨hno, rfl, hv⟩ | ⟨hyes, ad31, c32, rfl, hv⟩)
      · refine ⟨_, rfl, ?_⟩
        unfold ckNo
        simp only [Act.put, List.setIfInBounds_toArray, List.set_cons_succ, List.set_cons_zero]
        refine wpi_exG (v := .tuple #[.agg #[.int .i64 0, .slice none 0 0], .int .i64 0, .bool false]) (fun _ => trivial) (wn rfl) rfl (ex_move rfl rfl) ?_
        refine wpi_exG (v := .agg #[.int .i64 0, .slice none 0 0]) (fun _ => trivial) (wn rfl) rfl (ex_extract rfl rfl rfl) ?_
        refine wpi_exG (v := .int .i64 0) (fun _ => trivial) (wn rfl) rfl (ex_extract rfl rfl rfl) ?_
        simp only [Act.put, List.setIfInBounds_toArray, List.set_cons_succ, List.set_cons_zero]
        refine wpi_exG (v := .bool false) (fun _ => trivial) (wn rfl) rfl (ex_extract rfl rfl rfl) ?_
        refine sl_alloc (fun _ => trivial) (wn rfl) rfl hv s5al55 (fun b33 w34 hv => ?_)
        refine sl_storeNAt 0 (new := [.int .i64 0, .slice none 0 0]) (pre := []) (mid := [.int .i64 0, .slice none 0 0]) (post := []) (L' := [.int .i64 0, .slice none 0 0]) (fun _ => trivial) (wn rfl) rfl rfl rfl hv rfl s5sz55 rfl rfl rfl (one_cons rfl (one_cons rfl one_nil)) rfl (fun w35 hv => ?_)
        simp only [List.set_cons_succ, List.set_cons_zero] at hv
        simp only [Act.put, List.setIfInBounds_toArray, List.set_cons_succ, List.set_cons_zero]
        refine wpi_exG (v := .int .i64 0) (fun _ => trivial) (wn rfl) rfl (ex_assign rfl rfl) ?_
        refine wpi_exG (v := .bool false) (fun _ => trivial) (wn rfl) rfl (ex_assign rfl rfl) ?_
        refine wpListIn_nil ?_
        simp only [Act.put, List.setIfInBounds_toArray, List.set_cons_succ, List.set_cons_zero]
        refine then_normal (hK29 _ _ ?_)
        clear hK29 K29
        refine wpIn_seq_k (fun K36 hK36 => ?_)
        refine wpIn_region_lit ?_
        refine wpi_exG (v := .bool false) (fun _ => trivial) (wn rfl) rfl (ex_move rfl rfl) ?_
        refine wpi_exG (v := .bool false) (fun _ => trivial) (wn rfl) rfl (ex_move rfl rfl) ?_
        refine wpi_not (fun _ => trivial) (wanted_not (j := 1) (d := 68) (b := true) (b' := false) rfl rfl rfl (by decide)) ?_
        simp only [Act.put, List.setIfInBounds_toArray, List.set_cons_succ, List.set_cons_zero]
        refine wpi_not (fun _ => trivial) (wanted_not (j := 1) (d := 68) (b := true) (b' := false) rfl rfl rfl (by decide)) ?_
        refine wpi_not (fun _ => trivial) (wanted_not (j := 1) (d := 68) (b := true) (b' := false) rfl rfl rfl (by decide)) ?_
        refine wpi_not (fun _ => trivial) (wanted_not (j := 1) (d := 68) (b := true) (b' := false) rfl rfl rfl (by decide)) ?_
        simp only [Act.put, List.setIfInBounds_toArray, List.set_cons_succ, List.set_cons_zero]
        refine wpi_not (fun _ => trivial) (wanted_not (j := 1) (d := 68) (b := true) (b' := false) rfl rfl rfl (by decide)) ?_
        refine wpi_not (fun _ => trivial) (wanted_not (j := 1) (d := 68) (b := true) (b' := false) rfl rfl rfl (by decide)) ?_
        refine wpi_exG (v := .bool false) (fun _ => trivial) (wn rfl) rfl (ex_pick (b := false) rfl rfl rfl) ?_
        refine wpListIn_nil ?_
        simp only [Act.put, List.setIfInBounds_toArray, List.set_cons_succ, List.set_cons_zero]
        refine then_normal (hK36 _ _ ?_)
        clear hK36 K36
        refine wpIn_cond_false rfl ?_
        refine wpIn_skip ?_
        refine blk_normal ?_
        refine then_normal (hK26 _ _ ?_)
        clear hK26 K26
        refine wpIn_region_lit ?_
        refine wpi_exG (v := .int .i64 ((i : Int) + 1)) (fun _ => trivial) (wn rfl) rfl (ex_add (m := (i : Int)) (n := 1) rfl rfl rfl (i64_in (by omega))) ?_
        refine wpi_exG (v := .int .i64 ((i : Int) + 1)) (fun _ => trivial) (wn rfl) rfl (ex_move rfl rfl) ?_
        refine wpListIn_nil ?_
        simp only [Act.put, List.setIfInBounds_toArray, List.set_cons_succ, List.set_cons_zero]
        refine then_normal ?_
        go_roundw
        case rel => exact ⟨i + 1, cur, _, _, by simp, by omega, .no hcur (fun h => hno h.1), (((((((hv.front 6 rfl).front 6 rfl).front 6 rfl).front 6 rfl).front 6 rfl).front 6 rfl).sub (List.Sublist.cons_cons _ (List.Sublist.cons_cons _ (List.Sublist.cons_cons _ (List.Sublist.cons_cons _ (List.Sublist.cons_cons _ (List.Sublist.cons_cons _ (List.Sublist.cons _ (List.Sublist.refl _)))))))))⟩
        case measure => show 2 - ((i : Int) + 1).toNat < 2 - (i : Int).toNat; omega
      · refine ⟨_, rfl, ?_⟩
        simp only [Act.put, List.setIfInBounds_toArray, List.set_cons_succ, List.set_cons_zero]
        refine wpi_exG (v := .tuple #[.agg #[.int .i64 (ckT (slotOf rb each i) : Int), .slice ad31 (ckN (slotOf rb each i)) c32], .int .i64 (ckG (slotOf rb each i) : Int), .bool true]) (fun _ => trivial) (wn rfl) rfl (ex_move rfl rfl) ?_
        refine wpi_exG (v := .agg #[.int .i64 (ckT (slotOf rb each i) : Int), .slice ad31 (ckN (slotOf rb each i)) c32]) (fun _ => trivial) (wn rfl) rfl (ex_extract rfl rfl rfl) ?_
        refine wpi_exG (v := .int .i64 (ckG (slotOf rb each i) : Int)) (fun _ => trivial) (wn rfl) rfl (ex_extract rfl rfl rfl) ?_
        simp only [Act.put, List.setIfInBounds_toArray, List.set_cons_succ, List.set_cons_zero]
        refine wpi_exG (v := .bool true) (fun _ => trivial) (wn rfl) rfl (ex_extract rfl rfl rfl) ?_
        refine sl_alloc (fun _ => trivial) (wn rfl) rfl hv s5al55 (fun b37 w38 hv => ?_)
        refine sl_storeNAt 0 (new := [.int .i64 (ckT (slotOf rb each i) : Int), .slice ad31 (ckN (slotOf rb each i)) c32]) (pre := []) (mid := [.int .i64 0, .slice none 0 0]) (post := []) (L' := [.int .i64 (ckT (slotOf rb each i) : Int), .slice ad31 (ckN (slotOf rb each i)) c32]) (fun _ => trivial) (wn rfl) rfl rfl rfl hv rfl s5sz55 rfl rfl rfl (one_cons rfl (one_cons rfl one_nil)) rfl (fun w39 hv => ?_)
        simp only [List.set_cons_succ, List.set_cons_zero] at hv
        simp only [Act.put, List.setIfInBounds_toArray, List.set_cons_succ, List.set_cons_zero]
        refine wpi_exG (v := .int .i64 (ckG (slotOf rb each i) : Int)) (fun _ => trivial) (wn rfl) rfl (ex_assign rfl rfl) ?_
        refine wpi_exG (v := .bool true) (fun _ => trivial) (wn rfl) rfl (ex_assign rfl rfl) ?_
        refine wpListIn_nil ?_
        simp only [Act.put, List.setIfInBounds_toArray, List.set_cons_succ, List.set_cons_zero]
        refine then_normal (hK29 _ _ ?_)
        clear hK29 K29
        refine wpIn_seq_k (fun K40 hK40 => ?_)
        refine wpIn_region_lit ?_
        refine wpi_exG (v := .bool true) (fun _ => trivial) (wn rfl) rfl (ex_move rfl rfl) ?_
        refine wpi_exG (v := .bool true) (fun _ => trivial) (wn rfl) rfl (ex_move rfl rfl) ?_
        refine wpi_exG (v := .int .i64 (ckG (slotOf rb each i) : Int)) (fun _ => trivial) (wanted_of (j := 1) (d := 68) (b := true) rfl rfl rfl) rfl (ex_move rfl rfl) ?_
        simp only [Act.put, List.setIfInBounds_toArray, List.set_cons_succ, List.set_cons_zero]
        refine wpi_exG (v := .pointer (some ⟨b15, 0, none⟩)) (fun _ => trivial) (wanted_of (j := 1) (d := 68) (b := true) rfl rfl rfl) rfl (ex_move rfl rfl) ?_
        refine wpi_exG (v := .pointer (some ⟨b15, 0, none⟩)) (fun _ => trivial) (wanted_of (j := 1) (d := 68) (b := true) rfl rfl rfl) rfl (ex_nil rfl rfl) ?_
        refine wpi_exG (v := .pointer (some ⟨b15, 3, none⟩)) (fun _ => trivial) (wanted_of (j := 1) (d := 68) (b := true) rfl rfl rfl) rfl (ex_field rfl rfl (s5fa102_3 _ _ _)) ?_
        simp only [Act.put, List.setIfInBounds_toArray, List.set_cons_succ, List.set_cons_zero]
        refine wpi_exG (v := .int .i64 (cG cur : Int)) (fun _ => trivial) (wanted_of (j := 1) (d := 68) (b := true) rfl rfl rfl) rfl (ex_load rfl rfl (run_load1 s5na3 (hv.load 4 3 rfl rfl))) ?_
        by_cases hb41 : (ckG (slotOf rb each i) : Int) > (cG cur : Int)
        · refine wpi_exG (v := .bool true) (fun _ => trivial) (wanted_of (j := 1) (d := 68) (b := true) rfl rfl rfl) rfl (ex_gtr (k := .i64) (m := (ckG (slotOf rb each i) : Int)) (n := (cG cur : Int)) rfl rfl rfl (decide_eq_true hb41)) ?_
          refine wpi_exG (v := .bool true) (fun _ => trivial) (wn rfl) rfl (ex_pick (b := true) rfl rfl rfl) ?_
          refine wpListIn_nil ?_
          simp only [Act.put, List.setIfInBounds_toArray, List.set_cons_succ, List.set_cons_zero]
          refine then_normal (hK40 _ _ ?_)
          clear hK40 K40
          refine wpIn_cond_true rfl ?_
          refine region_st mixed [.pointer (some ⟨b15, 0, none⟩), .int .i64 (ckG (slotOf rb each i) : Int), .agg #[.int .i64 (ckT (slotOf rb each i) : Int), .slice ad31 (ckN (slotOf rb each i)) c32], .pointer (some ⟨b15, 0, none⟩), .pointer (some ⟨b15, 3, none⟩), undef, undef] [5, 6] [⟨fun vals w => vals = [] ∧ Inv B (Res.cell b37 [.int .i64 (ckT (slotOf rb each i) : Int), .slice ad31 (ckN (slotOf rb each i)) c32] 55 :: Res.row 5 1 (.slice ad31 (ckN (slotOf rb each i)) c32) (ckN (slotOf rb each i)) ((ckB (slotOf rb each i)).map B8) :: Res.row 5 1 (.slice ad ((cB cur).length) c) ((cB cur).length) ((cB cur).map B8) :: Res.cell b18 [.int .i64 (cT cur : Int), .slice ad ((cB cur).length) c] 55 :: Res.cell b15 [.pointer (some ⟨p, 0, none⟩), .int .i64 (from_ : Int), .int .i64 (each : Int), .int .i64 (cG cur : Int), .bool false] 102 :: Res.cell b10 (rb.map B8) 5 :: diskR p E F9 :: Res.cell b2 [.int .i64 0, .slice none 0 0] 55 :: H) w, fun _ _ _ ⟨h, hi⟩ he => ⟨h, hi.ext he⟩⟩, ⟨fun vals w => vals = [undef] ∧ Inv B (Res.cell b37 [.int .i64 (ckT (slotOf rb each i) : Int), .slice ad31 (ckN (slotOf rb each i)) c32] 55 :: Res.row 5 1 (.slice ad31 (ckN (slotOf rb each i)) c32) (ckN (slotOf rb each i)) ((ckB (slotOf rb each i)).map B8) :: Res.row 5 1 (.slice ad ((cB cur).length) c) ((cB cur).length) ((cB cur).map B8) :: Res.cell b18 [.int .i64 (cT cur : Int), .slice ad ((cB cur).length) c] 55 :: Res.cell b15 [.pointer (some ⟨p, 0, none⟩), .int .i64 (from_ : Int), .int .i64 (each : Int), .int .i64 (ckG (slotOf rb each i) : Int), .bool false] 102 :: Res.cell b10 (rb.map B8) 5 :: diskR p E F9 :: Res.cell b2 [.int .i64 0, .slice none 0 0] 55 :: H) w, fun _ _ _ ⟨h, hi⟩ he => ⟨h, hi.ext he⟩⟩, ⟨fun vals w => vals = [undef, undef] ∧ Inv B (Res.cell b37 [.int .i64 (ckT (slotOf rb each i) : Int), .slice ad31 (ckN (slotOf rb each i)) c32] 55 :: Res.row 5 1 (.slice ad31 (ckN (slotOf rb each i)) c32) (ckN (slotOf rb each i)) ((ckB (slotOf rb each i)).map B8) :: Res.row 5 1 (.slice ad ((cB cur).length) c) ((cB cur).length) ((cB cur).map B8) :: Res.cell b18 [.int .i64 (ckT (slotOf rb each i) : Int), .slice ad31 (ckN (slotOf rb each i)) c32] 55 :: Res.cell b15 [.pointer (some ⟨p, 0, none⟩), .int .i64 (from_ : Int), .int .i64 (each : Int), .int .i64 (ckG (slotOf rb each i) : Int), .bool false] 102 :: Res.cell b10 (rb.map B8) 5 :: diskR p E F9 :: Res.cell b2 [.int .i64 0, .slice none 0 0] 55 :: H) w, fun _ _ _ ⟨h, hi⟩ he => ⟨h, hi.ext he⟩⟩] 89 rfl (by kernel_rfl) ⟨rfl, hv⟩ ⟨?_, ?_, ?_, ?_, ?_, ?_, ?_, trivial⟩ ?_
          · intro aa ww vals hJ hR
            exact add_step' rfl (Ex.adds' (ex_move rfl (show aa.eval (.tmp 12) = _ from hR.keep 12 rfl)) (wn rfl) rfl)
          · intro aa ww vals hJ hR
            exact add_step' rfl (Ex.adds' (ex_move rfl (show aa.eval (.tmp 17) = _ from hR.keep 17 rfl)) (wn rfl) rfl)
          · intro aa ww vals hJ hR
            have h2 : vals.length ≤ 1 := hR.hi 6 (by simp) rfl
            rcases (show vals.length = 0 ∨ vals.length = 1 by omega) with hl | hl
            · obtain ⟨hvals, hv⟩ := hJ.at0 hl
              exact add_step' rfl (Ex.adds' (ex_load rfl (show aa.eval (.tmp 16) = _ from hR.keep 16 rfl) (run_load_mid (pre := []) (mid := [.int .i64 (ckT (slotOf rb each i) : Int), .slice ad31 (ckN (slotOf rb each i)) c32]) (post := []) s5wd55 (show Blk _ b37 ([] ++ [.int .i64 (ckT (slotOf rb each i) : Int), .slice ad31 (ckN (slotOf rb each i)) c32] ++ []) _ from hv.get 0 rfl) rfl)) (wn rfl) rfl)
            · obtain ⟨hvals, hv⟩ := hJ.at0 hl
              exact add_step' rfl (Ex.adds' (ex_load rfl (show aa.eval (.tmp 16) = _ from hR.keep 16 rfl) (run_load_mid (pre := []) (mid := [.int .i64 (ckT (slotOf rb each i) : Int), .slice ad31 (ckN (slotOf rb each i)) c32]) (post := []) s5wd55 (show Blk _ b37 ([] ++ [.int .i64 (ckT (slotOf rb each i) : Int), .slice ad31 (ckN (slotOf rb each i)) c32] ++ []) _ from hv.get 0 rfl) rfl)) (wn rfl) rfl)
          · intro aa ww vals hJ hR
            exact add_step' rfl (Ex.adds' (ex_nil rfl (show aa.eval (.tmp 76) = _ from hR.v 0 76 rfl rfl rfl rfl)) (wn rfl) rfl)
          · intro aa ww vals hJ hR
            exact add_step' rfl (Ex.adds' (ex_field rfl (show aa.eval (.tmp 79) = _ from hR.v 3 79 rfl rfl rfl rfl) (s5fa102_3 _ _ _)) (wn rfl) rfl)
          · intro aa ww vals hJ hR
            refine mem_step' rfl fun hvl => ?_
            have hl : vals.length = 0 := hvl
            obtain ⟨hvals, hv⟩ := hJ.at0 hl
            refine mem_storeAt 4 (v := .int .i64 (ckG (slotOf rb each i) : Int)) (L' := [.pointer (some ⟨p, 0, none⟩), .int .i64 (from_ : Int), .int .i64 (each : Int), .int .i64 (ckG (slotOf rb each i) : Int), .bool false]) (wn rfl) rfl (show aa.eval (.tmp 80) = _ from hR.v 4 80 rfl rfl rfl rfl) (show aa.eval (.tmp 77) = _ from hR.v 1 77 rfl rfl rfl rfl) hv rfl s5sz3 (by simp) rfl rfl rfl (fun w42 hv => ?_)
            exact JS.next hl ⟨by rw [hvals]; rfl, hv⟩
          · intro aa ww vals hJ hR
            refine mem_step' rfl fun hvl => ?_
            have hl : vals.length = 1 := hvl
            obtain ⟨hvals, hv⟩ := hJ.at0 hl
            refine mem_storeNAt 3 (new := [.int .i64 (ckT (slotOf rb each i) : Int), .slice ad31 (ckN (slotOf rb each i)) c32]) (pre := []) (mid := [.int .i64 (cT cur : Int), .slice ad ((cB cur).length) c]) (post := []) (L' := [.int .i64 (ckT (slotOf rb each i) : Int), .slice ad31 (ckN (slotOf rb each i)) c32]) (wn rfl) rfl (show aa.eval (.tmp 13) = _ from hR.keep 13 rfl) (show aa.eval (.tmp 78) = _ from hR.v 2 78 rfl rfl rfl rfl) hv rfl s5sz55 rfl rfl rfl (one_cons rfl (one_cons rfl one_nil)) rfl (fun w43 hv => ?_)
            exact JS.next hl ⟨by rw [hvals]; rfl, hv⟩
          rintro w44 vals ⟨rfl, hv⟩
          rw [show mixV [5, 6] [undef, undef] 0 [.pointer (some ⟨b15, 0, none⟩), .int .i64 (ckG (slotOf rb each i) : Int), .agg #[.int .i64 (ckT (slotOf rb each i) : Int), .slice ad31 (ckN (slotOf rb each i)) c32], .pointer (some ⟨b15, 0, none⟩), .pointer (some ⟨b15, 3, none⟩), undef, undef] = [.pointer (some ⟨b15, 0, none⟩), .int .i64 (ckG (slotOf rb each i) : Int), .agg #[.int .i64 (ckT (slotOf rb each i) : Int), .slice ad31 (ckN (slotOf rb each i)) c32], .pointer (some ⟨b15, 0, none⟩), .pointer (some ⟨b15, 3, none⟩), undef, undef] from rfl]
          simp only [putAll, Act.put, List.setIfInBounds_toArray, List.set_cons_succ, List.set_cons_zero]
          refine blk_normal ?_
          refine then_normal (hK26 _ _ ?_)
          clear hK26 K26
          refine wpIn_region_lit ?_
          refine wpi_exG (v := .int .i64 ((i : Int) + 1)) (fun _ => trivial) (wn rfl) rfl (ex_add (m := (i : Int)) (n := 1) rfl rfl rfl (i64_in (by omega))) ?_
          refine wpi_exG (v := .int .i64 ((i : Int) + 1)) (fun _ => trivial) (wn rfl) rfl (ex_move rfl rfl) ?_
          refine wpListIn_nil ?_
          simp only [Act.put, List.setIfInBounds_toArray, List.set_cons_succ, List.set_cons_zero]
          refine then_normal ?_
          go_roundw
          case rel => have hbl := ckB_len hyes; exact ⟨i + 1, some (slotOf rb each i), _, _, by simp, by omega, .yes hcur hyes (by omega), by simp only [cB, cT, cG, hbl]; exact (((((((hv.front 7 rfl).front 7 rfl).front 7 rfl).front 7 rfl).front 7 rfl).front 6 rfl).sub (List.Sublist.cons_cons _ (List.Sublist.cons_cons _ (List.Sublist.cons_cons _ (List.Sublist.cons_cons _ (List.Sublist.cons_cons _ (List.Sublist.cons_cons _ (List.Sublist.cons _ (List.Sublist.cons _ (List.Sublist.refl _))))))))))⟩
          case measure => show 2 - ((i : Int) + 1).toNat < 2 - (i : Int).toNat; omega
        · refine wpi_exG (v := .bool false) (fun _ => trivial) (wanted_of (j := 1) (d := 68) (b := true) rfl rfl rfl) rfl (ex_gtr (k := .i64) (m := (ckG (slotOf rb each i) : Int)) (n := (cG cur : Int)) rfl rfl rfl (decide_eq_false hb41)) ?_
          refine wpi_exG (v := .bool false) (fun _ => trivial) (wn rfl) rfl (ex_pick (b := true) rfl rfl rfl) ?_
          refine wpListIn_nil ?_
          simp only [Act.put, List.setIfInBounds_toArray, List.set_cons_succ, List.set_cons_zero]
          refine then_normal (hK40 _ _ ?_)
          clear hK40 K40
          refine wpIn_cond_false rfl ?_
          refine wpIn_skip ?_
          refine blk_normal ?_
          refine then_normal (hK26 _ _ ?_)
          clear hK26 K26
          refine wpIn_region_lit ?_
          refine wpi_exG (v := .int .i64 ((i : Int) + 1)) (fun _ => trivial) (wn rfl) rfl (ex_add (m := (i : Int)) (n := 1) rfl rfl rfl (i64_in (by omega))) ?_
          refine wpi_exG (v := .int .i64 ((i : Int) + 1)) (fun _ => trivial) (wn rfl) rfl (ex_move rfl rfl) ?_
          refine wpListIn_nil ?_
          simp only [Act.put, List.setIfInBounds_toArray, List.set_cons_succ, List.set_cons_zero]
          refine then_normal ?_
          go_roundw
          case rel => exact ⟨i + 1, cur, _, _, by simp, by omega, .no hcur (by omega), (((((((hv.front 7 rfl).front 7 rfl).front 7 rfl).front 7 rfl).front 7 rfl).front 7 rfl).sub (List.Sublist.cons_cons _ (List.Sublist.cons_cons _ (List.Sublist.cons_cons _ (List.Sublist.cons_cons _ (List.Sublist.cons_cons _ (List.Sublist.cons_cons _ (List.Sublist.cons _ (List.Sublist.cons _ (List.Sublist.refl _))))))))))⟩
          case measure => show 2 - ((i : Int) + 1).toNat < 2 - (i : Int).toNat; omega
    · refine wpi_exG (v := .bool false) (fun _ => trivial) (wn rfl) rfl (ex_lss (k := .i64) (m := (i : Int)) (n := 2) rfl rfl rfl (decide_eq_false hb24)) ?_
      refine wpListIn_nil ?_
      simp only [Act.put, List.setIfInBounds_toArray, List.set_cons_succ, List.set_cons_zero]
      refine then_normal (hK23 _ _ ?_)
      clear hK23 K23
      refine wpIn_seq_k (fun K45 hK45 => ?_)
      refine wpIn_cond_false rfl ?_
      refine wpIn_exit ?_
      refine then_exit ?_
      clear hK45 K45
      refine then_exit ?_
      refine blk_hit ?_
      refine then_normal (hK20 _ _ ?_)
      clear hK20 K20
      refine wpIn_seq_k (fun K46 hK46 => ?_)
      refine region_st mixed [.pointer (some ⟨b15, 0, none⟩), .agg #[.int .i64 (cT cur : Int), .slice ad ((cB cur).length) c], .pointer (some ⟨b15, 0, none⟩), .pointer (some ⟨b15, 0, none⟩), .pointer (some ⟨b15, 3, none⟩), .int .i64 (cG cur : Int), .bool (decide ((cG cur : Int) > 0)), .pointer (some ⟨b15, 0, none⟩), undef, .bool (decide ((cG cur : Int) > 0)), .int .i64 0] [8] [⟨fun vals w => vals = [] ∧ Inv B (Res.row 5 1 (.slice ad ((cB cur).length) c) ((cB cur).length) ((cB cur).map B8) :: Res.cell b18 [.int .i64 (cT cur : Int), .slice ad ((cB cur).length) c] 55 :: Res.cell b15 [.pointer (some ⟨p, 0, none⟩), .int .i64 (from_ : Int), .int .i64 (each : Int), .int .i64 (cG cur : Int), .bool false] 102 :: Res.cell b10 (rb.map B8) 5 :: diskR p E F9 :: Res.cell b2 [.int .i64 0, .slice none 0 0] 55 :: H) w, fun _ _ _ ⟨h, hi⟩ he => ⟨h, hi.ext he⟩⟩, ⟨fun vals w => vals = [undef] ∧ Inv B (Res.row 5 1 (.slice ad ((cB cur).length) c) ((cB cur).length) ((cB cur).map B8) :: Res.cell b18 [.int .i64 (cT cur : Int), .slice ad ((cB cur).length) c] 55 :: Res.cell b15 [.pointer (some ⟨p, 0, none⟩), .int .i64 (from_ : Int), .int .i64 (each : Int), .int .i64 (cG cur : Int), .bool false] 102 :: Res.cell b10 (rb.map B8) 5 :: diskR p E F9 :: Res.cell b2 [.int .i64 (cT cur : Int), .slice ad ((cB cur).length) c] 55 :: H) w, fun _ _ _ ⟨h, hi⟩ he => ⟨h, hi.ext he⟩⟩] 89 rfl (by kernel_rfl) ⟨rfl, hv⟩ ⟨?_, ?_, ?_, ?_, ?_, ?_, ?_, ?_, ?_, ?_, ?_, trivial⟩ ?_
      · intro aa ww vals hJ hR
        exact add_step' rfl (Ex.adds' (ex_move rfl (show aa.eval (.tmp 12) = _ from hR.keep 12 rfl)) (wn rfl) rfl)
      · intro aa ww vals hJ hR
        have h2 : vals.length ≤ 0 := hR.hi 8 (by simp) rfl
        have hl : vals.length = 0 := by omega
        obtain ⟨hvals, hv⟩ := hJ.at0 hl
        exact add_step' rfl (Ex.adds' (ex_load rfl (show aa.eval (.tmp 13) = _ from hR.keep 13 rfl) (run_load_mid (pre := []) (mid := [.int .i64 (cT cur : Int), .slice ad ((cB cur).length) c]) (post := []) s5wd55 (show Blk _ b18 ([] ++ [.int .i64 (cT cur : Int), .slice ad ((cB cur).length) c] ++ []) _ from hv.get 1 rfl) rfl)) (wn rfl) rfl)
      · intro aa ww vals hJ hR
        exact add_step' rfl (Ex.adds' (ex_move rfl (show aa.eval (.tmp 12) = _ from hR.keep 12 rfl)) (wn rfl) rfl)
      · intro aa ww vals hJ hR
        exact add_step' rfl (Ex.adds' (ex_nil rfl (show aa.eval (.tmp 84) = _ from hR.v 2 84 rfl rfl rfl rfl)) (wn rfl) rfl)
      · intro aa ww vals hJ hR
        exact add_step' rfl (Ex.adds' (ex_field rfl (show aa.eval (.tmp 85) = _ from hR.v 3 85 rfl rfl rfl rfl) (s5fa102_3 _ _ _)) (wn rfl) rfl)
      · intro aa ww vals hJ hR
        have h2 : vals.length ≤ 1 := JS.le (by rfl) hJ
        rcases (show vals.length = 0 ∨ vals.length = 1 by omega) with hl | hl
        · obtain ⟨hvals, hv⟩ := hJ.at0 hl
          exact add_step' rfl (Ex.adds' (ex_load rfl (show aa.eval (.tmp 86) = _ from hR.v 4 86 rfl rfl rfl rfl) (run_load1 s5na3 (hv.load 2 3 rfl rfl))) (wn rfl) rfl)
        · obtain ⟨hvals, hv⟩ := hJ.at0 hl
          exact add_step' rfl (Ex.adds' (ex_load rfl (show aa.eval (.tmp 86) = _ from hR.v 4 86 rfl rfl rfl rfl) (run_load1 s5na3 (hv.load 2 3 rfl rfl))) (wn rfl) rfl)
      · intro aa ww vals hJ hR
        exact add_step' rfl (Ex.adds' (ex_gtr (k := .i64) (m := (cG cur : Int)) (n := 0) rfl (show aa.eval (.tmp 87) = _ from hR.v 5 87 rfl rfl rfl rfl) rfl rfl) (wn rfl) rfl)
      · intro aa ww vals hJ hR
        exact add_step' rfl (Ex.adds' (ex_assign rfl (show aa.eval (.tmp 82) = _ from hR.v 0 82 rfl rfl rfl rfl)) (wn rfl) rfl)
      · intro aa ww vals hJ hR
        refine mem_step' rfl fun hvl => ?_
        have hl : vals.length = 0 := hvl
        obtain ⟨hvals, hv⟩ := hJ.at0 hl
        refine mem_storeNAt 5 (new := [.int .i64 (cT cur : Int), .slice ad ((cB cur).length) c]) (pre := []) (mid := [.int .i64 0, .slice none 0 0]) (post := []) (L' := [.int .i64 (cT cur : Int), .slice ad ((cB cur).length) c]) (wn rfl) rfl (show aa.eval (.tmp 7) = _ from hR.keep 7 rfl) (show aa.eval (.tmp 83) = _ from hR.v 1 83 rfl rfl rfl rfl) hv rfl s5sz55 rfl rfl rfl (one_cons rfl (one_cons rfl one_nil)) rfl (fun w47 hv => ?_)
        exact JS.next hl ⟨by rw [hvals]; rfl, hv⟩
      · intro aa ww vals hJ hR
        exact add_step' rfl (Ex.adds' (ex_assign rfl (show aa.eval (.tmp 88) = _ from hR.v 6 88 rfl rfl rfl rfl)) (wn rfl) rfl)
      · intro aa ww vals hJ hR
        exact add_step' rfl (Ex.adds' (ex_assign rfl rfl) (wn rfl) rfl)
      rintro w48 vals ⟨rfl, hv⟩
      rw [show mixV [8] [undef] 0 [.pointer (some ⟨b15, 0, none⟩), .agg #[.int .i64 (cT cur : Int), .slice ad ((cB cur).length) c], .pointer (some ⟨b15, 0, none⟩), .pointer (some ⟨b15, 0, none⟩), .pointer (some ⟨b15, 3, none⟩), .int .i64 (cG cur : Int), .bool (decide ((cG cur : Int) > 0)), .pointer (some ⟨b15, 0, none⟩), undef, .bool (decide ((cG cur : Int) > 0)), .int .i64 0] = [.pointer (some ⟨b15, 0, none⟩), .agg #[.int .i64 (cT cur : Int), .slice ad ((cB cur).length) c], .pointer (some ⟨b15, 0, none⟩), .pointer (some ⟨b15, 0, none⟩), .pointer (some ⟨b15, 3, none⟩), .int .i64 (cG cur : Int), .bool (decide ((cG cur : Int) > 0)), .pointer (some ⟨b15, 0, none⟩), undef, .bool (decide ((cG cur : Int) > 0)), .int .i64 0] from rfl]
      simp only [putAll, Act.put, List.setIfInBounds_toArray, List.set_cons_succ, List.set_cons_zero]
      refine then_normal (hK46 _ _ ?_)
      clear hK46 K46
      refine wpIn_ret ?_
      refine bodyPost_ret (res_tcell4 rfl rfl (run_load_mid (pre := []) (mid := [.int .i64 (cT cur : Int), .slice ad ((cB cur).length) c]) (post := []) s5wd55 (show Blk _ b2 ([] ++ [.int .i64 (cT cur : Int), .slice ad ((cB cur).length) c] ++ []) _ from hv.get 5 rfl) rfl)) rfl ?_
      obtain rfl : i = 2 := by omega
      rw [hrb] at hcur
      exact ⟨_, _, _, _, _, hcur, rfl, ((((hv.front 4 rfl).front 1 rfl).front 3 rfl).sub (List.Sublist.cons_cons _ (List.Sublist.cons_cons _ (List.Sublist.cons_cons _ (List.Sublist.cons _ (List.Sublist.cons _ (List.Sublist.cons _ (List.Sublist.refl _))))))))⟩
end Go.Proofs.Ytkannfkjnohdlaa
/- Bytes out of a text; rows that stay for good. -/
namespace Go.Pm
open Go.RowKit
theorem freeze_heap {w : World} {b : Nat} {L : List Value} {t : TypeId} (hb : Blk w b L t) : (w.freeze ⟨b, L.length, none⟩ 1).heap[b]? = some (.cells L.toArray t (L.length, L.length + 1)) := by
  unfold World.freeze
  rw [if_neg (by decide)]
  show (w.heap.modify b _)[b]? = _
  rw [Array.getElem?_modify, if_pos rfl, show w.heap[b]? = _ from hb]
  simp
theorem freeze_other {w : World} {a : Addr} {n k : Nat} (hk : k ≠ a.block) : (w.freeze a n).heap[k]? = w.heap[k]? := by
  unfold World.freeze
  split
  · rfl
  · show (w.heap.modify a.block _)[k]? = _
    rw [Array.getElem?_modify, if_neg (fun e => hk e.symm)]
section
variable {F : Fence} {n : Nat} {P : Program} {ops : Array Oper} {Q : Exit → Act → World → Prop} {a : Act} {w : World} {rest : List Oper} {o : Oper} {B : Base} {H : List Res} {t e u : TypeId} {x : Operand}
/-- []byte of a constant text: its row stays for good -/
theorem sl_mark {b m c : Nat} {L : List Value} (hF : ∀ f, F.fn f) (hg : Region.wanted o (yielded ops a.tmps) = true) (ho : o.op = .convert t t x) (hx : a.eval x = .slice (some ⟨b, 0, none⟩) m c) (ht : P.underlying t = some (.slice e)) (he : P.underlying e = some (.int .u8)) (hv : Inv B (Res.cell b L u :: H) w)
    (h : ∀ B' w', B.Le B' → Inv B' H w' → RdV B' [] (some ⟨b, 0, none⟩) L → wpListIn F n P ops Q rest (a.put o.dst (.slice (some ⟨b, 0, none⟩) m c)) w') : wpListIn F n P ops Q (o :: rest) a w := by
  have hb : Blk w b L u := hv.head
  have hsh : w.shape? b = some (u, L.length) := by unfold World.shape?; rw [show w.heap[b]? = _ from hb]; simp
  have hrun : (convert t t (.slice (some ⟨b, 0, none⟩) m c)).run P w = .ok (.slice (some ⟨b, 0, none⟩) m c) (w.freeze ⟨b, L.length, none⟩ 1) := by
    simp [convert, run_underlying ht, run_underlying he, markStringish, hsh, Result.andThen]
  have hout : B.I b = none := hv.out _ (List.mem_cons_self) b (by simp)
  have hd := hv.dis
  rw [List.flatMap_cons, List.nodup_append] at hd
  have hsz : (w.freeze ⟨b, L.length, none⟩ 1).heap.size = w.heap.size := by unfold World.freeze; split <;> simp
  have hi : Inv (B.add b (.cells L.toArray u (L.length, L.length + 1))) H (w.freeze ⟨b, L.length, none⟩ 1) := by
    refine ⟨⟨fun k o ek => ?_, by rw [hsz]; exact hv.base.lo, ?_, ?_, ?_⟩, fun r hr' => r.stab w _ (fun k hk => freeze_other (fun ek => ?_)) (hv.drop.own r hr'), fun r hr' k hk => by rw [hsz]; exact hv.drop.lt r hr' k hk, hv.drop.dis, fun r hr' k hk => ?_⟩
    · replace ek : (if k = b then some (Obj.cells L.toArray u (L.length, L.length + 1)) else B.I k) = some o := ek
      split at ek
      · rename_i hkb; subst hkb; rw [← ek]; exact freeze_heap hb
      · rename_i hkb; rw [freeze_other hkb]; exact hv.base.blk k o ek
    · rw [show (w.freeze ⟨b, L.length, none⟩ 1).os = w.os by unfold World.freeze; split <;> rfl]; exact hv.base.os
    · rw [show (w.freeze ⟨b, L.length, none⟩ 1).tape = w.tape by unfold World.freeze; split <;> rfl]; exact hv.base.tape
    · rw [show (w.freeze ⟨b, L.length, none⟩ 1).output = w.output by unfold World.freeze; split <;> rfl]; exact hv.base.output
    · replace ek : k = b := ek
      subst ek
      exact hd.2.2 k (by simp) k (List.mem_flatMap.2 ⟨r, hr', hk⟩) rfl
    · show (if k = b then _ else B.I k) = none
      rw [if_neg (fun ek => by subst ek; exact hd.2.2 k (by simp) k (List.mem_flatMap.2 ⟨r, hr', hk⟩) rfl)]
      exact hv.drop.out r hr' k hk
  refine wpi_exG hF hg (by unfold isDefer; rw [ho]) (by unfold Ex; simp [execOp, ho, hx, hrun] : Ex P a o w (.slice (some ⟨b, 0, none⟩) m c) (w.freeze ⟨b, L.length, none⟩ 1)) (h _ _ (Base.add_le hout) hi (fun i hi => ⟨b, 0, rfl, .inl ⟨_, _, _, Base.add_self, ?_⟩⟩))
  simp [hi]
end
/-- a row that stays for good -/
theorem Inv.rowStays {B : Base} {e : TypeId} {ad : Option Addr} {n c : Nat} {xs : List Value} {H : List Res} {w : World} (hv : Inv B (Res.row e 1 (.slice ad n c) n xs :: H) w) : ∃ C : Base, B.Le C ∧ Inv C H w ∧ RdV C [] ad xs ∧ SliceOk ad n c := by
  have hr : w.ownsRow 0 e 1 (.slice ad n c) n xs := hv.head
  rcases hr.2 with ⟨h1, h2⟩ | ⟨g, cap, cur, h1, hb, hg, hnc, hcm, hcs, htake⟩
  · simp only [Value.slice.injEq] at h1
    obtain ⟨rfl, rfl, rfl⟩ := h1
    have hx : xs = [] := List.eq_nil_of_length_eq_zero (by have := hr.1; omega)
    subst hx
    exact ⟨B, Base.Le.refl B, hv.drop, rdV_nil, ⟨by omega, by simp, fun _ => rfl⟩⟩
  · simp only [Value.slice.injEq] at h1
    obtain ⟨rfl, -, rfl⟩ := h1
    have hout : B.I g = none := hv.out _ (List.mem_cons_self) g (by simp [Value.ownBlock])
    have hc : Inv B (Res.cell g cur.toList e :: H) w := hv.as (Res.cell g cur.toList e) (by simpa using hg) (by simp [Value.ownBlock])
    have hf := hc.freeze
    simp only [Array.toArray_toList] at hf
    refine ⟨_, Base.add_le hout, hf, fun i hi => ⟨g, 0, rfl, .inl ⟨_, _, _, Base.add_self, ?_⟩⟩, ⟨hnc, hcm, fun h => by cases h⟩⟩
    have h2 : (cur.toList.take (n * 1))[i]? = xs[i]? := by rw [htake]
    have hin : i < n * 1 := by have := hr.1; omega
    rw [List.getElem?_take_of_lt hin, List.getElem?_eq_getElem hi] at h2
    rw [Nat.zero_add, ← Array.getElem?_toList]
    exact h2
end Go.Pm
/- same and awake, of the slots' laws -/
namespace Go.Proofs.Ytkannfkjnohdlaa
open Go.RowKit Go.Pm
def ckOkb (s : List UInt8) (i : Nat) : Bool :=
  s[0]? == some 83 && (List.range 39).all (fun j => s[25 + j]? == some 0) && decide (1 ≤ ckG s) && decide (ckG s < 9223372036854775808) && decide (ckG s % 2 = i) && decide (ckT s ≤ 1152921504606846975) && decide (ckN s ≤ 1048576) && decide (ckN s + 64 ≤ s.length) && decide (Crc.sum (ckB s) = numOf (piece s 21 4))
theorem ckOkb_iff (s : List UInt8) (i : Nat) : ckOkb s i = true ↔ CkOk s i := by
  unfold ckOkb
  simp only [Bool.and_eq_true, beq_iff_eq, List.all_eq_true, List.mem_range, decide_eq_true_eq]
  constructor
  · rintro ⟨⟨⟨⟨⟨⟨⟨⟨h1, h2⟩, h3⟩, h4⟩, h5⟩, h6⟩, h7⟩, h8⟩, h9⟩
    exact ⟨h1, h2, h3, h4, h5, h6, h7, h8, h9⟩
  · rintro ⟨h1, h2, h3, h4, h5, h6, h7, h8, h9⟩
    exact ⟨⟨⟨⟨⟨⟨⟨⟨h1, h2⟩, h3⟩, h4⟩, h5⟩, h6⟩, h7⟩, h8⟩, h9⟩
def curF (rb : List UInt8) (each : Nat) : Nat → Option (List UInt8)
  | 0 => none
  | i + 1 => if ckOkb (slotOf rb each i) i = true ∧ ckG (slotOf rb each i) > cG (curF rb each i) then some (slotOf rb each i) else curF rb each i
theorem curI_eq {rb : List UInt8} {each i : Nat} {c : Option (List UInt8)} (h : CurI rb each i c) : c = curF rb each i := by
  induction h with
  | zero => rfl
  | @no i c h hn ih =>
    rw [ih] at hn
    unfold curF
    rw [if_neg (fun hh => hn ⟨(ckOkb_iff _ _).1 hh.1, hh.2⟩), ih]
  | @yes i c h h1 h2 ih =>
    rw [ih] at h2
    unfold curF
    rw [if_pos ⟨(ckOkb_iff _ _).2 h1, h2⟩]
def AD1 : Disk := (saveOf (Disk.zero 8) 0 4 0 false 5 [97]).disk
def AD2 : Disk := (saveOf AD1 0 4 1 false 6 [98]).disk
def AD3 : Disk := AD2.crash []
def ARB : List UInt8 := (AD3.view AD3.pend 0 8).flatten
theorem aw8_0 : curF ((Disk.zero 8).view (Disk.zero 8).pend 0 (2 * 4)).flatten 4 2 = none := by kernel_rfl
theorem aw8_s1 : saveOf (Disk.zero 8) 0 4 0 false 5 [97] = ⟨0, 1, false, AD1⟩ := by kernel_rfl
theorem aw8_s2 : saveOf AD1 0 4 1 false 6 [98] = ⟨0, 2, false, AD2⟩ := by kernel_rfl
theorem aw8_l0 : (Disk.zero 8).dur.length = 8 := by kernel_rfl
theorem aw8_left : AD3.left = -1 := rfl
theorem aw8_l1 : AD1.dur.length = 8 := by kernel_rfl
theorem aw8_l3 : AD3.dur.length = 8 := by kernel_rfl
theorem aw8_p1 : AD1.pend = [] := by kernel_rfl
theorem aw8_p2 : AD2.pend = [] := by kernel_rfl
theorem aw8_c : (curF (AD3.view AD3.pend 0 (2 * 4)).flatten 4 2).map (fun s => (ckG s, ckT s, ckB s)) = some (2, 6, [98]) := by kernel_rfl
theorem aw8_cur {c : Option (List UInt8)} (h : c = curF (AD3.view AD3.pend 0 (2 * 4)).flatten 4 2) : cG c = 2 ∧ cT c = 6 ∧ cB c = [98] := by
  have e := aw8_c
  rw [← h] at e
  cases c with
  | none => simp at e
  | some s =>
    simp only [Option.map_some, Option.some.injEq, Prod.mk.injEq] at e
    exact ⟨e.1, e.2.1, e.2.2⟩

theorem rdBytes {B : Base} {H : List Res} {a : Option Addr} {l : List UInt8} {w : World} (hr : RdV B H a (l.map B8)) (hv : Inv B H w) : Bytes w (fun _ => True) a l := fun i hi => by
  obtain ⟨b, off, h1, h2⟩ := hr.cellAt hv i (by simpa using hi)
  exact ⟨b, off, h1, trivial, by simpa using h2⟩
theorem _root_.Go.Pm.RdV.any' {B : Base} {H : List Res} {a : Option Addr} {xs : List Value} (h : RdV B [] a xs) : RdV B H a xs := h.more (Base.Le.refl B) (fun r hr => by simp at hr)

theorem l8fa55_0 (w : World) (b o : Nat) : (Instr.fieldAt 55 (.pointer (some ⟨b, o, none⟩)) 0).run Try.prog w = .ok (.pointer (some ⟨b, o + 0, none⟩)) w := by kernel_rfl
theorem l8na3 (w : World) : (isAgg 3).run Try.prog w = .ok false w := by kernel_rfl
theorem l8fa55_1 (w : World) (b o : Nat) : (Instr.fieldAt 55 (.pointer (some ⟨b, o, none⟩)) 1).run Try.prog w = .ok (.pointer (some ⟨b, o + 1, none⟩)) w := by kernel_rfl
theorem l8na24 (w : World) : (isAgg 24).run Try.prog w = .ok false w := by kernel_rfl
set_option maxRecDepth 100000 in
set_option maxHeartbeats 2000000 in
theorem lawSame08 (B : Base) (H : List Res) (w : World) (s1 s2 : Int) (a1 a2 : Option Addr) (n1 n2 c1 c2 : Nat) (l1 l2 : List UInt8) (hn1 : l1.length = n1) (hn2 : l2.length = n2) (hr1 : RdV B [] a1 (l1.map B8)) (hr2 : RdV B [] a2 (l2.map B8)) (hv : Inv B H w) :
    Calls Try.prog 32 #[.agg #[.int .i64 s1, .slice a1 n1 c1], .agg #[.int .i64 s2, .slice a2 n2 c2]] w fun e w' => e = .returned (.bool (decide (s1 = s2) && decide (l1 = l2))) ∧ Inv B H w' := by
  refine (callsIn_wide (n := 5)).1 ?_
  refine callsIn_of_wp Try.func32 rfl trivial ?_
  simp only [Try.ntmps32, List.size_toArray, List.length_cons, List.length_nil, Nat.reduceAdd, Nat.reduceSub, Array.replicate_succ, Array.replicate_zero, List.push_toArray, List.append_toArray, List.nil_append, List.cons_append]
  refine wpIn_seq_k (fun K1 hK1 => ?_)
  refine wpIn_region_lit ?_
  refine sl_box (L := [.int .i64 s1, .slice a1 n1 c1]) (fun _ => trivial) (wn rfl) rfl (p := .agg #[.int .i64 s1, .slice a1 n1 c1]) rfl hv (fun w => by kernel_rfl) (fun b2 w3 hv => ?_)
  refine sl_box (L := [.int .i64 s2, .slice a2 n2 c2]) (fun _ => trivial) (wn rfl) rfl (p := .agg #[.int .i64 s2, .slice a2 n2 c2]) rfl hv (fun w => by kernel_rfl) (fun b4 w5 hv => ?_)
  refine wpi_exG (v := .bool false) (fun _ => trivial) (wn rfl) rfl (ex_assign rfl rfl) ?_
  refine wpListIn_nil ?_
  simp only [Act.put, List.setIfInBounds_toArray, List.set_cons_succ, List.set_cons_zero]
  refine then_normal (hK1 _ _ ?_)
  clear hK1 K1
  refine wpIn_seq_k (fun K6 hK6 => ?_)
  refine wpIn_region_lit ?_
  refine wpi_exG (v := .pointer (some ⟨b2, 0, none⟩)) (fun _ => trivial) (wn rfl) rfl (ex_field rfl rfl (l8fa55_0 _ _ _)) ?_
  refine wpi_exG (v := .int .i64 s1) (fun _ => trivial) (wn rfl) rfl (ex_load rfl rfl (run_load1 l8na3 (hv.load 1 0 rfl rfl))) ?_
  refine wpi_exG (v := .pointer (some ⟨b4, 0, none⟩)) (fun _ => trivial) (wn rfl) rfl (ex_field rfl rfl (l8fa55_0 _ _ _)) ?_
  simp only [Act.put, List.setIfInBounds_toArray, List.set_cons_succ, List.set_cons_zero]
  refine wpi_exG (v := .int .i64 s2) (fun _ => trivial) (wn rfl) rfl (ex_load rfl rfl (run_load1 l8na3 (hv.load 0 0 rfl rfl))) ?_
  by_cases hb7 : s1 = s2
  · refine wpi_exG (v := .bool true) (fun _ => trivial) (wn rfl) rfl (ex_eql (k := .i64) (m := s1) (n := s2) rfl rfl rfl (decide_eq_true hb7)) ?_
    refine wpi_exG (v := .bool true) (fun _ => trivial) (wn rfl) rfl (ex_move rfl rfl) ?_
    simp only [Act.put, List.setIfInBounds_toArray, List.set_cons_succ, List.set_cons_zero]
    refine wpi_exG (v := .pointer (some ⟨b2, 1, none⟩)) (fun _ => trivial) (wanted_of (j := 5) (d := 10) (b := true) rfl rfl rfl) rfl (ex_field rfl rfl (l8fa55_1 _ _ _)) ?_
    refine wpi_exG (v := .slice a1 n1 c1) (fun _ => trivial) (wanted_of (j := 5) (d := 10) (b := true) rfl rfl rfl) rfl (ex_load rfl rfl (run_load1 l8na24 (hv.load 1 1 rfl rfl))) ?_
    refine wpi_exG (v := .string ⟨l1.toArray⟩) (fun _ => trivial) (wanted_of (j := 5) (d := 10) (b := true) rfl rfl rfl) rfl (ex_str Try.underlying24 Try.underlying5 Try.underlying9 rfl rfl (rdBytes hr1.any' hv) (hn1)) ?_
    simp only [Act.put, List.setIfInBounds_toArray, List.set_cons_succ, List.set_cons_zero]
    refine wpi_exG (v := .pointer (some ⟨b4, 1, none⟩)) (fun _ => trivial) (wanted_of (j := 5) (d := 10) (b := true) rfl rfl rfl) rfl (ex_field rfl rfl (l8fa55_1 _ _ _)) ?_
    refine wpi_exG (v := .slice a2 n2 c2) (fun _ => trivial) (wanted_of (j := 5) (d := 10) (b := true) rfl rfl rfl) rfl (ex_load rfl rfl (run_load1 l8na24 (hv.load 0 1 rfl rfl))) ?_
    refine wpi_exG (v := .string ⟨l2.toArray⟩) (fun _ => trivial) (wanted_of (j := 5) (d := 10) (b := true) rfl rfl rfl) rfl (ex_str Try.underlying24 Try.underlying5 Try.underlying9 rfl rfl (rdBytes hr2.any' hv) (hn2)) ?_
    simp only [Act.put, List.setIfInBounds_toArray, List.set_cons_succ, List.set_cons_zero]
    refine wpi_exG (v := .bool (decide (l1 = l2))) (fun _ => trivial) (wanted_of (j := 5) (d := 10) (b := true) rfl rfl rfl) rfl (ex_seql (s := l1) (s' := l2) rfl rfl rfl rfl) ?_
    refine wpi_exG (v := .bool (decide (l1 = l2))) (fun _ => trivial) (wn rfl) rfl (ex_pick (b := true) rfl rfl rfl) ?_
    refine wpi_exG (v := .bool (decide (l1 = l2))) (fun _ => trivial) (wn rfl) rfl (ex_assign rfl rfl) ?_
    refine wpListIn_nil ?_
    simp only [Act.put, List.setIfInBounds_toArray, List.set_cons_succ, List.set_cons_zero]
    refine then_normal (hK6 _ _ ?_)
    clear hK6 K6
    refine wpIn_ret ?_
    refine bodyPost_ret (results_tmp rfl _ _ _) rfl ?_
    exact ⟨by rw [decide_eq_true hb7]; simp, hv.tail 2⟩
  · refine wpi_exG (v := .bool false) (fun _ => trivial) (wn rfl) rfl (ex_eql (k := .i64) (m := s1) (n := s2) rfl rfl rfl (decide_eq_false hb7)) ?_
    refine wpi_exG (v := .bool false) (fun _ => trivial) (wn rfl) rfl (ex_move rfl rfl) ?_
    simp only [Act.put, List.setIfInBounds_toArray, List.set_cons_succ, List.set_cons_zero]
    refine wpi_not (fun _ => trivial) (wanted_not (j := 5) (d := 10) (b := true) (b' := false) rfl rfl rfl (by decide)) ?_
    refine wpi_not (fun _ => trivial) (wanted_not (j := 5) (d := 10) (b := true) (b' := false) rfl rfl rfl (by decide)) ?_
    refine wpi_not (fun _ => trivial) (wanted_not (j := 5) (d := 10) (b := true) (b' := false) rfl rfl rfl (by decide)) ?_
    simp only [Act.put, List.setIfInBounds_toArray, List.set_cons_succ, List.set_cons_zero]
    refine wpi_not (fun _ => trivial) (wanted_not (j := 5) (d := 10) (b := true) (b' := false) rfl rfl rfl (by decide)) ?_
    refine wpi_not (fun _ => trivial) (wanted_not (j := 5) (d := 10) (b := true) (b' := false) rfl rfl rfl (by decide)) ?_
    refine wpi_not (fun _ => trivial) (wanted_not (j := 5) (d := 10) (b := true) (b' := false) rfl rfl rfl (by decide)) ?_
    simp only [Act.put, List.setIfInBounds_toArray, List.set_cons_succ, List.set_cons_zero]
    refine wpi_not (fun _ => trivial) (wanted_not (j := 5) (d := 10) (b := true) (b' := false) rfl rfl rfl (by decide)) ?_
    refine wpi_exG (v := .bool false) (fun _ => trivial) (wn rfl) rfl (ex_pick (b := false) rfl rfl rfl) ?_
    refine wpi_exG (v := .bool false) (fun _ => trivial) (wn rfl) rfl (ex_assign rfl rfl) ?_
    refine wpListIn_nil ?_
    simp only [Act.put, List.setIfInBounds_toArray, List.set_cons_succ, List.set_cons_zero]
    refine then_normal (hK6 _ _ ?_)
    clear hK6 K6
    refine wpIn_ret ?_
    refine bodyPost_ret (results_tmp rfl _ _ _) rfl ?_
    exact ⟨by rw [decide_eq_false hb7]; simp, hv.tail 2⟩
theorem l8callable21 : Callable Try.prog 21 := ⟨_, Try.func21, by kernel_rfl, by kernel_rfl⟩
theorem l8callable30 : Callable Try.prog 30 := ⟨_, Try.func30, by kernel_rfl, by kernel_rfl⟩
theorem l8al55 (w : World) : (Instr.alloc 55 true (.tuple #[])).run Try.prog w = .ok (.pointer (some ⟨w.heap.size, 0, none⟩)) (w.alloc (.cells ([.int .i64 0, .slice none 0 0] : List Value).toArray 55)) := by kernel_rfl
theorem l8sz55 : (Try.prog.info? 55).map (·.size) = some 2 := by kernel_rfl
theorem l8mk5 : (Try.prog.info? 5).map (fun i => (i.zero, i.size, i.bytes)) = some (some (.int .u8 0), 1, 1) := by kernel_rfl
theorem l8el24 : Elem Try.prog 24 5 (.int .u8 0) 1 1 := elem_of Try.underlying24 l8mk5 (by rfl) (by decide)
theorem l8callable36 : Callable Try.prog 36 := ⟨_, Try.func36, by kernel_rfl, by kernel_rfl⟩
theorem l8callable33 : Callable Try.prog 33 := ⟨_, Try.func33, by kernel_rfl, by kernel_rfl⟩
theorem l8callable25 : Callable Try.prog 25 := ⟨_, Try.func25, by kernel_rfl, by kernel_rfl⟩
theorem l8wd55 : Wide Try.prog 55 2 := wide_of (fun w => by kernel_rfl) (by kernel_rfl)
theorem l8callable32 : Callable Try.prog 32 := ⟨_, Try.func32, by kernel_rfl, by kernel_rfl⟩
set_option maxRecDepth 100000 in
set_option maxHeartbeats 1000000 in
theorem lawAwake08 (B : Base) (H : List Res) (w : World) (hv : Inv B H w) :
    Calls Try.prog 27 #[] w fun e w' => e = .returned (.bool true) ∧ Inv B H w' := by
  refine (callsIn_wide (n := 5)).1 ?_
  refine callsIn_of_wp Try.func27 rfl trivial ?_
  simp only [Try.ntmps27, List.size_toArray, List.length_cons, List.length_nil, Nat.reduceAdd, Nat.reduceSub, Array.replicate_succ, Array.replicate_zero, List.push_toArray, List.append_toArray, List.nil_append, List.cons_append]
  refine wpIn_seq_k (fun K1 hK1 => ?_)
  refine wpIn_region_lit ?_
  refine wpi_exG (v := .bool false) (fun _ => trivial) (wn rfl) rfl (ex_assign rfl rfl) ?_
  refine wpListIn_nil ?_
  simp only [Act.put, List.setIfInBounds_toArray, List.set_cons_succ, List.set_cons_zero]
  refine then_normal (hK1 _ _ ?_)
  clear hK1 K1
  refine wpIn_seq_k (fun K2 hK2 => ?_)
  refine wpIn_region_lit ?_
  refine wpi_callG l8callable21 (fun _ => trivial) wideC rfl (wn rfl) rfl (args := #[.int .i64 8]) (by simp only [List.map_toArray, List.map_cons, List.map_nil]; rfl) ((diskNewSl _ _ _ 8 (by omega) (by omega) hv).mono ?_)
  rintro e w5 ⟨p3, F4, rfl, hv⟩
  refine ⟨_, rfl, ?_⟩
  refine wpi_exG (v := .tuple #[.pointer (some ⟨p3, 0, none⟩), .int .i64 0]) (fun _ => trivial) (wn rfl) rfl (ex_move rfl rfl) ?_
  refine wpi_exG (v := .pointer (some ⟨p3, 0, none⟩)) (fun _ => trivial) (wn rfl) rfl (ex_extract rfl rfl rfl) ?_
  simp only [Act.put, List.setIfInBounds_toArray, List.set_cons_succ, List.set_cons_zero]
  refine wpi_exG (v := .int .i64 0) (fun _ => trivial) (wn rfl) rfl (ex_extract rfl rfl rfl) ?_
  refine wpi_exG (v := .pointer (some ⟨p3, 0, none⟩)) (fun _ => trivial) (wn rfl) rfl (ex_assign rfl rfl) ?_
  refine wpi_exG (v := .int .i64 0) (fun _ => trivial) (wn rfl) rfl (ex_assign rfl rfl) ?_
  refine wpListIn_nil ?_
  simp only [Act.put, List.setIfInBounds_toArray, List.set_cons_succ, List.set_cons_zero]
  refine then_normal (hK2 _ _ ?_)
  clear hK2 K2
  refine wpIn_seq_k (fun K6 hK6 => ?_)
  refine wpIn_seq_k (fun K7 hK7 => ?_)
  refine wpIn_region_lit ?_
  refine wpi_exG (v := .pointer (some ⟨p3, 0, none⟩)) (fun _ => trivial) (wn rfl) rfl (ex_move rfl rfl) ?_
  refine wpi_exG (v := .bool false) (fun _ => trivial) (wn rfl) rfl (ex_pisnil Try.underlying36 rfl rfl rfl rfl) ?_
  refine wpListIn_nil ?_
  simp only [Act.put, List.setIfInBounds_toArray, List.set_cons_succ, List.set_cons_zero]
  refine then_normal (hK7 _ _ ?_)
  clear hK7 K7
  refine wpIn_cond_false rfl ?_
  refine wpIn_skip ?_
  refine then_normal (hK6 _ _ ?_)
  clear hK6 K6
  refine wpIn_seq_k (fun K8 hK8 => ?_)
  refine wpIn_region_lit ?_
  refine wpi_exG (v := .pointer (some ⟨p3, 0, none⟩)) (fun _ => trivial) (wn rfl) rfl (ex_move rfl rfl) ?_
  refine wpi_callG l8callable30 (fun _ => trivial) wideC rfl (wn rfl) rfl (args := #[.pointer (some ⟨p3, 0, none⟩), .int .i64 0, .int .i64 4]) (by simp only [List.map_toArray, List.map_cons, List.map_nil]; rfl) ((slotsOpen _ _ _ p3 0 4 (Disk.zero 8) (Disk.zero 8) _ rfl (by decide) (by kernel_rfl) (by decide) (by decide) (by decide) (by rw [aw8_l0]; decide) (by rw [aw8_l0]; decide) hv).mono ?_)
  rintro e w14 ⟨q9, cur10, ad11, c12, F13, hcur, rfl, hv⟩
  refine ⟨_, rfl, ?_⟩
  obtain rfl : cur10 = none := (curI_eq hcur).trans aw8_0
  refine wpi_exG (v := .tuple #[.pointer (some ⟨q9, 0, none⟩), .agg #[.int .i64 0, .slice ad11 0 c12], .bool false, .int .i64 0]) (fun _ => trivial) (wn rfl) rfl (ex_move rfl rfl) ?_
  simp only [Act.put, List.setIfInBounds_toArray, List.set_cons_succ, List.set_cons_zero]
  refine wpi_exG (v := .pointer (some ⟨q9, 0, none⟩)) (fun _ => trivial) (wn rfl) rfl (ex_extract rfl rfl rfl) ?_
  refine wpi_exG (v := .agg #[.int .i64 0, .slice ad11 0 c12]) (fun _ => trivial) (wn rfl) rfl (ex_extract rfl rfl rfl) ?_
  refine wpi_exG (v := .bool false) (fun _ => trivial) (wn rfl) rfl (ex_extract rfl rfl rfl) ?_
  simp only [Act.put, List.setIfInBounds_toArray, List.set_cons_succ, List.set_cons_zero]
  refine wpi_exG (v := .int .i64 0) (fun _ => trivial) (wn rfl) rfl (ex_extract rfl rfl rfl) ?_
  refine sl_alloc (fun _ => trivial) (wn rfl) rfl hv l8al55 (fun b15 w16 hv => ?_)
  refine wpi_exG (v := .pointer (some ⟨q9, 0, none⟩)) (fun _ => trivial) (wn rfl) rfl (ex_assign rfl rfl) ?_
  simp only [Act.put, List.setIfInBounds_toArray, List.set_cons_succ, List.set_cons_zero]
  refine sl_storeNAt 0 (new := [.int .i64 0, .slice ad11 0 c12]) (pre := []) (mid := [.int .i64 0, .slice none 0 0]) (post := []) (L' := [.int .i64 0, .slice ad11 0 c12]) (fun _ => trivial) (wn rfl) rfl rfl rfl hv rfl l8sz55 rfl rfl rfl (one_cons rfl (one_cons rfl one_nil)) rfl (fun w17 hv => ?_)
  simp only [List.set_cons_succ, List.set_cons_zero] at hv
  refine wpi_exG (v := .bool false) (fun _ => trivial) (wn rfl) rfl (ex_assign rfl rfl) ?_
  refine wpi_exG (v := .int .i64 0) (fun _ => trivial) (wn rfl) rfl (ex_assign rfl rfl) ?_
  refine wpListIn_nil ?_
  simp only [Act.put, List.setIfInBounds_toArray, List.set_cons_succ, List.set_cons_zero]
  refine then_normal (hK8 _ _ ?_)
  clear hK8 K8
  refine wpIn_seq_k (fun K18 hK18 => ?_)
  refine wpIn_seq_k (fun K19 hK19 => ?_)
  refine wpIn_region_lit ?_
  refine wpi_exG (v := .pointer (some ⟨q9, 0, none⟩)) (fun _ => trivial) (wn rfl) rfl (ex_move rfl rfl) ?_
  refine wpi_exG (v := .bool false) (fun _ => trivial) (wn rfl) rfl (ex_pisnil Try.underlying53 rfl rfl rfl rfl) ?_
  refine wpi_exG (v := .bool false) (fun _ => trivial) (wn rfl) rfl (ex_move rfl rfl) ?_
  simp only [Act.put, List.setIfInBounds_toArray, List.set_cons_succ, List.set_cons_zero]
  refine wpi_exG (v := .bool false) (fun _ => trivial) (wanted_of (j := 2) (d := 26) (b := false) rfl rfl rfl) rfl (ex_move rfl rfl) ?_
  refine wpi_exG (v := .bool false) (fun _ => trivial) (wn rfl) rfl (ex_pick (b := false) rfl rfl rfl) ?_
  refine wpi_exG (v := .bool false) (fun _ => trivial) (wn rfl) rfl (ex_move rfl rfl) ?_
  simp only [Act.put, List.setIfInBounds_toArray, List.set_cons_succ, List.set_cons_zero]
  refine wpi_exG (v := .int .i64 0) (fun _ => trivial) (wanted_of (j := 5) (d := 29) (b := false) rfl rfl rfl) rfl (ex_move rfl rfl) ?_
  refine wpi_exG (v := .bool false) (fun _ => trivial) (wanted_of (j := 5) (d := 29) (b := false) rfl rfl rfl) rfl (ex_neq (k := .i64) (m := 0) (n := 0) rfl rfl rfl (by decide)) ?_
  refine wpi_exG (v := .bool false) (fun _ => trivial) (wn rfl) rfl (ex_pick (b := false) rfl rfl rfl) ?_
  simp only [Act.put, List.setIfInBounds_toArray, List.set_cons_succ, List.set_cons_zero]
  refine wpi_exG (v := .bool false) (fun _ => trivial) (wn rfl) rfl (ex_move rfl rfl) ?_
  refine wpi_exG (v := .pointer (some ⟨q9, 0, none⟩)) (fun _ => trivial) (wanted_of (j := 9) (d := 33) (b := false) rfl rfl rfl) rfl (ex_move rfl rfl) ?_
  refine sl_rowOne (v := .int .u8 97) (fun _ => trivial) (wanted_of (j := 9) (d := 33) (b := false) rfl rfl rfl) rfl rfl hv l8el24 rfl (fun b20 w21 hv => ?_)
  simp only [Act.put, List.setIfInBounds_toArray, List.set_cons_succ, List.set_cons_zero]
  refine sl_mark (fun _ => trivial) (wanted_of (j := 9) (d := 33) (b := false) rfl rfl rfl) rfl rfl Try.underlying24 Try.underlying5 hv (fun B22 w24 hB23 hv hrd25 => ?_)
  refine wpi_exG (v := .agg #[.int .i64 5, .slice (some ⟨b20, 0, none⟩) 1 1]) (fun _ => trivial) (wanted_of (j := 9) (d := 33) (b := false) rfl rfl rfl) rfl (ex_buildN (vs := #[(0, .int .i64 5), (1, .slice (some ⟨b20, 0, none⟩) 1 1)]) rfl (by simp only [List.map_toArray, List.map_cons, List.map_nil]; rfl) (by kernel_rfl)) ?_
  replace hv := hv.front 3 rfl
  simp only [List.eraseIdx_cons_succ, List.eraseIdx_cons_zero] at hv
  replace hv := hv.front 2 rfl
  simp only [List.eraseIdx_cons_succ, List.eraseIdx_cons_zero] at hv
  refine wpi_callG l8callable36 (fun _ => trivial) wideC rfl (wanted_of (j := 9) (d := 33) (b := false) rfl rfl rfl) rfl (args := #[.pointer (some ⟨q9, 0, none⟩), .agg #[.int .i64 5, .slice (some ⟨b20, 0, none⟩) 1 1]]) (by simp only [List.map_toArray, List.map_cons, List.map_nil]; rfl) ((slotsSave _ _ _ q9 p3 0 4 0 false (Disk.zero 8) _ 5 _ _ _ [97] _ rfl (by decide) (by decide) (by decide) (by rw [aw8_l0]; decide) (by rw [aw8_l0]; decide) (by decide) rfl (ok_full (by decide)) hrd25.any' hv).mono ?_)
  rintro e w27 ⟨F26, rfl, hv⟩
  refine ⟨_, rfl, ?_⟩
  rw [aw8_s1] at hv ⊢
  simp only [Act.put, List.setIfInBounds_toArray, List.set_cons_succ, List.set_cons_zero]
  refine wpi_exG (v := .bool false) (fun _ => trivial) (wanted_of (j := 9) (d := 33) (b := false) rfl rfl rfl) rfl (ex_neq (k := .i64) (m := 0) (n := 0) rfl rfl rfl (by decide)) ?_
  refine wpi_exG (v := .bool false) (fun _ => trivial) (wn rfl) rfl (ex_pick (b := false) rfl rfl rfl) ?_
  refine wpi_exG (v := .bool false) (fun _ => trivial) (wn rfl) rfl (ex_move rfl rfl) ?_
  simp only [Act.put, List.setIfInBounds_toArray, List.set_cons_succ, List.set_cons_zero]
  refine wpi_exG (v := .pointer (some ⟨q9, 0, none⟩)) (fun _ => trivial) (wanted_of (j := 17) (d := 41) (b := false) rfl rfl rfl) rfl (ex_move rfl rfl) ?_
  refine sl_rowOne (v := .int .u8 98) (fun _ => trivial) (wanted_of (j := 17) (d := 41) (b := false) rfl rfl rfl) rfl rfl hv l8el24 rfl (fun b28 w29 hv => ?_)
  refine sl_mark (fun _ => trivial) (wanted_of (j := 17) (d := 41) (b := false) rfl rfl rfl) rfl rfl Try.underlying24 Try.underlying5 hv (fun B30 w32 hB31 hv hrd33 => ?_)
  simp only [Act.put, List.setIfInBounds_toArray, List.set_cons_succ, List.set_cons_zero]
  refine wpi_exG (v := .agg #[.int .i64 6, .slice (some ⟨b28, 0, none⟩) 1 1]) (fun _ => trivial) (wanted_of (j := 17) (d := 41) (b := false) rfl rfl rfl) rfl (ex_buildN (vs := #[(0, .int .i64 6), (1, .slice (some ⟨b28, 0, none⟩) 1 1)]) rfl (by simp only [List.map_toArray, List.map_cons, List.map_nil]; rfl) (by kernel_rfl)) ?_
  replace hv := hv.front 1 rfl
  simp only [List.eraseIdx_cons_succ, List.eraseIdx_cons_zero] at hv
  replace hv := hv.front 1 rfl
  simp only [List.eraseIdx_cons_succ, List.eraseIdx_cons_zero] at hv
  refine wpi_callG l8callable36 (fun _ => trivial) wideC rfl (wanted_of (j := 17) (d := 41) (b := false) rfl rfl rfl) rfl (args := #[.pointer (some ⟨q9, 0, none⟩), .agg #[.int .i64 6, .slice (some ⟨b28, 0, none⟩) 1 1]]) (by simp only [List.map_toArray, List.map_cons, List.map_nil]; rfl) ((slotsSave _ _ _ q9 p3 0 4 1 false AD1 _ 6 _ _ _ [98] _ rfl (by decide) (by decide) (by decide) (by rw [aw8_l1]; decide) (by rw [aw8_l1]; decide) (by rw [aw8_p1]; decide) rfl (ok_full (by decide)) hrd33.any' hv).mono ?_)
  rintro e w35 ⟨F34, rfl, hv⟩
  refine ⟨_, rfl, ?_⟩
  rw [aw8_s2] at hv ⊢
  refine wpi_exG (v := .bool false) (fun _ => trivial) (wanted_of (j := 17) (d := 41) (b := false) rfl rfl rfl) rfl (ex_neq (k := .i64) (m := 0) (n := 0) rfl rfl rfl (by decide)) ?_
  simp only [Act.put, List.setIfInBounds_toArray, List.set_cons_succ, List.set_cons_zero]
  refine wpi_exG (v := .bool false) (fun _ => trivial) (wn rfl) rfl (ex_pick (b := false) rfl rfl rfl) ?_
  refine wpi_exG (v := .bool false) (fun _ => trivial) (wn rfl) rfl (ex_move rfl rfl) ?_
  refine wpi_exG (v := .pointer (some ⟨q9, 0, none⟩)) (fun _ => trivial) (wanted_of (j := 25) (d := 49) (b := false) rfl rfl rfl) rfl (ex_move rfl rfl) ?_
  simp only [Act.put, List.setIfInBounds_toArray, List.set_cons_succ, List.set_cons_zero]
  refine wpi_callG l8callable33 (fun _ => trivial) wideC rfl (wanted_of (j := 25) (d := 49) (b := false) rfl rfl rfl) rfl (args := #[.pointer (some ⟨q9, 0, none⟩)]) (by simp only [List.map_toArray, List.map_cons, List.map_nil]; rfl) ((slotsGeneration _ _ _ q9 p3 0 4 2 false (hv.front 0 rfl)).mono ?_)
  rintro e w36 ⟨rfl, rfl⟩
  refine ⟨_, rfl, ?_⟩
  refine wpi_exG (v := .bool false) (fun _ => trivial) (wanted_of (j := 25) (d := 49) (b := false) rfl rfl rfl) rfl (ex_neq (k := .i64) (m := 2) (n := 2) rfl rfl rfl (by decide)) ?_
  refine wpi_exG (v := .bool false) (fun _ => trivial) (wn rfl) rfl (ex_pick (b := false) rfl rfl rfl) ?_
  refine wpListIn_nil ?_
  simp only [Act.put, List.setIfInBounds_toArray, List.set_cons_succ, List.set_cons_zero]
  refine then_normal (hK19 _ _ ?_)
  clear hK19 K19
  refine wpIn_cond_false rfl ?_
  refine wpIn_skip ?_
  refine then_normal (hK18 _ _ ?_)
  clear hK18 K18
  refine wpIn_seq_k (fun K37 hK37 => ?_)
  refine wpIn_region_lit ?_
  refine wpi_exG (v := .pointer (some ⟨p3, 0, none⟩)) (fun _ => trivial) (wn rfl) rfl (ex_move rfl rfl) ?_
  replace hv := hv.front 1 rfl
  simp only [List.eraseIdx_cons_succ, List.eraseIdx_cons_zero] at hv
  refine wpi_callG l8callable25 (fun _ => trivial) wideC rfl (wn rfl) rfl (args := #[.pointer (some ⟨p3, 0, none⟩), .slice none 0 0]) (by simp only [List.map_toArray, List.map_cons, List.map_nil]; rfl) ((diskCrashSl _ _ _ p3 _ _ _ _ _ [] hv (by rw [aw8_p2]; decide) rfl (by decide) rdV_nil (by decide)).mono ?_)
  rintro e w39 ⟨F38, rfl, hv⟩
  refine ⟨_, rfl, ?_⟩
  refine wpListIn_nil ?_
  simp only [Act.put, List.setIfInBounds_toArray, List.set_cons_succ, List.set_cons_zero]
  refine then_normal (hK37 _ _ ?_)
  clear hK37 K37
  refine wpIn_seq_k (fun K40 hK40 => ?_)
  refine wpIn_region_lit ?_
  refine wpi_exG (v := .pointer (some ⟨p3, 0, none⟩)) (fun _ => trivial) (wn rfl) rfl (ex_move rfl rfl) ?_
  refine wpi_callG l8callable30 (fun _ => trivial) wideC rfl (wn rfl) rfl (args := #[.pointer (some ⟨p3, 0, none⟩), .int .i64 0, .int .i64 4]) (by simp only [List.map_toArray, List.map_cons, List.map_nil]; rfl) ((slotsOpen _ _ _ p3 0 4 (AD3) (AD3) _ rfl (by decide) (by kernel_rfl) (by rw [aw8_left]; decide) (by decide) (by decide) (by rw [aw8_l3]; decide) (by rw [aw8_l3]; decide) hv).mono ?_)
  rintro e w46 ⟨q41, cur42, ad43, c44, F45, hcur, rfl, hv⟩
  refine ⟨_, rfl, ?_⟩
  obtain ⟨hcg, hct, hcb⟩ := aw8_cur (curI_eq hcur)
  simp only [hcg, hct, hcb] at hv
  rw [hcg, hct, hcb]
  replace hv := hv.front 1 rfl
  simp only [List.eraseIdx_cons_succ, List.eraseIdx_cons_zero] at hv
  obtain ⟨B47, hB48, hv, hrx, hokx⟩ := Inv.rowStays hv
  refine wpi_exG (v := .tuple #[.pointer (some ⟨q41, 0, none⟩), .agg #[.int .i64 6, .slice ad43 1 c44], .bool true, .int .i64 0]) (fun _ => trivial) (wn rfl) rfl (ex_move rfl rfl) ?_
  simp only [Act.put, List.setIfInBounds_toArray, List.set_cons_succ, List.set_cons_zero]
  refine wpi_exG (v := .pointer (some ⟨q41, 0, none⟩)) (fun _ => trivial) (wn rfl) rfl (ex_extract rfl rfl rfl) ?_
  refine wpi_exG (v := .agg #[.int .i64 6, .slice ad43 1 c44]) (fun _ => trivial) (wn rfl) rfl (ex_extract rfl rfl rfl) ?_
  refine wpi_exG (v := .bool true) (fun _ => trivial) (wn rfl) rfl (ex_extract rfl rfl rfl) ?_
  simp only [Act.put, List.setIfInBounds_toArray, List.set_cons_succ, List.set_cons_zero]
  refine wpi_exG (v := .int .i64 0) (fun _ => trivial) (wn rfl) rfl (ex_extract rfl rfl rfl) ?_
  refine sl_alloc (fun _ => trivial) (wn rfl) rfl hv l8al55 (fun b49 w50 hv => ?_)
  refine wpi_exG (v := .pointer (some ⟨q41, 0, none⟩)) (fun _ => trivial) (wn rfl) rfl (ex_assign rfl rfl) ?_
  simp only [Act.put, List.setIfInBounds_toArray, List.set_cons_succ, List.set_cons_zero]
  refine sl_storeNAt 0 (new := [.int .i64 6, .slice ad43 1 c44]) (pre := []) (mid := [.int .i64 0, .slice none 0 0]) (post := []) (L' := [.int .i64 6, .slice ad43 1 c44]) (fun _ => trivial) (wn rfl) rfl rfl rfl hv rfl l8sz55 rfl rfl rfl (one_cons rfl (one_cons rfl one_nil)) rfl (fun w51 hv => ?_)
  simp only [List.set_cons_succ, List.set_cons_zero] at hv
  refine wpi_exG (v := .bool true) (fun _ => trivial) (wn rfl) rfl (ex_assign rfl rfl) ?_
  refine wpi_exG (v := .int .i64 0) (fun _ => trivial) (wn rfl) rfl (ex_assign rfl rfl) ?_
  refine wpListIn_nil ?_
  simp only [Act.put, List.setIfInBounds_toArray, List.set_cons_succ, List.set_cons_zero]
  refine then_normal (hK40 _ _ ?_)
  clear hK40 K40
  refine wpIn_seq_k (fun K52 hK52 => ?_)
  refine wpIn_region_lit ?_
  refine wpi_exG (v := .bool true) (fun _ => trivial) (wn rfl) rfl (ex_move rfl rfl) ?_
  refine wpi_exG (v := .bool true) (fun _ => trivial) (wn rfl) rfl (ex_move rfl rfl) ?_
  refine wpi_exG (v := .int .i64 0) (fun _ => trivial) (wanted_of (j := 1) (d := 64) (b := true) rfl rfl rfl) rfl (ex_move rfl rfl) ?_
  simp only [Act.put, List.setIfInBounds_toArray, List.set_cons_succ, List.set_cons_zero]
  refine wpi_exG (v := .bool true) (fun _ => trivial) (wanted_of (j := 1) (d := 64) (b := true) rfl rfl rfl) rfl (ex_eql (k := .i64) (m := 0) (n := 0) rfl rfl rfl (by decide)) ?_
  refine wpi_exG (v := .bool true) (fun _ => trivial) (wn rfl) rfl (ex_pick (b := true) rfl rfl rfl) ?_
  refine wpi_exG (v := .bool true) (fun _ => trivial) (wn rfl) rfl (ex_move rfl rfl) ?_
  simp only [Act.put, List.setIfInBounds_toArray, List.set_cons_succ, List.set_cons_zero]
  refine wpi_exG (v := .agg #[.int .i64 6, .slice ad43 1 c44]) (fun _ => trivial) (wanted_of (j := 5) (d := 68) (b := true) rfl rfl rfl) rfl (ex_load rfl rfl (run_load_mid (pre := []) (mid := [.int .i64 6, .slice ad43 1 c44]) (post := []) l8wd55 (show Blk _ b49 ([] ++ [.int .i64 6, .slice ad43 1 c44] ++ []) _ from hv.get 0 rfl) rfl)) ?_
  refine sl_rowOne (v := .int .u8 98) (fun _ => trivial) (wanted_of (j := 5) (d := 68) (b := true) rfl rfl rfl) rfl rfl hv l8el24 rfl (fun b53 w54 hv => ?_)
  refine sl_mark (fun _ => trivial) (wanted_of (j := 5) (d := 68) (b := true) rfl rfl rfl) rfl rfl Try.underlying24 Try.underlying5 hv (fun B55 w57 hB56 hv hrd58 => ?_)
  simp only [Act.put, List.setIfInBounds_toArray, List.set_cons_succ, List.set_cons_zero]
  refine wpi_exG (v := .agg #[.int .i64 6, .slice (some ⟨b53, 0, none⟩) 1 1]) (fun _ => trivial) (wanted_of (j := 5) (d := 68) (b := true) rfl rfl rfl) rfl (ex_buildN (vs := #[(0, .int .i64 6), (1, .slice (some ⟨b53, 0, none⟩) 1 1)]) rfl (by simp only [List.map_toArray, List.map_cons, List.map_nil]; rfl) (by kernel_rfl)) ?_
  replace hrx := hrx.more hB56 (fun _ h => h)
  refine wpi_callG l8callable32 (fun _ => trivial) wideC rfl (wanted_of (j := 5) (d := 68) (b := true) rfl rfl rfl) rfl (args := #[.agg #[.int .i64 6, .slice ad43 1 c44], .agg #[.int .i64 6, .slice (some ⟨b53, 0, none⟩) 1 1]]) (by simp only [List.map_toArray, List.map_cons, List.map_nil]; rfl) ((lawSame08 _ _ _ 6 6 _ _ 1 1 _ _ [98] [98] rfl rfl hrx hrd58 hv).mono ?_)
  rintro e w59 ⟨rfl, hv⟩
  refine ⟨_, rfl, ?_⟩
  refine wpi_exG (v := .bool true) (fun _ => trivial) (wn rfl) rfl (ex_pick (b := true) rfl rfl rfl) ?_
  simp only [Act.put, List.setIfInBounds_toArray, List.set_cons_succ, List.set_cons_zero]
  refine wpi_exG (v := .bool true) (fun _ => trivial) (wn rfl) rfl (ex_assign rfl rfl) ?_
  refine wpListIn_nil ?_
  simp only [Act.put, List.setIfInBounds_toArray, List.set_cons_succ, List.set_cons_zero]
  refine then_normal (hK52 _ _ ?_)
  clear hK52 K52
  refine wpIn_ret ?_
  refine bodyPost_ret (results_tmp rfl _ _ _) rfl ?_
  exact ⟨rfl, (hv.tail 6).weak (((hB23.trans hB31).trans hB48).trans hB56)⟩
end Go.Proofs.Ytkannfkjnohdlaa
/- SlotsTurn -/
namespace Go.Proofs.Ytkannfkjnohdlaa
open Go.RowKit Go.Pm
theorem put_other (l : List (Nat × List UInt8)) (d : List (List UInt8)) (k : Nat) (hl : ∀ p ∈ l, p.1 ≠ k) : (l.foldl Disk.put d)[k]? = d[k]? := by
  induction l generalizing d with
  | nil => rfl
  | cons p l ih =>
    rw [List.foldl_cons, ih _ (fun q hq => hl q (by simp [hq]))]
    unfold Disk.put
    rw [List.getElem?_set_ne (hl p (by simp))]
/-- a disk at rest -/
structure Rest (D : Disk) (n : Nat) : Prop where
  len : D.dur.length = n
  left : D.left = -1
  pend : D.pend = []
theorem rest_tick {D : Disk} {n : Nat} (h : Rest D n) : D.tick = D := by unfold Disk.tick; rw [if_neg (by rw [h.left]; decide)]
theorem write_left {D : Disk} (h : D.left = -1) (a : Nat) (l : List UInt8) : (D.write a l).left = -1 := by
  show D.tick.left = -1
  unfold Disk.tick
  rw [if_neg (by rw [h]; decide)]
  exact h
theorem sync_left {D : Disk} (h : D.left = -1) : D.sync.left = -1 := by
  show D.tick.left = -1
  unfold Disk.tick
  rw [if_neg (by rw [h]; decide)]
  exact h
theorem rest_ws {D : Disk} {n : Nat} (h : Rest D n) (a : Nat) (l : List UInt8) : Rest ((D.write a l).sync) n := ⟨(sync_dur _).trans h.len, sync_left (write_left h.left _ _), rfl⟩
theorem ws_get {D : Disk} {n : Nat} (h : Rest D n) (a : Nat) (l : List UInt8) (k : Nat) (hk : k < a ∨ a + Disk.nsec l ≤ k) : ((D.write a l).sync).dur[k]? = D.dur[k]? := by
  show (((D.write a l).pend).foldl Disk.put D.dur)[k]? = D.dur[k]?
  refine put_other _ _ _ (fun p hp => ?_)
  simp only [Disk.write, h.pend, List.nil_append] at hp
  have := Disk.writesOf_mem hp
  omega
theorem putHead_rest {D : Disk} {n : Nat} (h : Rest D n) (a : Nat) (hd : List UInt8) : putHead D a hd = (0, (D.write a hd).sync) := by
  unfold putHead
  rw [if_neg (by rw [h.left]; decide), if_neg (by rw [write_left h.left]; decide)]
theorem putAll_rest {D : Disk} {n : Nat} (h : Rest D n) (a : Nat) (l hd : List UInt8) (hh : hd.length = 64) : ∃ E, putAll' D a l hd = (0, E) ∧ Rest E n ∧ ∀ k, k < a ∨ a + 1 + Disk.nsec l ≤ k → E.dur[k]? = D.dur[k]? := by
  have hn : Disk.nsec hd = 1 := by unfold Disk.nsec; rw [hh]
  unfold putAll'
  by_cases hl : l.length = 0
  · rw [if_pos hl, putHead_rest h]
    exact ⟨_, rfl, rest_ws h _ _, fun k hk => ws_get h _ _ k (by omega)⟩
  · rw [if_neg hl, if_neg (by rw [h.left]; decide), if_neg (by rw [write_left h.left]; decide), putHead_rest (rest_ws h _ _)]
    exact ⟨_, rfl, rest_ws (rest_ws h _ _) _ _, fun k hk => (ws_get (rest_ws h _ _) _ _ k (by omega)).trans (ws_get h _ _ k (by omega))⟩
theorem save_rest {D : Disk} (h : Rest D 12) (i : Nat) (hi : i < 12) (l : List UInt8) (hl : l.length ≤ 300) :
    ∃ E, saveOf D 0 6 i false (i : Int) l = ⟨0, i + 1, false, E⟩ ∧ Rest E 12 ∧ E.view E.pend (6 * (1 - (i + 1) % 2)) 6 = D.view D.pend (6 * (1 - (i + 1) % 2)) 6 := by
  obtain ⟨E, h1, h2, h3⟩ := putAll_rest h (0 + ((i + 1) % 2) * 6) l (headOf (i + 1) (i : Int).toNat l) (headOf_len _ _ _)
  have hns : Disk.nsec l ≤ 5 := nsec_le (by omega)
  have hr : roomOf 6 = 320 := rfl
  refine ⟨E, ?_, h2, ?_⟩
  · unfold saveOf
    rw [if_neg (by decide), if_neg (by omega), if_neg (by rw [hr]; omega), h1, if_neg (fun h => h rfl)]
  · unfold Disk.view
    rw [h2.pend, h.pend]
    apply List.map_congr_left
    intro k hk
    have hk := List.mem_range.1 hk
    rw [List.getD_eq_getElem?_getD, List.getD_eq_getElem?_getD, h3 _ (by omega)]
def RdRows8 (B : Base) (a : Option Addr) (ls : List (List UInt8)) : Prop := ∀ i (h : i < ls.length), ∃ b off a' c', a = some ⟨b, off, none⟩ ∧ (∀ H w, Inv B H w → w.cell? ⟨b, off + i, none⟩ = some (.slice a' ls[i].length c')) ∧ SliceOk a' ls[i].length c' ∧ RdV B [] a' (ls[i].map B8)
theorem tz12 : curF ((Disk.zero 12).view (Disk.zero 12).pend 0 (2 * 6)).flatten 6 2 = none := by kernel_rfl
theorem rest12 : Rest (Disk.zero 12) 12 := ⟨by kernel_rfl, rfl, rfl⟩
theorem rest_has {D : Disk} (h : Rest D 12) (j : Nat) (hj : j ≤ 1) : D.has ((6 * j : Nat) : Int) ((6 : Nat) : Int) = true := has_of (by omega) (by rw [h.len]; omega)
theorem bytes_view {w : World} {b : Nat} {t : TypeId} {v : List (List UInt8)} (h : Blk w b (durCells v) t) : Bytes w (fun _ => True) (some ⟨b, 0, none⟩) v.flatten := bytes_all (by rw [view_bytes8] at h; exact h)
theorem rest_flat {D : Disk} (h : Rest D 12) (hok : D.Ok) (j : Nat) (hj : j ≤ 1) : (D.view D.pend (6 * j) 6).flatten.length = 384 := view_flat_len hok (by rw [h.len]; omega)

theorem stcallable27 : Callable Try.prog 27 := ⟨_, Try.func27, by kernel_rfl, by kernel_rfl⟩
theorem stcallable21 : Callable Try.prog 21 := ⟨_, Try.func21, by kernel_rfl, by kernel_rfl⟩
theorem stcallable30 : Callable Try.prog 30 := ⟨_, Try.func30, by kernel_rfl, by kernel_rfl⟩
theorem stal55 (w : World) : (Instr.alloc 55 true (.tuple #[])).run Try.prog w = .ok (.pointer (some ⟨w.heap.size, 0, none⟩)) (w.alloc (.cells ([.int .i64 0, .slice none 0 0] : List Value).toArray 55)) := by kernel_rfl
theorem stsz55 : (Try.prog.info? 55).map (·.size) = some 2 := by kernel_rfl
theorem stes22 (w : World) : (sizeOf (Try.prog.elem 22)).run Try.prog w = .ok 1 w := by kernel_rfl
theorem stna24 (w : World) : (isAgg 24).run Try.prog w = .ok false w := by kernel_rfl
theorem stcallable26 : Callable Try.prog 26 := ⟨_, Try.func26, by kernel_rfl, by kernel_rfl⟩
theorem stcallable36 : Callable Try.prog 36 := ⟨_, Try.func36, by kernel_rfl, by kernel_rfl⟩
theorem stcallable33 : Callable Try.prog 33 := ⟨_, Try.func33, by kernel_rfl, by kernel_rfl⟩
set_option maxRecDepth 100000 in
set_option maxHeartbeats 1000000 in
theorem slotsTurnMain (B : Base) (H : List Res) (w : World) (a : Option Addr) (n ca : Nat) (ls : List (List UInt8)) (hn : ls.length = n) (hls : RdRows8 B a ls) (hv : Inv B H w) :
    Calls Try.prog 10 #[.slice a n ca] w fun e w' => e = .returned (.bool true) ∧ Inv B H w' := by
  refine (callsIn_wide (n := 5)).1 ?_
  refine callsIn_of_wp Try.func10 rfl trivial ?_
  simp only [Try.ntmps10, List.size_toArray, List.length_cons, List.length_nil, Nat.reduceAdd, Nat.reduceSub, Array.replicate_succ, Array.replicate_zero, List.push_toArray, List.append_toArray, List.nil_append, List.cons_append]
  refine wpIn_seq_k (fun K1 hK1 => ?_)
  refine wpIn_region_lit ?_
  refine wpi_exG (v := .bool false) (fun _ => trivial) (wn rfl) rfl (ex_assign rfl rfl) ?_
  refine wpListIn_nil ?_
  simp only [Act.put, List.setIfInBounds_toArray, List.set_cons_succ, List.set_cons_zero]
  refine then_normal (hK1 _ _ ?_)
  clear hK1 K1
  refine wpIn_seq_k (fun K2 hK2 => ?_)
  refine wpIn_seq_k (fun K3 hK3 => ?_)
  refine wpIn_region_lit ?_
  refine wpi_callG stcallable27 (fun _ => trivial) wideC rfl (wn rfl) rfl (args := #[]) (by simp only [List.map_toArray, List.map_nil]) ((lawAwake08 _ _ _ hv).mono ?_)
  rintro e w4 ⟨rfl, hv⟩
  refine ⟨_, rfl, ?_⟩
  refine wpi_exG (v := .bool false) (fun _ => trivial) (wn rfl) rfl (ex_not rfl rfl rfl) ?_
  refine wpi_exG (v := .bool false) (fun _ => trivial) (wn rfl) rfl (ex_move rfl rfl) ?_
  simp only [Act.put, List.setIfInBounds_toArray, List.set_cons_succ, List.set_cons_zero]
  refine wpi_exG (v := .slice a n ca) (fun _ => trivial) (wanted_of (j := 2) (d := 18) (b := false) rfl rfl rfl) rfl (ex_move rfl rfl) ?_
  refine wpi_exG (v := .int .i64 (n : Int)) (fun _ => trivial) (wanted_of (j := 2) (d := 18) (b := false) rfl rfl rfl) rfl (ex_len0 Try.underlying22 rfl rfl) ?_
  by_cases hb5 : (n : Int) > 12
  · refine wpi_exG (v := .bool true) (fun _ => trivial) (wanted_of (j := 2) (d := 18) (b := false) rfl rfl rfl) rfl (ex_gtr (k := .i64) (m := (n : Int)) (n := 12) rfl rfl rfl (decide_eq_true hb5)) ?_
    simp only [Act.put, List.setIfInBounds_toArray, List.set_cons_succ, List.set_cons_zero]
    refine wpi_exG (v := .bool true) (fun _ => trivial) (wn rfl) rfl (ex_pick (b := false) rfl rfl rfl) ?_
    refine wpListIn_nil ?_
    simp only [Act.put, List.setIfInBounds_toArray, List.set_cons_succ, List.set_cons_zero]
    refine then_normal (hK3 _ _ ?_)
    clear hK3 K3
    refine wpIn_cond_true rfl ?_
    refine wpIn_seq_k (fun K6 hK6 => ?_)
    refine wpIn_region_lit ?_
    refine wpi_callG stcallable27 (fun _ => trivial) wideC rfl (wn rfl) rfl (args := #[]) (by simp only [List.map_toArray, List.map_nil]) ((lawAwake08 _ _ _ hv).mono ?_)
    rintro e w7 ⟨rfl, hv⟩
    refine ⟨_, rfl, ?_⟩
    refine wpi_exG (v := .bool true) (fun _ => trivial) (wn rfl) rfl (ex_assign rfl rfl) ?_
    refine wpListIn_nil ?_
    simp only [Act.put, List.setIfInBounds_toArray, List.set_cons_succ, List.set_cons_zero]
    refine then_normal (hK6 _ _ ?_)
    clear hK6 K6
    refine wpIn_ret ?_
    refine then_ret ?_
    clear hK2 K2
    refine bodyPost_ret (results_tmp rfl _ _ _) rfl ?_
    exact ⟨rfl, hv.tail 0⟩
  · refine wpi_exG (v := .bool false) (fun _ => trivial) (wanted_of (j := 2) (d := 18) (b := false) rfl rfl rfl) rfl (ex_gtr (k := .i64) (m := (n : Int)) (n := 12) rfl rfl rfl (decide_eq_false hb5)) ?_
    simp only [Act.put, List.setIfInBounds_toArray, List.set_cons_succ, List.set_cons_zero]
    refine wpi_exG (v := .bool false) (fun _ => trivial) (wn rfl) rfl (ex_pick (b := false) rfl rfl rfl) ?_
    refine wpListIn_nil ?_
    simp only [Act.put, List.setIfInBounds_toArray, List.set_cons_succ, List.set_cons_zero]
    refine then_normal (hK3 _ _ ?_)
    clear hK3 K3
    refine wpIn_cond_false rfl ?_
    refine wpIn_skip ?_
    refine then_normal (hK2 _ _ ?_)
    clear hK2 K2
    refine wpIn_seq_k (fun K8 hK8 => ?_)
    refine wpIn_region_lit ?_
    refine wpi_callG stcallable21 (fun _ => trivial) wideC rfl (wn rfl) rfl (args := #[.int .i64 12]) (by simp only [List.map_toArray, List.map_cons, List.map_nil]; rfl) ((diskNewSl _ _ _ 12 (by omega) (by omega) hv).mono ?_)
    rintro e w11 ⟨p9, F10, rfl, hv⟩
    refine ⟨_, rfl, ?_⟩
    refine wpi_exG (v := .tuple #[.pointer (some ⟨p9, 0, none⟩), .int .i64 0]) (fun _ => trivial) (wn rfl) rfl (ex_move rfl rfl) ?_
    refine wpi_exG (v := .pointer (some ⟨p9, 0, none⟩)) (fun _ => trivial) (wn rfl) rfl (ex_extract rfl rfl rfl) ?_
    simp only [Act.put, List.setIfInBounds_toArray, List.set_cons_succ, List.set_cons_zero]
    refine wpi_exG (v := .int .i64 0) (fun _ => trivial) (wn rfl) rfl (ex_extract rfl rfl rfl) ?_
    refine wpi_exG (v := .pointer (some ⟨p9, 0, none⟩)) (fun _ => trivial) (wn rfl) rfl (ex_assign rfl rfl) ?_
    refine wpi_exG (v := .int .i64 0) (fun _ => trivial) (wn rfl) rfl (ex_assign rfl rfl) ?_
    refine wpListIn_nil ?_
    simp only [Act.put, List.setIfInBounds_toArray, List.set_cons_succ, List.set_cons_zero]
    refine then_normal (hK8 _ _ ?_)
    clear hK8 K8
    refine wpIn_seq_k (fun K12 hK12 => ?_)
    refine wpIn_seq_k (fun K13 hK13 => ?_)
    refine wpIn_region_lit ?_
    refine wpi_exG (v := .pointer (some ⟨p9, 0, none⟩)) (fun _ => trivial) (wn rfl) rfl (ex_move rfl rfl) ?_
    refine wpi_exG (v := .bool false) (fun _ => trivial) (wn rfl) rfl (ex_pisnil Try.underlying36 rfl rfl rfl rfl) ?_
    refine wpListIn_nil ?_
    simp only [Act.put, List.setIfInBounds_toArray, List.set_cons_succ, List.set_cons_zero]
    refine then_normal (hK13 _ _ ?_)
    clear hK13 K13
    refine wpIn_cond_false rfl ?_
    refine wpIn_skip ?_
    refine then_normal (hK12 _ _ ?_)
    clear hK12 K12
    refine wpIn_seq_k (fun K14 hK14 => ?_)
    refine wpIn_region_lit ?_
    refine wpi_exG (v := .pointer (some ⟨p9, 0, none⟩)) (fun _ => trivial) (wn rfl) rfl (ex_move rfl rfl) ?_
    refine wpi_callG stcallable30 (fun _ => trivial) wideC rfl (wn rfl) rfl (args := #[.pointer (some ⟨p9, 0, none⟩), .int .i64 0, .int .i64 6]) (by simp only [List.map_toArray, List.map_cons, List.map_nil]; rfl) ((slotsOpen _ _ _ p9 0 6 (Disk.zero 12) (Disk.zero 12) _ rfl (by decide) (by kernel_rfl) (by decide) (by decide) (by decide) (by rw [rest12.len]; decide) (by rw [rest12.len]; decide) hv).mono ?_)
    rintro e w20 ⟨q15, cur16, ad17, c18, F19, hcur, rfl, hv⟩
    refine ⟨_, rfl, ?_⟩
    obtain rfl : cur16 = none := (curI_eq hcur).trans tz12
    refine wpi_exG (v := .tuple #[.pointer (some ⟨q15, 0, none⟩), .agg #[.int .i64 0, .slice ad17 0 c18], .bool false, .int .i64 0]) (fun _ => trivial) (wn rfl) rfl (ex_move rfl rfl) ?_
    simp only [Act.put, List.setIfInBounds_toArray, List.set_cons_succ, List.set_cons_zero]
    refine wpi_exG (v := .pointer (some ⟨q15, 0, none⟩)) (fun _ => trivial) (wn rfl) rfl (ex_extract rfl rfl rfl) ?_
    refine wpi_exG (v := .agg #[.int .i64 0, .slice ad17 0 c18]) (fun _ => trivial) (wn rfl) rfl (ex_extract rfl rfl rfl) ?_
    refine wpi_exG (v := .bool false) (fun _ => trivial) (wn rfl) rfl (ex_extract rfl rfl rfl) ?_
    simp only [Act.put, List.setIfInBounds_toArray, List.set_cons_succ, List.set_cons_zero]
    refine wpi_exG (v := .int .i64 0) (fun _ => trivial) (wn rfl) rfl (ex_extract rfl rfl rfl) ?_
    refine sl_alloc (fun _ => trivial) (wn rfl) rfl hv stal55 (fun b21 w22 hv => ?_)
    refine wpi_exG (v := .pointer (some ⟨q15, 0, none⟩)) (fun _ => trivial) (wn rfl) rfl (ex_assign rfl rfl) ?_
    simp only [Act.put, List.setIfInBounds_toArray, List.set_cons_succ, List.set_cons_zero]
    refine sl_storeNAt 0 (new := [.int .i64 0, .slice ad17 0 c18]) (pre := []) (mid := [.int .i64 0, .slice none 0 0]) (post := []) (L' := [.int .i64 0, .slice ad17 0 c18]) (fun _ => trivial) (wn rfl) rfl rfl rfl hv rfl stsz55 rfl rfl rfl (one_cons rfl (one_cons rfl one_nil)) rfl (fun w23 hv => ?_)
    simp only [List.set_cons_succ, List.set_cons_zero] at hv
    refine wpi_exG (v := .bool false) (fun _ => trivial) (wn rfl) rfl (ex_assign rfl rfl) ?_
    refine wpi_exG (v := .int .i64 0) (fun _ => trivial) (wn rfl) rfl (ex_assign rfl rfl) ?_
    refine wpListIn_nil ?_
    simp only [Act.put, List.setIfInBounds_toArray, List.set_cons_succ, List.set_cons_zero]
    refine then_normal (hK14 _ _ ?_)
    clear hK14 K14
    refine wpIn_seq_k (fun K24 hK24 => ?_)
    refine wpIn_seq_k (fun K25 hK25 => ?_)
    refine wpIn_region_lit ?_
    refine wpi_exG (v := .pointer (some ⟨q15, 0, none⟩)) (fun _ => trivial) (wn rfl) rfl (ex_move rfl rfl) ?_
    refine wpi_exG (v := .bool false) (fun _ => trivial) (wn rfl) rfl (ex_pisnil Try.underlying53 rfl rfl rfl rfl) ?_
    refine wpListIn_nil ?_
    simp only [Act.put, List.setIfInBounds_toArray, List.set_cons_succ, List.set_cons_zero]
    refine then_normal (hK25 _ _ ?_)
    clear hK25 K25
    refine wpIn_cond_false rfl ?_
    refine wpIn_skip ?_
    refine then_normal (hK24 _ _ ?_)
    clear hK24 K24
    refine wpIn_seq_k (fun K26 hK26 => ?_)
    refine wpIn_seq_k (fun K27 hK27 => ?_)
    refine wpIn_region_lit ?_
    refine wpi_exG (v := .int .i64 0) (fun _ => trivial) (wn rfl) rfl (ex_assign rfl rfl) ?_
    refine wpListIn_nil ?_
    simp only [Act.put, List.setIfInBounds_toArray, List.set_cons_succ, List.set_cons_zero]
    refine then_normal (hK27 _ _ ?_)
    clear hK27 K27
    refine wpIn_block ?_
    gi_loopw [9] (fun x9 wr => ∃ (i : Nat) (D : Disk) (F : List Nat), x9 = .int .i64 (i : Int) ∧ i ≤ n ∧ Rest D 12 ∧ Inv B (Res.cell q15 [.pointer (some ⟨p9, 0, none⟩), .int .i64 ((0 : Nat) : Int), .int .i64 ((6 : Nat) : Int), .int .i64 (i : Int), .bool false] 102 :: diskR p9 D F :: H) wr) (fun x9 _ => n - (intOf x9).toNat)
    case atStart => exact ⟨0, _, _, rfl, by omega, rest12, (((hv.front 3 rfl).front 2 rfl).sub (List.Sublist.cons_cons _ (List.Sublist.cons_cons _ (List.Sublist.cons _ (List.Sublist.cons _ (List.Sublist.refl _))))))⟩
    case round =>
      obtain ⟨i, D, F, rfl, hi, hR, hv⟩ := hrel
      refine wpIn_seq_k (fun K29 hK29 => ?_)
      refine wpIn_seq_k (fun K30 hK30 => ?_)
      refine wpIn_region_lit ?_
      refine wpi_exG (v := .int .i64 (i : Int)) (fun _ => trivial) (wn rfl) rfl (ex_move rfl rfl) ?_
      refine wpi_exG (v := .slice a n ca) (fun _ => trivial) (wn rfl) rfl (ex_move rfl rfl) ?_
      refine wpi_exG (v := .int .i64 (n : Int)) (fun _ => trivial) (wn rfl) rfl (ex_len0 Try.underlying22 rfl rfl) ?_
      simp only [Act.put, List.setIfInBounds_toArray, List.set_cons_succ, List.set_cons_zero]
      by_cases hb31 : (i : Int) < (n : Int)
      · refine wpi_exG (v := .bool true) (fun _ => trivial) (wn rfl) rfl (ex_lss (k := .i64) (m := (i : Int)) (n := (n : Int)) rfl rfl rfl (decide_eq_true hb31)) ?_
        refine wpListIn_nil ?_
        simp only [Act.put, List.setIfInBounds_toArray, List.set_cons_succ, List.set_cons_zero]
        refine then_normal (hK30 _ _ ?_)
        clear hK30 K30
        refine wpIn_cond_true rfl ?_
        refine wpIn_skip ?_
        refine then_normal (hK29 _ _ ?_)
        clear hK29 K29
        refine wpIn_seq_k (fun K32 hK32 => ?_)
        refine wpIn_block ?_
        refine wpIn_seq_k (fun K33 hK33 => ?_)
        refine wpIn_seq_k (fun K34 hK34 => ?_)
        refine wpIn_region_lit ?_
        refine wpi_exG (v := .slice a n ca) (fun _ => trivial) (wn rfl) rfl (ex_move rfl rfl) ?_
        refine wpi_exG (v := .int .i64 (i : Int)) (fun _ => trivial) (wn rfl) rfl (ex_move rfl rfl) ?_
        have hin : i < ls.length := by omega
        obtain ⟨rb, roff, ra, rc, rfl, hrow, hrok, hrd⟩ := hls i hin
        generalize ls[i] = l at *
        refine wpi_exG (v := .pointer (some ⟨rb, roff + i, none⟩)) (fun _ => trivial) (wn rfl) rfl (ex_index rfl rfl rfl (run_idx1 (k := i) Try.underlying22 stes22 (by omega))) ?_
        simp only [Act.put, List.setIfInBounds_toArray, List.set_cons_succ, List.set_cons_zero]
        refine wpi_exG (v := .slice ra l.length rc) (fun _ => trivial) (wn rfl) rfl (ex_load rfl rfl (run_load1 stna24 (hrow _ _ hv))) ?_
        refine wpi_exG (v := .int .i64 (l.length : Int)) (fun _ => trivial) (wn rfl) rfl (ex_len0 Try.underlying24 rfl rfl) ?_
        by_cases hb35 : (l.length : Int) > 300
        · refine wpi_exG (v := .bool true) (fun _ => trivial) (wn rfl) rfl (ex_gtr (k := .i64) (m := (l.length : Int)) (n := 300) rfl rfl rfl (decide_eq_true hb35)) ?_
          refine wpListIn_nil ?_
          simp only [Act.put, List.setIfInBounds_toArray, List.set_cons_succ, List.set_cons_zero]
          refine then_normal (hK34 _ _ ?_)
          clear hK34 K34
          refine wpIn_cond_true rfl ?_
          refine wpIn_seq_k (fun K36 hK36 => ?_)
          refine wpIn_region_lit ?_
          refine wpi_exG (v := .bool true) (fun _ => trivial) (wn rfl) rfl (ex_assign rfl rfl) ?_
          refine wpListIn_nil ?_
          simp only [Act.put, List.setIfInBounds_toArray, List.set_cons_succ, List.set_cons_zero]
          refine then_normal (hK36 _ _ ?_)
          clear hK36 K36
          refine wpIn_ret ?_
          refine then_ret ?_
          clear hK33 K33
          refine blk_ret ?_
          refine then_ret ?_
          clear hK32 K32
          refine then_ret ?_
          refine blk_ret ?_
          refine then_ret ?_
          clear hK26 K26
          refine bodyPost_ret (results_tmp rfl _ _ _) rfl ?_
          exact ⟨rfl, hv.tail 2⟩
        · refine wpi_exG (v := .bool false) (fun _ => trivial) (wn rfl) rfl (ex_gtr (k := .i64) (m := (l.length : Int)) (n := 300) rfl rfl rfl (decide_eq_false hb35)) ?_
          obtain ⟨E, hsv, hRE, hview⟩ := save_rest hR i (by omega) l (by omega)
          refine wpListIn_nil ?_
          simp only [Act.put, List.setIfInBounds_toArray, List.set_cons_succ, List.set_cons_zero]
          refine then_normal (hK34 _ _ ?_)
          clear hK34 K34
          refine wpIn_cond_false rfl ?_
          refine wpIn_skip ?_
          refine then_normal (hK33 _ _ ?_)
          clear hK33 K33
          refine wpIn_seq_k (fun K37 hK37 => ?_)
          refine wpIn_region_lit ?_
          refine wpi_exG (v := .int .i64 (i : Int)) (fun _ => trivial) (wn rfl) rfl (ex_move rfl rfl) ?_
          refine wpi_exG (v := .int .i64 ((i + 1 : Nat) : Int)) (fun _ => trivial) (wn rfl) rfl (ex_add (m := (i : Int)) (n := 1) rfl rfl rfl (by rw [i64_in (by omega)]; omega)) ?_
          refine wpi_exG (v := .int .i64 ((i + 1 : Nat) : Int)) (fun _ => trivial) (wn rfl) rfl (ex_assign rfl rfl) ?_
          refine wpListIn_nil ?_
          simp only [Act.put, List.setIfInBounds_toArray, List.set_cons_succ, List.set_cons_zero]
          refine then_normal (hK37 _ _ ?_)
          clear hK37 K37
          refine wpIn_seq_k (fun K38 hK38 => ?_)
          refine wpIn_region_lit ?_
          refine wpi_exG (v := .int .i64 ((i + 1 : Nat) : Int)) (fun _ => trivial) (wn rfl) rfl (ex_move rfl rfl) ?_
          refine wpi_exG (v := .int .i64 (((i + 1) % 2 : Nat) : Int)) (fun _ => trivial) (wn rfl) rfl (ex_rem (m := ((i + 1 : Nat) : Int)) (n := 2) rfl rfl rfl (by decide) (tmod2 _)) ?_
          refine wpi_exG (v := .int .i64 ((1 - (i + 1) % 2 : Nat) : Int)) (fun _ => trivial) (wn rfl) rfl (ex_sub (m := 1) (n := (((i + 1) % 2 : Nat) : Int)) rfl rfl rfl (by rw [i64_in (by omega)]; omega)) ?_
          simp only [Act.put, List.setIfInBounds_toArray, List.set_cons_succ, List.set_cons_zero]
          refine wpi_exG (v := .int .i64 ((6 * (1 - (i + 1) % 2) : Nat) : Int)) (fun _ => trivial) (wn rfl) rfl (ex_mul (m := 6) (n := ((1 - (i + 1) % 2 : Nat) : Int)) rfl rfl rfl (by rw [i64_in (by omega)]; omega)) ?_
          refine wpi_exG (v := .int .i64 ((6 * (1 - (i + 1) % 2) : Nat) : Int)) (fun _ => trivial) (wn rfl) rfl (ex_assign rfl rfl) ?_
          refine wpListIn_nil ?_
          simp only [Act.put, List.setIfInBounds_toArray, List.set_cons_succ, List.set_cons_zero]
          refine then_normal (hK38 _ _ ?_)
          clear hK38 K38
          refine wpIn_seq_k (fun K39 hK39 => ?_)
          refine wpIn_region_lit ?_
          refine wpi_exG (v := .pointer (some ⟨p9, 0, none⟩)) (fun _ => trivial) (wn rfl) rfl (ex_move rfl rfl) ?_
          refine wpi_exG (v := .int .i64 ((6 * (1 - (i + 1) % 2) : Nat) : Int)) (fun _ => trivial) (wn rfl) rfl (ex_move rfl rfl) ?_
          replace hv := hv.front 1 rfl
          simp only [List.eraseIdx_cons_succ, List.eraseIdx_cons_zero] at hv
          refine wpi_callG stcallable26 (fun _ => trivial) wideC rfl (wn rfl) rfl (args := #[.pointer (some ⟨p9, 0, none⟩), .int .i64 ((6 * (1 - (i + 1) % 2) : Nat) : Int), .int .i64 6]) (by simp only [List.map_toArray, List.map_cons, List.map_nil]; rfl) ((diskReadOk _ _ _ p9 _ _ (6 * (1 - (i + 1) % 2)) 6 hv D (rest_tick hR) (by rw [hR.pend]; decide) (rest_has hR _ (by omega)) (by rw [hR.left]; decide) (by decide) (by omega) (by rw [hR.len]; omega)).mono ?_)
          rintro e w42 ⟨b41, rfl, F40, hv⟩
          refine ⟨_, rfl, ?_⟩
          have hokD : D.Ok := (hv.get 1 rfl : DiskAt _ _ D _).1
          have hflD := rest_flat hR hokD (1 - (i + 1) % 2) (by omega)
          simp only [Act.put, List.setIfInBounds_toArray, List.set_cons_succ, List.set_cons_zero]
          refine wpi_exG (v := .tuple #[.slice (some ⟨b41, 0, none⟩) 384 384, .int .i64 0]) (fun _ => trivial) (wn rfl) rfl (ex_move rfl rfl) ?_
          refine wpi_exG (v := .slice (some ⟨b41, 0, none⟩) 384 384) (fun _ => trivial) (wn rfl) rfl (ex_extract rfl rfl rfl) ?_
          refine wpi_exG (v := .int .i64 0) (fun _ => trivial) (wn rfl) rfl (ex_extract rfl rfl rfl) ?_
          simp only [Act.put, List.setIfInBounds_toArray, List.set_cons_succ, List.set_cons_zero]
          refine wpi_exG (v := .slice (some ⟨b41, 0, none⟩) 384 384) (fun _ => trivial) (wn rfl) rfl (ex_assign rfl rfl) ?_
          refine wpi_exG (v := .int .i64 0) (fun _ => trivial) (wn rfl) rfl (ex_assign rfl rfl) ?_
          refine wpListIn_nil ?_
          simp only [Act.put, List.setIfInBounds_toArray, List.set_cons_succ, List.set_cons_zero]
          refine then_normal (hK39 _ _ ?_)
          clear hK39 K39
          refine wpIn_seq_k (fun K43 hK43 => ?_)
          refine wpIn_seq_k (fun K44 hK44 => ?_)
          refine wpIn_region_lit ?_
          refine wpi_exG (v := .pointer (some ⟨q15, 0, none⟩)) (fun _ => trivial) (wn rfl) rfl (ex_move rfl rfl) ?_
          refine wpi_exG (v := .int .i64 (i : Int)) (fun _ => trivial) (wn rfl) rfl (ex_move rfl rfl) ?_
          refine wpi_exG (v := .slice (some ⟨rb, roff, none⟩) n ca) (fun _ => trivial) (wn rfl) rfl (ex_move rfl rfl) ?_
          simp only [Act.put, List.setIfInBounds_toArray, List.set_cons_succ, List.set_cons_zero]
          refine wpi_exG (v := .int .i64 (i : Int)) (fun _ => trivial) (wn rfl) rfl (ex_move rfl rfl) ?_
          refine wpi_exG (v := .pointer (some ⟨rb, roff + i, none⟩)) (fun _ => trivial) (wn rfl) rfl (ex_index rfl rfl rfl (run_idx1 (k := i) Try.underlying22 stes22 (by omega))) ?_
          refine wpi_exG (v := .slice ra l.length rc) (fun _ => trivial) (wn rfl) rfl (ex_load rfl rfl (run_load1 stna24 (hrow _ _ hv))) ?_
          simp only [Act.put, List.setIfInBounds_toArray, List.set_cons_succ, List.set_cons_zero]
          refine wpi_exG (v := .agg #[.int .i64 (i : Int), .slice ra l.length rc]) (fun _ => trivial) (wn rfl) rfl (ex_buildN (vs := #[(0, .int .i64 (i : Int)), (1, .slice ra l.length rc)]) rfl (by simp only [List.map_toArray, List.map_cons, List.map_nil]; rfl) (by kernel_rfl)) ?_
          replace hv := hv.front 1 rfl
          simp only [List.eraseIdx_cons_succ, List.eraseIdx_cons_zero] at hv
          replace hv := hv.front 2 rfl
          simp only [List.eraseIdx_cons_succ, List.eraseIdx_cons_zero] at hv
          refine wpi_callG stcallable36 (fun _ => trivial) wideC rfl (wn rfl) rfl (args := #[.pointer (some ⟨q15, 0, none⟩), .agg #[.int .i64 (i : Int), .slice ra l.length rc]]) (by simp only [List.map_toArray, List.map_cons, List.map_nil]; rfl) ((slotsSave _ _ _ q15 p9 0 6 i false D _ (i : Int) _ _ _ l (0 + ((i + 1) % 2) * 6) rfl (by omega) (by decide) (by decide) (by rw [hR.len]; omega) (by rw [hR.len]; decide) (by rw [hR.pend]; decide) rfl hrok hrd.any' hv).mono ?_)
          rintro e w46 ⟨F45, rfl, hv⟩
          refine ⟨_, rfl, ?_⟩
          rw [hsv] at hv ⊢
          refine wpi_exG (v := .bool false) (fun _ => trivial) (wn rfl) rfl (ex_neq (k := .i64) (m := 0) (n := 0) rfl rfl rfl (by decide)) ?_
          simp only [Act.put, List.setIfInBounds_toArray, List.set_cons_succ, List.set_cons_zero]
          refine wpi_exG (v := .bool false) (fun _ => trivial) (wn rfl) rfl (ex_move rfl rfl) ?_
          refine wpi_exG (v := .pointer (some ⟨q15, 0, none⟩)) (fun _ => trivial) (wanted_of (j := 9) (d := 72) (b := false) rfl rfl rfl) rfl (ex_move rfl rfl) ?_
          refine wpi_callG stcallable33 (fun _ => trivial) wideC rfl (wanted_of (j := 9) (d := 72) (b := false) rfl rfl rfl) rfl (args := #[.pointer (some ⟨q15, 0, none⟩)]) (by simp only [List.map_toArray, List.map_cons, List.map_nil]; rfl) ((slotsGeneration _ _ _ q15 p9 0 6 (i + 1) false (hv.front 0 rfl)).mono ?_)
          rintro e w47 ⟨rfl, rfl⟩
          refine ⟨_, rfl, ?_⟩
          simp only [Act.put, List.setIfInBounds_toArray, List.set_cons_succ, List.set_cons_zero]
          refine wpi_exG (v := .int .i64 ((i + 1 : Nat) : Int)) (fun _ => trivial) (wanted_of (j := 9) (d := 72) (b := false) rfl rfl rfl) rfl (ex_move rfl rfl) ?_
          refine wpi_exG (v := .bool false) (fun _ => trivial) (wanted_of (j := 9) (d := 72) (b := false) rfl rfl rfl) rfl (ex_neq (k := .i64) (m := ((i + 1 : Nat) : Int)) (n := ((i + 1 : Nat) : Int)) rfl rfl rfl (decide_eq_false (fun h => h rfl))) ?_
          refine wpi_exG (v := .bool false) (fun _ => trivial) (wn rfl) rfl (ex_pick (b := false) rfl rfl rfl) ?_
          refine wpListIn_nil ?_
          simp only [Act.put, List.setIfInBounds_toArray, List.set_cons_succ, List.set_cons_zero]
          refine then_normal (hK44 _ _ ?_)
          clear hK44 K44
          refine wpIn_cond_false rfl ?_
          refine wpIn_skip ?_
          refine then_normal (hK43 _ _ ?_)
          clear hK43 K43
          refine wpIn_seq_k (fun K48 hK48 => ?_)
          refine wpIn_region_lit ?_
          refine wpi_exG (v := .pointer (some ⟨p9, 0, none⟩)) (fun _ => trivial) (wn rfl) rfl (ex_move rfl rfl) ?_
          refine wpi_exG (v := .int .i64 ((6 * (1 - (i + 1) % 2) : Nat) : Int)) (fun _ => trivial) (wn rfl) rfl (ex_move rfl rfl) ?_
          replace hv := hv.front 1 rfl
          simp only [List.eraseIdx_cons_succ, List.eraseIdx_cons_zero] at hv
          refine wpi_callG stcallable26 (fun _ => trivial) wideC rfl (wn rfl) rfl (args := #[.pointer (some ⟨p9, 0, none⟩), .int .i64 ((6 * (1 - (i + 1) % 2) : Nat) : Int), .int .i64 6]) (by simp only [List.map_toArray, List.map_cons, List.map_nil]; rfl) ((diskReadOk _ _ _ p9 _ _ (6 * (1 - (i + 1) % 2)) 6 hv E (rest_tick hRE) (by rw [hRE.pend]; decide) (rest_has hRE _ (by omega)) (by rw [hRE.left]; decide) (by decide) (by omega) (by rw [hRE.len]; omega)).mono ?_)
          rintro e w51 ⟨b50, rfl, F49, hv⟩
          refine ⟨_, rfl, ?_⟩
          have hokE : E.Ok := (hv.get 1 rfl : DiskAt _ _ E _).1
          have hflE := rest_flat hRE hokE (1 - (i + 1) % 2) (by omega)
          simp only [Act.put, List.setIfInBounds_toArray, List.set_cons_succ, List.set_cons_zero]
          refine wpi_exG (v := .tuple #[.slice (some ⟨b50, 0, none⟩) 384 384, .int .i64 0]) (fun _ => trivial) (wn rfl) rfl (ex_move rfl rfl) ?_
          refine wpi_exG (v := .slice (some ⟨b50, 0, none⟩) 384 384) (fun _ => trivial) (wn rfl) rfl (ex_extract rfl rfl rfl) ?_
          refine wpi_exG (v := .int .i64 0) (fun _ => trivial) (wn rfl) rfl (ex_extract rfl rfl rfl) ?_
          simp only [Act.put, List.setIfInBounds_toArray, List.set_cons_succ, List.set_cons_zero]
          refine wpi_exG (v := .slice (some ⟨b50, 0, none⟩) 384 384) (fun _ => trivial) (wn rfl) rfl (ex_assign rfl rfl) ?_
          refine wpi_exG (v := .int .i64 0) (fun _ => trivial) (wn rfl) rfl (ex_assign rfl rfl) ?_
          refine wpListIn_nil ?_
          simp only [Act.put, List.setIfInBounds_toArray, List.set_cons_succ, List.set_cons_zero]
          refine then_normal (hK48 _ _ ?_)
          clear hK48 K48
          refine wpIn_seq_k (fun K52 hK52 => ?_)
          refine wpIn_region_lit ?_
          refine wpi_exG (v := .slice (some ⟨b41, 0, none⟩) 384 384) (fun _ => trivial) (wn rfl) rfl (ex_move rfl rfl) ?_
          refine wpi_exG (v := .string ⟨((D.view D.pend (6 * (1 - (i + 1) % 2)) 6).flatten).toArray⟩) (fun _ => trivial) (wn rfl) rfl (ex_str Try.underlying24 Try.underlying5 Try.underlying9 rfl rfl (bytes_view (hv.get 3 rfl)) (hflD)) ?_
          refine wpi_exG (v := .slice (some ⟨b50, 0, none⟩) 384 384) (fun _ => trivial) (wn rfl) rfl (ex_move rfl rfl) ?_
          simp only [Act.put, List.setIfInBounds_toArray, List.set_cons_succ, List.set_cons_zero]
          refine wpi_exG (v := .string ⟨((E.view E.pend (6 * (1 - (i + 1) % 2)) 6).flatten).toArray⟩) (fun _ => trivial) (wn rfl) rfl (ex_str Try.underlying24 Try.underlying5 Try.underlying9 rfl rfl (bytes_view (hv.get 0 rfl)) (hflE)) ?_
          refine wpi_exG (v := .bool false) (fun _ => trivial) (wn rfl) rfl (ex_sneq (s := ((D.view D.pend (6 * (1 - (i + 1) % 2)) 6).flatten)) (s' := ((E.view E.pend (6 * (1 - (i + 1) % 2)) 6).flatten)) rfl rfl rfl (decide_eq_false (fun h => h (by rw [hview])))) ?_
          refine wpListIn_nil ?_
          simp only [Act.put, List.setIfInBounds_toArray, List.set_cons_succ, List.set_cons_zero]
          refine then_normal (hK52 _ _ ?_)
          clear hK52 K52
          refine wpIn_cond_false rfl ?_
          refine wpIn_skip ?_
          refine blk_normal ?_
          refine then_normal (hK32 _ _ ?_)
          clear hK32 K32
          refine wpIn_region_lit ?_
          refine wpi_exG (v := .int .i64 (i : Int)) (fun _ => trivial) (wn rfl) rfl (ex_move rfl rfl) ?_
          refine wpi_exG (v := .int .i64 ((i : Int) + 1)) (fun _ => trivial) (wn rfl) rfl (ex_add (m := (i : Int)) (n := 1) rfl rfl rfl (i64_in (by omega))) ?_
          refine wpi_exG (v := .int .i64 ((i : Int) + 1)) (fun _ => trivial) (wn rfl) rfl (ex_assign rfl rfl) ?_
          refine wpListIn_nil ?_
          simp only [Act.put, List.setIfInBounds_toArray, List.set_cons_succ, List.set_cons_zero]
          refine then_normal ?_
          go_roundw
          case rel => exact ⟨i + 1, _, _, by simp, by omega, hRE, (((hv.front 1 rfl).front 2 rfl).sub (List.Sublist.cons_cons _ (List.Sublist.cons_cons _ (List.Sublist.cons _ (List.Sublist.cons _ (List.Sublist.refl _))))))⟩
          case measure => show n - ((i : Int) + 1).toNat < n - (i : Int).toNat; omega
      · refine wpi_exG (v := .bool false) (fun _ => trivial) (wn rfl) rfl (ex_lss (k := .i64) (m := (i : Int)) (n := (n : Int)) rfl rfl rfl (decide_eq_false hb31)) ?_
        refine wpListIn_nil ?_
        simp only [Act.put, List.setIfInBounds_toArray, List.set_cons_succ, List.set_cons_zero]
        refine then_normal (hK30 _ _ ?_)
        clear hK30 K30
        refine wpIn_cond_false rfl ?_
        refine wpIn_exit ?_
        refine then_exit ?_
        clear hK29 K29
        refine then_exit ?_
        refine blk_hit ?_
        refine then_normal (hK26 _ _ ?_)
        clear hK26 K26
        refine wpIn_seq_k (fun K53 hK53 => ?_)
        refine wpIn_region_lit ?_
        refine wpi_exG (v := .bool true) (fun _ => trivial) (wn rfl) rfl (ex_assign rfl rfl) ?_
        refine wpListIn_nil ?_
        simp only [Act.put, List.setIfInBounds_toArray, List.set_cons_succ, List.set_cons_zero]
        refine then_normal (hK53 _ _ ?_)
        clear hK53 K53
        refine wpIn_ret ?_
        refine bodyPost_ret (results_tmp rfl _ _ _) rfl ?_
        exact ⟨rfl, hv.tail 2⟩
theorem rep_rows {W : World} {cs : List Value} {l : List (List UInt8)} (h : Rep W (· < W.heap.size) (.slice (.slice (.int .u8))) cs l) :
    ∃ a cap, cs = [.slice a l.length cap] ∧ SliceOk a l.length cap ∧ RdRows8 (Base.of W) a l := by
  obtain ⟨a, cap, h1, h2, h3⟩ := rep_rows8.1 h
  refine ⟨a, cap, h1, h2, fun i hi => ?_⟩
  obtain ⟨b, off, a', c', e1, e2, e3, e4, e5⟩ := h3 i hi
  refine ⟨b, off, a', c', e1, fun H w hv => ?_, e4, rdV_of W e5.src⟩
  rw [← e3]
  exact World.cell?_of_block (by rw [Array.getElem?_eq_getElem e2]; exact hv.base.blk b _ (Array.getElem?_eq_getElem e2))
end Go.Proofs.Ytkannfkjnohdlaa
/- SlotsKeep, as plain data: which slot counts after saves, failures and crashes. -/
namespace Go.Proofs.Ytkannfkjnohdlaa
open Go.RowKit Go.Pm
/-- the octets of slot j -/
def slotB (d : List (List UInt8)) (n j : Nat) : List UInt8 := ((List.range n).map (fun k => d.getD (j * n + k) [])).flatten
theorem flat_drop (L : List (List UInt8)) (h : ∀ s ∈ L, s.length = 64) (a : Nat) : L.flatten.drop (a * 64) = (L.drop a).flatten := by
  induction a generalizing L with
  | zero => simp
  | succ a ih =>
    cases L with
    | nil => simp
    | cons s L =>
      have hs : s.length = 64 := h s (by simp)
      rw [List.flatten_cons, List.drop_succ_cons, ← ih L (fun x hx => h x (by simp [hx])), List.drop_append, List.drop_eq_nil_of_le (by omega), List.nil_append]
      congr 1
      omega
theorem flat_take (L : List (List UInt8)) (h : ∀ s ∈ L, s.length = 64) (a : Nat) : L.flatten.take (a * 64) = (L.take a).flatten := by
  induction a generalizing L with
  | zero => simp
  | succ a ih =>
    cases L with
    | nil => simp
    | cons s L =>
      have hs : s.length = 64 := h s (by simp)
      rw [List.flatten_cons, List.take_succ_cons, List.flatten_cons, ← ih L (fun x hx => h x (by simp [hx])), List.take_append, List.take_of_length_le (by omega)]
      congr 2
      omega
theorem flat_piece (L : List (List UInt8)) (h : ∀ s ∈ L, s.length = 64) (a m : Nat) : piece L.flatten (a * 64) (m * 64) = ((L.drop a).take m).flatten := by
  unfold piece
  rw [flat_drop L h, flat_take _ (fun s hs => h s (List.mem_of_mem_drop hs))]
theorem slot_view {D : Disk} (hok : D.Ok) (hp : D.pend = []) {n j : Nat} (hl : D.dur.length = 2 * n) (hj : j < 2) : slotOf (D.view D.pend 0 (2 * n)).flatten n j = slotB D.dur n j := by
  have hjn : j * n ≤ n := by rcases (show j = 0 ∨ j = 1 by omega) with h | h <;> rw [h] <;> omega
  unfold slotOf
  rw [flat_piece _ (fun s hs => ?_)]
  · unfold slotB
    congr 1
    apply List.ext_getElem
    · simp [Disk.view]; omega
    · intro i h1 h2
      simp [Disk.view, hp, Disk.over]
  · rw [hp] at hs
    simp only [Disk.view, Disk.over, List.foldl_nil, List.mem_map, List.mem_range, Nat.zero_add] at hs
    obtain ⟨k, hk, rfl⟩ := hs
    refine hok.dur _ ?_
    rw [List.getD_eq_getElem?_getD, List.getElem?_eq_getElem (by omega)]
    exact List.getElem_mem _
theorem slot_head (d : List (List UInt8)) (n j : Nat) (hn : 1 ≤ n) : slotB d n j = d.getD (j * n) [] ++ ((List.range (n - 1)).map (fun k => d.getD (j * n + 1 + k) [])).flatten := by
  obtain ⟨m, rfl⟩ : ∃ m, n = m + 1 := ⟨n - 1, by omega⟩
  unfold slotB
  rw [List.range_succ_eq_map, List.map_cons, List.flatten_cons, List.map_map]
  congr 2
  apply List.map_congr_left
  intro k _
  show d.getD (j * (m + 1) + (k + 1)) [] = d.getD (j * (m + 1) + 1 + k) []
  congr 1
  omega
theorem piece_head {hd rest : List UInt8} {i m : Nat} (h : i + m ≤ hd.length) : piece (hd ++ rest) i m = piece hd i m := by
  unfold piece
  rw [List.drop_append_of_le_length (by omega), List.take_append_of_le_length (by simp; omega)]
theorem piece_app {s x y z : List UInt8} {i m : Nat} (hs : s = x ++ (y ++ z)) (hi : x.length = i) (hm : y.length = m) : piece s i m = y := by
  subst hi hm
  rw [hs]
  unfold piece
  rw [List.drop_left, List.take_left]
theorem ckG_head {hd rest : List UInt8} (h : hd.length = 64) : ckG (hd ++ rest) = ckG hd := by
  unfold ckG
  rw [piece_head (by omega)]
/-- a header and its body are a checkpoint -/
theorem ck_made (g st : Nat) (l r : List UInt8) (h1 : 1 ≤ g) (h2 : g < 9223372036854775808) (h3 : st ≤ 1152921504606846975) (h4 : l.length ≤ 1048576) :
    CkOk (headOf g st l ++ (l ++ r)) (g % 2) ∧ ckG (headOf g st l ++ (l ++ r)) = g ∧ ckT (headOf g st l ++ (l ++ r)) = st ∧ ckB (headOf g st l ++ (l ++ r)) = l := by
  have e8 : (256 : Nat) ^ 8 = 18446744073709551616 := by decide
  have e4 : (256 : Nat) ^ 4 = 4294967296 := by decide
  have hg : ckG (headOf g st l ++ (l ++ r)) = g := by
    unfold ckG
    rw [piece_app (x := [83]) (y := beOf 8 g) (z := (beOf 8 st ++ (beOf 4 l.length ++ (beOf 4 (Crc.sum l) ++ (List.replicate 39 0 ++ (l ++ r)))))) (i := 1) (by simp only [headOf, List.append_assoc]) rfl (beOf_length _ _), numOf_be _ _ (by omega)]
  have ht : ckT (headOf g st l ++ (l ++ r)) = st := by
    unfold ckT
    rw [piece_app (x := [83] ++ beOf 8 g) (y := beOf 8 st) (z := (beOf 4 l.length ++ (beOf 4 (Crc.sum l) ++ (List.replicate 39 0 ++ (l ++ r))))) (by simp only [headOf, List.append_assoc]) (by rw [List.length_append, beOf_length]; rfl) (beOf_length _ _), numOf_be _ _ (by omega)]
  have hn : ckN (headOf g st l ++ (l ++ r)) = l.length := by
    unfold ckN
    rw [piece_app (x := [83] ++ beOf 8 g ++ beOf 8 st) (y := beOf 4 l.length) (z := (beOf 4 (Crc.sum l) ++ (List.replicate 39 0 ++ (l ++ r)))) (by simp only [headOf, List.append_assoc]) (by rw [List.length_append, List.length_append, beOf_length, beOf_length]; rfl) (beOf_length _ _), numOf_be _ _ (by omega)]
  have hb : ckB (headOf g st l ++ (l ++ r)) = l := by
    unfold ckB
    rw [hn, piece_app rfl (headOf_len _ _ _) rfl]
  have hs : numOf (piece (headOf g st l ++ (l ++ r)) 21 4) = Crc.sum l := by
    rw [piece_app (x := [83] ++ beOf 8 g ++ beOf 8 st ++ beOf 4 l.length) (y := beOf 4 (Crc.sum l)) (z := (List.replicate 39 0 ++ (l ++ r))) (by simp only [headOf, List.append_assoc]) (by rw [List.length_append, List.length_append, List.length_append, beOf_length, beOf_length, beOf_length]; rfl) (beOf_length _ _), numOf_be _ _ (by have := Crc.sum_lt l; omega)]
  refine ⟨⟨?_, fun j hj => ?_, by omega, by omega, by rw [hg], by omega, by omega, ?_, by rw [hb, hs]⟩, hg, ht, hb⟩
  · simp only [headOf, List.append_assoc]
    rfl
  · have e : headOf g st l ++ (l ++ r) = ([83] ++ beOf 8 g ++ beOf 8 st ++ beOf 4 l.length ++ beOf 4 (Crc.sum l)) ++ (List.replicate 39 0 ++ (l ++ r)) := by simp only [headOf, List.append_assoc]
    have hl : ([83] ++ beOf 8 g ++ beOf 8 st ++ beOf 4 l.length ++ beOf 4 (Crc.sum l)).length = 25 := by
      rw [List.length_append, List.length_append, List.length_append, List.length_append, beOf_length, beOf_length, beOf_length, beOf_length]; rfl
    rw [e, List.getElem?_append_right (by omega), hl, Nat.add_sub_cancel_left, List.getElem?_append_left (by rw [List.length_replicate]; exact hj), List.getElem?_replicate, if_pos hj]
  · rw [hn, List.length_append, headOf_len, List.length_append]; omega
/-- a text lies in its sectors -/
theorem text_sectors (m : Nat) (l : List UInt8) (f : Nat → List UInt8) (hm : Disk.nsec l ≤ m) (hf : ∀ k, k < Disk.nsec l → f k = Disk.sector l k) : ∃ r, ((List.range m).map f).flatten = l ++ r := by
  induction m generalizing l f with
  | zero =>
    have : l.length = 0 := by unfold Disk.nsec at hm; omega
    exact ⟨[], by rw [List.length_eq_zero_iff.1 this]; rfl⟩
  | succ m ih =>
    by_cases h0 : l.length = 0
    · exact ⟨_, by rw [List.length_eq_zero_iff.1 h0]; rfl⟩
    · have hf0 := hf 0 (nsec_pos h0)
      rw [List.range_succ_eq_map, List.map_cons, List.flatten_cons, List.map_map, hf0]
      unfold Disk.sector Disk.pad
      rw [Nat.mul_zero, List.drop_zero]
      by_cases h1 : l.length ≤ 64
      · rw [List.take_of_length_le h1, List.append_assoc]
        exact ⟨_, rfl⟩
      · have hn : Disk.nsec (l.drop 64) + 1 = Disk.nsec l := by unfold Disk.nsec; rw [List.length_drop]; omega
        obtain ⟨r, hr⟩ := ih (l.drop 64) (f ∘ Nat.succ) (by omega) (fun k hk => by
          show f (k + 1) = _
          rw [hf (k + 1) (by omega)]
          unfold Disk.sector
          rw [List.drop_drop]
          congr 3
          omega)
        refine ⟨r, ?_⟩
        rw [hr, List.length_take, Nat.min_eq_left (by omega), Nat.sub_self, List.replicate_zero, List.append_nil, ← List.append_assoc, List.take_append_drop]
/-- what the sectors say: g is the current generation -/
structure KHead (d : List (List UInt8)) (n g : Nat) (has : Bool) (st : Int) (b : List UInt8) : Prop where
  len : d.length = 2 * n
  s64 : ∀ s ∈ d, s.length = 64
  old : (d.getD (((g + 1) % 2) * n) [])[0]? ≠ some 83 ∨ ckG (d.getD (((g + 1) % 2) * n) []) < g
  none : has = false → g = 0 ∧ st = 0 ∧ b = [] ∧ (d.getD 0 [])[0]? ≠ some 83
  some : has = true → CkOk (slotB d n (g % 2)) (g % 2) ∧ ckG (slotB d n (g % 2)) = g ∧ (ckT (slotB d n (g % 2)) : Int) = st ∧ ckB (slotB d n (g % 2)) = b
theorem KHead.sec64 {d : List (List UInt8)} {n g : Nat} {has : Bool} {st : Int} {b : List UInt8} (h : KHead d n g has st b) {k : Nat} (hk : k < 2 * n) : (d.getD k []).length = 64 := by
  rw [List.getD_eq_getElem?_getD, List.getElem?_eq_getElem (by have := h.len; omega)]
  exact h.s64 _ (List.getElem_mem _)
theorem ck_hd {d : List (List UInt8)} {n j : Nat} (hn : 1 ≤ n) (h : (d.getD (j * n) []).length = 64) : (slotB d n j)[0]? = (d.getD (j * n) [])[0]? ∧ ckG (slotB d n j) = ckG (d.getD (j * n) []) := by
  rw [slot_head d n j hn, ckG_head h, List.getElem?_append_left (by omega)]
  exact ⟨rfl, rfl⟩
theorem half {j n : Nat} (hj : j < 2) (hn : 1 ≤ n) : j * n < 2 * n ∧ j * n ≤ n := by rcases (show j = 0 ∨ j = 1 by omega) with h | h <;> rw [h] <;> omega
/-- the other slot does not count -/
theorem KHead.other {d : List (List UInt8)} {n g : Nat} {has : Bool} {st : Int} {b : List UInt8} (h : KHead d n g has st b) (hn : 1 ≤ n) {j : Nat} (hj : j = (g + 1) % 2) (hk : CkOk (slotB d n j) j) : ckG (slotB d n j) < g := by
  have hh := ck_hd (d := d) (n := n) (j := j) hn (h.sec64 (half (by omega) hn).1)
  have ho := h.old
  rw [← hj] at ho
  rcases ho with ho | ho
  · exact absurd (hh.1.symm.trans hk.mark) ho
  · rw [hh.2]; exact ho
theorem KHead.cur {D : Disk} {n g : Nat} {has : Bool} {st : Int} {b : List UInt8} (h : KHead D.dur n g has st b) (hok : D.Ok) (hp : D.pend = []) (hn : 1 ≤ n) {c : Option (List UInt8)} (hc : CurI (D.view D.pend 0 (2 * n)).flatten n 2 c) :
    cG c = g ∧ (cT c : Int) = st ∧ cB c = b ∧ decide ((cG c : Int) > 0) = has := by
  have e0 := slot_view hok hp h.len (show 0 < 2 by omega)
  have e1 := slot_view hok hp h.len (show 1 < 2 by omega)
  have hh0 := ck_hd (d := D.dur) (n := n) (j := 0) hn (h.sec64 (half (by omega) hn).1)
  cases has with
  | false =>
    obtain ⟨rfl, rfl, rfl, h0⟩ := h.none rfl
    have n0 : ¬ CkOk (slotB D.dur n 0) 0 := fun hk => by
      have := hh0.1.symm.trans hk.mark
      rw [Nat.zero_mul] at this
      exact h0 this
    have n1 : ¬ CkOk (slotB D.dur n 1) 1 := fun hk => absurd (h.other hn rfl hk) (by omega)
    have : c = Option.none := by
      cases hc with
      | no hc _ =>
        cases hc with
        | no hc _ => cases hc; rfl
        | yes _ h1 _ => rw [e0] at h1; exact absurd h1 n0
      | yes _ h1 _ => rw [e1] at h1; exact absurd h1 n1
    subst this
    exact ⟨rfl, rfl, rfl, rfl⟩
  | true =>
    obtain ⟨h1, h2, h3, h4⟩ := h.some rfl
    have hg1 : 1 ≤ g := by have := h1.g1; omega
    have : c = Option.some (slotB D.dur n (g % 2)) := by
      rcases (show g % 2 = 0 ∨ g % 2 = 1 by omega) with hm | hm
      · rw [hm] at h1 h2 ⊢
        have ho : CkOk (slotB D.dur n 1) 1 → ckG (slotB D.dur n 1) < g := h.other hn (by omega)
        cases hc with
        | no hc _ =>
          cases hc with
          | no hc hno =>
            cases hc
            rw [e0] at hno
            exact absurd ⟨h1, by show ckG _ > 0; omega⟩ hno
          | yes _ _ _ => rw [e0]
        | @yes _ c' hc k1 k2 =>
          rw [e1] at k1 k2
          have := ho k1
          cases hc with
          | no hc hno =>
            cases hc
            rw [e0] at hno
            exact absurd ⟨h1, by show ckG _ > 0; omega⟩ hno
          | yes _ _ _ =>
            rw [e0] at k2
            have k3 : ckG (slotB D.dur n 1) > ckG (slotB D.dur n 0) := k2
            omega
      · rw [hm] at h1 h2 ⊢
        have ho : CkOk (slotB D.dur n 0) 0 → ckG (slotB D.dur n 0) < g := h.other hn (by omega)
        cases hc with
        | @no _ c' hc hno =>
          rw [e1] at hno
          refine absurd ⟨h1, ?_⟩ hno
          cases hc with
          | no hc _ => cases hc; show ckG _ > 0; omega
          | yes _ k1 _ =>
            rw [e0] at k1 ⊢
            have := ho k1
            show ckG _ > ckG _
            omega
        | yes _ _ _ => rw [e1]
    subst this
    refine ⟨h2, h3, h4, ?_⟩
    show decide ((ckG _ : Int) > 0) = true
    rw [h2]
    exact decide_eq_true (by omega)
/-- nothing that counts has been touched -/
theorem KHead.keep {d d' : List (List UInt8)} {n g : Nat} {has : Bool} {st : Int} {b : List UInt8} (h : KHead d n g has st b) (hl : d'.length = d.length) (h64 : ∀ s ∈ d', s.length = 64)
    (hs : ∀ k, (k < ((g + 1) % 2) * n + 1 ∨ ((g + 1) % 2) * n + n ≤ k) → d'.getD k [] = d.getD k []) : KHead d' n g has st b := by
  have hsl : slotB d' n (g % 2) = slotB d n (g % 2) := by
    unfold slotB
    congr 1
    apply List.map_congr_left
    intro k hk
    have hk := List.mem_range.1 hk
    apply hs
    rcases (show g % 2 = 0 ∨ g % 2 = 1 by omega) with hm | hm
    · have : (g + 1) % 2 = 1 := by omega
      rw [hm, this]; omega
    · have : (g + 1) % 2 = 0 := by omega
      rw [hm, this]; omega
  refine ⟨hl.trans h.len, h64, ?_, fun hh => ?_, fun hh => ?_⟩
  · rw [hs _ (by omega)]; exact h.old
  · obtain ⟨h1, h2, h3, h4⟩ := h.none hh
    refine ⟨h1, h2, h3, ?_⟩
    rw [hs 0 (.inl (by omega))]; exact h4
  · rw [hsl]; exact h.some hh
/-- a new checkpoint stands -/
theorem KHead.next {d d' : List (List UInt8)} {n g : Nat} {has : Bool} {st st' : Int} {b b' : List UInt8} (h : KHead d n g has st b) (hn : 1 ≤ n) (hl : d'.length = d.length) (h64 : ∀ s ∈ d', s.length = 64)
    (hs : d'.getD ((g % 2) * n) [] = d.getD ((g % 2) * n) []) (h1 : CkOk (slotB d' n ((g + 1) % 2)) ((g + 1) % 2)) (h2 : ckG (slotB d' n ((g + 1) % 2)) = g + 1) (h3 : (ckT (slotB d' n ((g + 1) % 2)) : Int) = st') (h4 : ckB (slotB d' n ((g + 1) % 2)) = b') :
    KHead d' n (g + 1) true st' b' := by
  refine ⟨hl.trans h.len, h64, ?_, fun hh => (by cases hh), fun _ => ⟨h1, h2, h3, h4⟩⟩
  have e : (g + 1 + 1) % 2 = g % 2 := by omega
  rw [e, hs]
  cases has with
  | false =>
    obtain ⟨rfl, _, _, h0⟩ := h.none rfl
    left
    rw [show 0 % 2 * n = 0 by simp]
    exact h0
  | true =>
    obtain ⟨_, k2, _, _⟩ := h.some rfl
    right
    rw [← (ck_hd (d := d) (n := n) (j := g % 2) hn (h.sec64 (half (by omega) hn).1)).2, k2]
    omega
end Go.Proofs.Ytkannfkjnohdlaa
/- SlotsKeep, as plain data: saves, crashes. -/
namespace Go.Proofs.Ytkannfkjnohdlaa
open Go.RowKit Go.Pm
theorem put_getD (l : List (Nat × List UInt8)) (d : List (List UInt8)) (k : Nat) (hl : ∀ p ∈ l, p.1 ≠ k) : (l.foldl Disk.put d).getD k [] = d.getD k [] := by
  rw [List.getD_eq_getElem?_getD, List.getD_eq_getElem?_getD, put_other l d k hl]
theorem set_getD (d : List (List UInt8)) (a k : Nat) (s : List UInt8) (h : a ≠ k) : (d.set a s).getD k [] = d.getD k [] := by
  rw [List.getD_eq_getElem?_getD, List.getD_eq_getElem?_getD, List.getElem?_set_ne h]
theorem set_getD' (d : List (List UInt8)) (a : Nat) (s : List UInt8) (h : a < d.length) : (d.set a s).getD a [] = s := by
  rw [List.getD_eq_getElem?_getD, List.getElem?_set_self h]
  rfl
theorem put_writes (a : Nat) (l : List UInt8) (m : Nat) (d : List (List UInt8)) (h : a + m ≤ d.length) (k : Nat) (hk : k < m) : ((Disk.writesOf a l m).foldl Disk.put d).getD (a + k) [] = Disk.sector l k := by
  induction m with
  | zero => omega
  | succ m ih =>
    have e : Disk.writesOf a l (m + 1) = Disk.writesOf a l m ++ [(a + m, Disk.sector l m)] := by
      unfold Disk.writesOf
      rw [List.range_succ, List.map_append]
      rfl
    rw [e, List.foldl_append]
    show (((Disk.writesOf a l m).foldl Disk.put d).set (a + m) (Disk.sector l m)).getD (a + k) [] = _
    by_cases hkm : k = m
    · subst hkm
      rw [set_getD' _ _ _ (by rw [Disk.foldl_put_length]; omega)]
    · rw [set_getD _ _ _ _ (by omega)]
      exact ih (by omega) (by omega)
theorem set64 {d : List (List UInt8)} (h : ∀ s ∈ d, s.length = 64) (a : Nat) {x : List UInt8} (hx : x.length = 64) : ∀ s ∈ d.set a x, s.length = 64 := fun s hs => by
  rcases List.mem_or_eq_of_mem_set hs with h1 | h1
  · exact h s h1
  · rw [h1]; exact hx
/-- the header goes on its body -/
theorem head_next {d : List (List UInt8)} {n g : Nat} {has : Bool} {st : Int} {b : List UInt8} (h : KHead d n g has st b) (hn : 1 ≤ n) (hg : g + 1 < 9223372036854775808) (st' : Nat) (h3 : st' ≤ 1152921504606846975) (l : List UInt8) (hl : Disk.nsec l ≤ n - 1) (h4 : l.length ≤ 1048576)
    (hb : ∀ k, k < Disk.nsec l → d.getD (((g + 1) % 2) * n + 1 + k) [] = Disk.sector l k) : KHead (d.set (((g + 1) % 2) * n) (headOf (g + 1) st' l)) n (g + 1) true (st' : Int) l := by
  have hat : ((g + 1) % 2) * n < d.length := by rw [h.len]; exact (half (by omega) hn).1
  have hsl : ∃ r, slotB (d.set (((g + 1) % 2) * n) (headOf (g + 1) st' l)) n ((g + 1) % 2) = headOf (g + 1) st' l ++ (l ++ r) := by
    rw [slot_head _ _ _ hn, set_getD' _ _ _ hat]
    obtain ⟨r, hr⟩ := text_sectors (n - 1) l (fun k => (d.set (((g + 1) % 2) * n) (headOf (g + 1) st' l)).getD ((g + 1) % 2 * n + 1 + k) []) hl (fun k hk => by
      show (d.set _ _).getD _ [] = _
      rw [set_getD _ _ _ _ (by omega)]
      exact hb k hk)
    exact ⟨r, by rw [hr]⟩
  obtain ⟨r, hr⟩ := hsl
  obtain ⟨c1, c2, c3, c4⟩ := ck_made (g + 1) st' l r (by omega) hg h3 h4
  rw [← hr] at c1 c2 c3 c4
  refine h.next hn (by simp) (set64 h.s64 _ (headOf_len _ _ _)) (set_getD _ _ _ _ ?_) c1 c2 (by rw [c3]) c4
  rcases (show g % 2 = 0 ∨ g % 2 = 1 by omega) with hm | hm
  · have : (g + 1) % 2 = 1 := by omega
    rw [hm, this]; omega
  · have : (g + 1) % 2 = 0 := by omega
    rw [hm, this]; omega
structure KState (D : Disk) (n g : Nat) (f has : Bool) (st : Int) (b : List UInt8) (ust : Int) (ub : List UInt8) : Prop where
  head : KHead D.dur n g has st b
  rest : f = false → D.pend = []
  fail : f = true → (∀ p ∈ D.pend, ((g + 1) % 2) * n + 1 ≤ p.1 ∧ p.1 < ((g + 1) % 2) * n + n) ∨ (∃ hd, D.pend = [(((g + 1) % 2) * n, hd)] ∧ KHead (D.dur.set (((g + 1) % 2) * n) hd) n (g + 1) true ust ub)
  plen : D.pend.length ≤ 100
theorem sector_whole {hd : List UInt8} (h : hd.length = 64) : Disk.sector hd 0 = hd := by
  unfold Disk.sector Disk.pad
  rw [Nat.mul_zero, List.drop_zero, List.take_of_length_le (by omega), h, Nat.sub_self, List.replicate_zero, List.append_nil]
theorem write_head {D : Disk} (hp : D.pend = []) (a : Nat) {hd : List UInt8} (h : hd.length = 64) : (D.write a hd).pend = [(a, hd)] := by
  have hs : Disk.nsec hd = 1 := by unfold Disk.nsec; rw [h]
  show D.pend ++ Disk.writesOf a hd (Disk.nsec hd) = _
  rw [hp, hs]
  show [(a + 0, Disk.sector hd 0)] = _
  rw [sector_whole h, Nat.add_zero]
theorem putHead_step {D : Disk} {n g : Nat} {has : Bool} {st : Int} {b : List UInt8} (h : KHead D.dur n g has st b) (hp : D.pend = []) (st' : Int) (l hd : List UInt8) (hh : hd.length = 64) (hx : KHead (D.dur.set (((g + 1) % 2) * n) hd) n (g + 1) true st' l) :
    ((putHead D (((g + 1) % 2) * n) hd).1 = 0 ∧ (putHead D (((g + 1) % 2) * n) hd).2.pend = [] ∧ KHead (putHead D (((g + 1) % 2) * n) hd).2.dur n (g + 1) true st' l) ∨
    ((putHead D (((g + 1) % 2) * n) hd).1 = 20 ∧ KState (putHead D (((g + 1) % 2) * n) hd).2 n g true has st b st' l) := by
  unfold putHead
  split
  · exact .inr ⟨rfl, h, fun _ => hp, fun _ => .inl (fun p hpp => by rw [hp] at hpp; cases hpp), by show D.pend.length ≤ 100; rw [hp]; decide⟩
  split
  · refine .inr ⟨rfl, h, fun hh => (by cases hh), fun _ => .inr ⟨hd, write_head hp _ hh, hx⟩, ?_⟩
    show (D.write _ hd).pend.length ≤ 100
    rw [write_head hp _ hh, List.length_singleton]
    omega
  · refine .inl ⟨rfl, rfl, ?_⟩
    show KHead ((D.write _ hd).pend.foldl Disk.put D.dur) _ _ _ _ _
    rw [write_head hp _ hh]
    exact hx
theorem putAll_step {D : Disk} {n g : Nat} {has : Bool} {st : Int} {b : List UInt8} (h : KHead D.dur n g has st b) (hp : D.pend = []) (hn : 1 ≤ n) (hn2 : n ≤ 12) (hg : g + 1 < 9223372036854775808) (st' : Nat) (h3 : st' ≤ 1152921504606846975) (l : List UInt8) (hl : Disk.nsec l ≤ n - 1) (h4 : l.length ≤ 1048576) :
    ((putAll' D (((g + 1) % 2) * n) l (headOf (g + 1) st' l)).1 = 0 ∧ (putAll' D (((g + 1) % 2) * n) l (headOf (g + 1) st' l)).2.pend = [] ∧ KHead (putAll' D (((g + 1) % 2) * n) l (headOf (g + 1) st' l)).2.dur n (g + 1) true st' l) ∨
    ((putAll' D (((g + 1) % 2) * n) l (headOf (g + 1) st' l)).1 = 20 ∧ KState (putAll' D (((g + 1) % 2) * n) l (headOf (g + 1) st' l)).2 n g true has st b st' l) := by
  have hat := half (j := (g + 1) % 2) (by omega) hn
  have hpw : (D.write (((g + 1) % 2) * n + 1) l).pend = Disk.writesOf (((g + 1) % 2) * n + 1) l (Disk.nsec l) := by
    show D.pend ++ _ = _
    rw [hp, List.nil_append]
  unfold putAll'
  split
  · next h0 =>
    refine putHead_step h hp _ _ _ (headOf_len _ _ _) (head_next h hn hg st' h3 l hl h4 (fun k hk => ?_))
    unfold Disk.nsec at hk
    omega
  split
  · exact .inr ⟨rfl, h, fun _ => hp, fun _ => .inl (fun p hpp => by rw [hp] at hpp; cases hpp), by show D.pend.length ≤ 100; rw [hp]; decide⟩
  split
  · refine .inr ⟨rfl, h, fun hh => (by cases hh), fun _ => .inl (fun p hpp => ?_), ?_⟩
    · rw [hpw] at hpp
      have := Disk.writesOf_mem hpp
      omega
    · rw [hpw]
      simp only [Disk.writesOf, List.length_map, List.length_range]
      omega
  · have hd : ((D.write (((g + 1) % 2) * n + 1) l).sync).dur = (Disk.writesOf (((g + 1) % 2) * n + 1) l (Disk.nsec l)).foldl Disk.put D.dur := by
      show (D.write (((g + 1) % 2) * n + 1) l).pend.foldl Disk.put D.dur = _
      rw [hpw]
    have hk : KHead ((D.write (((g + 1) % 2) * n + 1) l).sync).dur n g has st b := by
      rw [hd]
      refine h.keep (Disk.foldl_put_length _ _) (Disk.foldl_put_mem h.s64 (fun p hpp => (Disk.writesOf_mem hpp).2.2)) (fun k hk => put_getD _ _ _ (fun p hpp => ?_))
      have := Disk.writesOf_mem hpp
      omega
    refine putHead_step hk rfl _ _ _ (headOf_len _ _ _) (head_next hk hn hg st' h3 l hl h4 (fun k hk => ?_))
    rw [hd]
    exact put_writes _ _ _ _ (by rw [h.len]; rcases (show (g + 1) % 2 = 0 ∨ (g + 1) % 2 = 1 by omega) with hm | hm <;> rw [hm] <;> omega) _ hk
theorem KState.save {D : Disk} {n g : Nat} {f has : Bool} {st : Int} {b : List UInt8} {ust : Int} {ub : List UInt8} (h : KState D n g f has st b ust ub) (hn : 1 ≤ n) (hn2 : n ≤ 12) (hg : g + 1 < 9223372036854775808) (st' : Int) (l : List UInt8) :
    ((saveOf D 0 n g f st' l).err = 0 ∧ f = false ∧ (saveOf D 0 n g f st' l).failed = false ∧ (saveOf D 0 n g f st' l).gen = g + 1 ∧ KState (saveOf D 0 n g f st' l).disk n (g + 1) false true st' l ust ub) ∨
    ((saveOf D 0 n g f st' l).err = 20 ∧ (saveOf D 0 n g f st' l).failed = true ∧ (saveOf D 0 n g f st' l).gen = g ∧ ((f = true ∧ KState (saveOf D 0 n g f st' l).disk n g true has st b ust ub) ∨ (f = false ∧ KState (saveOf D 0 n g f st' l).disk n g true has st b st' l))) ∨
    ((saveOf D 0 n g f st' l).err ≠ 0 ∧ (saveOf D 0 n g f st' l).err ≠ 20 ∧ (saveOf D 0 n g f st' l).failed = f ∧ (saveOf D 0 n g f st' l).gen = g ∧ KState (saveOf D 0 n g f st' l).disk n g f has st b ust ub) := by
  cases f with
  | true =>
    have e : saveOf D 0 n g true st' l = ⟨20, g, true, D⟩ := by unfold saveOf; rw [if_pos rfl]
    rw [e]
    exact .inr (.inl ⟨rfl, rfl, rfl, .inl ⟨rfl, h⟩⟩)
  | false =>
    by_cases h1 : st' < 0 ∨ st' > 1152921504606846975
    · have e : saveOf D 0 n g false st' l = ⟨2, g, false, D⟩ := by unfold saveOf; rw [if_neg (by decide), if_pos h1]
      rw [e]
      exact .inr (.inr ⟨by show (2 : Int) ≠ 0; decide, by show (2 : Int) ≠ 20; decide, rfl, rfl, h⟩)
    by_cases h2 : l.length > roomOf n
    · have e : saveOf D 0 n g false st' l = ⟨22, g, false, D⟩ := by unfold saveOf; rw [if_neg (by decide), if_neg h1, if_pos h2]
      rw [e]
      exact .inr (.inr ⟨by show (22 : Int) ≠ 0; decide, by show (22 : Int) ≠ 20; decide, rfl, rfl, h⟩)
    obtain ⟨s, rfl⟩ : ∃ s : Nat, st' = (s : Int) := ⟨st'.toNat, by omega⟩
    have hrm := room_le n
    have hp := putAll_step h.head (h.rest rfl) hn hn2 hg s (by omega) l (nsec_le (by omega)) (by omega)
    unfold saveOf
    rw [if_neg (by decide), if_neg h1, if_neg h2, Int.toNat_natCast, Nat.zero_add]
    rcases hp with ⟨p1, p2, p3⟩ | ⟨p1, p2⟩
    · rw [if_neg (by rw [p1]; decide)]
      exact .inl ⟨rfl, rfl, rfl, rfl, p3, fun _ => p2, fun hh => (by cases hh), by show (putAll' _ _ _ _).2.pend.length ≤ 100; rw [p2]; decide⟩
    · rw [if_pos (by rw [p1]; decide)]
      exact .inr (.inl ⟨p1, rfl, rfl, .inr ⟨rfl, p2⟩⟩)
theorem KState.crash {D : Disk} {n g : Nat} {f has : Bool} {st : Int} {b : List UInt8} {ust : Int} {ub : List UInt8} (h : KState D n g f has st b ust ub) (hok : D.Ok) (ks : List Int) :
    KHead (D.crash ks).dur n g has st b ∨ (f = true ∧ KHead (D.crash ks).dur n (g + 1) true ust ub) := by
  have hself : D.kept ks = [] → KHead (D.crash ks).dur n g has st b := fun e => by
    show KHead ((D.kept ks).foldl Disk.put D.dur) n g has st b
    rw [e]
    exact h.head
  cases f with
  | false =>
    refine .inl (hself ?_)
    unfold Disk.kept
    rw [h.rest rfl]
    rfl
  | true =>
    rcases h.fail rfl with hb | ⟨hd, hp, hk⟩
    · left
      refine h.head.keep (Disk.foldl_put_length _ _) (Disk.foldl_put_mem h.head.s64 (fun p hp => (hok.pend p (Disk.kept_mem hp)).2)) (fun k hk => put_getD _ _ _ (fun p hp => ?_))
      have := hb p (Disk.kept_mem hp)
      omega
    · by_cases hc : ks.contains ((0 : Nat) : Int) = true
      · right
        refine ⟨rfl, ?_⟩
        have e : D.kept ks = [(((g + 1) % 2) * n, hd)] := by
          unfold Disk.kept
          rw [hp, List.zipIdx_cons, List.zipIdx_nil, List.filter_cons_of_pos (by exact hc)]
          rfl
        show KHead ((D.kept ks).foldl Disk.put D.dur) n (g + 1) true ust ub
        rw [e]
        exact hk
      · refine .inl (hself ?_)
        unfold Disk.kept
        rw [hp, List.zipIdx_cons, List.zipIdx_nil, List.filter_cons_of_neg (by exact hc)]
        rfl
theorem KState.fresh {D : Disk} {n g : Nat} {has : Bool} {st : Int} {b : List UInt8} (h : KHead D.dur n g has st b) (hp : D.pend = []) (ust : Int) (ub : List UInt8) : KState D n g false has st b ust ub :=
  ⟨h, fun _ => hp, fun hh => (by cases hh), by rw [hp]; decide⟩
theorem KState.limit {D : Disk} {n g : Nat} {f has : Bool} {st : Int} {b : List UInt8} {ust : Int} {ub : List UInt8} (h : KState D n g f has st b ust ub) (m : Int) : KState (D.limit m) n g f has st b ust ub := by
  have e1 : (D.limit m).dur = D.dur := by unfold Disk.limit; split <;> rfl
  have e2 : (D.limit m).pend = D.pend := by unfold Disk.limit; split <;> rfl
  exact ⟨by rw [e1]; exact h.head, fun hh => by rw [e2]; exact h.rest hh, fun hh => by rw [e1, e2]; exact h.fail hh, by rw [e2]; exact h.plen⟩
theorem khead_zero {n : Nat} (hn : 1 ≤ n) : KHead (Disk.zero (2 * n)).dur n 0 false 0 [] := by
  have hz : ∀ k, k < 2 * n → ((Disk.zero (2 * n)).dur.getD k [])[0]? ≠ some 83 := fun k hk => by
    show ((List.replicate (2 * n) (List.replicate 64 (0 : UInt8))).getD k [])[0]? ≠ _
    rw [List.getD_eq_getElem?_getD, List.getElem?_replicate, if_pos hk, Option.getD_some, List.getElem?_replicate, if_pos (by decide)]
    decide
  refine ⟨List.length_replicate, fun s hs => ?_, .inl (hz _ (half (by omega) hn).1), fun _ => ⟨rfl, rfl, rfl, hz 0 (by omega)⟩, fun hh => (by cases hh)⟩
  rw [(List.mem_replicate.1 hs).2, List.length_replicate]
end Go.Proofs.Ytkannfkjnohdlaa
/- disk.Limit -/
namespace Go.Proofs.Ytkannfkjnohdlaa
open Go.RowKit Go.Pm

theorem lifa87_2 (w : World) (b o : Nat) : (Instr.fieldAt 87 (.pointer (some ⟨b, o, none⟩)) 2).run Try.prog w = .ok (.pointer (some ⟨b, o + 2, none⟩)) w := by kernel_rfl
theorem lina3 (w : World) : (isAgg 3).run Try.prog w = .ok false w := by kernel_rfl
theorem lisz3 : (Try.prog.info? 3).map (·.size) = some 1 := by kernel_rfl
set_option maxRecDepth 100000 in
set_option maxHeartbeats 2000000 in
theorem diskLimitSl (B : Base) (H : List Res) (w : World) (p : Nat) (D : Disk) (F : List Nat) (m : Int) (hm : m ≤ 9223372036854775807) (hv : Inv B (diskR p D F :: H) w) :
    Calls Try.prog 37 #[.pointer (some ⟨p, 0, none⟩), .int .i64 m] w fun e w' => ∃ F', e = .returned (.tuple #[]) ∧ Inv B (diskR p (D.limit m) F' :: H) w' := by
  obtain ⟨gd, vad, vc, hok, hv⟩ := Inv.diskOpen hv
  refine (callsIn_wide (n := 5)).1 ?_
  refine callsIn_of_wp Try.func37 rfl trivial ?_
  simp only [Try.ntmps37, List.size_toArray, List.length_cons, List.length_nil, Nat.reduceAdd, Nat.reduceSub, Array.replicate_succ, Array.replicate_zero, List.push_toArray, List.append_toArray, List.nil_append, List.cons_append]
  refine wpIn_seq_k (fun K1 hK1 => ?_)
  refine wpIn_region_lit ?_
  refine wpi_exG (v := .pointer (some ⟨p, 0, none⟩)) (fun _ => trivial) (wn rfl) rfl (ex_move rfl rfl) ?_
  refine wpi_exG (v := .pointer (some ⟨p, 0, none⟩)) (fun _ => trivial) (wn rfl) rfl (ex_nil rfl rfl) ?_
  refine wpi_exG (v := .pointer (some ⟨p, 2, none⟩)) (fun _ => trivial) (wn rfl) rfl (ex_field rfl rfl (lifa87_2 _ _ _)) ?_
  simp only [Act.put, List.setIfInBounds_toArray, List.set_cons_succ, List.set_cons_zero]
  refine wpi_exG (v := .int .i64 D.left) (fun _ => trivial) (wn rfl) rfl (ex_load rfl rfl (run_load1 lina3 (hv.load 0 2 rfl rfl))) ?_
  by_cases hb2 : D.left ≠ 0
  · refine wpi_exG (v := .bool true) (fun _ => trivial) (wn rfl) rfl (ex_neq (k := .i64) (m := D.left) (n := 0) rfl rfl rfl (decide_eq_true hb2)) ?_
    refine wpListIn_nil ?_
    simp only [Act.put, List.setIfInBounds_toArray, List.set_cons_succ, List.set_cons_zero]
    refine then_normal (hK1 _ _ ?_)
    clear hK1 K1
    refine wpIn_cond_true rfl ?_
    refine wpIn_region_lit ?_
    refine wpi_exG (v := .pointer (some ⟨p, 0, none⟩)) (fun _ => trivial) (wn rfl) rfl (ex_move rfl rfl) ?_
    refine wpi_exG (v := .int .i64 m) (fun _ => trivial) (wn rfl) rfl (ex_move rfl rfl) ?_
    refine wpi_exG (v := .int .i64 (if m < -1 then -1 else m)) (fun _ => trivial) (wn rfl) rfl (ex_max2 (m := m) (n := (-1)) rfl rfl rfl rfl) ?_
    simp only [Act.put, List.setIfInBounds_toArray, List.set_cons_succ, List.set_cons_zero]
    refine wpi_exG (v := .pointer (some ⟨p, 0, none⟩)) (fun _ => trivial) (wn rfl) rfl (ex_nil rfl rfl) ?_
    refine wpi_exG (v := .pointer (some ⟨p, 2, none⟩)) (fun _ => trivial) (wn rfl) rfl (ex_field rfl rfl (lifa87_2 _ _ _)) ?_
    refine sl_storeAt 0 (v := .int .i64 (if m < -1 then -1 else m)) (L' := [.slice (some ⟨gd, 0, none⟩) D.dur.length D.dur.length, .slice vad D.pend.length vc, .int .i64 (if m < -1 then -1 else m)]) (fun _ => trivial) (wn rfl) rfl rfl rfl hv rfl lisz3 (by simp) rfl rfl rfl (fun w3 hv => ?_)
    simp only [List.set_cons_succ, List.set_cons_zero] at hv
    refine wpListIn_nil ?_
    simp only [Act.put, List.setIfInBounds_toArray, List.set_cons_succ, List.set_cons_zero]
    go_end0
    have e : D.limit m = { D with left := (if m < -1 then -1 else m) } := by unfold Disk.limit; rw [if_neg (by omega)]
    rw [e]
    obtain ⟨F2, hv⟩ := Inv.diskClose (D := { D with left := (if m < -1 then -1 else m) }) ⟨hok.dur, hok.pos, hok.max, hok.pend, by show -1 ≤ (if m < -1 then -1 else m); split <;> omega, by show (if m < -1 then -1 else m) ≤ _; split <;> omega⟩ hv
    exact ⟨F2, rfl, hv⟩
  · refine wpi_exG (v := .bool false) (fun _ => trivial) (wn rfl) rfl (ex_neq (k := .i64) (m := D.left) (n := 0) rfl rfl rfl (decide_eq_false hb2)) ?_
    refine wpListIn_nil ?_
    simp only [Act.put, List.setIfInBounds_toArray, List.set_cons_succ, List.set_cons_zero]
    refine then_normal (hK1 _ _ ?_)
    clear hK1 K1
    refine wpIn_cond_false rfl ?_
    refine wpIn_skip ?_
    go_end0
    have e : D.limit m = D := by unfold Disk.limit; rw [if_pos (by omega)]
    rw [e]
    obtain ⟨F2, hv⟩ := Inv.diskClose hok hv
    exact ⟨F2, rfl, hv⟩
end Go.Proofs.Ytkannfkjnohdlaa
