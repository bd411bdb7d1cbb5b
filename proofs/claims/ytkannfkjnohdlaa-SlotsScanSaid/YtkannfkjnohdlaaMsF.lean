/- slots.Open -/
import Derived.Test.YtkannfkjnohdlaaMsE
import Derived.Test.YtkannfkjnohdlaaMsC
import Derived.Test.YtkannfkjnohdlaaMsB
import Derived.Test.YtkannfkjnohdlaaMsA
import Derived.Test.YtkannfkjnohdlaaMsD
import Derived.Laws.Strings2
import Derived.Laws.IdiomStrings
namespace Go.Proofs.Ytkannfkjnohdlaa
open Go.RowKit Go.Pm
theorem view_bytes8 (v : List (List UInt8)) : durCells v = v.flatten.map B8 := by
  unfold durCells
  rw [List.map_flatten]
theorem view_flat_len {E : Disk} (hok : E.Ok) {at_ n : Nat} (h : at_ + n ≤ E.dur.length) : (E.view E.pend at_ n).flatten.length = n * 64 := by
  have h64 := Disk.view_64 hok (l := E.pend) (fun p hp => (hok.pend p hp).2) h
  have := durCells_length h64
  rw [view_bytes8, List.length_map, Disk.view_len] at this
  exact this
def cG : Option (List UInt8) → Nat | none => 0 | some s => ckG s
def cT : Option (List UInt8) → Nat | none => 0 | some s => ckT s
def cB : Option (List UInt8) → List UInt8 | none => [] | some s => ckB s
def slotOf (rb : List UInt8) (each i : Nat) : List UInt8 := piece rb (i * each * 64) (each * 64)
/-- which slot counts, of the first i -/
inductive CurI (rb : List UInt8) (each : Nat) : Nat → Option (List UInt8) → Prop
  | zero : CurI rb each 0 none
  | no {i : Nat} {c : Option (List UInt8)} (h : CurI rb each i c) (hn : ¬ (CkOk (slotOf rb each i) i ∧ ckG (slotOf rb each i) > cG c)) : CurI rb each (i + 1) c
  | yes {i : Nat} {c : Option (List UInt8)} (h : CurI rb each i c) (h1 : CkOk (slotOf rb each i) i) (h2 : ckG (slotOf rb each i) > cG c) : CurI rb each (i + 1) (some (slotOf rb each i))
theorem ckB_len {s : List UInt8} {i : Nat} (h : CkOk s i) : (ckB s).length = ckN s := piece_length (by have := h.n2; omega)
theorem rd_slot {B : Base} {H : List Res} {b : Nat} {t : TypeId} {rb : List UInt8} (k : Nat) (hk : H[k]? = some (Res.cell b (rb.map B8) t)) (off n : Nat) (h : off + n ≤ rb.length) : RdV B H (some ⟨b, 0 + off, none⟩) ((piece rb off n).map B8) := by
  refine rdV_cell (L := rb.map B8) (t := t) (0 + off) (List.mem_of_getElem? hk) (fun i hi => ?_)
  have hl : i < n := by rw [List.length_map, piece_length (by omega)] at hi; exact hi
  have h1 : (piece rb off n)[i]? = rb[off + i]? := piece_get hl
  rw [List.getElem?_eq_getElem (by rw [piece_length (by omega)]; exact hl)] at h1
  rw [List.getElem?_map, Nat.zero_add, ← h1]
  simp
def slCells (p from_ each gen : Nat) (failed : Bool) : List Value := [.pointer (some ⟨p, 0, none⟩), .int .i64 (from_ : Int), .int .i64 (each : Int), .int .i64 (gen : Int), .bool failed]
theorem s5al55 (w : World) : (Instr.alloc 55 true (.tuple #[])).run Try.prog w = .ok (.pointer (some ⟨w.heap.size, 0, none⟩)) (w.alloc (.cells ([.int .i64 0, .slice none 0 0] : List Value).toArray 55)) := by kernel_rfl
theorem s5callable26 : Callable Try.prog 26 := ⟨_, Try.func26, by kernel_rfl, by kernel_rfl⟩
theorem s5es24 (w : World) : (sizeOf (Try.prog.elem 24)).run Try.prog w = .ok 1 w := by kernel_rfl
theorem s5callable50 : Callable Try.prog 50 := ⟨_, Try.func50, by kernel_rfl, by kernel_rfl⟩
theorem s5sz55 : (Try.prog.info? 55).map (·.size) = some 2 := by kernel_rfl
theorem s5fa102_3 (w : World) (b o : Nat) : (Instr.fieldAt 102 (.pointer (some ⟨b, o, none⟩)) 3).run Try.prog w = .ok (.pointer (some ⟨b, o + 3, none⟩)) w := by kernel_rfl
theorem s5na3 (w : World) : (isAgg 3).run Try.prog w = .ok false w := by kernel_rfl
theorem s5wd55 : Wide Try.prog 55 2 := wide_of (fun w => by kernel_rfl) (by kernel_rfl)
theorem s5sz3 : (Try.prog.info? 3).map (·.size) = some 1 := by kernel_rfl
set_option maxRecDepth 100000 in
set_option maxHeartbeats 2000000 in
theorem slotsOpen (B : Base) (H : List Res) (w : World) (p from_ each : Nat) (D E : Disk) (F : List Nat) (hE : D.tick = E) (hpl : E.pend.length ≤ 1000000000) (hhas : D.has (from_ : Int) ((2 * each : Nat) : Int) = true) (hl : D.left ≠ 0) (he1 : 1 ≤ each) (he2 : each ≤ 30000) (hfit : from_ + 2 * each ≤ E.dur.length) (hdm : E.dur.length ≤ 65536) (hv : Inv B (diskR p D F :: H) w) :
    Calls Try.prog 30 #[.pointer (some ⟨p, 0, none⟩), .int .i64 (from_ : Int), .int .i64 (each : Int)] w fun e w' => ∃ (q : Nat) (cur : Option (List UInt8)) (ad : Option Addr) (c : Nat) (F' : List Nat), CurI (E.view E.pend from_ (2 * each)).flatten each 2 cur ∧ e = .returned (.tuple #[.pointer (some ⟨q, 0, none⟩), .agg #[.int .i64 (cT cur : Int), .slice ad (cB cur).length c], .bool (decide ((cG cur : Int) > 0)), .int .i64 0]) ∧ Inv B (Res.cell q (slCells p from_ each (cG cur) false) 102 :: Res.row 5 1 (.slice ad (cB cur).length c) (cB cur).length ((cB cur).map B8) :: diskR p E F' :: H) w' := by
  refine (callsIn_wide (n := 5)).1 ?_
  refine callsIn_of_wp Try.func30 rfl trivial ?_
  simp only [Try.ntmps30, List.size_toArray, List.length_cons, List.length_nil, Nat.reduceAdd, Nat.reduceSub, Array.replicate_succ, Array.replicate_zero, List.push_toArray, List.append_toArray, List.nil_append, List.cons_append]
  refine wpIn_seq_k (fun K1 hK1 => ?_)
  refine wpIn_region_lit ?_
  refine wpi_exG (v := .pointer none) (fun _ => trivial) (wn rfl) rfl (ex_assign rfl rfl) ?_
  refine sl_alloc (fun _ => trivial) (wn rfl) rfl hv s5al55 (fun b2 w3 hv => ?_)
  refine wpi_exG (v := .bool false) (fun _ => trivial) (wn rfl) rfl (ex_assign rfl rfl) ?_
  simp only [Act.put, List.setIfInBounds_toArray, List.set_cons_succ, List.set_cons_zero]
  refine wpi_exG (v := .int .i64 0) (fun _ => trivial) (wn rfl) rfl (ex_assign rfl rfl) ?_
  refine wpListIn_nil ?_
  simp only [Act.put, List.setIfInBounds_toArray, List.set_cons_succ, List.set_cons_zero]
  refine then_normal (hK1 _ _ ?_)
  clear hK1 K1
  refine wpIn_seq_k (fun K4 hK4 => ?_)
  refine wpIn_seq_k (fun K5 hK5 => ?_)
  refine wpIn_region_lit ?_
  refine wpi_exG (v := .pointer (some ⟨p, 0, none⟩)) (fun _ => trivial) (wn rfl) rfl (ex_move rfl rfl) ?_
  refine wpi_exG (v := .bool false) (fun _ => trivial) (wn rfl) rfl (ex_pisnil Try.underlying36 rfl rfl rfl rfl) ?_
  refine wpListIn_nil ?_
  simp only [Act.put, List.setIfInBounds_toArray, List.set_cons_succ, List.set_cons_zero]
  refine then_normal (hK5 _ _ ?_)
  clear hK5 K5
  refine wpIn_cond_false rfl ?_
  refine wpIn_skip ?_
  refine then_normal (hK4 _ _ ?_)
  clear hK4 K4
  refine wpIn_seq_k (fun K6 hK6 => ?_)
  refine wpIn_seq_k (fun K7 hK7 => ?_)
  refine wpIn_region_lit ?_
  refine wpi_exG (v := .int .i64 (each : Int)) (fun _ => trivial) (wn rfl) rfl (ex_move rfl rfl) ?_
  refine wpi_exG (v := .bool false) (fun _ => trivial) (wn rfl) rfl (ex_lss (k := .i64) (m := (each : Int)) (n := 1) rfl rfl rfl (decide_eq_false (by omega))) ?_
  refine wpi_exG (v := .bool false) (fun _ => trivial) (wn rfl) rfl (ex_move rfl rfl) ?_
  simp only [Act.put, List.setIfInBounds_toArray, List.set_cons_succ, List.set_cons_zero]
  refine wpi_exG (v := .int .i64 (each : Int)) (fun _ => trivial) (wanted_of (j := 2) (d := 24) (b := false) rfl rfl rfl) rfl (ex_move rfl rfl) ?_
  refine wpi_exG (v := .bool false) (fun _ => trivial) (wanted_of (j := 2) (d := 24) (b := false) rfl rfl rfl) rfl (ex_gtr (k := .i64) (m := (each : Int)) (n := 65536) rfl rfl rfl (decide_eq_false (by omega))) ?_
  refine wpi_exG (v := .bool false) (fun _ => trivial) (wn rfl) rfl (ex_pick (b := false) rfl rfl rfl) ?_
  refine wpListIn_nil ?_
  simp only [Act.put, List.setIfInBounds_toArray, List.set_cons_succ, List.set_cons_zero]
  refine then_normal (hK7 _ _ ?_)
  clear hK7 K7
  refine wpIn_cond_false rfl ?_
  refine wpIn_skip ?_
  refine then_normal (hK6 _ _ ?_)
  clear hK6 K6
  refine wpIn_seq_k (fun K8 hK8 => ?_)
  refine wpIn_region_lit ?_
  refine wpi_exG (v := .pointer (some ⟨p, 0, none⟩)) (fun _ => trivial) (wn rfl) rfl (ex_move rfl rfl) ?_
  refine wpi_exG (v := .int .i64 (from_ : Int)) (fun _ => trivial) (wn rfl) rfl (ex_move rfl rfl) ?_
  refine wpi_exG (v := .int .i64 (each : Int)) (fun _ => trivial) (wn rfl) rfl (ex_move rfl rfl) ?_
  simp only [Act.put, List.setIfInBounds_toArray, List.set_cons_succ, List.set_cons_zero]
  refine wpi_exG (v := .int .i64 ((2 * each : Nat) : Int)) (fun _ => trivial) (wn rfl) rfl (ex_mul (m := 2) (n := (each : Int)) rfl rfl rfl (by rw [i64_in (by omega)]; omega)) ?_
  replace hv := hv.front 1 rfl
  simp only [List.eraseIdx_cons_succ, List.eraseIdx_cons_zero] at hv
  refine wpi_callG s5callable26 (fun _ => trivial) wideC rfl (wn rfl) rfl (args := #[.pointer (some ⟨p, 0, none⟩), .int .i64 (from_ : Int), .int .i64 ((2 * each : Nat) : Int)]) (by simp only [List.map_toArray, List.map_cons, List.map_nil]; rfl) ((diskReadOk _ _ _ p _ _ from_ (2 * each) hv E hE hpl hhas hl (by omega) (by omega) (by omega)).mono ?_)
  rintro e w11 ⟨b10, rfl, F9, hv⟩
  refine ⟨_, rfl, ?_⟩
  have hok : E.Ok := (hv.get 1 rfl : DiskAt _ _ E _).1
  have hrl := view_flat_len hok hfit
  rw [view_bytes8] at hv
  obtain ⟨rb, hrb⟩ : ∃ rb, rb = (E.view E.pend from_ (2 * each)).flatten := ⟨_, rfl⟩
  rw [← hrb] at hv hrl
  refine wpi_exG (v := .tuple #[.slice (some ⟨b10, 0, none⟩) (2 * each * 64) (2 * each * 64), .int .i64 0]) (fun _ => trivial) (wn rfl) rfl (ex_move rfl rfl) ?_
  simp only [Act.put, List.setIfInBounds_toArray, List.set_cons_succ, List.set_cons_zero]
  refine wpi_exG (v := .slice (some ⟨b10, 0, none⟩) (2 * each * 64) (2 * each * 64)) (fun _ => trivial) (wn rfl) rfl (ex_extract rfl rfl rfl) ?_
  refine wpi_exG (v := .int .i64 0) (fun _ => trivial) (wn rfl) rfl (ex_extract rfl rfl rfl) ?_
  refine wpi_exG (v := .slice (some ⟨b10, 0, none⟩) (2 * each * 64) (2 * each * 64)) (fun _ => trivial) (wn rfl) rfl (ex_assign rfl rfl) ?_
  simp only [Act.put, List.setIfInBounds_toArray, List.set_cons_succ, List.set_cons_zero]
  refine wpi_exG (v := .int .i64 0) (fun _ => trivial) (wn rfl) rfl (ex_assign rfl rfl) ?_
  refine wpListIn_nil ?_
  simp only [Act.put, List.setIfInBounds_toArray, List.set_cons_succ, List.set_cons_zero]
  refine then_normal (hK8 _ _ ?_)
  clear hK8 K8
  refine wpIn_seq_k (fun K12 hK12 => ?_)
  refine wpIn_seq_k (fun K13 hK13 => ?_)
  refine wpIn_region_lit ?_
  refine wpi_exG (v := .int .i64 0) (fun _ => trivial) (wn rfl) rfl (ex_move rfl rfl) ?_
  refine wpi_exG (v := .bool false) (fun _ => trivial) (wn rfl) rfl (ex_neq (k := .i64) (m := 0) (n := 0) rfl rfl rfl (by decide)) ?_
  refine wpListIn_nil ?_
  simp only [Act.put, List.setIfInBounds_toArray, List.set_cons_succ, List.set_cons_zero]
  refine then_normal (hK13 _ _ ?_)
  clear hK13 K13
  refine wpIn_cond_false rfl ?_
  refine wpIn_skip ?_
  refine then_normal (hK12 _ _ ?_)
  clear hK12 K12
  refine wpIn_seq_k (fun K14 hK14 => ?_)
  refine wpIn_region_lit ?_
  refine wpi_exG (v := .pointer (some ⟨p, 0, none⟩)) (fun _ => trivial) (wn rfl) rfl (ex_move rfl rfl) ?_
  refine wpi_exG (v := .int .i64 (from_ : Int)) (fun _ => trivial) (wn rfl) rfl (ex_move rfl rfl) ?_
  refine wpi_exG (v := .int .i64 (each : Int)) (fun _ => trivial) (wn rfl) rfl (ex_move rfl rfl) ?_
  simp only [Act.put, List.setIfInBounds_toArray, List.set_cons_succ, List.set_cons_zero]
  refine wpi_exG (v := .agg #[.pointer (some ⟨p, 0, none⟩), .int .i64 (from_ : Int), .int .i64 (each : Int), .int .i64 0, .bool false]) (fun _ => trivial) (wn rfl) rfl (ex_buildN (vs := #[(0, .pointer (some ⟨p, 0, none⟩)), (1, .int .i64 (from_ : Int)), (2, .int .i64 (each : Int))]) rfl (by simp only [List.map_toArray, List.map_cons, List.map_nil]; rfl) (by kernel_rfl)) ?_
  refine sl_box (L := [.pointer (some ⟨p, 0, none⟩), .int .i64 (from_ : Int), .int .i64 (each : Int), .int .i64 0, .bool false]) (fun _ => trivial) (wn rfl) rfl (p := .agg #[.pointer (some ⟨p, 0, none⟩), .int .i64 (from_ : Int), .int .i64 (each : Int), .int .i64 0, .bool false]) rfl hv (fun w => by kernel_rfl) (fun b15 w16 hv => ?_)
  refine wpi_exG (v := .pointer (some ⟨b15, 0, none⟩)) (fun _ => trivial) (wn rfl) rfl (ex_assign rfl rfl) ?_
  refine wpListIn_nil ?_
  simp only [Act.put, List.setIfInBounds_toArray, List.set_cons_succ, List.set_cons_zero]
  refine then_normal (hK14 _ _ ?_)
  clear hK14 K14
  refine wpIn_seq_k (fun K17 hK17 => ?_)
  refine wpIn_region_lit ?_
  refine sl_alloc (fun _ => trivial) (wn rfl) rfl hv s5al55 (fun b18 w19 hv => ?_)
  refine wpListIn_nil ?_
  simp only [Act.put, List.setIfInBounds_toArray, List.set_cons_succ, List.set_cons_zero]
  refine then_normal (hK17 _ _ ?_)
  clear hK17 K17
  refine wpIn_seq_k (fun K20 hK20 => ?_)
  refine wpIn_seq_k (fun K21 hK21 => ?_)
  refine wpIn_region_lit ?_
  refine wpi_exG (v := .int .i64 0) (fun _ => trivial) (wn rfl) rfl (ex_move rfl rfl) ?_
  refine wpListIn_nil ?_
  simp only [Act.put, List.setIfInBounds_toArray, List.set_cons_succ, List.set_cons_zero]
  refine then_normal (hK21 _ _ ?_)
  clear hK21 K21
  refine wpIn_block ?_
  replace hv := hv.new (Ext.rfl' _) (Res.row 5 1 (.slice none 0 0) 0 []) (World.ownsRow_nil _ _ _ _) (fun b hb => by simp [Value.ownBlock] at hb) (by simp [Value.ownBlock])
  gi_loopw [46] (fun x46 wr => ∃ (i : Nat) (cur : Option (List UInt8)) (ad : Option Addr) (c : Nat), x46 = .int .i64 (i : Int) ∧ i ≤ 2 ∧ CurI rb each i cur ∧ Inv B (Res.row 5 1 (.slice ad ((cB cur).length) c) ((cB cur).length) ((cB cur).map B8) :: Res.cell b18 [.int .i64 (cT cur : Int), .slice ad ((cB cur).length) c] 55 :: Res.cell b15 [.pointer (some ⟨p, 0, none⟩), .int .i64 (from_ : Int), .int .i64 (each : Int), .int .i64 (cG cur : Int), .bool false] 102 :: Res.cell b10 (rb.map B8) 5 :: diskR p E F9 :: Res.cell b2 [.int .i64 0, .slice none 0 0] 55 :: H) wr) (fun x46 _ => 2 - (intOf x46).toNat)
  case atStart => exact ⟨0, none, none, 0, rfl, by omega, .zero, hv⟩
  case round =>
    obtain ⟨i, cur, ad, c, rfl, hi, hcur, hv⟩ := hrel
    refine wpIn_seq_k (fun K23 hK23 => ?_)
    refine wpIn_region_lit ?_
    by_cases hb24 : (i : Int) < 2
    · have hX : i * each ≤ each := by
        rcases (show i = 0 ∨ i = 1 by omega) with h | h <;> rw [h] <;> omega
      have hY : (i + 1) * each = i * each + each := Nat.succ_mul _ _
      skip
      refine wpi_exG (v := .bool true) (fun _ => trivial) (wn rfl) rfl (ex_lss (k := .i64) (m := (i : Int)) (n := 2) rfl rfl rfl (decide_eq_true hb24)) ?_
      refine wpListIn_nil ?_
      simp only [Act.put, List.setIfInBounds_toArray, List.set_cons_succ, List.set_cons_zero]
      refine then_normal (hK23 _ _ ?_)
      clear hK23 K23
      refine wpIn_seq_k (fun K25 hK25 => ?_)
      refine wpIn_cond_true rfl ?_
      refine wpIn_skip ?_
      refine then_normal (hK25 _ _ ?_)
      clear hK25 K25
      refine wpIn_seq_k (fun K26 hK26 => ?_)
      refine wpIn_block ?_
      refine wpIn_seq_k (fun K27 hK27 => ?_)
      refine wpIn_region_lit ?_
      refine wpi_exG (v := .int .i64 (i : Int)) (fun _ => trivial) (wn rfl) rfl (ex_move rfl rfl) ?_
      refine wpi_exG (v := .int .i64 (i : Int)) (fun _ => trivial) (wn rfl) rfl (ex_assign rfl rfl) ?_
      refine wpListIn_nil ?_
      simp only [Act.put, List.setIfInBounds_toArray, List.set_cons_succ, List.set_cons_zero]
      refine then_normal (hK27 _ _ ?_)
      clear hK27 K27
      refine wpIn_seq_k (fun K28 hK28 => ?_)
      refine wpIn_region_lit ?_
      refine wpi_exG (v := .slice (some ⟨b10, 0, none⟩) (2 * each * 64) (2 * each * 64)) (fun _ => trivial) (wn rfl) rfl (ex_move rfl rfl) ?_
      refine wpi_exG (v := .int .i64 (i : Int)) (fun _ => trivial) (wn rfl) rfl (ex_move rfl rfl) ?_
      refine wpi_exG (v := .int .i64 (each : Int)) (fun _ => trivial) (wn rfl) rfl (ex_move rfl rfl) ?_
      simp only [Act.put, List.setIfInBounds_toArray, List.set_cons_succ, List.set_cons_zero]
      refine wpi_exG (v := .int .i64 ((i * each : Nat) : Int)) (fun _ => trivial) (wn rfl) rfl (ex_mul (m := (i : Int)) (n := (each : Int)) rfl rfl rfl (by rw [← Int.natCast_mul, i64_in (by omega)])) ?_
      refine wpi_exG (v := .int .i64 ((i * each * 64 : Nat) : Int)) (fun _ => trivial) (wn rfl) rfl (ex_mul (m := ((i * each : Nat) : Int)) (n := 64) rfl rfl rfl (by rw [i64_in (by omega)]; omega)) ?_
      refine wpi_exG (v := .int .i64 (i : Int)) (fun _ => trivial) (wn rfl) rfl (ex_move rfl rfl) ?_
      simp only [Act.put, List.setIfInBounds_toArray, List.set_cons_succ, List.set_cons_zero]
      refine wpi_exG (v := .int .i64 ((i + 1 : Nat) : Int)) (fun _ => trivial) (wn rfl) rfl (ex_add (m := (i : Int)) (n := 1) rfl rfl rfl (by rw [i64_in (by omega)]; omega)) ?_
      refine wpi_exG (v := .int .i64 (each : Int)) (fun _ => trivial) (wn rfl) rfl (ex_move rfl rfl) ?_
      refine wpi_exG (v := .int .i64 (((i + 1) * each : Nat) : Int)) (fun _ => trivial) (wn rfl) rfl (ex_mul (m := ((i + 1 : Nat) : Int)) (n := (each : Int)) rfl rfl rfl (by rw [← Int.natCast_mul, i64_in (by omega)])) ?_
      simp only [Act.put, List.setIfInBounds_toArray, List.set_cons_succ, List.set_cons_zero]
      refine wpi_exG (v := .int .i64 (((i + 1) * each * 64 : Nat) : Int)) (fun _ => trivial) (wn rfl) rfl (ex_mul (m := (((i + 1) * each : Nat) : Int)) (n := 64) rfl rfl rfl (by rw [i64_in (by omega)]; omega)) ?_
      refine wpi_exG (v := .slice (some ⟨b10, 0 + (i * each * 64 : Nat), none⟩) (((i + 1) * each * 64 : Nat) - (i * each * 64 : Nat)) (2 * each * 64 - (i * each * 64 : Nat))) (fun _ => trivial) (wn rfl) rfl (ex_slice (lo' := some (.int .i64 ((i * each * 64 : Nat) : Int))) (hi' := some (.int .i64 (((i + 1) * each * 64 : Nat) : Int))) rfl rfl (congrArg some rfl) (congrArg some rfl) rfl (run_lohi1 Try.underlying24 s5es24 (by omega) (by omega) (by omega))) ?_
      refine wpi_exG (v := .slice (some ⟨b10, 0 + (i * each * 64 : Nat), none⟩) (((i + 1) * each * 64 : Nat) - (i * each * 64 : Nat)) (2 * each * 64 - (i * each * 64 : Nat))) (fun _ => trivial) (wn rfl) rfl (ex_assign rfl rfl) ?_
      refine wpListIn_nil ?_
      simp only [Act.put, List.setIfInBounds_toArray, List.set_cons_succ, List.set_cons_zero]
      refine then_normal (hK28 _ _ ?_)
      clear hK28 K28
      refine wpIn_seq_k (fun K29 hK29 => ?_)
      refine wpIn_region_lit ?_
      refine wpi_exG (v := .slice (some ⟨b10, 0 + (i * each * 64 : Nat), none⟩) (((i + 1) * each * 64 : Nat) - (i * each * 64 : Nat)) (2 * each * 64 - (i * each * 64 : Nat))) (fun _ => trivial) (wn rfl) rfl (ex_move rfl rfl) ?_
      refine wpi_exG (v := .int .i64 (i : Int)) (fun _ => trivial) (wn rfl) rfl (ex_move rfl rfl) ?_
      refine wpi_callG s5callable50 (fun _ => trivial) wideC rfl (wn rfl) rfl (args := #[.slice (some ⟨b10, 0 + (i * each * 64 : Nat), none⟩) (((i + 1) * each * 64 : Nat) - (i * each * 64 : Nat)) (2 * each * 64 - (i * each * 64 : Nat)), .int .i64 (i : Int)]) (by simp only [List.map_toArray, List.map_cons, List.map_nil]; rfl) ((slotsCheckpoint _ _ _ _ _ _ (slotOf rb each i) i (by unfold slotOf; rw [piece_length (by omega)]; omega) (by omega) ⟨by omega, by unfold maxLen; omega, fun h => by cases h⟩ (rd_slot 3 rfl _ _ (by omega)) (by omega) (by omega) hv).mono ?_)
      rintro e w30 (⟨hno, rfl, hv⟩ | ⟨hyes, ad31, c32, rfl, hv⟩)
      · refine ⟨_, rfl, ?_⟩
        unfold ckNo
        simp only [Act.put, List.setIfInBounds_toArray, List.set_cons_succ, List.set_cons_zero]
        refine wpi_exG (v := .tuple #[.agg #[.int .i64 0, .slice none 0 0], .int .i64 0, .bool false]) (fun _ => trivial) (wn rfl) rfl (ex_move rfl rfl) ?_
        refine wpi_exG (v := .agg #[.int .i64 0, .slice none 0 0]) (fun _ => trivial) (wn rfl) rfl (ex_extract rfl rfl rfl) ?_
        refine wpi_exG (v := .int .i64 0) (fun _ => trivial) (wn rfl) rfl (ex_extract rfl rfl rfl) ?_
        simp only [Act.put, List.setIfInBounds_toArray, List.set_cons_succ, List.set_cons_zero]
        refine wpi_exG (v := .bool false) (fun _ => trivial) (wn rfl) rfl (ex_extract rfl rfl rfl) ?_
        refine sl_alloc (fun _ => trivial) (wn rfl) rfl hv s5al55 (fun b33 w34 hv => ?_)
        refine sl_storeNAt 0 (new := [.int .i64 0, .slice none 0 0]) (pre := []) (mid := [.int .i64 0, .slice none 0 0]) (post := []) (L' := [.int .i64 0, .slice none 0 0]) (fun _ => trivial) (wn rfl) rfl rfl rfl hv rfl s5sz55 rfl rfl rfl (one_cons rfl (one_cons rfl one_nil)) rfl (fun w35 hv => ?_)
        simp only [List.set_cons_succ, List.set_cons_zero] at hv
        simp only [Act.put, List.setIfInBounds_toArray, List.set_cons_succ, List.set_cons_zero]
        refine wpi_exG (v := .int .i64 0) (fun _ => trivial) (wn rfl) rfl (ex_assign rfl rfl) ?_
        refine wpi_exG (v := .bool false) (fun _ => trivial) (wn rfl) rfl (ex_assign rfl rfl) ?_
        refine wpListIn_nil ?_
        simp only [Act.put, List.setIfInBounds_toArray, List.set_cons_succ, List.set_cons_zero]
        refine then_normal (hK29 _ _ ?_)
        clear hK29 K29
        refine wpIn_seq_k (fun K36 hK36 => ?_)
        refine wpIn_region_lit ?_
        refine wpi_exG (v := .bool false) (fun _ => trivial) (wn rfl) rfl (ex_move rfl rfl) ?_
        refine wpi_exG (v := .bool false) (fun _ => trivial) (wn rfl) rfl (ex_move rfl rfl) ?_
        refine wpi_not (fun _ => trivial) (wanted_not (j := 1) (d := 68) (b := true) (b' := false) rfl rfl rfl (by decide)) ?_
        simp only [Act.put, List.setIfInBounds_toArray, List.set_cons_succ, List.set_cons_zero]
        refine wpi_not (fun _ => trivial) (wanted_not (j := 1) (d := 68) (b := true) (b' := false) rfl rfl rfl (by decide)) ?_
        refine wpi_not (fun _ => trivial) (wanted_not (j := 1) (d := 68) (b := true) (b' := false) rfl rfl rfl (by decide)) ?_
        refine wpi_not (fun _ => trivial) (wanted_not (j := 1) (d := 68) (b := true) (b' := false) rfl rfl rfl (by decide)) ?_
        simp only [Act.put, List.setIfInBounds_toArray, List.set_cons_succ, List.set_cons_zero]
        refine wpi_not (fun _ => trivial) (wanted_not (j := 1) (d := 68) (b := true) (b' := false) rfl rfl rfl (by decide)) ?_
        refine wpi_not (fun _ => trivial) (wanted_not (j := 1) (d := 68) (b := true) (b' := false) rfl rfl rfl (by decide)) ?_
        refine wpi_exG (v := .bool false) (fun _ => trivial) (wn rfl) rfl (ex_pick (b := false) rfl rfl rfl) ?_
        refine wpListIn_nil ?_
        simp only [Act.put, List.setIfInBounds_toArray, List.set_cons_succ, List.set_cons_zero]
        refine then_normal (hK36 _ _ ?_)
        clear hK36 K36
        refine wpIn_cond_false rfl ?_
        refine wpIn_skip ?_
        refine blk_normal ?_
        refine then_normal (hK26 _ _ ?_)
        clear hK26 K26
        refine wpIn_region_lit ?_
        refine wpi_exG (v := .int .i64 ((i : Int) + 1)) (fun _ => trivial) (wn rfl) rfl (ex_add (m := (i : Int)) (n := 1) rfl rfl rfl (i64_in (by omega))) ?_
        refine wpi_exG (v := .int .i64 ((i : Int) + 1)) (fun _ => trivial) (wn rfl) rfl (ex_move rfl rfl) ?_
        refine wpListIn_nil ?_
        simp only [Act.put, List.setIfInBounds_toArray, List.set_cons_succ, List.set_cons_zero]
        refine then_normal ?_
        go_roundw
        case rel => exact ⟨i + 1, cur, _, _, by simp, by omega, .no hcur (fun h => hno h.1), (((((((hv.front 6 rfl).front 6 rfl).front 6 rfl).front 6 rfl).front 6 rfl).front 6 rfl).sub (List.Sublist.cons_cons _ (List.Sublist.cons_cons _ (List.Sublist.cons_cons _ (List.Sublist.cons_cons _ (List.Sublist.cons_cons _ (List.Sublist.cons_cons _ (List.Sublist.cons _ (List.Sublist.refl _)))))))))⟩
        case measure => show 2 - ((i : Int) + 1).toNat < 2 - (i : Int).toNat; omega
      · refine ⟨_, rfl, ?_⟩
        simp only [Act.put, List.setIfInBounds_toArray, List.set_cons_succ, List.set_cons_zero]
        refine wpi_exG (v := .tuple #[.agg #[.int .i64 (ckT (slotOf rb each i) : Int), .slice ad31 (ckN (slotOf rb each i)) c32], .int .i64 (ckG (slotOf rb each i) : Int), .bool true]) (fun _ => trivial) (wn rfl) rfl (ex_move rfl rfl) ?_
        refine wpi_exG (v := .agg #[.int .i64 (ckT (slotOf rb each i) : Int), .slice ad31 (ckN (slotOf rb each i)) c32]) (fun _ => trivial) (wn rfl) rfl (ex_extract rfl rfl rfl) ?_
        refine wpi_exG (v := .int .i64 (ckG (slotOf rb each i) : Int)) (fun _ => trivial) (wn rfl) rfl (ex_extract rfl rfl rfl) ?_
        simp only [Act.put, List.setIfInBounds_toArray, List.set_cons_succ, List.set_cons_zero]
        refine wpi_exG (v := .bool true) (fun _ => trivial) (wn rfl) rfl (ex_extract rfl rfl rfl) ?_
        refine sl_alloc (fun _ => trivial) (wn rfl) rfl hv s5al55 (fun b37 w38 hv => ?_)
        refine sl_storeNAt 0 (new := [.int .i64 (ckT (slotOf rb each i) : Int), .slice ad31 (ckN (slotOf rb each i)) c32]) (pre := []) (mid := [.int .i64 0, .slice none 0 0]) (post := []) (L' := [.int .i64 (ckT (slotOf rb each i) : Int), .slice ad31 (ckN (slotOf rb each i)) c32]) (fun _ => trivial) (wn rfl) rfl rfl rfl hv rfl s5sz55 rfl rfl rfl (one_cons rfl (one_cons rfl one_nil)) rfl (fun w39 hv => ?_)
        simp only [List.set_cons_succ, List.set_cons_zero] at hv
        simp only [Act.put, List.setIfInBounds_toArray, List.set_cons_succ, List.set_cons_zero]
        refine wpi_exG (v := .int .i64 (ckG (slotOf rb each i) : Int)) (fun _ => trivial) (wn rfl) rfl (ex_assign rfl rfl) ?_
        refine wpi_exG (v := .bool true) (fun _ => trivial) (wn rfl) rfl (ex_assign rfl rfl) ?_
        refine wpListIn_nil ?_
        simp only [Act.put, List.setIfInBounds_toArray, List.set_cons_succ, List.set_cons_zero]
        refine then_normal (hK29 _ _ ?_)
        clear hK29 K29
        refine wpIn_seq_k (fun K40 hK40 => ?_)
        refine wpIn_region_lit ?_
        refine wpi_exG (v := .bool true) (fun _ => trivial) (wn rfl) rfl (ex_move rfl rfl) ?_
        refine wpi_exG (v := .bool true) (fun _ => trivial) (wn rfl) rfl (ex_move rfl rfl) ?_
        refine wpi_exG (v := .int .i64 (ckG (slotOf rb each i) : Int)) (fun _ => trivial) (wanted_of (j := 1) (d := 68) (b := true) rfl rfl rfl) rfl (ex_move rfl rfl) ?_
        simp only [Act.put, List.setIfInBounds_toArray, List.set_cons_succ, List.set_cons_zero]
        refine wpi_exG (v := .pointer (some ⟨b15, 0, none⟩)) (fun _ => trivial) (wanted_of (j := 1) (d := 68) (b := true) rfl rfl rfl) rfl (ex_move rfl rfl) ?_
        refine wpi_exG (v := .pointer (some ⟨b15, 0, none⟩)) (fun _ => trivial) (wanted_of (j := 1) (d := 68) (b := true) rfl rfl rfl) rfl (ex_nil rfl rfl) ?_
        refine wpi_exG (v := .pointer (some ⟨b15, 3, none⟩)) (fun _ => trivial) (wanted_of (j := 1) (d := 68) (b := true) rfl rfl rfl) rfl (ex_field rfl rfl (s5fa102_3 _ _ _)) ?_
        simp only [Act.put, List.setIfInBounds_toArray, List.set_cons_succ, List.set_cons_zero]
        refine wpi_exG (v := .int .i64 (cG cur : Int)) (fun _ => trivial) (wanted_of (j := 1) (d := 68) (b := true) rfl rfl rfl) rfl (ex_load rfl rfl (run_load1 s5na3 (hv.load 4 3 rfl rfl))) ?_
        by_cases hb41 : (ckG (slotOf rb each i) : Int) > (cG cur : Int)
        · refine wpi_exG (v := .bool true) (fun _ => trivial) (wanted_of (j := 1) (d := 68) (b := true) rfl rfl rfl) rfl (ex_gtr (k := .i64) (m := (ckG (slotOf rb each i) : Int)) (n := (cG cur : Int)) rfl rfl rfl (decide_eq_true hb41)) ?_
          refine wpi_exG (v := .bool true) (fun _ => trivial) (wn rfl) rfl (ex_pick (b := true) rfl rfl rfl) ?_
          refine wpListIn_nil ?_
          simp only [Act.put, List.setIfInBounds_toArray, List.set_cons_succ, List.set_cons_zero]
          refine then_normal (hK40 _ _ ?_)
          clear hK40 K40
          refine wpIn_cond_true rfl ?_
          refine region_st mixed [.pointer (some ⟨b15, 0, none⟩), .int .i64 (ckG (slotOf rb each i) : Int), .agg #[.int .i64 (ckT (slotOf rb each i) : Int), .slice ad31 (ckN (slotOf rb each i)) c32], .pointer (some ⟨b15, 0, none⟩), .pointer (some ⟨b15, 3, none⟩), undef, undef] [5, 6] [⟨fun vals w => vals = [] ∧ Inv B (Res.cell b37 [.int .i64 (ckT (slotOf rb each i) : Int), .slice ad31 (ckN (slotOf rb each i)) c32] 55 :: Res.row 5 1 (.slice ad31 (ckN (slotOf rb each i)) c32) (ckN (slotOf rb each i)) ((ckB (slotOf rb each i)).map B8) :: Res.row 5 1 (.slice ad ((cB cur).length) c) ((cB cur).length) ((cB cur).map B8) :: Res.cell b18 [.int .i64 (cT cur : Int), .slice ad ((cB cur).length) c] 55 :: Res.cell b15 [.pointer (some ⟨p, 0, none⟩), .int .i64 (from_ : Int), .int .i64 (each : Int), .int .i64 (cG cur : Int), .bool false] 102 :: Res.cell b10 (rb.map B8) 5 :: diskR p E F9 :: Res.cell b2 [.int .i64 0, .slice none 0 0] 55 :: H) w, fun _ _ _ ⟨h, hi⟩ he => ⟨h, hi.ext he⟩⟩, ⟨fun vals w => vals = [undef] ∧ Inv B (Res.cell b37 [.int .i64 (ckT (slotOf rb each i) : Int), .slice ad31 (ckN (slotOf rb each i)) c32] 55 :: Res.row 5 1 (.slice ad31 (ckN (slotOf rb each i)) c32) (ckN (slotOf rb each i)) ((ckB (slotOf rb each i)).map B8) :: Res.row 5 1 (.slice ad ((cB cur).length) c) ((cB cur).length) ((cB cur).map B8) :: Res.cell b18 [.int .i64 (cT cur : Int), .slice ad ((cB cur).length) c] 55 :: Res.cell b15 [.pointer (some ⟨p, 0, none⟩), .int .i64 (from_ : Int), .int .i64 (each : Int), .int .i64 (ckG (slotOf rb each i) : Int), .bool false] 102 :: Res.cell b10 (rb.map B8) 5 :: diskR p E F9 :: Res.cell b2 [.int .i64 0, .slice none 0 0] 55 :: H) w, fun _ _ _ ⟨h, hi⟩ he => ⟨h, hi.ext he⟩⟩, ⟨fun vals w => vals = [undef, undef] ∧ Inv B (Res.cell b37 [.int .i64 (ckT (slotOf rb each i) : Int), .slice ad31 (ckN (slotOf rb each i)) c32] 55 :: Res.row 5 1 (.slice ad31 (ckN (slotOf rb each i)) c32) (ckN (slotOf rb each i)) ((ckB (slotOf rb each i)).map B8) :: Res.row 5 1 (.slice ad ((cB cur).length) c) ((cB cur).length) ((cB cur).map B8) :: Res.cell b18 [.int .i64 (ckT (slotOf rb each i) : Int), .slice ad31 (ckN (slotOf rb each i)) c32] 55 :: Res.cell b15 [.pointer (some ⟨p, 0, none⟩), .int .i64 (from_ : Int), .int .i64 (each : Int), .int .i64 (ckG (slotOf rb each i) : Int), .bool false] 102 :: Res.cell b10 (rb.map B8) 5 :: diskR p E F9 :: Res.cell b2 [.int .i64 0, .slice none 0 0] 55 :: H) w, fun _ _ _ ⟨h, hi⟩ he => ⟨h, hi.ext he⟩⟩] 89 rfl (by kernel_rfl) ⟨rfl, hv⟩ ⟨?_, ?_, ?_, ?_, ?_, ?_, ?_, trivial⟩ ?_
          · intro aa ww vals hJ hR
            exact add_step' rfl (Ex.adds' (ex_move rfl (show aa.eval (.tmp 12) = _ from hR.keep 12 rfl)) (wn rfl) rfl)
          · intro aa ww vals hJ hR
            exact add_step' rfl (Ex.adds' (ex_move rfl (show aa.eval (.tmp 17) = _ from hR.keep 17 rfl)) (wn rfl) rfl)
          · intro aa ww vals hJ hR
            have h2 : vals.length ≤ 1 := hR.hi 6 (by simp) rfl
            rcases (show vals.length = 0 ∨ vals.length = 1 by omega) with hl | hl
            · obtain ⟨hvals, hv⟩ := hJ.at0 hl
              exact add_step' rfl (Ex.adds' (ex_load rfl (show aa.eval (.tmp 16) = _ from hR.keep 16 rfl) (run_load_mid (pre := []) (mid := [.int .i64 (ckT (slotOf rb each i) : Int), .slice ad31 (ckN (slotOf rb each i)) c32]) (post := []) s5wd55 (show Blk _ b37 ([] ++ [.int .i64 (ckT (slotOf rb each i) : Int), .slice ad31 (ckN (slotOf rb each i)) c32] ++ []) _ from hv.get 0 rfl) rfl)) (wn rfl) rfl)
            · obtain ⟨hvals, hv⟩ := hJ.at0 hl
              exact add_step' rfl (Ex.adds' (ex_load rfl (show aa.eval (.tmp 16) = _ from hR.keep 16 rfl) (run_load_mid (pre := []) (mid := [.int .i64 (ckT (slotOf rb each i) : Int), .slice ad31 (ckN (slotOf rb each i)) c32]) (post := []) s5wd55 (show Blk _ b37 ([] ++ [.int .i64 (ckT (slotOf rb each i) : Int), .slice ad31 (ckN (slotOf rb each i)) c32] ++ []) _ from hv.get 0 rfl) rfl)) (wn rfl) rfl)
          · intro aa ww vals hJ hR
            exact add_step' rfl (Ex.adds' (ex_nil rfl (show aa.eval (.tmp 76) = _ from hR.v 0 76 rfl rfl rfl rfl)) (wn rfl) rfl)
          · intro aa ww vals hJ hR
            exact add_step' rfl (Ex.adds' (ex_field rfl (show aa.eval (.tmp 79) = _ from hR.v 3 79 rfl rfl rfl rfl) (s5fa102_3 _ _ _)) (wn rfl) rfl)
          · intro aa ww vals hJ hR
            refine mem_step' rfl fun hvl => ?_
            have hl : vals.length = 0 := hvl
            obtain ⟨hvals, hv⟩ := hJ.at0 hl
            refine mem_storeAt 4 (v := .int .i64 (ckG (slotOf rb each i) : Int)) (L' := [.pointer (some ⟨p, 0, none⟩), .int .i64 (from_ : Int), .int .i64 (each : Int), .int .i64 (ckG (slotOf rb each i) : Int), .bool false]) (wn rfl) rfl (show aa.eval (.tmp 80) = _ from hR.v 4 80 rfl rfl rfl rfl) (show aa.eval (.tmp 77) = _ from hR.v 1 77 rfl rfl rfl rfl) hv rfl s5sz3 (by simp) rfl rfl rfl (fun w42 hv => ?_)
            exact JS.next hl ⟨by rw [hvals]; rfl, hv⟩
          · intro aa ww vals hJ hR
            refine mem_step' rfl fun hvl => ?_
            have hl : vals.length = 1 := hvl
            obtain ⟨hvals, hv⟩ := hJ.at0 hl
            refine mem_storeNAt 3 (new := [.int .i64 (ckT (slotOf rb each i) : Int), .slice ad31 (ckN (slotOf rb each i)) c32]) (pre := []) (mid := [.int .i64 (cT cur : Int), .slice ad ((cB cur).length) c]) (post := []) (L' := [.int .i64 (ckT (slotOf rb each i) : Int), .slice ad31 (ckN (slotOf rb each i)) c32]) (wn rfl) rfl (show aa.eval (.tmp 13) = _ from hR.keep 13 rfl) (show aa.eval (.tmp 78) = _ from hR.v 2 78 rfl rfl rfl rfl) hv rfl s5sz55 rfl rfl rfl (one_cons rfl (one_cons rfl one_nil)) rfl (fun w43 hv => ?_)
            exact JS.next hl ⟨by rw [hvals]; rfl, hv⟩
          rintro w44 vals ⟨rfl, hv⟩
          rw [show mixV [5, 6] [undef, undef] 0 [.pointer (some ⟨b15, 0, none⟩), .int .i64 (ckG (slotOf rb each i) : Int), .agg #[.int .i64 (ckT (slotOf rb each i) : Int), .slice ad31 (ckN (slotOf rb each i)) c32], .pointer (some ⟨b15, 0, none⟩), .pointer (some ⟨b15, 3, none⟩), undef, undef] = [.pointer (some ⟨b15, 0, none⟩), .int .i64 (ckG (slotOf rb each i) : Int), .agg #[.int .i64 (ckT (slotOf rb each i) : Int), .slice ad31 (ckN (slotOf rb each i)) c32], .pointer (some ⟨b15, 0, none⟩), .pointer (some ⟨b15, 3, none⟩), undef, undef] from rfl]
          simp only [putAll, Act.put, List.setIfInBounds_toArray, List.set_cons_succ, List.set_cons_zero]
          refine blk_normal ?_
          refine then_normal (hK26 _ _ ?_)
          clear hK26 K26
          refine wpIn_region_lit ?_
          refine wpi_exG (v := .int .i64 ((i : Int) + 1)) (fun _ => trivial) (wn rfl) rfl (ex_add (m := (i : Int)) (n := 1) rfl rfl rfl (i64_in (by omega))) ?_
          refine wpi_exG (v := .int .i64 ((i : Int) + 1)) (fun _ => trivial) (wn rfl) rfl (ex_move rfl rfl) ?_
          refine wpListIn_nil ?_
          simp only [Act.put, List.setIfInBounds_toArray, List.set_cons_succ, List.set_cons_zero]
          refine then_normal ?_
          go_roundw
          case rel => have hbl := ckB_len hyes; exact ⟨i + 1, some (slotOf rb each i), _, _, by simp, by omega, .yes hcur hyes (by omega), by simp only [cB, cT, cG, hbl]; exact (((((((hv.front 7 rfl).front 7 rfl).front 7 rfl).front 7 rfl).front 7 rfl).front 6 rfl).sub (List.Sublist.cons_cons _ (List.Sublist.cons_cons _ (List.Sublist.cons_cons _ (List.Sublist.cons_cons _ (List.Sublist.cons_cons _ (List.Sublist.cons_cons _ (List.Sublist.cons _ (List.Sublist.cons _ (List.Sublist.refl _))))))))))⟩
          case measure => show 2 - ((i : Int) + 1).toNat < 2 - (i : Int).toNat; omega
        · refine wpi_exG (v := .bool false) (fun _ => trivial) (wanted_of (j := 1) (d := 68) (b := true) rfl rfl rfl) rfl (ex_gtr (k := .i64) (m := (ckG (slotOf rb each i) : Int)) (n := (cG cur : Int)) rfl rfl rfl (decide_eq_false hb41)) ?_
          refine wpi_exG (v := .bool false) (fun _ => trivial) (wn rfl) rfl (ex_pick (b := true) rfl rfl rfl) ?_
          refine wpListIn_nil ?_
          simp only [Act.put, List.setIfInBounds_toArray, List.set_cons_succ, List.set_cons_zero]
          refine then_normal (hK40 _ _ ?_)
          clear hK40 K40
          refine wpIn_cond_false rfl ?_
          refine wpIn_skip ?_
          refine blk_normal ?_
          refine then_normal (hK26 _ _ ?_)
          clear hK26 K26
          refine wpIn_region_lit ?_
          refine wpi_exG (v := .int .i64 ((i : Int) + 1)) (fun _ => trivial) (wn rfl) rfl (ex_add (m := (i : Int)) (n := 1) rfl rfl rfl (i64_in (by omega))) ?_
          refine wpi_exG (v := .int .i64 ((i : Int) + 1)) (fun _ => trivial) (wn rfl) rfl (ex_move rfl rfl) ?_
          refine wpListIn_nil ?_
          simp only [Act.put, List.setIfInBounds_toArray, List.set_cons_succ, List.set_cons_zero]
          refine then_normal ?_
          go_roundw
          case rel => exact ⟨i + 1, cur, _, _, by simp, by omega, .no hcur (by omega), (((((((hv.front 7 rfl).front 7 rfl).front 7 rfl).front 7 rfl).front 7 rfl).front 7 rfl).sub (List.Sublist.cons_cons _ (List.Sublist.cons_cons _ (List.Sublist.cons_cons _ (List.Sublist.cons_cons _ (List.Sublist.cons_cons _ (List.Sublist.cons_cons _ (List.Sublist.cons _ (List.Sublist.cons _ (List.Sublist.refl _))))))))))⟩
          case measure => show 2 - ((i : Int) + 1).toNat < 2 - (i : Int).toNat; omega
    · refine wpi_exG (v := .bool false) (fun _ => trivial) (wn rfl) rfl (ex_lss (k := .i64) (m := (i : Int)) (n := 2) rfl rfl rfl (decide_eq_false hb24)) ?_
      refine wpListIn_nil ?_
      simp only [Act.put, List.setIfInBounds_toArray, List.set_cons_succ, List.set_cons_zero]
      refine then_normal (hK23 _ _ ?_)
      clear hK23 K23
      refine wpIn_seq_k (fun K45 hK45 => ?_)
      refine wpIn_cond_false rfl ?_
      refine wpIn_exit ?_
      refine then_exit ?_
      clear hK45 K45
      refine then_exit ?_
      refine blk_hit ?_
      refine then_normal (hK20 _ _ ?_)
      clear hK20 K20
      refine wpIn_seq_k (fun K46 hK46 => ?_)
      refine region_st mixed [.pointer (some ⟨b15, 0, none⟩), .agg #[.int .i64 (cT cur : Int), .slice ad ((cB cur).length) c], .pointer (some ⟨b15, 0, none⟩), .pointer (some ⟨b15, 0, none⟩), .pointer (some ⟨b15, 3, none⟩), .int .i64 (cG cur : Int), .bool (decide ((cG cur : Int) > 0)), .pointer (some ⟨b15, 0, none⟩), undef, .bool (decide ((cG cur : Int) > 0)), .int .i64 0] [8] [⟨fun vals w => vals = [] ∧ Inv B (Res.row 5 1 (.slice ad ((cB cur).length) c) ((cB cur).length) ((cB cur).map B8) :: Res.cell b18 [.int .i64 (cT cur : Int), .slice ad ((cB cur).length) c] 55 :: Res.cell b15 [.pointer (some ⟨p, 0, none⟩), .int .i64 (from_ : Int), .int .i64 (each : Int), .int .i64 (cG cur : Int), .bool false] 102 :: Res.cell b10 (rb.map B8) 5 :: diskR p E F9 :: Res.cell b2 [.int .i64 0, .slice none 0 0] 55 :: H) w, fun _ _ _ ⟨h, hi⟩ he => ⟨h, hi.ext he⟩⟩, ⟨fun vals w => vals = [undef] ∧ Inv B (Res.row 5 1 (.slice ad ((cB cur).length) c) ((cB cur).length) ((cB cur).map B8) :: Res.cell b18 [.int .i64 (cT cur : Int), .slice ad ((cB cur).length) c] 55 :: Res.cell b15 [.pointer (some ⟨p, 0, none⟩), .int .i64 (from_ : Int), .int .i64 (each : Int), .int .i64 (cG cur : Int), .bool false] 102 :: Res.cell b10 (rb.map B8) 5 :: diskR p E F9 :: Res.cell b2 [.int .i64 (cT cur : Int), .slice ad ((cB cur).length) c] 55 :: H) w, fun _ _ _ ⟨h, hi⟩ he => ⟨h, hi.ext he⟩⟩] 89 rfl (by kernel_rfl) ⟨rfl, hv⟩ ⟨?_, ?_, ?_, ?_, ?_, ?_, ?_, ?_, ?_, ?_, ?_, trivial⟩ ?_
      · intro aa ww vals hJ hR
        exact add_step' rfl (Ex.adds' (ex_move rfl (show aa.eval (.tmp 12) = _ from hR.keep 12 rfl)) (wn rfl) rfl)
      · intro aa ww vals hJ hR
        have h2 : vals.length ≤ 0 := hR.hi 8 (by simp) rfl
        have hl : vals.length = 0 := by omega
        obtain ⟨hvals, hv⟩ := hJ.at0 hl
        exact add_step' rfl (Ex.adds' (ex_load rfl (show aa.eval (.tmp 13) = _ from hR.keep 13 rfl) (run_load_mid (pre := []) (mid := [.int .i64 (cT cur : Int), .slice ad ((cB cur).length) c]) (post := []) s5wd55 (show Blk _ b18 ([] ++ [.int .i64 (cT cur : Int), .slice ad ((cB cur).length) c] ++ []) _ from hv.get 1 rfl) rfl)) (wn rfl) rfl)
      · intro aa ww vals hJ hR
        exact add_step' rfl (Ex.adds' (ex_move rfl (show aa.eval (.tmp 12) = _ from hR.keep 12 rfl)) (wn rfl) rfl)
      · intro aa ww vals hJ hR
        exact add_step' rfl (Ex.adds' (ex_nil rfl (show aa.eval (.tmp 84) = _ from hR.v 2 84 rfl rfl rfl rfl)) (wn rfl) rfl)
      · intro aa ww vals hJ hR
        exact add_step' rfl (Ex.adds' (ex_field rfl (show aa.eval (.tmp 85) = _ from hR.v 3 85 rfl rfl rfl rfl) (s5fa102_3 _ _ _)) (wn rfl) rfl)
      · intro aa ww vals hJ hR
        have h2 : vals.length ≤ 1 := JS.le (by rfl) hJ
        rcases (show vals.length = 0 ∨ vals.length = 1 by omega) with hl | hl
        · obtain ⟨hvals, hv⟩ := hJ.at0 hl
          exact add_step' rfl (Ex.adds' (ex_load rfl (show aa.eval (.tmp 86) = _ from hR.v 4 86 rfl rfl rfl rfl) (run_load1 s5na3 (hv.load 2 3 rfl rfl))) (wn rfl) rfl)
        · obtain ⟨hvals, hv⟩ := hJ.at0 hl
          exact add_step' rfl (Ex.adds' (ex_load rfl (show aa.eval (.tmp 86) = _ from hR.v 4 86 rfl rfl rfl rfl) (run_load1 s5na3 (hv.load 2 3 rfl rfl))) (wn rfl) rfl)
      · intro aa ww vals hJ hR
        exact add_step' rfl (Ex.adds' (ex_gtr (k := .i64) (m := (cG cur : Int)) (n := 0) rfl (show aa.eval (.tmp 87) = _ from hR.v 5 87 rfl rfl rfl rfl) rfl rfl) (wn rfl) rfl)
      · intro aa ww vals hJ hR
        exact add_step' rfl (Ex.adds' (ex_assign rfl (show aa.eval (.tmp 82) = _ from hR.v 0 82 rfl rfl rfl rfl)) (wn rfl) rfl)
      · intro aa ww vals hJ hR
        refine mem_step' rfl fun hvl => ?_
        have hl : vals.length = 0 := hvl
        obtain ⟨hvals, hv⟩ := hJ.at0 hl
        refine mem_storeNAt 5 (new := [.int .i64 (cT cur : Int), .slice ad ((cB cur).length) c]) (pre := []) (mid := [.int .i64 0, .slice none 0 0]) (post := []) (L' := [.int .i64 (cT cur : Int), .slice ad ((cB cur).length) c]) (wn rfl) rfl (show aa.eval (.tmp 7) = _ from hR.keep 7 rfl) (show aa.eval (.tmp 83) = _ from hR.v 1 83 rfl rfl rfl rfl) hv rfl s5sz55 rfl rfl rfl (one_cons rfl (one_cons rfl one_nil)) rfl (fun w47 hv => ?_)
        exact JS.next hl ⟨by rw [hvals]; rfl, hv⟩
      · intro aa ww vals hJ hR
        exact add_step' rfl (Ex.adds' (ex_assign rfl (show aa.eval (.tmp 88) = _ from hR.v 6 88 rfl rfl rfl rfl)) (wn rfl) rfl)
      · intro aa ww vals hJ hR
        exact add_step' rfl (Ex.adds' (ex_assign rfl rfl) (wn rfl) rfl)
      rintro w48 vals ⟨rfl, hv⟩
      rw [show mixV [8] [undef] 0 [.pointer (some ⟨b15, 0, none⟩), .agg #[.int .i64 (cT cur : Int), .slice ad ((cB cur).length) c], .pointer (some ⟨b15, 0, none⟩), .pointer (some ⟨b15, 0, none⟩), .pointer (some ⟨b15, 3, none⟩), .int .i64 (cG cur : Int), .bool (decide ((cG cur : Int) > 0)), .pointer (some ⟨b15, 0, none⟩), undef, .bool (decide ((cG cur : Int) > 0)), .int .i64 0] = [.pointer (some ⟨b15, 0, none⟩), .agg #[.int .i64 (cT cur : Int), .slice ad ((cB cur).length) c], .pointer (some ⟨b15, 0, none⟩), .pointer (some ⟨b15, 0, none⟩), .pointer (some ⟨b15, 3, none⟩), .int .i64 (cG cur : Int), .bool (decide ((cG cur : Int) > 0)), .pointer (some ⟨b15, 0, none⟩), undef, .bool (decide ((cG cur : Int) > 0)), .int .i64 0] from rfl]
      simp only [putAll, Act.put, List.setIfInBounds_toArray, List.set_cons_succ, List.set_cons_zero]
      refine then_normal (hK46 _ _ ?_)
      clear hK46 K46
      refine wpIn_ret ?_
      refine bodyPost_ret (res_tcell4 rfl rfl (run_load_mid (pre := []) (mid := [.int .i64 (cT cur : Int), .slice ad ((cB cur).length) c]) (post := []) s5wd55 (show Blk _ b2 ([] ++ [.int .i64 (cT cur : Int), .slice ad ((cB cur).length) c] ++ []) _ from hv.get 5 rfl) rfl)) rfl ?_
      obtain rfl : i = 2 := by omega
      rw [hrb] at hcur
      exact ⟨_, _, _, _, _, hcur, rfl, ((((hv.front 4 rfl).front 1 rfl).front 3 rfl).sub (List.Sublist.cons_cons _ (List.Sublist.cons_cons _ (List.Sublist.cons_cons _ (List.Sublist.cons _ (List.Sublist.cons _ (List.Sublist.cons _ (List.Sublist.refl _))))))))⟩
end Go.Proofs.Ytkannfkjnohdlaa
/- Bytes out of a text; rows that stay for good. -/
namespace Go.Pm
open Go.RowKit
theorem freeze_heap {w : World} {b : Nat} {L : List Value} {t : TypeId} (hb : Blk w b L t) : (w.freeze ⟨b, L.length, none⟩ 1).heap[b]? = some (.cells L.toArray t (L.length, L.length + 1)) := by
  unfold World.freeze
  rw [if_neg (by decide)]
  show (w.heap.modify b _)[b]? = _
  rw [Array.getElem?_modify, if_pos rfl, show w.heap[b]? = _ from hb]
  simp
theorem freeze_other {w : World} {a : Addr} {n k : Nat} (hk : k ≠ a.block) : (w.freeze a n).heap[k]? = w.heap[k]? := by
  unfold World.freeze
  split
  · rfl
  · show (w.heap.modify a.block _)[k]? = _
    rw [Array.getElem?_modify, if_neg (fun e => hk e.symm)]
section
variable {F : Fence} {n : Nat} {P : Program} {ops : Array Oper} {Q : Exit → Act → World → Prop} {a : Act} {w : World} {rest : List Oper} {o : Oper} {B : Base} {H : List Res} {t e u : TypeId} {x : Operand}
/-- []byte of a constant text: its row stays for good -/
theorem sl_mark {b m c : Nat} {L : List Value} (hF : ∀ f, F.fn f) (hg : Region.wanted o (yielded ops a.tmps) = true) (ho : o.op = .convert t t x) (hx : a.eval x = .slice (some ⟨b, 0, none⟩) m c) (ht : P.underlying t = some (.slice e)) (he : P.underlying e = some (.int .u8)) (hv : Inv B (Res.cell b L u :: H) w)
    (h : ∀ B' w', B.Le B' → Inv B' H w' → RdV B' [] (some ⟨b, 0, none⟩) L → wpListIn F n P ops Q rest (a.put o.dst (.slice (some ⟨b, 0, none⟩) m c)) w') : wpListIn F n P ops Q (o :: rest) a w := by
  have hb : Blk w b L u := hv.head
  have hsh : w.shape? b = some (u, L.length) := by unfold World.shape?; rw [show w.heap[b]? = _ from hb]; simp
  have hrun : (convert t t (.slice (some ⟨b, 0, none⟩) m c)).run P w = .ok (.slice (some ⟨b, 0, none⟩) m c) (w.freeze ⟨b, L.length, none⟩ 1) := by
    simp [convert, run_underlying ht, run_underlying he, markStringish, hsh, Result.andThen]
  have hout : B.I b = none := hv.out _ (List.mem_cons_self) b (by simp)
  have hd := hv.dis
  rw [List.flatMap_cons, List.nodup_append] at hd
  have hsz : (w.freeze ⟨b, L.length, none⟩ 1).heap.size = w.heap.size := by unfold World.freeze; split <;> simp
  have hi : Inv (B.add b (.cells L.toArray u (L.length, L.length + 1))) H (w.freeze ⟨b, L.length, none⟩ 1) := by
    refine ⟨⟨fun k o ek => ?_, by rw [hsz]; exact hv.base.lo, ?_, ?_, ?_⟩, fun r hr' => r.stab w _ (fun k hk => freeze_other (fun ek => ?_)) (hv.drop.own r hr'), fun r hr' k hk => by rw [hsz]; exact hv.drop.lt r hr' k hk, hv.drop.dis, fun r hr' k hk => ?_⟩
    · replace ek : (if k = b then some (Obj.cells L.toArray u (L.length, L.length + 1)) else B.I k) = some o := ek
      split at ek
      · rename_i hkb; subst hkb; rw [← ek]; exact freeze_heap hb
      · rename_i hkb; rw [freeze_other hkb]; exact hv.base.blk k o ek
    · rw [show (w.freeze ⟨b, L.length, none⟩ 1).os = w.os by unfold World.freeze; split <;> rfl]; exact hv.base.os
    · rw [show (w.freeze ⟨b, L.length, none⟩ 1).tape = w.tape by unfold World.freeze; split <;> rfl]; exact hv.base.tape
    · rw [show (w.freeze ⟨b, L.length, none⟩ 1).output = w.output by unfold World.freeze; split <;> rfl]; exact hv.base.output
    · replace ek : k = b := ek
      subst ek
      exact hd.2.2 k (by simp) k (List.mem_flatMap.2 ⟨r, hr', hk⟩) rfl
    · show (if k = b then _ else B.I k) = none
      rw [if_neg (fun ek => by subst ek; exact hd.2.2 k (by simp) k (List.mem_flatMap.2 ⟨r, hr', hk⟩) rfl)]
      exact hv.drop.out r hr' k hk
  refine wpi_exG hF hg (by unfold isDefer; rw [ho]) (by unfold Ex; simp [execOp, ho, hx, hrun] : Ex P a o w (.slice (some ⟨b, 0, none⟩) m c) (w.freeze ⟨b, L.length, none⟩ 1)) (h _ _ (Base.add_le hout) hi (fun i hi => ⟨b, 0, rfl, .inl ⟨_, _, _, Base.add_self, ?_⟩⟩))
  simp [hi]
end
/-- a row that stays for good -/
theorem Inv.rowStays {B : Base} {e : TypeId} {ad : Option Addr} {n c : Nat} {xs : List Value} {H : List Res} {w : World} (hv : Inv B (Res.row e 1 (.slice ad n c) n xs :: H) w) : ∃ C : Base, B.Le C ∧ Inv C H w ∧ RdV C [] ad xs ∧ SliceOk ad n c := by
  have hr : w.ownsRow 0 e 1 (.slice ad n c) n xs := hv.head
  rcases hr.2 with ⟨h1, h2⟩ | ⟨g, cap, cur, h1, hb, hg, hnc, hcm, hcs, htake⟩
  · simp only [Value.slice.injEq] at h1
    obtain ⟨rfl, rfl, rfl⟩ := h1
    have hx : xs = [] := List.eq_nil_of_length_eq_zero (by have := hr.1; omega)
    subst hx
    exact ⟨B, Base.Le.refl B, hv.drop, rdV_nil, ⟨by omega, by simp, fun _ => rfl⟩⟩
  · simp only [Value.slice.injEq] at h1
    obtain ⟨rfl, -, rfl⟩ := h1
    have hout : B.I g = none := hv.out _ (List.mem_cons_self) g (by simp [Value.ownBlock])
    have hc : Inv B (Res.cell g cur.toList e :: H) w := hv.as (Res.cell g cur.toList e) (by simpa using hg) (by simp [Value.ownBlock])
    have hf := hc.freeze
    simp only [Array.toArray_toList] at hf
    refine ⟨_, Base.add_le hout, hf, fun i hi => ⟨g, 0, rfl, .inl ⟨_, _, _, Base.add_self, ?_⟩⟩, ⟨hnc, hcm, fun h => by cases h⟩⟩
    have h2 : (cur.toList.take (n * 1))[i]? = xs[i]? := by rw [htake]
    have hin : i < n * 1 := by have := hr.1; omega
    rw [List.getElem?_take_of_lt hin, List.getElem?_eq_getElem hi] at h2
    rw [Nat.zero_add, ← Array.getElem?_toList]
    exact h2
end Go.Pm
/- same and awake, of the slots' laws -/
namespace Go.Proofs.Ytkannfkjnohdlaa
open Go.RowKit Go.Pm
def ckOkb (s : List UInt8) (i : Nat) : Bool :=
  s[0]? == some 83 && (List.range 39).all (fun j => s[25 + j]? == some 0) && decide (1 ≤ ckG s) && decide (ckG s < 9223372036854775808) && decide (ckG s % 2 = i) && decide (ckT s ≤ 1152921504606846975) && decide (ckN s ≤ 1048576) && decide (ckN s + 64 ≤ s.length) && decide (Crc.sum (ckB s) = numOf (piece s 21 4))
theorem ckOkb_iff (s : List UInt8) (i : Nat) : ckOkb s i = true ↔ CkOk s i := by
  unfold ckOkb
  simp only [Bool.and_eq_true, beq_iff_eq, List.all_eq_true, List.mem_range, decide_eq_true_eq]
  constructor
  · rintro ⟨⟨⟨⟨⟨⟨⟨⟨h1, h2⟩, h3⟩, h4⟩, h5⟩, h6⟩, h7⟩, h8⟩, h9⟩
    exact ⟨h1, h2, h3, h4, h5, h6, h7, h8, h9⟩
  · rintro ⟨h1, h2, h3, h4, h5, h6, h7, h8, h9⟩
    exact ⟨⟨⟨⟨⟨⟨⟨⟨h1, h2⟩, h3⟩, h4⟩, h5⟩, h6⟩, h7⟩, h8⟩, h9⟩
def curF (rb : List UInt8) (each : Nat) : Nat → Option (List UInt8)
  | 0 => none
  | i + 1 => if ckOkb (slotOf rb each i) i = true ∧ ckG (slotOf rb each i) > cG (curF rb each i) then some (slotOf rb each i) else curF rb each i
theorem curI_eq {rb : List UInt8} {each i : Nat} {c : Option (List UInt8)} (h : CurI rb each i c) : c = curF rb each i := by
  induction h with
  | zero => rfl
  | @no i c h hn ih =>
    rw [ih] at hn
    unfold curF
    rw [if_neg (fun hh => hn ⟨(ckOkb_iff _ _).1 hh.1, hh.2⟩), ih]
  | @yes i c h h1 h2 ih =>
    rw [ih] at h2
    unfold curF
    rw [if_pos ⟨(ckOkb_iff _ _).2 h1, h2⟩]
def AD1 : Disk := (saveOf (Disk.zero 8) 0 4 0 false 5 [97]).disk
def AD2 : Disk := (saveOf AD1 0 4 1 false 6 [98]).disk
def AD3 : Disk := AD2.crash []
theorem aw8_0 : curF ((Disk.zero 8).view (Disk.zero 8).pend 0 (2 * 4)).flatten 4 2 = none := by kernel_rfl
theorem aw8_s1 : saveOf (Disk.zero 8) 0 4 0 false 5 [97] = ⟨0, 1, false, AD1⟩ := by kernel_rfl
theorem aw8_s2 : saveOf AD1 0 4 1 false 6 [98] = ⟨0, 2, false, AD2⟩ := by kernel_rfl
theorem aw8_l0 : (Disk.zero 8).dur.length = 8 := by kernel_rfl
theorem aw8_left : AD3.left = -1 := rfl
theorem aw8_l1 : AD1.dur.length = 8 := by kernel_rfl
theorem aw8_l3 : AD3.dur.length = 8 := by kernel_rfl
theorem aw8_p1 : AD1.pend = [] := by kernel_rfl
theorem aw8_p2 : AD2.pend = [] := by kernel_rfl
theorem aw8_c : (curF (AD3.view AD3.pend 0 (2 * 4)).flatten 4 2).map (fun s => (ckG s, ckT s, ckB s)) = some (2, 6, [98]) := by kernel_rfl
theorem aw8_cur {c : Option (List UInt8)} (h : c = curF (AD3.view AD3.pend 0 (2 * 4)).flatten 4 2) : cG c = 2 ∧ cT c = 6 ∧ cB c = [98] := by
  have e := aw8_c
  rw [← h] at e
  cases c with
  | none => simp at e
  | some s =>
    simp only [Option.map_some, Option.some.injEq, Prod.mk.injEq] at e
    exact ⟨e.1, e.2.1, e.2.2⟩

theorem rdBytes {B : Base} {H : List Res} {a : Option Addr} {l : List UInt8} {w : World} (hr : RdV B H a (l.map B8)) (hv : Inv B H w) : Bytes w (fun _ => True) a l := fun i hi => by
  obtain ⟨b, off, h1, h2⟩ := hr.cellAt hv i (by simpa using hi)
  exact ⟨b, off, h1, trivial, by simpa using h2⟩
theorem _root_.Go.Pm.RdV.any' {B : Base} {H : List Res} {a : Option Addr} {xs : List Value} (h : RdV B [] a xs) : RdV B H a xs := h.more (Base.Le.refl B) (fun r hr => by simp at hr)

theorem l8fa55_0 (w : World) (b o : Nat) : (Instr.fieldAt 55 (.pointer (some ⟨b, o, none⟩)) 0).run Try.prog w = .ok (.pointer (some ⟨b, o + 0, none⟩)) w := by kernel_rfl
theorem l8na3 (w : World) : (isAgg 3).run Try.prog w = .ok false w := by kernel_rfl
theorem l8fa55_1 (w : World) (b o : Nat) : (Instr.fieldAt 55 (.pointer (some ⟨b, o, none⟩)) 1).run Try.prog w = .ok (.pointer (some ⟨b, o + 1, none⟩)) w := by kernel_rfl
theorem l8na24 (w : World) : (isAgg 24).run Try.prog w = .ok false w := by kernel_rfl
set_option maxRecDepth 100000 in
set_option maxHeartbeats 2000000 in
theorem lawSame08 (B : Base) (H : List Res) (w : World) (s1 s2 : Int) (a1 a2 : Option Addr) (n1 n2 c1 c2 : Nat) (l1 l2 : List UInt8) (hn1 : l1.length = n1) (hn2 : l2.length = n2) (hr1 : RdV B [] a1 (l1.map B8)) (hr2 : RdV B [] a2 (l2.map B8)) (hv : Inv B H w) :
    Calls Try.prog 32 #[.agg #[.int .i64 s1, .slice a1 n1 c1], .agg #[.int .i64 s2, .slice a2 n2 c2]] w fun e w' => e = .returned (.bool (decide (s1 = s2) && decide (l1 = l2))) ∧ Inv B H w' := by
  refine (callsIn_wide (n := 5)).1 ?_
  refine callsIn_of_wp Try.func32 rfl trivial ?_
  simp only [Try.ntmps32, List.size_toArray, List.length_cons, List.length_nil, Nat.reduceAdd, Nat.reduceSub, Array.replicate_succ, Array.replicate_zero, List.push_toArray, List.append_toArray, List.nil_append, List.cons_append]
  refine wpIn_seq_k (fun K1 hK1 => ?_)
  refine wpIn_region_lit ?_
  refine sl_box (L := [.int .i64 s1, .slice a1 n1 c1]) (fun _ => trivial) (wn rfl) rfl (p := .agg #[.int .i64 s1, .slice a1 n1 c1]) rfl hv (fun w => by kernel_rfl) (fun b2 w3 hv => ?_)
  refine sl_box (L := [.int .i64 s2, .slice a2 n2 c2]) (fun _ => trivial) (wn rfl) rfl (p := .agg #[.int .i64 s2, .slice a2 n2 c2]) rfl hv (fun w => by kernel_rfl) (fun b4 w5 hv => ?_)
  refine wpi_exG (v := .bool false) (fun _ => trivial) (wn rfl) rfl (ex_assign rfl rfl) ?_
  refine wpListIn_nil ?_
  simp only [Act.put, List.setIfInBounds_toArray, List.set_cons_succ, List.set_cons_zero]
  refine then_normal (hK1 _ _ ?_)
  clear hK1 K1
  refine wpIn_seq_k (fun K6 hK6 => ?_)
  refine wpIn_region_lit ?_
  refine wpi_exG (v := .pointer (some ⟨b2, 0, none⟩)) (fun _ => trivial) (wn rfl) rfl (ex_field rfl rfl (l8fa55_0 _ _ _)) ?_
  refine wpi_exG (v := .int .i64 s1) (fun _ => trivial) (wn rfl) rfl (ex_load rfl rfl (run_load1 l8na3 (hv.load 1 0 rfl rfl))) ?_
  refine wpi_exG (v := .pointer (some ⟨b4, 0, none⟩)) (fun _ => trivial) (wn rfl) rfl (ex_field rfl rfl (l8fa55_0 _ _ _)) ?_
  simp only [Act.put, List.setIfInBounds_toArray, List.set_cons_succ, List.set_cons_zero]
  refine wpi_exG (v := .int .i64 s2) (fun _ => trivial) (wn rfl) rfl (ex_load rfl rfl (run_load1 l8na3 (hv.load 0 0 rfl rfl))) ?_
  by_cases hb7 : s1 = s2
  · refine wpi_exG (v := .bool true) (fun _ => trivial) (wn rfl) rfl (ex_eql (k := .i64) (m := s1) (n := s2) rfl rfl rfl (decide_eq_true hb7)) ?_
    refine wpi_exG (v := .bool true) (fun _ => trivial) (wn rfl) rfl (ex_move rfl rfl) ?_
    simp only [Act.put, List.setIfInBounds_toArray, List.set_cons_succ, List.set_cons_zero]
    refine wpi_exG (v := .pointer (some ⟨b2, 1, none⟩)) (fun _ => trivial) (wanted_of (j := 5) (d := 10) (b := true) rfl rfl rfl) rfl (ex_field rfl rfl (l8fa55_1 _ _ _)) ?_
    refine wpi_exG (v := .slice a1 n1 c1) (fun _ => trivial) (wanted_of (j := 5) (d := 10) (b := true) rfl rfl rfl) rfl (ex_load rfl rfl (run_load1 l8na24 (hv.load 1 1 rfl rfl))) ?_
    refine wpi_exG (v := .string ⟨l1.toArray⟩) (fun _ => trivial) (wanted_of (j := 5) (d := 10) (b := true) rfl rfl rfl) rfl (ex_str Try.underlying24 Try.underlying5 Try.underlying9 rfl rfl (rdBytes hr1.any' hv) (hn1)) ?_
    simp only [Act.put, List.setIfInBounds_toArray, List.set_cons_succ, List.set_cons_zero]
    refine wpi_exG (v := .pointer (some ⟨b4, 1, none⟩)) (fun _ => trivial) (wanted_of (j := 5) (d := 10) (b := true) rfl rfl rfl) rfl (ex_field rfl rfl (l8fa55_1 _ _ _)) ?_
    refine wpi_exG (v := .slice a2 n2 c2) (fun _ => trivial) (wanted_of (j := 5) (d := 10) (b := true) rfl rfl rfl) rfl (ex_load rfl rfl (run_load1 l8na24 (hv.load 0 1 rfl rfl))) ?_
    refine wpi_exG (v := .string ⟨l2.toArray⟩) (fun _ => trivial) (wanted_of (j := 5) (d := 10) (b := true) rfl rfl rfl) rfl (ex_str Try.underlying24 Try.underlying5 Try.underlying9 rfl rfl (rdBytes hr2.any' hv) (hn2)) ?_
    simp only [Act.put, List.setIfInBounds_toArray, List.set_cons_succ, List.set_cons_zero]
    refine wpi_exG (v := .bool (decide (l1 = l2))) (fun _ => trivial) (wanted_of (j := 5) (d := 10) (b := true) rfl rfl rfl) rfl (ex_seql (s := l1) (s' := l2) rfl rfl rfl rfl) ?_
    refine wpi_exG (v := .bool (decide (l1 = l2))) (fun _ => trivial) (wn rfl) rfl (ex_pick (b := true) rfl rfl rfl) ?_
    refine wpi_exG (v := .bool (decide (l1 = l2))) (fun _ => trivial) (wn rfl) rfl (ex_assign rfl rfl) ?_
    refine wpListIn_nil ?_
    simp only [Act.put, List.setIfInBounds_toArray, List.set_cons_succ, List.set_cons_zero]
    refine then_normal (hK6 _ _ ?_)
    clear hK6 K6
    refine wpIn_ret ?_
    refine bodyPost_ret (results_tmp rfl _ _ _) rfl ?_
    exact ⟨by rw [decide_eq_true hb7]; simp, hv.tail 2⟩
  · refine wpi_exG (v := .bool false) (fun _ => trivial) (wn rfl) rfl (ex_eql (k := .i64) (m := s1) (n := s2) rfl rfl rfl (decide_eq_false hb7)) ?_
    refine wpi_exG (v := .bool false) (fun _ => trivial) (wn rfl) rfl (ex_move rfl rfl) ?_
    simp only [Act.put, List.setIfInBounds_toArray, List.set_cons_succ, List.set_cons_zero]
    refine wpi_not (fun _ => trivial) (wanted_not (j := 5) (d := 10) (b := true) (b' := false) rfl rfl rfl (by decide)) ?_
    refine wpi_not (fun _ => trivial) (wanted_not (j := 5) (d := 10) (b := true) (b' := false) rfl rfl rfl (by decide)) ?_
    refine wpi_not (fun _ => trivial) (wanted_not (j := 5) (d := 10) (b := true) (b' := false) rfl rfl rfl (by decide)) ?_
    simp only [Act.put, List.setIfInBounds_toArray, List.set_cons_succ, List.set_cons_zero]
    refine wpi_not (fun _ => trivial) (wanted_not (j := 5) (d := 10) (b := true) (b' := false) rfl rfl rfl (by decide)) ?_
    refine wpi_not (fun _ => trivial) (wanted_not (j := 5) (d := 10) (b := true) (b' := false) rfl rfl rfl (by decide)) ?_
    refine wpi_not (fun _ => trivial) (wanted_not (j := 5) (d := 10) (b := true) (b' := false) rfl rfl rfl (by decide)) ?_
    simp only [Act.put, List.setIfInBounds_toArray, List.set_cons_succ, List.set_cons_zero]
    refine wpi_not (fun _ => trivial) (wanted_not (j := 5) (d := 10) (b := true) (b' := false) rfl rfl rfl (by decide)) ?_
    refine wpi_exG (v := .bool false) (fun _ => trivial) (wn rfl) rfl (ex_pick (b := false) rfl rfl rfl) ?_
    refine wpi_exG (v := .bool false) (fun _ => trivial) (wn rfl) rfl (ex_assign rfl rfl) ?_
    refine wpListIn_nil ?_
    simp only [Act.put, List.setIfInBounds_toArray, List.set_cons_succ, List.set_cons_zero]
    refine then_normal (hK6 _ _ ?_)
    clear hK6 K6
    refine wpIn_ret ?_
    refine bodyPost_ret (results_tmp rfl _ _ _) rfl ?_
    exact ⟨by rw [decide_eq_false hb7]; simp, hv.tail 2⟩
theorem l8callable21 : Callable Try.prog 21 := ⟨_, Try.func21, by kernel_rfl, by kernel_rfl⟩
theorem l8callable30 : Callable Try.prog 30 := ⟨_, Try.func30, by kernel_rfl, by kernel_rfl⟩
theorem l8al55 (w : World) : (Instr.alloc 55 true (.tuple #[])).run Try.prog w = .ok (.pointer (some ⟨w.heap.size, 0, none⟩)) (w.alloc (.cells ([.int .i64 0, .slice none 0 0] : List Value).toArray 55)) := by kernel_rfl
theorem l8sz55 : (Try.prog.info? 55).map (·.size) = some 2 := by kernel_rfl
theorem l8mk5 : (Try.prog.info? 5).map (fun i => (i.zero, i.size, i.bytes)) = some (some (.int .u8 0), 1, 1) := by kernel_rfl
theorem l8el24 : Elem Try.prog 24 5 (.int .u8 0) 1 1 := elem_of Try.underlying24 l8mk5 (by rfl) (by decide)
theorem l8callable36 : Callable Try.prog 36 := ⟨_, Try.func36, by kernel_rfl, by kernel_rfl⟩
theorem l8callable33 : Callable Try.prog 33 := ⟨_, Try.func33, by kernel_rfl, by kernel_rfl⟩
theorem l8callable25 : Callable Try.prog 25 := ⟨_, Try.func25, by kernel_rfl, by kernel_rfl⟩
theorem l8wd55 : Wide Try.prog 55 2 := wide_of (fun w => by kernel_rfl) (by kernel_rfl)
theorem l8callable32 : Callable Try.prog 32 := ⟨_, Try.func32, by kernel_rfl, by kernel_rfl⟩
set_option maxRecDepth 100000 in
set_option maxHeartbeats 1000000 in
theorem lawAwake08 (B : Base) (H : List Res) (w : World) (hv : Inv B H w) :
    Calls Try.prog 27 #[] w fun e w' => e = .returned (.bool true) ∧ Inv B H w' := by
  refine (callsIn_wide (n := 5)).1 ?_
  refine callsIn_of_wp Try.func27 rfl trivial ?_
  simp only [Try.ntmps27, List.size_toArray, List.length_cons, List.length_nil, Nat.reduceAdd, Nat.reduceSub, Array.replicate_succ, Array.replicate_zero, List.push_toArray, List.append_toArray, List.nil_append, List.cons_append]
  refine wpIn_seq_k (fun K1 hK1 => ?_)
  refine wpIn_region_lit ?_
  refine wpi_exG (v := .bool false) (fun _ => trivial) (wn rfl) rfl (ex_assign rfl rfl) ?_
  refine wpListIn_nil ?_
  simp only [Act.put, List.setIfInBounds_toArray, List.set_cons_succ, List.set_cons_zero]
  refine then_normal (hK1 _ _ ?_)
  clear hK1 K1
  refine wpIn_seq_k (fun K2 hK2 => ?_)
  refine wpIn_region_lit ?_
  refine wpi_callG l8callable21 (fun _ => trivial) wideC rfl (wn rfl) rfl (args := #[.int .i64 8]) (by simp only [List.map_toArray, List.map_cons, List.map_nil]; rfl) ((diskNewSl _ _ _ 8 (by omega) (by omega) hv).mono ?_)
  rintro e w5 ⟨p3, F4, rfl, hv⟩
  refine ⟨_, rfl, ?_⟩
  refine wpi_exG (v := .tuple #[.pointer (some ⟨p3, 0, none⟩), .int .i64 0]) (fun _ => trivial) (wn rfl) rfl (ex_move rfl rfl) ?_
  refine wpi_exG (v := .pointer (some ⟨p3, 0, none⟩)) (fun _ => trivial) (wn rfl) rfl (ex_extract rfl rfl rfl) ?_
  simp only [Act.put, List.setIfInBounds_toArray, List.set_cons_succ, List.set_cons_zero]
  refine wpi_exG (v := .int .i64 0) (fun _ => trivial) (wn rfl) rfl (ex_extract rfl rfl rfl) ?_
  refine wpi_exG (v := .pointer (some ⟨p3, 0, none⟩)) (fun _ => trivial) (wn rfl) rfl (ex_assign rfl rfl) ?_
  refine wpi_exG (v := .int .i64 0) (fun _ => trivial) (wn rfl) rfl (ex_assign rfl rfl) ?_
  refine wpListIn_nil ?_
  simp only [Act.put, List.setIfInBounds_toArray, List.set_cons_succ, List.set_cons_zero]
  refine then_normal (hK2 _ _ ?_)
  clear hK2 K2
  refine wpIn_seq_k (fun K6 hK6 => ?_)
  refine wpIn_seq_k (fun K7 hK7 => ?_)
  refine wpIn_region_lit ?_
  refine wpi_exG (v := .pointer (some ⟨p3, 0, none⟩)) (fun _ => trivial) (wn rfl) rfl (ex_move rfl rfl) ?_
  refine wpi_exG (v := .bool false) (fun _ => trivial) (wn rfl) rfl (ex_pisnil Try.underlying36 rfl rfl rfl rfl) ?_
  refine wpListIn_nil ?_
  simp only [Act.put, List.setIfInBounds_toArray, List.set_cons_succ, List.set_cons_zero]
  refine then_normal (hK7 _ _ ?_)
  clear hK7 K7
  refine wpIn_cond_false rfl ?_
  refine wpIn_skip ?_
  refine then_normal (hK6 _ _ ?_)
  clear hK6 K6
  refine wpIn_seq_k (fun K8 hK8 => ?_)
  refine wpIn_region_lit ?_
  refine wpi_exG (v := .pointer (some ⟨p3, 0, none⟩)) (fun _ => trivial) (wn rfl) rfl (ex_move rfl rfl) ?_
  refine wpi_callG l8callable30 (fun _ => trivial) wideC rfl (wn rfl) rfl (args := #[.pointer (some ⟨p3, 0, none⟩), .int .i64 0, .int .i64 4]) (by simp only [List.map_toArray, List.map_cons, List.map_nil]; rfl) ((slotsOpen _ _ _ p3 0 4 (Disk.zero 8) (Disk.zero 8) _ rfl (by decide) (by kernel_rfl) (by decide) (by decide) (by decide) (by rw [aw8_l0]; decide) (by rw [aw8_l0]; decide) hv).mono ?_)
  rintro e w14 ⟨q9, cur10, ad11, c12, F13, hcur, rfl, hv⟩
  refine ⟨_, rfl, ?_⟩
  obtain rfl : cur10 = none := (curI_eq hcur).trans aw8_0
  refine wpi_exG (v := .tuple #[.pointer (some ⟨q9, 0, none⟩), .agg #[.int .i64 0, .slice ad11 0 c12], .bool false, .int .i64 0]) (fun _ => trivial) (wn rfl) rfl (ex_move rfl rfl) ?_
  simp only [Act.put, List.setIfInBounds_toArray, List.set_cons_succ, List.set_cons_zero]
  refine wpi_exG (v := .pointer (some ⟨q9, 0, none⟩)) (fun _ => trivial) (wn rfl) rfl (ex_extract rfl rfl rfl) ?_
  refine wpi_exG (v := .agg #[.int .i64 0, .slice ad11 0 c12]) (fun _ => trivial) (wn rfl) rfl (ex_extract rfl rfl rfl) ?_
  refine wpi_exG (v := .bool false) (fun _ => trivial) (wn rfl) rfl (ex_extract rfl rfl rfl) ?_
  simp only [Act.put, List.setIfInBounds_toArray, List.set_cons_succ, List.set_cons_zero]
  refine wpi_exG (v := .int .i64 0) (fun _ => trivial) (wn rfl) rfl (ex_extract rfl rfl rfl) ?_
  refine sl_alloc (fun _ => trivial) (wn rfl) rfl hv l8al55 (fun b15 w16 hv => ?_)
  refine wpi_exG (v := .pointer (some ⟨q9, 0, none⟩)) (fun _ => trivial) (wn rfl) rfl (ex_assign rfl rfl) ?_
  simp only [Act.put, List.setIfInBounds_toArray, List.set_cons_succ, List.set_cons_zero]
  refine sl_storeNAt 0 (new := [.int .i64 0, .slice ad11 0 c12]) (pre := []) (mid := [.int .i64 0, .slice none 0 0]) (post := []) (L' := [.int .i64 0, .slice ad11 0 c12]) (fun _ => trivial) (wn rfl) rfl rfl rfl hv rfl l8sz55 rfl rfl rfl (one_cons rfl (one_cons rfl one_nil)) rfl (fun w17 hv => ?_)
  simp only [List.set_cons_succ, List.set_cons_zero] at hv
  refine wpi_exG (v := .bool false) (fun _ => trivial) (wn rfl) rfl (ex_assign rfl rfl) ?_
  refine wpi_exG (v := .int .i64 0) (fun _ => trivial) (wn rfl) rfl (ex_assign rfl rfl) ?_
  refine wpListIn_nil ?_
  simp only [Act.put, List.setIfInBounds_toArray, List.set_cons_succ, List.set_cons_zero]
  refine then_normal (hK8 _ _ ?_)
  clear hK8 K8
  refine wpIn_seq_k (fun K18 hK18 => ?_)
  refine wpIn_seq_k (fun K19 hK19 => ?_)
  refine wpIn_region_lit ?_
  refine wpi_exG (v := .pointer (some ⟨q9, 0, none⟩)) (fun _ => trivial) (wn rfl) rfl (ex_move rfl rfl) ?_
  refine wpi_exG (v := .bool false) (fun _ => trivial) (wn rfl) rfl (ex_pisnil Try.underlying53 rfl rfl rfl rfl) ?_
  refine wpi_exG (v := .bool false) (fun _ => trivial) (wn rfl) rfl (ex_move rfl rfl) ?_
  simp only [Act.put, List.setIfInBounds_toArray, List.set_cons_succ, List.set_cons_zero]
  refine wpi_exG (v := .bool false) (fun _ => trivial) (wanted_of (j := 2) (d := 26) (b := false) rfl rfl rfl) rfl (ex_move rfl rfl) ?_
  refine wpi_exG (v := .bool false) (fun _ => trivial) (wn rfl) rfl (ex_pick (b := false) rfl rfl rfl) ?_
  refine wpi_exG (v := .bool false) (fun _ => trivial) (wn rfl) rfl (ex_move rfl rfl) ?_
  simp only [Act.put, List.setIfInBounds_toArray, List.set_cons_succ, List.set_cons_zero]
  refine wpi_exG (v := .int .i64 0) (fun _ => trivial) (wanted_of (j := 5) (d := 29) (b := false) rfl rfl rfl) rfl (ex_move rfl rfl) ?_
  refine wpi_exG (v := .bool false) (fun _ => trivial) (wanted_of (j := 5) (d := 29) (b := false) rfl rfl rfl) rfl (ex_neq (k := .i64) (m := 0) (n := 0) rfl rfl rfl (by decide)) ?_
  refine wpi_exG (v := .bool false) (fun _ => trivial) (wn rfl) rfl (ex_pick (b := false) rfl rfl rfl) ?_
  simp only [Act.put, List.setIfInBounds_toArray, List.set_cons_succ, List.set_cons_zero]
  refine wpi_exG (v := .bool false) (fun _ => trivial) (wn rfl) rfl (ex_move rfl rfl) ?_
  refine wpi_exG (v := .pointer (some ⟨q9, 0, none⟩)) (fun _ => trivial) (wanted_of (j := 9) (d := 33) (b := false) rfl rfl rfl) rfl (ex_move rfl rfl) ?_
  refine sl_rowOne (v := .int .u8 97) (fun _ => trivial) (wanted_of (j := 9) (d := 33) (b := false) rfl rfl rfl) rfl rfl hv l8el24 rfl (fun b20 w21 hv => ?_)
  simp only [Act.put, List.setIfInBounds_toArray, List.set_cons_succ, List.set_cons_zero]
  refine sl_mark (fun _ => trivial) (wanted_of (j := 9) (d := 33) (b := false) rfl rfl rfl) rfl rfl Try.underlying24 Try.underlying5 hv (fun B22 w24 hB23 hv hrd25 => ?_)
  refine wpi_exG (v := .agg #[.int .i64 5, .slice (some ⟨b20, 0, none⟩) 1 1]) (fun _ => trivial) (wanted_of (j := 9) (d := 33) (b := false) rfl rfl rfl) rfl (ex_buildN (vs := #[(0, .int .i64 5), (1, .slice (some ⟨b20, 0, none⟩) 1 1)]) rfl (by simp only [List.map_toArray, List.map_cons, List.map_nil]; rfl) (by kernel_rfl)) ?_
  replace hv := hv.front 3 rfl
  simp only [List.eraseIdx_cons_succ, List.eraseIdx_cons_zero] at hv
  replace hv := hv.front 2 rfl
  simp only [List.eraseIdx_cons_succ, List.eraseIdx_cons_zero] at hv
  refine wpi_callG l8callable36 (fun _ => trivial) wideC rfl (wanted_of (j := 9) (d := 33) (b := false) rfl rfl rfl) rfl (args := #[.pointer (some ⟨q9, 0, none⟩), .agg #[.int .i64 5, .slice (some ⟨b20, 0, none⟩) 1 1]]) (by simp only [List.map_toArray, List.map_cons, List.map_nil]; rfl) ((slotsSave _ _ _ q9 p3 0 4 0 false (Disk.zero 8) _ 5 _ _ _ [97] _ rfl (by decide) (by decide) (by decide) (by rw [aw8_l0]; decide) (by rw [aw8_l0]; decide) (by decide) rfl (ok_full (by decide)) hrd25.any' hv).mono ?_)
  rintro e w27 ⟨F26, rfl, hv⟩
  refine ⟨_, rfl, ?_⟩
  rw [aw8_s1] at hv ⊢
  simp only [Act.put, List.setIfInBounds_toArray, List.set_cons_succ, List.set_cons_zero]
  refine wpi_exG (v := .bool false) (fun _ => trivial) (wanted_of (j := 9) (d := 33) (b := false) rfl rfl rfl) rfl (ex_neq (k := .i64) (m := 0) (n := 0) rfl rfl rfl (by decide)) ?_
  refine wpi_exG (v := .bool false) (fun _ => trivial) (wn rfl) rfl (ex_pick (b := false) rfl rfl rfl) ?_
  refine wpi_exG (v := .bool false) (fun _ => trivial) (wn rfl) rfl (ex_move rfl rfl) ?_
  simp only [Act.put, List.setIfInBounds_toArray, List.set_cons_succ, List.set_cons_zero]
  refine wpi_exG (v := .pointer (some ⟨q9, 0, none⟩)) (fun _ => trivial) (wanted_of (j := 17) (d := 41) (b := false) rfl rfl rfl) rfl (ex_move rfl rfl) ?_
  refine sl_rowOne (v := .int .u8 98) (fun _ => trivial) (wanted_of (j := 17) (d := 41) (b := false) rfl rfl rfl) rfl rfl hv l8el24 rfl (fun b28 w29 hv => ?_)
  refine sl_mark (fun _ => trivial) (wanted_of (j := 17) (d := 41) (b := false) rfl rfl rfl) rfl rfl Try.underlying24 Try.underlying5 hv (fun B30 w32 hB31 hv hrd33 => ?_)
  simp only [Act.put, List.setIfInBounds_toArray, List.set_cons_succ, List.set_cons_zero]
  refine wpi_exG (v := .agg #[.int .i64 6, .slice (some ⟨b28, 0, none⟩) 1 1]) (fun _ => trivial) (wanted_of (j := 17) (d := 41) (b := false) rfl rfl rfl) rfl (ex_buildN (vs := #[(0, .int .i64 6), (1, .slice (some ⟨b28, 0, none⟩) 1 1)]) rfl (by simp only [List.map_toArray, List.map_cons, List.map_nil]; rfl) (by kernel_rfl)) ?_
  replace hv := hv.front 1 rfl
  simp only [List.eraseIdx_cons_succ, List.eraseIdx_cons_zero] at hv
  replace hv := hv.front 1 rfl
  simp only [List.eraseIdx_cons_succ, List.eraseIdx_cons_zero] at hv
  refine wpi_callG l8callable36 (fun _ => trivial) wideC rfl (wanted_of (j := 17) (d := 41) (b := false) rfl rfl rfl) rfl (args := #[.pointer (some ⟨q9, 0, none⟩), .agg #[.int .i64 6, .slice (some ⟨b28, 0, none⟩) 1 1]]) (by simp only [List.map_toArray, List.map_cons, List.map_nil]; rfl) ((slotsSave _ _ _ q9 p3 0 4 1 false AD1 _ 6 _ _ _ [98] _ rfl (by decide) (by decide) (by decide) (by rw [aw8_l1]; decide) (by rw [aw8_l1]; decide) (by rw [aw8_p1]; decide) rfl (ok_full (by decide)) hrd33.any' hv).mono ?_)
  rintro e w35 ⟨F34, rfl, hv⟩
  refine ⟨_, rfl, ?_⟩
  rw [aw8_s2] at hv ⊢
  refine wpi_exG (v := .bool false) (fun _ => trivial) (wanted_of (j := 17) (d := 41) (b := false) rfl rfl rfl) rfl (ex_neq (k := .i64) (m := 0) (n := 0) rfl rfl rfl (by decide)) ?_
  simp only [Act.put, List.setIfInBounds_toArray, List.set_cons_succ, List.set_cons_zero]
  refine wpi_exG (v := .bool false) (fun _ => trivial) (wn rfl) rfl (ex_pick (b := false) rfl rfl rfl) ?_
  refine wpi_exG (v := .bool false) (fun _ => trivial) (wn rfl) rfl (ex_move rfl rfl) ?_
  refine wpi_exG (v := .pointer (some ⟨q9, 0, none⟩)) (fun _ => trivial) (wanted_of (j := 25) (d := 49) (b := false) rfl rfl rfl) rfl (ex_move rfl rfl) ?_
  simp only [Act.put, List.setIfInBounds_toArray, List.set_cons_succ, List.set_cons_zero]
  refine wpi_callG l8callable33 (fun _ => trivial) wideC rfl (wanted_of (j := 25) (d := 49) (b := false) rfl rfl rfl) rfl (args := #[.pointer (some ⟨q9, 0, none⟩)]) (by simp only [List.map_toArray, List.map_cons, List.map_nil]; rfl) ((slotsGeneration _ _ _ q9 p3 0 4 2 false (hv.front 0 rfl)).mono ?_)
  rintro e w36 ⟨rfl, rfl⟩
  refine ⟨_, rfl, ?_⟩
  refine wpi_exG (v := .bool false) (fun _ => trivial) (wanted_of (j := 25) (d := 49) (b := false) rfl rfl rfl) rfl (ex_neq (k := .i64) (m := 2) (n := 2) rfl rfl rfl (by decide)) ?_
  refine wpi_exG (v := .bool false) (fun _ => trivial) (wn rfl) rfl (ex_pick (b := false) rfl rfl rfl) ?_
  refine wpListIn_nil ?_
  simp only [Act.put, List.setIfInBounds_toArray, List.set_cons_succ, List.set_cons_zero]
  refine then_normal (hK19 _ _ ?_)
  clear hK19 K19
  refine wpIn_cond_false rfl ?_
  refine wpIn_skip ?_
  refine then_normal (hK18 _ _ ?_)
  clear hK18 K18
  refine wpIn_seq_k (fun K37 hK37 => ?_)
  refine wpIn_region_lit ?_
  refine wpi_exG (v := .pointer (some ⟨p3, 0, none⟩)) (fun _ => trivial) (wn rfl) rfl (ex_move rfl rfl) ?_
  replace hv := hv.front 1 rfl
  simp only [List.eraseIdx_cons_succ, List.eraseIdx_cons_zero] at hv
  refine wpi_callG l8callable25 (fun _ => trivial) wideC rfl (wn rfl) rfl (args := #[.pointer (some ⟨p3, 0, none⟩), .slice none 0 0]) (by simp only [List.map_toArray, List.map_cons, List.map_nil]; rfl) ((diskCrashSl _ _ _ p3 _ _ _ _ _ [] hv (by rw [aw8_p2]; decide) rfl (by decide) rdV_nil (by decide)).mono ?_)
  rintro e w39 ⟨F38, rfl, hv⟩
  refine ⟨_, rfl, ?_⟩
  refine wpListIn_nil ?_
  simp only [Act.put, List.setIfInBounds_toArray, List.set_cons_succ, List.set_cons_zero]
  refine then_normal (hK37 _ _ ?_)
  clear hK37 K37
  refine wpIn_seq_k (fun K40 hK40 => ?_)
  refine wpIn_region_lit ?_
  refine wpi_exG (v := .pointer (some ⟨p3, 0, none⟩)) (fun _ => trivial) (wn rfl) rfl (ex_move rfl rfl) ?_
  refine wpi_callG l8callable30 (fun _ => trivial) wideC rfl (wn rfl) rfl (args := #[.pointer (some ⟨p3, 0, none⟩), .int .i64 0, .int .i64 4]) (by simp only [List.map_toArray, List.map_cons, List.map_nil]; rfl) ((slotsOpen _ _ _ p3 0 4 (AD3) (AD3) _ rfl (by decide) (by kernel_rfl) (by rw [aw8_left]; decide) (by decide) (by decide) (by rw [aw8_l3]; decide) (by rw [aw8_l3]; decide) hv).mono ?_)
  rintro e w46 ⟨q41, cur42, ad43, c44, F45, hcur, rfl, hv⟩
  refine ⟨_, rfl, ?_⟩
  obtain ⟨hcg, hct, hcb⟩ := aw8_cur (curI_eq hcur)
  simp only [hcg, hct, hcb] at hv
  rw [hcg, hct, hcb]
  replace hv := hv.front 1 rfl
  simp only [List.eraseIdx_cons_succ, List.eraseIdx_cons_zero] at hv
  obtain ⟨B47, hB48, hv, hrx, hokx⟩ := Inv.rowStays hv
  refine wpi_exG (v := .tuple #[.pointer (some ⟨q41, 0, none⟩), .agg #[.int .i64 6, .slice ad43 1 c44], .bool true, .int .i64 0]) (fun _ => trivial) (wn rfl) rfl (ex_move rfl rfl) ?_
  simp only [Act.put, List.setIfInBounds_toArray, List.set_cons_succ, List.set_cons_zero]
  refine wpi_exG (v := .pointer (some ⟨q41, 0, none⟩)) (fun _ => trivial) (wn rfl) rfl (ex_extract rfl rfl rfl) ?_
  refine wpi_exG (v := .agg #[.int .i64 6, .slice ad43 1 c44]) (fun _ => trivial) (wn rfl) rfl (ex_extract rfl rfl rfl) ?_
  refine wpi_exG (v := .bool true) (fun _ => trivial) (wn rfl) rfl (ex_extract rfl rfl rfl) ?_
  simp only [Act.put, List.setIfInBounds_toArray, List.set_cons_succ, List.set_cons_zero]
  refine wpi_exG (v := .int .i64 0) (fun _ => trivial) (wn rfl) rfl (ex_extract rfl rfl rfl) ?_
  refine sl_alloc (fun _ => trivial) (wn rfl) rfl hv l8al55 (fun b49 w50 hv => ?_)
  refine wpi_exG (v := .pointer (some ⟨q41, 0, none⟩)) (fun _ => trivial) (wn rfl) rfl (ex_assign rfl rfl) ?_
  simp only [Act.put, List.setIfInBounds_toArray, List.set_cons_succ, List.set_cons_zero]
  refine sl_storeNAt 0 (new := [.int .i64 6, .slice ad43 1 c44]) (pre := []) (mid := [.int .i64 0, .slice none 0 0]) (post := []) (L' := [.int .i64 6, .slice ad43 1 c44]) (fun _ => trivial) (wn rfl) rfl rfl rfl hv rfl l8sz55 rfl rfl rfl (one_cons rfl (one_cons rfl one_nil)) rfl (fun w51 hv => ?_)
  simp only [List.set_cons_succ, List.set_cons_zero] at hv
  refine wpi_exG (v := .bool true) (fun _ => trivial) (wn rfl) rfl (ex_assign rfl rfl) ?_
  refine wpi_exG (v := .int .i64 0) (fun _ => trivial) (wn rfl) rfl (ex_assign rfl rfl) ?_
  refine wpListIn_nil ?_
  simp only [Act.put, List.setIfInBounds_toArray, List.set_cons_succ, List.set_cons_zero]
  refine then_normal (hK40 _ _ ?_)
  clear hK40 K40
  refine wpIn_seq_k (fun K52 hK52 => ?_)
  refine wpIn_region_lit ?_
  refine wpi_exG (v := .bool true) (fun _ => trivial) (wn rfl) rfl (ex_move rfl rfl) ?_
  refine wpi_exG (v := .bool true) (fun _ => trivial) (wn rfl) rfl (ex_move rfl rfl) ?_
  refine wpi_exG (v := .int .i64 0) (fun _ => trivial) (wanted_of (j := 1) (d := 64) (b := true) rfl rfl rfl) rfl (ex_move rfl rfl) ?_
  simp only [Act.put, List.setIfInBounds_toArray, List.set_cons_succ, List.set_cons_zero]
  refine wpi_exG (v := .bool true) (fun _ => trivial) (wanted_of (j := 1) (d := 64) (b := true) rfl rfl rfl) rfl (ex_eql (k := .i64) (m := 0) (n := 0) rfl rfl rfl (by decide)) ?_
  refine wpi_exG (v := .bool true) (fun _ => trivial) (wn rfl) rfl (ex_pick (b := true) rfl rfl rfl) ?_
  refine wpi_exG (v := .bool true) (fun _ => trivial) (wn rfl) rfl (ex_move rfl rfl) ?_
  simp only [Act.put, List.setIfInBounds_toArray, List.set_cons_succ, List.set_cons_zero]
  refine wpi_exG (v := .agg #[.int .i64 6, .slice ad43 1 c44]) (fun _ => trivial) (wanted_of (j := 5) (d := 68) (b := true) rfl rfl rfl) rfl (ex_load rfl rfl (run_load_mid (pre := []) (mid := [.int .i64 6, .slice ad43 1 c44]) (post := []) l8wd55 (show Blk _ b49 ([] ++ [.int .i64 6, .slice ad43 1 c44] ++ []) _ from hv.get 0 rfl) rfl)) ?_
  refine sl_rowOne (v := .int .u8 98) (fun _ => trivial) (wanted_of (j := 5) (d := 68) (b := true) rfl rfl rfl) rfl rfl hv l8el24 rfl (fun b53 w54 hv => ?_)
  refine sl_mark (fun _ => trivial) (wanted_of (j := 5) (d := 68) (b := true) rfl rfl rfl) rfl rfl Try.underlying24 Try.underlying5 hv (fun B55 w57 hB56 hv hrd58 => ?_)
  simp only [Act.put, List.setIfInBounds_toArray, List.set_cons_succ, List.set_cons_zero]
  refine wpi_exG (v := .agg #[.int .i64 6, .slice (some ⟨b53, 0, none⟩) 1 1]) (fun _ => trivial) (wanted_of (j := 5) (d := 68) (b := true) rfl rfl rfl) rfl (ex_buildN (vs := #[(0, .int .i64 6), (1, .slice (some ⟨b53, 0, none⟩) 1 1)]) rfl (by simp only [List.map_toArray, List.map_cons, List.map_nil]; rfl) (by kernel_rfl)) ?_
  replace hrx := hrx.more hB56 (fun _ h => h)
  refine wpi_callG l8callable32 (fun _ => trivial) wideC rfl (wanted_of (j := 5) (d := 68) (b := true) rfl rfl rfl) rfl (args := #[.agg #[.int .i64 6, .slice ad43 1 c44], .agg #[.int .i64 6, .slice (some ⟨b53, 0, none⟩) 1 1]]) (by simp only [List.map_toArray, List.map_cons, List.map_nil]; rfl) ((lawSame08 _ _ _ 6 6 _ _ 1 1 _ _ [98] [98] rfl rfl hrx hrd58 hv).mono ?_)
  rintro e w59 ⟨rfl, hv⟩
  refine ⟨_, rfl, ?_⟩
  refine wpi_exG (v := .bool true) (fun _ => trivial) (wn rfl) rfl (ex_pick (b := true) rfl rfl rfl) ?_
  simp only [Act.put, List.setIfInBounds_toArray, List.set_cons_succ, List.set_cons_zero]
  refine wpi_exG (v := .bool true) (fun _ => trivial) (wn rfl) rfl (ex_assign rfl rfl) ?_
  refine wpListIn_nil ?_
  simp only [Act.put, List.setIfInBounds_toArray, List.set_cons_succ, List.set_cons_zero]
  refine then_normal (hK52 _ _ ?_)
  clear hK52 K52
  refine wpIn_ret ?_
  refine bodyPost_ret (results_tmp rfl _ _ _) rfl ?_
  exact ⟨rfl, (hv.tail 6).weak (((hB23.trans hB31).trans hB48).trans hB56)⟩
end Go.Proofs.Ytkannfkjnohdlaa
/- SlotsTurn -/
namespace Go.Proofs.Ytkannfkjnohdlaa
open Go.RowKit Go.Pm
theorem put_other (l : List (Nat × List UInt8)) (d : List (List UInt8)) (k : Nat) (hl : ∀ p ∈ l, p.1 ≠ k) : (l.foldl Disk.put d)[k]? = d[k]? := by
  induction l generalizing d with
  | nil => rfl
  | cons p l ih =>
    rw [List.foldl_cons, ih _ (fun q hq => hl q (by simp [hq]))]
    unfold Disk.put
    rw [List.getElem?_set_ne (hl p (by simp))]
end Go.Proofs.Ytkannfkjnohdlaa
/- SlotsKeep, as plain data: which slot counts after saves, failures and crashes. -/
namespace Go.Proofs.Ytkannfkjnohdlaa
open Go.RowKit Go.Pm
theorem piece_app {s x y z : List UInt8} {i m : Nat} (hs : s = x ++ (y ++ z)) (hi : x.length = i) (hm : y.length = m) : piece s i m = y := by
  subst hi hm
  rw [hs]
  unfold piece
  rw [List.drop_left, List.take_left]
/-- a header and its body are a checkpoint -/
theorem ck_made (g st : Nat) (l r : List UInt8) (h1 : 1 ≤ g) (h2 : g < 9223372036854775808) (h3 : st ≤ 1152921504606846975) (h4 : l.length ≤ 1048576) :
    CkOk (headOf g st l ++ (l ++ r)) (g % 2) ∧ ckG (headOf g st l ++ (l ++ r)) = g ∧ ckT (headOf g st l ++ (l ++ r)) = st ∧ ckB (headOf g st l ++ (l ++ r)) = l := by
  have e8 : (256 : Nat) ^ 8 = 18446744073709551616 := by decide
  have e4 : (256 : Nat) ^ 4 = 4294967296 := by decide
  have hg : ckG (headOf g st l ++ (l ++ r)) = g := by
    unfold ckG
    rw [piece_app (x := [83]) (y := beOf 8 g) (z := (beOf 8 st ++ (beOf 4 l.length ++ (beOf 4 (Crc.sum l) ++ (List.replicate 39 0 ++ (l ++ r)))))) (i := 1) (by simp only [headOf, List.append_assoc]) rfl (beOf_length _ _), numOf_be _ _ (by omega)]
  have ht : ckT (headOf g st l ++ (l ++ r)) = st := by
    unfold ckT
    rw [piece_app (x := [83] ++ beOf 8 g) (y := beOf 8 st) (z := (beOf 4 l.length ++ (beOf 4 (Crc.sum l) ++ (List.replicate 39 0 ++ (l ++ r))))) (by simp only [headOf, List.append_assoc]) (by rw [List.length_append, beOf_length]; rfl) (beOf_length _ _), numOf_be _ _ (by omega)]
  have hn : ckN (headOf g st l ++ (l ++ r)) = l.length := by
    unfold ckN
    rw [piece_app (x := [83] ++ beOf 8 g ++ beOf 8 st) (y := beOf 4 l.length) (z := (beOf 4 (Crc.sum l) ++ (List.replicate 39 0 ++ (l ++ r)))) (by simp only [headOf, List.append_assoc]) (by rw [List.length_append, List.length_append, beOf_length, beOf_length]; rfl) (beOf_length _ _), numOf_be _ _ (by omega)]
  have hb : ckB (headOf g st l ++ (l ++ r)) = l := by
    unfold ckB
    rw [hn, piece_app rfl (headOf_len _ _ _) rfl]
  have hs : numOf (piece (headOf g st l ++ (l ++ r)) 21 4) = Crc.sum l := by
    rw [piece_app (x := [83] ++ beOf 8 g ++ beOf 8 st ++ beOf 4 l.length) (y := beOf 4 (Crc.sum l)) (z := (List.replicate 39 0 ++ (l ++ r))) (by simp only [headOf, List.append_assoc]) (by rw [List.length_append, List.length_append, List.length_append, beOf_length, beOf_length, beOf_length]; rfl) (beOf_length _ _), numOf_be _ _ (by have := Crc.sum_lt l; omega)]
  refine ⟨⟨?_, fun j hj => ?_, by omega, by omega, by rw [hg], by omega, by omega, ?_, by rw [hb, hs]⟩, hg, ht, hb⟩
  · simp only [headOf, List.append_assoc]
    rfl
  · have e : headOf g st l ++ (l ++ r) = ([83] ++ beOf 8 g ++ beOf 8 st ++ beOf 4 l.length ++ beOf 4 (Crc.sum l)) ++ (List.replicate 39 0 ++ (l ++ r)) := by simp only [headOf, List.append_assoc]
    have hl : ([83] ++ beOf 8 g ++ beOf 8 st ++ beOf 4 l.length ++ beOf 4 (Crc.sum l)).length = 25 := by
      rw [List.length_append, List.length_append, List.length_append, List.length_append, beOf_length, beOf_length, beOf_length, beOf_length]; rfl
    rw [e, List.getElem?_append_right (by omega), hl, Nat.add_sub_cancel_left, List.getElem?_append_left (by rw [List.length_replicate]; exact hj), List.getElem?_replicate, if_pos hj]
  · rw [hn, List.length_append, headOf_len, List.length_append]; omega
end Go.Proofs.Ytkannfkjnohdlaa
/- SlotsKeep, as plain data: saves, crashes. -/
namespace Go.Proofs.Ytkannfkjnohdlaa
open Go.RowKit Go.Pm
theorem put_getD (l : List (Nat × List UInt8)) (d : List (List UInt8)) (k : Nat) (hl : ∀ p ∈ l, p.1 ≠ k) : (l.foldl Disk.put d).getD k [] = d.getD k [] := by
  rw [List.getD_eq_getElem?_getD, List.getD_eq_getElem?_getD, put_other l d k hl]
end Go.Proofs.Ytkannfkjnohdlaa
/- disk.Limit -/
namespace Go.Proofs.Ytkannfkjnohdlaa
open Go.RowKit Go.Pm

end Go.Proofs.Ytkannfkjnohdlaa
/- CrcApart's walk. -/
namespace Go.Proofs.Ytkannfkjnohdlaa
open Go.RowKit Go.Pm

/-- l with i of the bytes cs from place k on -/
def ov (l : List UInt8) (k : Nat) (cs : List UInt8) : Nat → List UInt8
  | 0 => l
  | i + 1 => (ov l k cs i).set (k + i) (cs.getD i 0)
theorem cut4 (l : List UInt8) (k : Nat) (h : k + 4 ≤ l.length) : ∃ p q b0 b1 b2 b3, l = p ++ b0 :: b1 :: b2 :: b3 :: q ∧ p.length = k := by
  have hd : (l.drop k).length = l.length - k := List.length_drop
  have hl := (List.take_append_drop k l).symm
  match hr : l.drop k with
  | [] => rw [hr] at hd; simp at hd; omega
  | [_] => rw [hr] at hd; simp at hd; omega
  | [_, _] => rw [hr] at hd; simp at hd; omega
  | [_, _, _] => rw [hr] at hd; simp at hd; omega
  | b0 :: b1 :: b2 :: b3 :: q => exact ⟨l.take k, q, b0, b1, b2, b3, by rw [hr] at hl; exact hl, by simp; omega⟩
theorem ov4 (l : List UInt8) (k : Nat) (c0 c1 c2 c3 : UInt8) (h : k + 4 ≤ l.length) :
    ∃ p q b0 b1 b2 b3, l = p ++ [b0, b1, b2, b3] ++ q ∧ ov l k [c0, c1, c2, c3] 4 = p ++ [c0, c1, c2, c3] ++ q := by
  obtain ⟨p, q, b0, b1, b2, b3, rfl, rfl⟩ := cut4 l k h
  refine ⟨p, q, b0, b1, b2, b3, by simp, ?_⟩
  simp [ov]
theorem apart (l : List UInt8) (k : Nat) (c0 c1 c2 c3 : UInt8) (h : k + 4 ≤ l.length) : Crc.sum l = Crc.sum (ov l k [c0, c1, c2, c3] 4) ↔ l = ov l k [c0, c1, c2, c3] 4 := by
  constructor
  · intro he
    obtain ⟨p, q, b0, b1, b2, b3, h1, h2⟩ := ov4 l k c0 c1 c2 c3 h
    rw [h2] at he ⊢
    have he' : Crc.sum (p ++ [b0, b1, b2, b3] ++ q) = Crc.sum (p ++ [c0, c1, c2, c3] ++ q) := by rw [← h1]; exact he
    obtain ⟨rfl, rfl, rfl, rfl⟩ := Crc.sum_apart p q _ _ _ _ _ _ _ _ he'
    exact h1
  · intro he; rw [← he]

end Go.Proofs.Ytkannfkjnohdlaa
/- Arguments of laws: ints in slices. -/
namespace Go.Proofs.Ytkannfkjnohdlaa
open Go.RowKit Go.Pm
end Go.Proofs.Ytkannfkjnohdlaa
/- An operation whose guard's operation was itself not wanted. -/
namespace Go.Pm
open Go.RowKit
section
variable {o : Oper} {a : Act}
theorem wanted_undef {ops : Array Oper} {j d : Nat} {b : Bool} (hgd : o.guard = some (j, b)) (hd : (ops[j]?).bind (·.dst) = some d) (h : a.tmps.getD d undef = undef) : Region.wanted o (yielded ops a.tmps) = false := by
  have hy : yielded ops a.tmps j = none := by
    unfold yielded
    rw [hd]
    simp only [Option.bind_some]
    rw [Array.getD_eq_getD_getElem?] at h
    cases h2 : a.tmps[d]? with
    | none => rfl
    | some x => rw [h2] at h; simp only [Option.getD_some] at h; rw [h]; rfl
  unfold Region.wanted
  rw [hgd]
  simp [hy]
end
end Go.Pm
/- SlotsKeep: its arguments; bools compared; aggregates from the base. -/
namespace Go.Pm
open Go.RowKit
section
variable {P : Program} {o : Oper} {a : Act} {w : World} {t u : TypeId} {x y : Operand}
end
end Go.Pm
namespace Go.Proofs.Ytkannfkjnohdlaa
open Go.RowKit Go.Pm
end Go.Proofs.Ytkannfkjnohdlaa
/- The log, as plain data. -/
namespace Go.Pm
end Go.Pm
/- log: Sectors, zero, number, put, Last, Reset -/
namespace Go.Proofs.Ytkannfkjnohdlaa
open Go.RowKit Go.Pm
end Go.Proofs.Ytkannfkjnohdlaa
/- log.record -/
namespace Go.Proofs.Ytkannfkjnohdlaa
open Go.RowKit Go.Pm
set_option maxRecDepth 100000 in
theorem slice_from {ab off len cap lo : Nat} (h1 : lo ≤ len) (h2 : len ≤ cap) (h3 : cap ≤ maxLen) : ∃ za, (∀ w, (Instr.sliceAt 24 (.slice (some ⟨ab, off, none⟩) len cap) (some (.int .i64 (lo : Int))) none none).run Try.prog w = .ok (.slice za (len - lo) (cap - lo)) w) ∧ (lo < cap → za = some ⟨ab, off + lo, none⟩) ∧ SliceOk za (len - lo) (cap - lo) := by
  have hs : ∀ w, (sizeOf (Try.prog.elem 24)).run Try.prog w = .ok 1 w := fun w => by kernel_rfl
  by_cases hc : lo < cap
  · exact ⟨some ⟨ab, off + lo, none⟩, fun w => run_from1 Try.underlying24 hs h1 hc, fun _ => rfl, ⟨by omega, by omega, fun h => by cases h⟩⟩
  · have e1 : lo = cap := by omega
    refine ⟨some ⟨ab, off, none⟩, fun w => ?_, fun h => absurd h hc, ⟨by omega, by omega, fun h => by cases h⟩⟩
    rw [run_sliceAt_slice w 24 _ _ _ _ Try.underlying24, run_slice_l w 24 _ len cap Try.underlying24 .i64 lo (by omega) (by omega), hs]
    simp only [Result.andThen, sliced, Int.toNat_natCast]
    rw [if_pos e1.symm]
end Go.Proofs.Ytkannfkjnohdlaa
/- A row of one struct. -/
namespace Go.Pm
open Go.RowKit
section
variable {F : Fence} {n : Nat} {P : Program} {ops : Array Oper} {Q : Exit → Act → World → Prop} {a : Act} {w : World} {rest : List Oper} {o : Oper} {zv : Value} {B : Base} {H : List Res} {t e : TypeId} {x : Operand} {bytes k : Nat} {L : List Value}
end
section
variable {P : Program} {ops : Array Oper} {Q : Exit → Act → World → Prop} {J : List Value → World → Prop} {a : Act} {w : World} {o : Oper} {v : Value} {vals : List Value} {B : Base} {H : List Res} {t e : TypeId} {x y : Operand}
/-- append to the first row, in a region that draws -/
theorem mem_append {ad : Option Addr} {m c k size bytes : Nat} {zv : Value} {xs news : List Value} (hg : Region.wanted o (yielded ops a.tmps) = true) (ho : o.op = .call { callee := .builtin .append, args := #[x, y], argTypes := #[t, t] }) (hx : a.eval x = v) (hy : a.eval y = .slice ad m c) (E : Elem P t e zv size bytes)
    (hv : Inv B (Res.row e size v k xs :: H) w) (hok : SliceOk ad m c) (hl : news.length = m * size) (hsrc : Src w ad news) (h1 : ∀ u ∈ news, u.oneCell' = true) (h63 : k + m ≤ maxLen) (hbytes : (k + m) * bytes ≤ 140737488355328)
    (h : ∀ v' w', Inv B (Res.row e size v' (k + m) (xs ++ news) :: H) w' → J (vals ++ [v']) w') : StepMem P ops J Q o a w vals := by
  obtain ⟨v', w', hr, h2, h3, h4⟩ := run_append_src2 (ty := o.type) E hv.head hok hl hsrc h1 h63 hbytes
  have hex : Ex P a o w v' w' := by
    unfold Ex; simp [execOp, ho, resolve, invoke, builtin, hx, hy, hr]
  refine Ex.mem hex hg (h v' w' (hv.upd _ ((Only.refl _ _).grown h3 (fun k hk => .inl (by simp [hk]))) h2 (fun b hb => ?_) (fun b hb => ?_) ?_))
  · simp only [Option.mem_toList] at hb
    rcases h4 with h4 | ⟨b', h4, h5⟩
    · left; simp only [Option.mem_toList]; rw [← h4]; exact hb
    · right; rw [h4] at hb; simp at hb; omega
  · simp only [Option.mem_toList] at hb
    exact (h2.lt b hb).2
  · show v'.ownBlock.toList.Nodup
    cases v'.ownBlock with
    | none => exact List.nodup_nil
    | some g => exact List.nodup_cons.2 ⟨by simp, List.nodup_nil⟩
end
/-- how many elements a slice has -/
def slLen : Value → Nat
  | .slice _ n _ => n
  | _ => 0
end Go.Pm
/- log.Open -/
namespace Go.Proofs.Ytkannfkjnohdlaa
open Go.RowKit Go.Pm
theorem rd_all {w : World} {b : Nat} {L : List Value} {t : TypeId} (h : Blk w b L t) : Src w (some ⟨b, 0, none⟩) L := src_mid (pre := []) (post := []) (by simpa using h) rfl

end Go.Proofs.Ytkannfkjnohdlaa
/- A row laid by for a while, with what can be read of it; a row that stays, of any width. -/
namespace Go.Pm
open Go.RowKit
end Go.Pm
/- The log's sectors, as plain data: records, chains of records, what crashes leave. -/
namespace Go.Proofs.Ytkannfkjnohdlaa
open Go.RowKit Go.Pm
-- a region from a sector on
def rest (d : List (List UInt8)) (at_ : Nat) : List UInt8 := (d.drop at_).flatten
-- records
theorem piece_take (b : List UInt8) (i n : Nat) : b.take i ++ piece b i n = b.take (i + n) := by
  unfold piece
  rw [List.take_add]
-- chains of records
end Go.Proofs.Ytkannfkjnohdlaa
/- What log.Open finds, out of what the sectors say. -/
namespace Go.Proofs.Ytkannfkjnohdlaa
open Go.RowKit Go.Pm
end Go.Proofs.Ytkannfkjnohdlaa
/- A range over a function that keeps a state of its own, over resources. -/
namespace Go.Pm
open Go.RowKit
end Go.Pm
/- A range over a function, over resources that are not told beforehand: a row that grows. -/
namespace Go.Pm
open Go.RowKit
end Go.Pm
/- log.pieces: the iterator over a body's pieces. -/
namespace Go.Proofs.Ytkannfkjnohdlaa
open Go.RowKit Go.Pm
end Go.Proofs.Ytkannfkjnohdlaa
/- log.write -/
namespace Go.Proofs.Ytkannfkjnohdlaa
open Go.RowKit Go.Pm
end Go.Proofs.Ytkannfkjnohdlaa
/- log.Append -/
namespace Go.Proofs.Ytkannfkjnohdlaa
open Go.RowKit Go.Pm

end Go.Proofs.Ytkannfkjnohdlaa
/- LogKeeps: its arguments; what its walk needs. -/
namespace Go.Pm
open Go.RowKit
theorem Inv.rowNil {B : Base} {H : List Res} {w : World} (hv : Inv B H w) (e : TypeId) (size : Nat) : Inv B (Res.row e size (.slice none 0 0) 0 [] :: H) w :=
  hv.new (Ext.rfl' _) (Res.row e size (.slice none 0 0) 0 []) (World.ownsRow_nil _ _ _ _) (fun b hb => by simp [Value.ownBlock] at hb) (by simp [Value.ownBlock])
end Go.Pm
namespace Go.Proofs.Ytkannfkjnohdlaa
open Go.RowKit Go.Pm
theorem lz_len (n : Nat) : (Disk.zero n).dur.length = n := List.length_replicate
section
variable (B : Base) (H : List Res) (w : World) (q p kn used last : Nat) (D : Disk) (F : List Nat) (a : Option Addr) (cap : Nat) (l : List UInt8)
def lgCells (p kn used last : Nat) (f : Bool) : List Value := [.pointer (some ⟨p, 0, none⟩), .int .i64 ((0 : Nat) : Int), .int .i64 (kn : Int), .int .i64 (used : Int), .int .i64 (last : Int), .bool f]
variable (hst : last + 1 ≤ 1000000000) (huk : used ≤ kn) (hfit : kn ≤ D.dur.length) (hdm : D.dur.length ≤ 65536) (hpl : D.pend.length ≤ 1000000) (hb2 : l.length ≤ 1048576) (hok : SliceOk a l.length cap) (hr : RdV B [] a (l.map B8)) (hv : Inv B (Res.cell q (lgCells p kn used last false) 111 :: diskR p D F :: H) w)
include hst huk hfit hdm hpl hb2 hok hr hv
end
end Go.Proofs.Ytkannfkjnohdlaa
/- pentimentoref07.Same -/
namespace Go.Proofs.Ytkannfkjnohdlaa
open Go.RowKit Go.Pm
theorem rd_at {B : Base} {H : List Res} {ab aoff i : Nat} {xs : List Value} {w : World} {v : Value} (hr : RdV B H (some ⟨ab, aoff, none⟩) xs) (hv : Pm.Inv B H w) (hx : xs[i]? = some v) : w.cell? ⟨ab, aoff + i, none⟩ = some v := by
  obtain ⟨hi, rfl⟩ := List.getElem?_eq_some_iff.1 hx
  obtain ⟨b, off, h1, h2⟩ := hr.cellAt hv i hi
  cases h1
  exact h2
theorem rd_addr {B : Base} {H : List Res} {a : Option Addr} {i : Nat} {xs : List Value} {v : Value} (hr : RdV B H a xs) (hx : xs[i]? = some v) : ∃ ab aoff, a = some ⟨ab, aoff, none⟩ := by
  obtain ⟨hi, rfl⟩ := List.getElem?_eq_some_iff.1 hx
  obtain ⟨b, off, h1, -⟩ := hr i hi
  exact ⟨b, off, h1⟩
theorem rd_bytes {B : Base} {H : List Res} {a : Option Addr} {l : List UInt8} {w : World} (hr : RdV B [] a (l.map B8)) (hv : Pm.Inv B H w) : Bytes w (fun _ => True) a l := fun i hi => by
  obtain ⟨b, off, h1, h2⟩ := (hr.more (Base.Le.refl _) (fun r h => by cases h)).cellAt hv i (by simpa using hi)
  exact ⟨b, off, h1, trivial, by simpa using h2⟩

end Go.Proofs.Ytkannfkjnohdlaa
/- LogStale: what its walk needs. -/
namespace Go.Pm
open Go.RowKit
section
variable {P : Program} {ops : Array Oper} {Q : Exit → Act → World → Prop} {J : List Value → World → Prop} {a : Act} {w : World} {vals : List Value} {o : Oper} {B : Base} {H : List Res} {t e : TypeId} {x y : Operand}
/-- make, of elements of one cell, in a region that draws its order -/
theorem mem_make1 {len cap bytes : Nat} {z : Value} (hg : Region.wanted o (yielded ops a.tmps) = true) (ho : o.op = .makeSlice t x y) (hx : a.eval x = .int .i64 len) (hy : a.eval y = .int .i64 cap) (ht : P.underlying t = some (.slice e)) (hi : (P.info? e).map (fun i => (i.zero, i.size, i.bytes)) = some (some z, 1, bytes)) (hz1 : z.cells = #[z])
    (hlc : len ≤ cap) (hcm : cap ≤ maxLen) (hby : cap * bytes ≤ 140737488355328) (hv : Inv B H w) (h : ∀ b w', Inv B (Res.cell b (List.replicate cap z) e :: H) w' → J (vals ++ [.slice (some ⟨b, 0, none⟩) len cap]) w') : StepMem P ops J Q o a w vals := by
  obtain ⟨i, hi, hh⟩ := Option.map_eq_some_iff.1 hi
  simp only [Prod.mk.injEq] at hh
  unfold maxLen at hcm
  have hb : cap * i.bytes ≤ 140737488355328 := by rw [hh.2.2]; exact hby
  have hr := run_make (P := P) w t e i z ht hi hh.1 .i64 .i64 len cap (by omega) (by omega) (by rw [Int.mul_comm, ← Int.natCast_mul]; omega) (by omega)
  have hA : madeCells z.cells (cap * i.size) = (List.replicate cap z).toArray := by
    rw [← madeCells_one hz1, Array.toArray_toList, hh.2.1, Nat.mul_one]
  simp only [Int.toNat_natCast, hA] at hr
  exact Ex.mem (ex_make ho hx hy hr) hg (h _ _ (hv.alloc (List.replicate cap z) e))
end
end Go.Pm
namespace Go.Proofs.Ytkannfkjnohdlaa
open Go.RowKit Go.Pm
theorem write_free {D : Disk} (h : D.left = -1) (a : Nat) (l : List UInt8) : (D.write a l).left = -1 := by
  show (if 0 < D.left then D.left - 1 else D.left) = -1
  rw [h]; decide
section
variable (B : Base) (H : List Res) (w : World) (q p used last after g : Nat) (D : Disk) (F : List Nat) (sure : List (List UInt8))
end
end Go.Proofs.Ytkannfkjnohdlaa
/- A slot's header, as the document writes it and as the code reads it. -/
namespace Go.Proofs.Ytkannfkjnohdlaa
open Go.RowKit Go.Pm
theorem be_piece {s : List UInt8} {i n : Nat} (h : i + n ≤ s.length) : beOf n (numOf (piece s i n)) = piece s i n := by
  have e := be_numOf (piece s i n)
  rwa [piece_length h] at e
theorem zeros_piece {s : List UInt8} (h : ∀ j, j < 39 → s[25 + j]? = some 0) : piece s 25 39 = List.replicate 39 0 := by
  have hl : 64 ≤ s.length := by
    have := (List.getElem?_eq_some_iff.1 (h 38 (by omega))).1
    omega
  apply List.ext_getElem?
  intro i
  by_cases hi : i < 39
  · rw [piece_get hi, h i hi, List.getElem?_replicate, if_pos hi]
  · rw [List.getElem?_eq_none (by rw [piece_length (by omega)]; omega), List.getElem?_eq_none (by simp; omega)]
theorem take_one {s : List UInt8} (h : s[0]? = some 83) : s.take 1 = [83] := by
  cases s with
  | nil => simp at h
  | cons x r =>
    simp at h
    rw [h]
    rfl
theorem head_of_ok {s : List UInt8} {i : Nat} (h : CkOk s i) : headOf (ckG s) (ckT s) (ckB s) = s.take 64 := by
  have h2 := h.n2
  unfold headOf
  rw [show (ckB s).length = ckN s from ckB_len h, h.sum]
  unfold ckG ckT ckN
  rw [be_piece (by omega), be_piece (by omega), be_piece (by omega), be_piece (by omega), ← zeros_piece h.zeros, ← take_one h.mark]
  rw [piece_take, piece_take, piece_take, piece_take, piece_take]
theorem ok_of_head {s : List UInt8} {i : Nat} (h64 : ckN s + 64 ≤ s.length) (hg1 : 1 ≤ ckG s) (hg2 : ckG s < 9223372036854775808) (hi : ckG s % 2 = i) (ht : ckT s ≤ 1152921504606846975) (hn : ckN s ≤ 1048576) (h : headOf (ckG s) (ckT s) (ckB s) = s.take 64) : CkOk s i := by
  have hl : (ckB s).length = ckN s := piece_length (by omega)
  have e : s = headOf (ckG s) (ckT s) (ckB s) ++ (ckB s ++ (s.drop 64).drop (ckN s)) := by
    rw [h]
    unfold ckB piece
    rw [List.take_append_drop, List.take_append_drop]
  have := (ck_made (ckG s) (ckT s) (ckB s) ((s.drop 64).drop (ckN s)) hg1 hg2 ht (by omega)).1
  rw [← e, hi] at this
  exact this
theorem slot_0 {rb : List UInt8} {each : Nat} : rb.take (64 * each) = slotOf rb each 0 := by
  unfold slotOf piece
  rw [Nat.zero_mul, Nat.zero_mul, List.drop_zero, Nat.mul_comm]
theorem slot_1 {rb : List UInt8} {each : Nat} (h : rb.length = 2 * each * 64) : rb.drop (64 * each) = slotOf rb each 1 := by
  unfold slotOf piece
  rw [Nat.one_mul, Nat.mul_comm 64 each, List.take_of_length_le (by simp; omega)]
theorem slot_len {rb : List UInt8} {each i : Nat} (h : rb.length = 2 * each * 64) (hi : i < 2) : (slotOf rb each i).length = each * 64 := by
  unfold slotOf
  refine piece_length ?_
  rcases (show i = 0 ∨ i = 1 by omega) with rfl | rfl <;> omega
theorem cur_0 {rb : List UInt8} {each : Nat} (h : CkOk (slotOf rb each 0) 0) : CurI rb each 1 (some (slotOf rb each 0)) := .yes .zero h (by have := h.g1; show _ > 0; omega)
theorem cur_n {rb : List UInt8} {each : Nat} (h : ¬ CkOk (slotOf rb each 0) 0) : CurI rb each 1 none := .no .zero (fun hh => h hh.1)
theorem numOf_mono (l : List UInt8) : ∀ {i j : Nat}, i ≤ j → j ≤ l.length → numOf (l.take i) ≤ numOf (l.take j) := by
  intro i j hij
  induction hij with
  | refl => exact fun _ => Nat.le_refl _
  | @step j hij ih =>
    intro hj
    refine Nat.le_trans (ih (by omega)) ?_
    rw [List.take_succ_eq_append_getElem (by omega), numOf_snoc]
    omega
theorem numOf_big {l : List UInt8} {i : Nat} (hi : i < l.length) (h : 36028797018963967 < numOf (l.take i)) : 9223372036854775808 ≤ numOf l := by
  have h1 := numOf_mono l (i := i + 1) (j := l.length) (by omega) (Nat.le_refl _)
  rw [List.take_of_length_le (Nat.le_refl _), List.take_succ_eq_append_getElem hi, numOf_snoc] at h1
  omega
theorem tmod_nat (n k : Nat) : ((n : Int)).tmod (k : Int) = ((n % k : Nat) : Int) := by
  rw [Int.tmod_eq_emod_of_nonneg (by omega)]
  rfl
theorem quo256 (n : Nat) (h : n ≤ 9223372036854775807) : IntKind.i64.wrap ((n : Int).tdiv 256) = ((n / 256 : Nat) : Int) := by
  rw [Int.tdiv_eq_ediv_of_nonneg (by omega), i64_in (by omega)]; omega
theorem u8_mod (x : Nat) : IntKind.u8.wrap ((x % 256 : Nat) : Int) = ((UInt8.ofNat x).toNat : Int) := by
  rw [u8_of, UInt8.toNat_ofNat', UInt8.toNat_ofNat']
  omega
theorem beOf_cons (m n : Nat) : UInt8.ofNat (n / 256 ^ m) :: beOf m n = beOf (m + 1) n := by
  induction m generalizing n with
  | zero => simp [beOf]
  | succ m ih => rw [beOf_succ, beOf_succ (m + 1), ← ih (n / 256), List.cons_append, Nat.div_div_eq_div_mul, Nat.mul_comm, ← Nat.pow_succ]
theorem hd_pad (g st n s : Nat) : IntKind.i64.wrap (64 - ((((([83] ++ beOf 8 g) ++ beOf 8 st) ++ beOf 4 n) ++ beOf 4 s : List UInt8).length : Int)) = 39 := by
  simp only [List.length_append, List.length_singleton, beOf_length]
  decide
end Go.Proofs.Ytkannfkjnohdlaa
/- Texts: an element, a part, bytes out of a text; rows of texts. -/
namespace Go.Pm
open Go.RowKit
@[reducible] def strV (l : List UInt8) : Value := .string ⟨l.toArray⟩
section
variable {P : Program} {a : Act} {w : World} {o : Oper} {t : TypeId} {x y : Operand} {l : List UInt8}
theorem ex_sidx {i : Nat} {c : UInt8} (ht : P.underlying t = some .string) (ho : o.op = .index t x y) (hx : a.eval x = .string ⟨l.toArray⟩) (hy : a.eval y = .int .i64 (i : Int)) (hc : l[i]? = some c) : Ex P a o w (.int .u8 (c.toNat : Int)) w := by
  obtain ⟨hi, rfl⟩ := List.getElem?_eq_some_iff.1 hc
  have h := run_index_string (P := P) w t ⟨l.toArray⟩ .i64 (i : Int) ht
  rw [dif_pos ⟨by omega, by show (i : Int) < (l.length : Int); omega⟩] at h
  have e : (⟨l.toArray⟩ : ByteArray)[((i : Int)).toNat]'(by show ((i : Int)).toNat < l.length; omega) = l[i] := rfl
  rw [e] at h
  unfold Ex
  simp [execOp, ho, hx, hy, h]
theorem str_size : (⟨l.toArray⟩ : ByteArray).size = l.length := rfl
theorem run_ss (ht : P.underlying t = some .string) {i j : Nat} (hij : i ≤ j) (hj : j ≤ l.length) (w : World) : (Instr.sliceAt t (.string ⟨l.toArray⟩) (some (.int .i64 (i : Int))) (some (.int .i64 (j : Int))) none).run P w = .ok (.string ⟨((l.drop i).take (j - i)).toArray⟩) w := by
  rw [run_sliceAt_string w t _ _ _ _ ht, run_slice_string w t ⟨l.toArray⟩ .i64 .i64 (i : Int) (j : Int) ht (by omega) (by omega) (by rw [str_size]; omega), ByteArray.extract_mk]
  simp
theorem run_ssh (ht : P.underlying t = some .string) {j : Nat} (hj : j ≤ l.length) (w : World) : (Instr.sliceAt t (.string ⟨l.toArray⟩) none (some (.int .i64 (j : Int))) none).run P w = .ok (.string ⟨(l.take j).toArray⟩) w := by
  rw [run_sliceAt_string w t _ _ _ _ ht, run_slice_string_h w t ⟨l.toArray⟩ ht .i64 (j : Int) (by omega) (by rw [str_size]; omega), ByteArray.extract_mk]
  simp
theorem run_ssl (ht : P.underlying t = some .string) {i : Nat} (hi : i ≤ l.length) (w : World) : (Instr.sliceAt t (.string ⟨l.toArray⟩) (some (.int .i64 (i : Int))) none none).run P w = .ok (.string ⟨(l.drop i).toArray⟩) w := by
  rw [run_sliceAt_string w t _ _ _ _ ht, run_slice_string_l w t ⟨l.toArray⟩ ht .i64 (i : Int) (by omega) (by rw [str_size]; omega), ByteArray.extract_mk, str_size]
  have : (l.drop i).take (l.length - i) = l.drop i := List.take_of_length_le (by simp)
  simp [this]
theorem bytes_own {B : Base} {H : List Res} {b k : Nat} {e : TypeId} (hv : Inv B H w) (hk : H[k]? = some (Res.cell b (l.map B8) e)) : Bytes w (fun _ => True) (some ⟨b, 0, none⟩) l := bytes_all (show Blk w b (l.map B8) e from hv.get k hk)
/-- a new block that stays for good -/
theorem Inv.allocBase {B : Base} {H : List Res} (h : Inv B H w) (ob : Obj) : Inv (B.add w.heap.size ob) H (w.alloc ob) := by
  have he : Ext w (w.alloc ob) := (Below.refl _ _).alloc (Nat.le_refl _) _
  have h' := h.ext he
  refine ⟨⟨fun k o' ek => ?_, h'.base.lo, h'.base.os, h'.base.tape, h'.base.output⟩, h'.own, h'.lt, h'.dis, fun r hr k hk => ?_⟩
  · replace ek : (if k = w.heap.size then some ob else B.I k) = some o' := ek
    split at ek
    · rename_i hkb
      subst hkb
      rw [← ek]
      show (w.heap.push ob)[w.heap.size]? = some ob
      simp
    · exact h'.base.blk k o' ek
  · show (if k = w.heap.size then _ else B.I k) = none
    rw [if_neg (fun ek => by have := h.lt r hr k hk; omega)]
    exact h.out r hr k hk
end
section
variable {F : Fence} {n : Nat} {P : Program} {ops : Array Oper} {Q : Exit → Act → World → Prop} {a : Act} {w : World} {rest : List Oper} {o : Oper} {B : Base} {H : List Res} {t u e : TypeId} {x : Operand}
/-- bytes out of a text: their row stays for good -/
theorem sl_bytesOf {l : List UInt8} (hF : ∀ f, F.fn f) (hg : Region.wanted o (yielded ops a.tmps) = true) (ho : o.op = .convert t u x) (hx : a.eval x = .string ⟨l.toArray⟩) (ht : P.underlying t = some .string) (hu : P.underlying u = some (.slice e)) (he : P.underlying e = some (.int .u8)) (hm : l.length ≤ maxLen) (hv : Inv B H w)
    (h : ∀ B' w' b c, B.Le B' → Inv B' H w' → RdV B' [] (some ⟨b, 0, none⟩) (l.map B8) → SliceOk (some ⟨b, 0, none⟩) l.length c → wpListIn F n P ops Q rest (a.put o.dst (.slice (some ⟨b, 0, none⟩) l.length c)) w') : wpListIn F n P ops Q (o :: rest) a w := by
  have hrun := run_bytes_of_string (P := P) w t u e ⟨l.toArray⟩ ht hu he
  rw [str_size] at hrun
  have hout : B.I w.heap.size = none := hv.base.fresh (Nat.le_refl _)
  have hi := hv.drew.allocBase (.cells (bytesRow ⟨l.toArray⟩ (grownCap w l.length 0 e)) e ((bytesRow ⟨l.toArray⟩ (grownCap w l.length 0 e)).size, (bytesRow ⟨l.toArray⟩ (grownCap w l.length 0 e)).size + 1))
  refine wpi_exG hF hg (by unfold isDefer; rw [ho]) (by unfold Ex; simp [execOp, ho, hx, hrun]) (h _ _ _ _ (Base.add_le hout) hi (fun i hi => ⟨w.heap.size, 0, rfl, .inl ⟨_, _, _, Base.add_self, ?_⟩⟩) ⟨grownCap_ge w l.length 0 e, grownCap_le_maxLen w l.length 0 e hm, fun h => by cases h⟩)
  have hi' : i < l.length := by simpa using hi
  rw [Nat.zero_add]
  unfold bytesRow
  rw [Array.getElem?_append_left (by simp; exact hi')]
  simp [hi']
end
end Go.Pm
