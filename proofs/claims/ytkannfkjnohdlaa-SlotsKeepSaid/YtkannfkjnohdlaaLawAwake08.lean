/- same and awake, of the slots' laws -/
import Derived.Test.YtkannfkjnohdlaaSlots5
import Derived.Test.YtkannfkjnohdlaaOps5
namespace Go.Proofs.Ytkannfkjnohdlaa
open Go.RowKit Go.Pm
def ckOkb (s : List UInt8) (i : Nat) : Bool :=
  s[0]? == some 83 && (List.range 39).all (fun j => s[25 + j]? == some 0) && decide (1 ≤ ckG s) && decide (ckG s < 9223372036854775808) && decide (ckG s % 2 = i) && decide (ckT s ≤ 1152921504606846975) && decide (ckN s ≤ 1048576) && decide (ckN s + 64 ≤ s.length) && decide (Crc.sum (ckB s) = numOf (piece s 21 4))
theorem ckOkb_iff (s : List UInt8) (i : Nat) : ckOkb s i = true ↔ CkOk s i := by
  unfold ckOkb
  simp only [Bool.and_eq_true, beq_iff_eq, List.all_eq_true, List.mem_range, decide_eq_true_eq]
  constructor
  · rintro ⟨⟨⟨⟨⟨⟨⟨⟨h1, h2⟩, h3⟩, h4⟩, h5⟩, h6⟩, h7⟩, h8⟩, h9⟩
    exact ⟨h1, h2, h3, h4, h5, h6, h7, h8, h9⟩
  · rintro ⟨h1, h2, h3, h4, h5, h6, h7, h8, h9⟩
    exact ⟨⟨⟨⟨⟨⟨⟨⟨h1, h2⟩, h3⟩, h4⟩, h5⟩, h6⟩, h7⟩, h8⟩, h9⟩
def curF (rb : List UInt8) (each : Nat) : Nat → Option (List UInt8)
  | 0 => none
  | i + 1 => if ckOkb (slotOf rb each i) i = true ∧ ckG (slotOf rb each i) > cG (curF rb each i) then some (slotOf rb each i) else curF rb each i
theorem curI_eq {rb : List UInt8} {each i : Nat} {c : Option (List UInt8)} (h : CurI rb each i c) : c = curF rb each i := by
  induction h with
  | zero => rfl
  | @no i c h hn ih =>
    rw [ih] at hn
    unfold curF
    rw [if_neg (fun hh => hn ⟨(ckOkb_iff _ _).1 hh.1, hh.2⟩), ih]
  | @yes i c h h1 h2 ih =>
    rw [ih] at h2
    unfold curF
    rw [if_pos ⟨(ckOkb_iff _ _).2 h1, h2⟩]
def AD1 : Disk := (saveOf (Disk.zero 8) 0 4 0 false 5 [97]).disk
def AD2 : Disk := (saveOf AD1 0 4 1 false 6 [98]).disk
def AD3 : Disk := AD2.crash []
def ARB : List UInt8 := (AD3.view AD3.pend 0 8).flatten
theorem aw8_0 : curF ((Disk.zero 8).view (Disk.zero 8).pend 0 (2 * 4)).flatten 4 2 = none := by kernel_rfl
theorem aw8_s1 : saveOf (Disk.zero 8) 0 4 0 false 5 [97] = ⟨0, 1, false, AD1⟩ := by kernel_rfl
theorem aw8_s2 : saveOf AD1 0 4 1 false 6 [98] = ⟨0, 2, false, AD2⟩ := by kernel_rfl
theorem aw8_l0 : (Disk.zero 8).dur.length = 8 := by kernel_rfl
theorem aw8_left : AD3.left = -1 := rfl
theorem aw8_l1 : AD1.dur.length = 8 := by kernel_rfl
theorem aw8_l3 : AD3.dur.length = 8 := by kernel_rfl
theorem aw8_p1 : AD1.pend = [] := by kernel_rfl
theorem aw8_p2 : AD2.pend = [] := by kernel_rfl
theorem aw8_c : (curF (AD3.view AD3.pend 0 (2 * 4)).flatten 4 2).map (fun s => (ckG s, ckT s, ckB s)) = some (2, 6, [98]) := by kernel_rfl
theorem aw8_cur {c : Option (List UInt8)} (h : c = curF (AD3.view AD3.pend 0 (2 * 4)).flatten 4 2) : cG c = 2 ∧ cT c = 6 ∧ cB c = [98] := by
  have e := aw8_c
  rw [← h] at e
  cases c with
  | none => simp at e
  | some s =>
    simp only [Option.map_some, Option.some.injEq, Prod.mk.injEq] at e
    exact ⟨e.1, e.2.1, e.2.2⟩

theorem rdBytes {B : Base} {H : List Res} {a : Option Addr} {l : List UInt8} {w : World} (hr : RdV B H a (l.map B8)) (hv : Inv B H w) : Bytes w (fun _ => True) a l := fun i hi => by
  obtain ⟨b, off, h1, h2⟩ := hr.cellAt hv i (by simpa using hi)
  exact ⟨b, off, h1, trivial, by simpa using h2⟩
theorem _root_.Go.Pm.RdV.any' {B : Base} {H : List Res} {a : Option Addr} {xs : List Value} (h : RdV B [] a xs) : RdV B H a xs := h.more (Base.Le.refl B) (fun r hr => by simp at hr)

theorem l8fa55_0 (w : World) (b o : Nat) : (Instr.fieldAt 55 (.pointer (some ⟨b, o, none⟩)) 0).run Try.prog w = .ok (.pointer (some ⟨b, o + 0, none⟩)) w := by kernel_rfl
theorem l8na3 (w : World) : (isAgg 3).run Try.prog w = .ok false w := by kernel_rfl
theorem l8fa55_1 (w : World) (b o : Nat) : (Instr.fieldAt 55 (.pointer (some ⟨b, o, none⟩)) 1).run Try.prog w = .ok (.pointer (some ⟨b, o + 1, none⟩)) w := by kernel_rfl
theorem l8na24 (w : World) : (isAgg 24).run Try.prog w = .ok false w := by kernel_rfl
set_option maxRecDepth 100000 in
set_option maxHeartbeats 2000000 in
theorem lawSame08 (B : Base) (H : List Res) (w : World) (s1 s2 : Int) (a1 a2 : Option Addr) (n1 n2 c1 c2 : Nat) (l1 l2 : List UInt8) (hn1 : l1.length = n1) (hn2 : l2.length = n2) (hr1 : RdV B [] a1 (l1.map B8)) (hr2 : RdV B [] a2 (l2.map B8)) (hv : Inv B H w) :
    Calls Try.prog 32 #[.agg #[.int .i64 s1, .slice a1 n1 c1], .agg #[.int .i64 s2, .slice a2 n2 c2]] w fun e w' => e = .returned (.bool (decide (s1 = s2) && decide (l1 = l2))) ∧ Inv B H w' := by
  refine (callsIn_wide (n := 5)).1 ?_
  refine callsIn_of_wp Try.func32 rfl trivial ?_
  simp only [Try.ntmps32, List.size_toArray, List.length_cons, List.length_nil, Nat.reduceAdd, Nat.reduceSub, Array.replicate_succ, Array.replicate_zero, List.push_toArray, List.append_toArray, List.nil_append, List.cons_append]
  refine wpIn_seq_k (fun K1 hK1 => ?_)
  refine wpIn_region_lit ?_
  refine sl_box (L := [.int .i64 s1, .slice a1 n1 c1]) (fun _ => trivial) (wn rfl) rfl (p := .agg #[.int .i64 s1, .slice a1 n1 c1]) rfl hv (fun w => by kernel_rfl) (fun b2 w3 hv => ?_)
  refine sl_box (L := [.int .i64 s2, .slice a2 n2 c2]) (fun _ => trivial) (wn rfl) rfl (p := .agg #[.int .i64 s2, .slice a2 n2 c2]) rfl hv (fun w => by kernel_rfl) (fun b4 w5 hv => ?_)
  refine wpi_exG (v := .bool false) (fun _ => trivial) (wn rfl) rfl (ex_assign rfl rfl) ?_
  refine wpListIn_nil ?_
  simp only [Act.put, List.setIfInBounds_toArray, List.set_cons_succ, List.set_cons_zero]
  refine then_normal (hK1 _ _ ?_)
  clear hK1 K1
  refine wpIn_seq_k (fun K6 hK6 => ?_)
  refine wpIn_region_lit ?_
  refine wpi_exG (v := .pointer (some ⟨b2, 0, none⟩)) (fun _ => trivial) (wn rfl) rfl (ex_field rfl rfl (l8fa55_0 _ _ _)) ?_
  refine wpi_exG (v := .int .i64 s1) (fun _ => trivial) (wn rfl) rfl (ex_load rfl rfl (run_load1 l8na3 (hv.load 1 0 rfl rfl))) ?_
  refine wpi_exG (v := .pointer (some ⟨b4, 0, none⟩)) (fun _ => trivial) (wn rfl) rfl (ex_field rfl rfl (l8fa55_0 _ _ _)) ?_
  simp only [Act.put, List.setIfInBounds_toArray, List.set_cons_succ, List.set_cons_zero]
  refine wpi_exG (v := .int .i64 s2) (fun _ => trivial) (wn rfl) rfl (ex_load rfl rfl (run_load1 l8na3 (hv.load 0 0 rfl rfl))) ?_
  by_cases hb7 : s1 = s2
  · refine wpi_exG (v := .bool true) (fun _ => trivial) (wn rfl) rfl (ex_eql (k := .i64) (m := s1) (n := s2) rfl rfl rfl (decide_eq_true hb7)) ?_
    refine wpi_exG (v := .bool true) (fun _ => trivial) (wn rfl) rfl (ex_move rfl rfl) ?_
    simp only [Act.put, List.setIfInBounds_toArray, List.set_cons_succ, List.set_cons_zero]
    refine wpi_exG (v := .pointer (some ⟨b2, 1, none⟩)) (fun _ => trivial) (wanted_of (j := 5) (d := 10) (b := true) rfl rfl rfl) rfl (ex_field rfl rfl (l8fa55_1 _ _ _)) ?_
    refine wpi_exG (v := .slice a1 n1 c1) (fun _ => trivial) (wanted_of (j := 5) (d := 10) (b := true) rfl rfl rfl) rfl (ex_load rfl rfl (run_load1 l8na24 (hv.load 1 1 rfl rfl))) ?_
    refine wpi_exG (v := .string ⟨l1.toArray⟩) (fun _ => trivial) (wanted_of (j := 5) (d := 10) (b := true) rfl rfl rfl) rfl (ex_str Try.underlying24 Try.underlying5 Try.underlying9 rfl rfl (rdBytes hr1.any' hv) (hn1)) ?_
    simp only [Act.put, List.setIfInBounds_toArray, List.set_cons_succ, List.set_cons_zero]
    refine wpi_exG (v := .pointer (some ⟨b4, 1, none⟩)) (fun _ => trivial) (wanted_of (j := 5) (d := 10) (b := true) rfl rfl rfl) rfl (ex_field rfl rfl (l8fa55_1 _ _ _)) ?_
    refine wpi_exG (v := .slice a2 n2 c2) (fun _ => trivial) (wanted_of (j := 5) (d := 10) (b := true) rfl rfl rfl) rfl (ex_load rfl rfl (run_load1 l8na24 (hv.load 0 1 rfl rfl))) ?_
    refine wpi_exG (v := .string ⟨l2.toArray⟩) (fun _ => trivial) (wanted_of (j := 5) (d := 10) (b := true) rfl rfl rfl) rfl (ex_str Try.underlying24 Try.underlying5 Try.underlying9 rfl rfl (rdBytes hr2.any' hv) (hn2)) ?_
    simp only [Act.put, List.setIfInBounds_toArray, List.set_cons_succ, List.set_cons_zero]
    refine wpi_exG (v := .bool (decide (l1 = l2))) (fun _ => trivial) (wanted_of (j := 5) (d := 10) (b := true) rfl rfl rfl) rfl (ex_seql (s := l1) (s' := l2) rfl rfl rfl rfl) ?_
    refine wpi_exG (v := .bool (decide (l1 = l2))) (fun _ => trivial) (wn rfl) rfl (ex_pick (b := true) rfl rfl rfl) ?_
    refine wpi_exG (v := .bool (decide (l1 = l2))) (fun _ => trivial) (wn rfl) rfl (ex_assign rfl rfl) ?_
    refine wpListIn_nil ?_
    simp only [Act.put, List.setIfInBounds_toArray, List.set_cons_succ, List.set_cons_zero]
    refine then_normal (hK6 _ _ ?_)
    clear hK6 K6
    refine wpIn_ret ?_
    refine bodyPost_ret (results_tmp rfl _ _ _) rfl ?_
    exact ⟨by rw [decide_eq_true hb7]; simp, hv.tail 2⟩
  · refine wpi_exG (v := .bool false) (fun _ => trivial) (wn rfl) rfl (ex_eql (k := .i64) (m := s1) (n := s2) rfl rfl rfl (decide_eq_false hb7)) ?_
    refine wpi_exG (v := .bool false) (fun _ => trivial) (wn rfl) rfl (ex_move rfl rfl) ?_
    simp only [Act.put, List.setIfInBounds_toArray, List.set_cons_succ, List.set_cons_zero]
    refine wpi_not (fun _ => trivial) (wanted_not (j := 5) (d := 10) (b := true) (b' := false) rfl rfl rfl (by decide)) ?_
    refine wpi_not (fun _ => trivial) (wanted_not (j := 5) (d := 10) (b := true) (b' := false) rfl rfl rfl (by decide)) ?_
    refine wpi_not (fun _ => trivial) (wanted_not (j := 5) (d := 10) (b := true) (b' := false) rfl rfl rfl (by decide)) ?_
    simp only [Act.put, List.setIfInBounds_toArray, List.set_cons_succ, List.set_cons_zero]
    refine wpi_not (fun _ => trivial) (wanted_not (j := 5) (d := 10) (b := true) (b' := false) rfl rfl rfl (by decide)) ?_
    refine wpi_not (fun _ => trivial) (wanted_not (j := 5) (d := 10) (b := true) (b' := false) rfl rfl rfl (by decide)) ?_
    refine wpi_not (fun _ => trivial) (wanted_not (j := 5) (d := 10) (b := true) (b' := false) rfl rfl rfl (by decide)) ?_
    simp only [Act.put, List.setIfInBounds_toArray, List.set_cons_succ, List.set_cons_zero]
    refine wpi_not (fun _ => trivial) (wanted_not (j := 5) (d := 10) (b := true) (b' := false) rfl rfl rfl (by decide)) ?_
    refine wpi_exG (v := .bool false) (fun _ => trivial) (wn rfl) rfl (ex_pick (b := false) rfl rfl rfl) ?_
    refine wpi_exG (v := .bool false) (fun _ => trivial) (wn rfl) rfl (ex_assign rfl rfl) ?_
    refine wpListIn_nil ?_
    simp only [Act.put, List.setIfInBounds_toArray, List.set_cons_succ, List.set_cons_zero]
    refine then_normal (hK6 _ _ ?_)
    clear hK6 K6
    refine wpIn_ret ?_
    refine bodyPost_ret (results_tmp rfl _ _ _) rfl ?_
    exact ⟨by rw [decide_eq_false hb7]; simp, hv.tail 2⟩
theorem l8callable21 : Callable Try.prog 21 := ⟨_, Try.func21, by kernel_rfl, by kernel_rfl⟩
theorem l8callable30 : Callable Try.prog 30 := ⟨_, Try.func30, by kernel_rfl, by kernel_rfl⟩
theorem l8al55 (w : World) : (Instr.alloc 55 true (.tuple #[])).run Try.prog w = .ok (.pointer (some ⟨w.heap.size, 0, none⟩)) (w.alloc (.cells ([.int .i64 0, .slice none 0 0] : List Value).toArray 55)) := by kernel_rfl
theorem l8sz55 : (Try.prog.info? 55).map (·.size) = some 2 := by kernel_rfl
theorem l8mk5 : (Try.prog.info? 5).map (fun i => (i.zero, i.size, i.bytes)) = some (some (.int .u8 0), 1, 1) := by kernel_rfl
theorem l8el24 : Elem Try.prog 24 5 (.int .u8 0) 1 1 := elem_of Try.underlying24 l8mk5 (by rfl) (by decide)
theorem l8callable36 : Callable Try.prog 36 := ⟨_, Try.func36, by kernel_rfl, by kernel_rfl⟩
theorem l8callable33 : Callable Try.prog 33 := ⟨_, Try.func33, by kernel_rfl, by kernel_rfl⟩
theorem l8callable25 : Callable Try.prog 25 := ⟨_, Try.func25, by kernel_rfl, by kernel_rfl⟩
theorem l8wd55 : Wide Try.prog 55 2 := wide_of (fun w => by kernel_rfl) (by kernel_rfl)
theorem l8callable32 : Callable Try.prog 32 := ⟨_, Try.func32, by kernel_rfl, by kernel_rfl⟩
set_option maxRecDepth 100000 in
set_option maxHeartbeats 1000000 in
theorem lawAwake08 (B : Base) (H : List Res) (w : World) (hv : Inv B H w) :
    Calls Try.prog 27 #[] w fun e w' => e = .returned (.bool true) ∧ Inv B H w' := by
  refine (callsIn_wide (n := 5)).1 ?_
  refine callsIn_of_wp Try.func27 rfl trivial ?_
  simp only [Try.ntmps27, List.size_toArray, List.length_cons, List.length_nil, Nat.reduceAdd, Nat.reduceSub, Array.replicate_succ, Array.replicate_zero, List.push_toArray, List.append_toArray, List.nil_append, List.cons_append]
  refine wpIn_seq_k (fun K1 hK1 => ?_)
  refine wpIn_region_lit ?_
  refine wpi_exG (v := .bool false) (fun _ => trivial) (wn rfl) rfl (ex_assign rfl rfl) ?_
  refine wpListIn_nil ?_
  simp only [Act.put, List.setIfInBounds_toArray, List.set_cons_succ, List.set_cons_zero]
  refine then_normal (hK1 _ _ ?_)
  clear hK1 K1
  refine wpIn_seq_k (fun K2 hK2 => ?_)
  refine wpIn_region_lit ?_
  refine wpi_callG l8callable21 (fun _ => trivial) wideC rfl (wn rfl) rfl (args := #[.int .i64 8]) (by simp only [List.map_toArray, List.map_cons, List.map_nil]; rfl) ((diskNewSl _ _ _ 8 (by omega) (by omega) hv).mono ?_)
  rintro e w5 ⟨p3, F4, rfl, hv⟩
  refine ⟨_, rfl, ?_⟩
  refine wpi_exG (v := .tuple #[.pointer (some ⟨p3, 0, none⟩), .int .i64 0]) (fun _ => trivial) (wn rfl) rfl (ex_move rfl rfl) ?_
  refine wpi_exG (v := .pointer (some ⟨p3, 0, none⟩)) (fun _ => trivial) (wn rfl) rfl (ex_extract rfl rfl rfl) ?_
  simp only [Act.put, List.setIfInBounds_toArray, List.set_cons_succ, List.set_cons_zero]
  refine wpi_exG (v := .int .i64 0) (fun _ => trivial) (wn rfl) rfl (ex_extract rfl rfl rfl) ?_
  refine wpi_exG (v := .pointer (some ⟨p3, 0, none⟩)) (fun _ => trivial) (wn rfl) rfl (ex_assign rfl rfl) ?_
  refine wpi_exG (v := .int .i64 0) (fun _ => trivial) (wn rfl) rfl (ex_assign rfl rfl) ?_
  refine wpListIn_nil ?_
  simp only [Act.put, List.setIfInBounds_toArray, List.set_cons_succ, List.set_cons_zero]
  refine then_normal (hK2 _ _ ?_)
  clear hK2 K2
  refine wpIn_seq_k (fun K6 hK6 => ?_)
  refine wpIn_seq_k (fun K7 hK7 => ?_)
  refine wpIn_region_lit ?_
  refine wpi_exG (v := .pointer (some ⟨p3, 0, none⟩)) (fun _ => trivial) (wn rfl) rfl (ex_move rfl rfl) ?_
  refine wpi_exG (v := .bool false) (fun _ => trivial) (wn rfl) rfl (ex_pisnil Try.underlying36 rfl rfl rfl rfl) ?_
  refine wpListIn_nil ?_
  simp only [Act.put, List.setIfInBounds_toArray, List.set_cons_succ, List.set_cons_zero]
  refine then_normal (hK7 _ _ ?_)
  clear hK7 K7
  refine wpIn_cond_false rfl ?_
  refine wpIn_skip ?_
  refine then_normal (hK6 _ _ ?_)
  clear hK6 K6
  refine wpIn_seq_k (fun K8 hK8 => ?_)
  refine wpIn_region_lit ?_
  refine wpi_exG (v := .pointer (some ⟨p3, 0, none⟩)) (fun _ => trivial) (wn rfl) rfl (ex_move rfl rfl) ?_
  refine wpi_callG l8callable30 (fun _ => trivial) wideC rfl (wn rfl) rfl (args := #[.pointer (some ⟨p3, 0, none⟩), .int .i64 0, .int .i64 4]) (by simp only [List.map_toArray, List.map_cons, List.map_nil]; rfl) ((slotsOpen _ _ _ p3 0 4 (Disk.zero 8) (Disk.zero 8) _ rfl (by decide) (by kernel_rfl) (by decide) (by decide) (by decide) (by rw [aw8_l0]; decide) (by rw [aw8_l0]; decide) hv).mono ?_)
  rintro e w14 ⟨q9, cur10, ad11, c12, F13, hcur, rfl, hv⟩
  refine ⟨_, rfl, ?_⟩
  obtain rfl : cur10 = none := (curI_eq hcur).trans aw8_0
  refine wpi_exG (v := .tuple #[.pointer (some ⟨q9, 0, none⟩), .agg #[.int .i64 0, .slice ad11 0 c12], .bool false, .int .i64 0]) (fun _ => trivial) (wn rfl) rfl (ex_move rfl rfl) ?_
  simp only [Act.put, List.setIfInBounds_toArray, List.set_cons_succ, List.set_cons_zero]
  refine wpi_exG (v := .pointer (some ⟨q9, 0, none⟩)) (fun _ => trivial) (wn rfl) rfl (ex_extract rfl rfl rfl) ?_
  refine wpi_exG (v := .agg #[.int .i64 0, .slice ad11 0 c12]) (fun _ => trivial) (wn rfl) rfl (ex_extract rfl rfl rfl) ?_
  refine wpi_exG (v := .bool false) (fun _ => trivial) (wn rfl) rfl (ex_extract rfl rfl rfl) ?_
  simp only [Act.put, List.setIfInBounds_toArray, List.set_cons_succ, List.set_cons_zero]
  refine wpi_exG (v := .int .i64 0) (fun _ => trivial) (wn rfl) rfl (ex_extract rfl rfl rfl) ?_
  refine sl_alloc (fun _ => trivial) (wn rfl) rfl hv l8al55 (fun b15 w16 hv => ?_)
  refine wpi_exG (v := .pointer (some ⟨q9, 0, none⟩)) (fun _ => trivial) (wn rfl) rfl (ex_assign rfl rfl) ?_
  simp only [Act.put, List.setIfInBounds_toArray, List.set_cons_succ, List.set_cons_zero]
  refine sl_storeNAt 0 (new := [.int .i64 0, .slice ad11 0 c12]) (pre := []) (mid := [.int .i64 0, .slice none 0 0]) (post := []) (L' := [.int .i64 0, .slice ad11 0 c12]) (fun _ => trivial) (wn rfl) rfl rfl rfl hv rfl l8sz55 rfl rfl rfl (one_cons rfl (one_cons rfl one_nil)) rfl (fun w17 hv => ?_)
  simp only [List.set_cons_succ, List.set_cons_zero] at hv
  refine wpi_exG (v := .bool false) (fun _ => trivial) (wn rfl) rfl (ex_assign rfl rfl) ?_
  refine wpi_exG (v := .int .i64 0) (fun _ => trivial) (wn rfl) rfl (ex_assign rfl rfl) ?_
  refine wpListIn_nil ?_
  simp only [Act.put, List.setIfInBounds_toArray, List.set_cons_succ, List.set_cons_zero]
  refine then_normal (hK8 _ _ ?_)
  clear hK8 K8
  refine wpIn_seq_k (fun K18 hK18 => ?_)
  refine wpIn_seq_k (fun K19 hK19 => ?_)
  refine wpIn_region_lit ?_
  refine wpi_exG (v := .pointer (some ⟨q9, 0, none⟩)) (fun _ => trivial) (wn rfl) rfl (ex_move rfl rfl) ?_
  refine wpi_exG (v := .bool false) (fun _ => trivial) (wn rfl) rfl (ex_pisnil Try.underlying53 rfl rfl rfl rfl) ?_
  refine wpi_exG (v := .bool false) (fun _ => trivial) (wn rfl) rfl (ex_move rfl rfl) ?_
  simp only [Act.put, List.setIfInBounds_toArray, List.set_cons_succ, List.set_cons_zero]
  refine wpi_exG (v := .bool false) (fun _ => trivial) (wanted_of (j := 2) (d := 26) (b := false) rfl rfl rfl) rfl (ex_move rfl rfl) ?_
  refine wpi_exG (v := .bool false) (fun _ => trivial) (wn rfl) rfl (ex_pick (b := false) rfl rfl rfl) ?_
  refine wpi_exG (v := .bool false) (fun _ => trivial) (wn rfl) rfl (ex_move rfl rfl) ?_
  simp only [Act.put, List.setIfInBounds_toArray, List.set_cons_succ, List.set_cons_zero]
  refine wpi_exG (v := .int .i64 0) (fun _ => trivial) (wanted_of (j := 5) (d := 29) (b := false) rfl rfl rfl) rfl (ex_move rfl rfl) ?_
  refine wpi_exG (v := .bool false) (fun _ => trivial) (wanted_of (j := 5) (d := 29) (b := false) rfl rfl rfl) rfl (ex_neq (k := .i64) (m := 0) (n := 0) rfl rfl rfl (by decide)) ?_
  refine wpi_exG (v := .bool false) (fun _ => trivial) (wn rfl) rfl (ex_pick (b := false) rfl rfl rfl) ?_
  simp only [Act.put, List.setIfInBounds_toArray, List.set_cons_succ, List.set_cons_zero]
  refine wpi_exG (v := .bool false) (fun _ => trivial) (wn rfl) rfl (ex_move rfl rfl) ?_
  refine wpi_exG (v := .pointer (some ⟨q9, 0, none⟩)) (fun _ => trivial) (wanted_of (j := 9) (d := 33) (b := false) rfl rfl rfl) rfl (ex_move rfl rfl) ?_
  refine sl_rowOne (v := .int .u8 97) (fun _ => trivial) (wanted_of (j := 9) (d := 33) (b := false) rfl rfl rfl) rfl rfl hv l8el24 rfl (fun b20 w21 hv => ?_)
  simp only [Act.put, List.setIfInBounds_toArray, List.set_cons_succ, List.set_cons_zero]
  refine sl_mark (fun _ => trivial) (wanted_of (j := 9) (d := 33) (b := false) rfl rfl rfl) rfl rfl Try.underlying24 Try.underlying5 hv (fun B22 w24 hB23 hv hrd25 => ?_)
  refine wpi_exG (v := .agg #[.int .i64 5, .slice (some ⟨b20, 0, none⟩) 1 1]) (fun _ => trivial) (wanted_of (j := 9) (d := 33) (b := false) rfl rfl rfl) rfl (ex_buildN (vs := #[(0, .int .i64 5), (1, .slice (some ⟨b20, 0, none⟩) 1 1)]) rfl (by simp only [List.map_toArray, List.map_cons, List.map_nil]; rfl) (by kernel_rfl)) ?_
  replace hv := hv.front 3 rfl
  simp only [List.eraseIdx_cons_succ, List.eraseIdx_cons_zero] at hv
  replace hv := hv.front 2 rfl
  simp only [List.eraseIdx_cons_succ, List.eraseIdx_cons_zero] at hv
  refine wpi_callG l8callable36 (fun _ => trivial) wideC rfl (wanted_of (j := 9) (d := 33) (b := false) rfl rfl rfl) rfl (args := #[.pointer (some ⟨q9, 0, none⟩), .agg #[.int .i64 5, .slice (some ⟨b20, 0, none⟩) 1 1]]) (by simp only [List.map_toArray, List.map_cons, List.map_nil]; rfl) ((slotsSave _ _ _ q9 p3 0 4 0 false (Disk.zero 8) _ 5 _ _ _ [97] _ rfl (by decide) (by decide) (by decide) (by rw [aw8_l0]; decide) (by rw [aw8_l0]; decide) (by decide) rfl (ok_full (by decide)) hrd25.any' hv).mono ?_)
  rintro e w27 ⟨F26, rfl, hv⟩
  refine ⟨_, rfl, ?_⟩
  rw [aw8_s1] at hv ⊢
  simp only [Act.put, List.setIfInBounds_toArray, List.set_cons_succ, List.set_cons_zero]
  refine wpi_exG (v := .bool false) (fun _ => trivial) (wanted_of (j := 9) (d := 33) (b := false) rfl rfl rfl) rfl (ex_neq (k := .i64) (m := 0) (n := 0) rfl rfl rfl (by decide)) ?_
  refine wpi_exG (v := .bool false) (fun _ => trivial) (wn rfl) rfl (ex_pick (b := false) rfl rfl rfl) ?_
  refine wpi_exG (v := .bool false) (fun _ => trivial) (wn rfl) rfl (ex_move rfl rfl) ?_
  simp only [Act.put, List.setIfInBounds_toArray, List.set_cons_succ, List.set_cons_zero]
  refine wpi_exG (v := .pointer (some ⟨q9, 0, none⟩)) (fun _ => trivial) (wanted_of (j := 17) (d := 41) (b := false) rfl rfl rfl) rfl (ex_move rfl rfl) ?_
  refine sl_rowOne (v := .int .u8 98) (fun _ => trivial) (wanted_of (j := 17) (d := 41) (b := false) rfl rfl rfl) rfl rfl hv l8el24 rfl (fun b28 w29 hv => ?_)
  refine sl_mark (fun _ => trivial) (wanted_of (j := 17) (d := 41) (b := false) rfl rfl rfl) rfl rfl Try.underlying24 Try.underlying5 hv (fun B30 w32 hB31 hv hrd33 => ?_)
  simp only [Act.put, List.setIfInBounds_toArray, List.set_cons_succ, List.set_cons_zero]
  refine wpi_exG (v := .agg #[.int .i64 6, .slice (some ⟨b28, 0, none⟩) 1 1]) (fun _ => trivial) (wanted_of (j := 17) (d := 41) (b := false) rfl rfl rfl) rfl (ex_buildN (vs := #[(0, .int .i64 6), (1, .slice (some ⟨b28, 0, none⟩) 1 1)]) rfl (by simp only [List.map_toArray, List.map_cons, List.map_nil]; rfl) (by kernel_rfl)) ?_
  replace hv := hv.front 1 rfl
  simp only [List.eraseIdx_cons_succ, List.eraseIdx_cons_zero] at hv
  replace hv := hv.front 1 rfl
  simp only [List.eraseIdx_cons_succ, List.eraseIdx_cons_zero] at hv
  refine wpi_callG l8callable36 (fun _ => trivial) wideC rfl (wanted_of (j := 17) (d := 41) (b := false) rfl rfl rfl) rfl (args := #[.pointer (some ⟨q9, 0, none⟩), .agg #[.int .i64 6, .slice (some ⟨b28, 0, none⟩) 1 1]]) (by simp only [List.map_toArray, List.map_cons, List.map_nil]; rfl) ((slotsSave _ _ _ q9 p3 0 4 1 false AD1 _ 6 _ _ _ [98] _ rfl (by decide) (by decide) (by decide) (by rw [aw8_l1]; decide) (by rw [aw8_l1]; decide) (by rw [aw8_p1]; decide) rfl (ok_full (by decide)) hrd33.any' hv).mono ?_)
  rintro e w35 ⟨F34, rfl, hv⟩
  refine ⟨_, rfl, ?_⟩
  rw [aw8_s2] at hv ⊢
  refine wpi_exG (v := .bool false) (fun _ => trivial) (wanted_of (j := 17) (d := 41) (b := false) rfl rfl rfl) rfl (ex_neq (k := .i64) (m := 0) (n := 0) rfl rfl rfl (by decide)) ?_
  simp only [Act.put, List.setIfInBounds_toArray, List.set_cons_succ, List.set_cons_zero]
  refine wpi_exG (v := .bool false) (fun _ => trivial) (wn rfl) rfl (ex_pick (b := false) rfl rfl rfl) ?_
  refine wpi_exG (v := .bool false) (fun _ => trivial) (wn rfl) rfl (ex_move rfl rfl) ?_
  refine wpi_exG (v := .pointer (some ⟨q9, 0, none⟩)) (fun _ => trivial) (wanted_of (j := 25) (d := 49) (b := false) rfl rfl rfl) rfl (ex_move rfl rfl) ?_
  simp only [Act.put, List.setIfInBounds_toArray, List.set_cons_succ, List.set_cons_zero]
  refine wpi_callG l8callable33 (fun _ => trivial) wideC rfl (wanted_of (j := 25) (d := 49) (b := false) rfl rfl rfl) rfl (args := #[.pointer (some ⟨q9, 0, none⟩)]) (by simp only [List.map_toArray, List.map_cons, List.map_nil]; rfl) ((slotsGeneration _ _ _ q9 p3 0 4 2 false (hv.front 0 rfl)).mono ?_)
  rintro e w36 ⟨rfl, rfl⟩
  refine ⟨_, rfl, ?_⟩
  refine wpi_exG (v := .bool false) (fun _ => trivial) (wanted_of (j := 25) (d := 49) (b := false) rfl rfl rfl) rfl (ex_neq (k := .i64) (m := 2) (n := 2) rfl rfl rfl (by decide)) ?_
  refine wpi_exG (v := .bool false) (fun _ => trivial) (wn rfl) rfl (ex_pick (b := false) rfl rfl rfl) ?_
  refine wpListIn_nil ?_
  simp only [Act.put, List.setIfInBounds_toArray, List.set_cons_succ, List.set_cons_zero]
  refine then_normal (hK19 _ _ ?_)
  clear hK19 K19
  refine wpIn_cond_false rfl ?_
  refine wpIn_skip ?_
  refine then_normal (hK18 _ _ ?_)
  clear hK18 K18
  refine wpIn_seq_k (fun K37 hK37 => ?_)
  refine wpIn_region_lit ?_
  refine wpi_exG (v := .pointer (some ⟨p3, 0, none⟩)) (fun _ => trivial) (wn rfl) rfl (ex_move rfl rfl) ?_
  replace hv := hv.front 1 rfl
  simp only [List.eraseIdx_cons_succ, List.eraseIdx_cons_zero] at hv
  refine wpi_callG l8callable25 (fun _ => trivial) wideC rfl (wn rfl) rfl (args := #[.pointer (some ⟨p3, 0, none⟩), .slice none 0 0]) (by simp only [List.map_toArray, List.map_cons, List.map_nil]; rfl) ((diskCrashSl _ _ _ p3 _ _ _ _ _ [] hv (by rw [aw8_p2]; decide) rfl (by decide) rdV_nil (by decide)).mono ?_)
  rintro e w39 ⟨F38, rfl, hv⟩
  refine ⟨_, rfl, ?_⟩
  refine wpListIn_nil ?_
  simp only [Act.put, List.setIfInBounds_toArray, List.set_cons_succ, List.set_cons_zero]
  refine then_normal (hK37 _ _ ?_)
  clear hK37 K37
  refine wpIn_seq_k (fun K40 hK40 => ?_)
  refine wpIn_region_lit ?_
  refine wpi_exG (v := .pointer (some ⟨p3, 0, none⟩)) (fun _ => trivial) (wn rfl) rfl (ex_move rfl rfl) ?_
  refine wpi_callG l8callable30 (fun _ => trivial) wideC rfl (wn rfl) rfl (args := #[.pointer (some ⟨p3, 0, none⟩), .int .i64 0, .int .i64 4]) (by simp only [List.map_toArray, List.map_cons, List.map_nil]; rfl) ((slotsOpen _ _ _ p3 0 4 (AD3) (AD3) _ rfl (by decide) (by kernel_rfl) (by rw [aw8_left]; decide) (by decide) (by decide) (by rw [aw8_l3]; decide) (by rw [aw8_l3]; decide) hv).mono ?_)
  rintro e w46 ⟨q41, cur42, ad43, c44, F45, hcur, rfl, hv⟩
  refine ⟨_, rfl, ?_⟩
  obtain ⟨hcg, hct, hcb⟩ := aw8_cur (curI_eq hcur)
  simp only [hcg, hct, hcb] at hv
  rw [hcg, hct, hcb]
  replace hv := hv.front 1 rfl
  simp only [List.eraseIdx_cons_succ, List.eraseIdx_cons_zero] at hv
  obtain ⟨B47, hB48, hv, hrx, hokx⟩ := Inv.rowStays hv
  refine wpi_exG (v := .tuple #[.pointer (some ⟨q41, 0, none⟩), .agg #[.int .i64 6, .slice ad43 1 c44], .bool true, .int .i64 0]) (fun _ => trivial) (wn rfl) rfl (ex_move rfl rfl) ?_
  simp only [Act.put, List.setIfInBounds_toArray, List.set_cons_succ, List.set_cons_zero]
  refine wpi_exG (v := .pointer (some ⟨q41, 0, none⟩)) (fun _ => trivial) (wn rfl) rfl (ex_extract rfl rfl rfl) ?_
  refine wpi_exG (v := .agg #[.int .i64 6, .slice ad43 1 c44]) (fun _ => trivial) (wn rfl) rfl (ex_extract rfl rfl rfl) ?_
  refine wpi_exG (v := .bool true) (fun _ => trivial) (wn rfl) rfl (ex_extract rfl rfl rfl) ?_
  simp only [Act.put, List.setIfInBounds_toArray, List.set_cons_succ, List.set_cons_zero]
  refine wpi_exG (v := .int .i64 0) (fun _ => trivial) (wn rfl) rfl (ex_extract rfl rfl rfl) ?_
  refine sl_alloc (fun _ => trivial) (wn rfl) rfl hv l8al55 (fun b49 w50 hv => ?_)
  refine wpi_exG (v := .pointer (some ⟨q41, 0, none⟩)) (fun _ => trivial) (wn rfl) rfl (ex_assign rfl rfl) ?_
  simp only [Act.put, List.setIfInBounds_toArray, List.set_cons_succ, List.set_cons_zero]
  refine sl_storeNAt 0 (new := [.int .i64 6, .slice ad43 1 c44]) (pre := []) (mid := [.int .i64 0, .slice none 0 0]) (post := []) (L' := [.int .i64 6, .slice ad43 1 c44]) (fun _ => trivial) (wn rfl) rfl rfl rfl hv rfl l8sz55 rfl rfl rfl (one_cons rfl (one_cons rfl one_nil)) rfl (fun w51 hv => ?_)
  simp only [List.set_cons_succ, List.set_cons_zero] at hv
  refine wpi_exG (v := .bool true) (fun _ => trivial) (wn rfl) rfl (ex_assign rfl rfl) ?_
  refine wpi_exG (v := .int .i64 0) (fun _ => trivial) (wn rfl) rfl (ex_assign rfl rfl) ?_
  refine wpListIn_nil ?_
  simp only [Act.put, List.setIfInBounds_toArray, List.set_cons_succ, List.set_cons_zero]
  refine then_normal (hK40 _ _ ?_)
  clear hK40 K40
  refine wpIn_seq_k (fun K52 hK52 => ?_)
  refine wpIn_region_lit ?_
  refine wpi_exG (v := .bool true) (fun _ => trivial) (wn rfl) rfl (ex_move rfl rfl) ?_
  refine wpi_exG (v := .bool true) (fun _ => trivial) (wn rfl) rfl (ex_move rfl rfl) ?_
  refine wpi_exG (v := .int .i64 0) (fun _ => trivial) (wanted_of (j := 1) (d := 64) (b := true) rfl rfl rfl) rfl (ex_move rfl rfl) ?_
  simp only [Act.put, List.setIfInBounds_toArray, List.set_cons_succ, List.set_cons_zero]
  refine wpi_exG (v := .bool true) (fun _ => trivial) (wanted_of (j := 1) (d := 64) (b := true) rfl rfl rfl) rfl (ex_eql (k := .i64) (m := 0) (n := 0) rfl rfl rfl (by decide)) ?_
  refine wpi_exG (v := .bool true) (fun _ => trivial) (wn rfl) rfl (ex_pick (b := true) rfl rfl rfl) ?_
  refine wpi_exG (v := .bool true) (fun _ => trivial) (wn rfl) rfl (ex_move rfl rfl) ?_
  simp only [Act.put, List.setIfInBounds_toArray, List.set_cons_succ, List.set_cons_zero]
  refine wpi_exG (v := .agg #[.int .i64 6, .slice ad43 1 c44]) (fun _ => trivial) (wanted_of (j := 5) (d := 68) (b := true) rfl rfl rfl) rfl (ex_load rfl rfl (run_load_mid (pre := []) (mid := [.int .i64 6, .slice ad43 1 c44]) (post := []) l8wd55 (show Blk _ b49 ([] ++ [.int .i64 6, .slice ad43 1 c44] ++ []) _ from hv.get 0 rfl) rfl)) ?_
  refine sl_rowOne (v := .int .u8 98) (fun _ => trivial) (wanted_of (j := 5) (d := 68) (b := true) rfl rfl rfl) rfl rfl hv l8el24 rfl (fun b53 w54 hv => ?_)
  refine sl_mark (fun _ => trivial) (wanted_of (j := 5) (d := 68) (b := true) rfl rfl rfl) rfl rfl Try.underlying24 Try.underlying5 hv (fun B55 w57 hB56 hv hrd58 => ?_)
  simp only [Act.put, List.setIfInBounds_toArray, List.set_cons_succ, List.set_cons_zero]
  refine wpi_exG (v := .agg #[.int .i64 6, .slice (some ⟨b53, 0, none⟩) 1 1]) (fun _ => trivial) (wanted_of (j := 5) (d := 68) (b := true) rfl rfl rfl) rfl (ex_buildN (vs := #[(0, .int .i64 6), (1, .slice (some ⟨b53, 0, none⟩) 1 1)]) rfl (by simp only [List.map_toArray, List.map_cons, List.map_nil]; rfl) (by kernel_rfl)) ?_
  replace hrx := hrx.more hB56 (fun _ h => h)
  refine wpi_callG l8callable32 (fun _ => trivial) wideC rfl (wanted_of (j := 5) (d := 68) (b := true) rfl rfl rfl) rfl (args := #[.agg #[.int .i64 6, .slice ad43 1 c44], .agg #[.int .i64 6, .slice (some ⟨b53, 0, none⟩) 1 1]]) (by simp only [List.map_toArray, List.map_cons, List.map_nil]; rfl) ((lawSame08 _ _ _ 6 6 _ _ 1 1 _ _ [98] [98] rfl rfl hrx hrd58 hv).mono ?_)
  rintro e w59 ⟨rfl, hv⟩
  refine ⟨_, rfl, ?_⟩
  refine wpi_exG (v := .bool true) (fun _ => trivial) (wn rfl) rfl (ex_pick (b := true) rfl rfl rfl) ?_
  simp only [Act.put, List.setIfInBounds_toArray, List.set_cons_succ, List.set_cons_zero]
  refine wpi_exG (v := .bool true) (fun _ => trivial) (wn rfl) rfl (ex_assign rfl rfl) ?_
  refine wpListIn_nil ?_
  simp only [Act.put, List.setIfInBounds_toArray, List.set_cons_succ, List.set_cons_zero]
  refine then_normal (hK52 _ _ ?_)
  clear hK52 K52
  refine wpIn_ret ?_
  refine bodyPost_ret (results_tmp rfl _ _ _) rfl ?_
  exact ⟨rfl, (hv.tail 6).weak (((hB23.trans hB31).trans hB48).trans hB56)⟩
end Go.Proofs.Ytkannfkjnohdlaa
