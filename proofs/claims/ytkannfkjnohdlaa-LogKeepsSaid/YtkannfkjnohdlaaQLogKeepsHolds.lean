/- LogKeeps -/
import Derived.Test.YtkannfkjnohdlaaMgI
import Derived.Test.YtkannfkjnohdlaaMgJ
import Derived.Test.YtkannfkjnohdlaaRows
import Derived.Test.YtkannfkjnohdlaaMgA
import Derived.JoinedAt
namespace Go.Proofs.Ytkannfkjnohdlaa
open Go.RowKit Go.Pm
theorem LState.ulen {D : Disk} {k used last after : Nat} {failed : Bool} {sure under : List (List UInt8)} (h : LState D k used last after failed sure under) : under.length ≤ 1 := by
  cases failed with
  | false => rw [(h.rest rfl).2]; exact Nat.zero_le _
  | true =>
    obtain ⟨b, hu⟩ := h.one
    rw [hu]
    exact Nat.le_refl _

theorem lkcallable38 : Callable Try.prog 38 := ⟨_, Try.func38, by kernel_rfl, by kernel_rfl⟩
theorem lkcallable21 : Callable Try.prog 21 := ⟨_, Try.func21, by kernel_rfl, by kernel_rfl⟩
theorem lkcallable39 : Callable Try.prog 39 := ⟨_, Try.func39, by kernel_rfl, by kernel_rfl⟩
theorem lkal80 (w : World) : (Instr.alloc 80 true (.tuple #[])).run Try.prog w = .ok (.pointer (some ⟨w.heap.size, 0, none⟩)) (w.alloc (.cells ([.int .i64 0, .int .i64 0, .slice none 0 0, .slice none 0 0] : List Value).toArray 80)) := by kernel_rfl
theorem lksz80 : (Try.prog.info? 80).map (·.size) = some 4 := by kernel_rfl
theorem lkes78 (w : World) : (sizeOf (Try.prog.elem 78)).run Try.prog w = .ok 4 w := by kernel_rfl
theorem lkwd80 : Wide Try.prog 80 4 := wide_of (fun w => by kernel_rfl) (by kernel_rfl)
theorem lkfa80_2 (w : World) (b o : Nat) : (Instr.fieldAt 80 (.pointer (some ⟨b, o, none⟩)) 2).run Try.prog w = .ok (.pointer (some ⟨b, o + 2, none⟩)) w := by kernel_rfl
theorem lkna24 (w : World) : (isAgg 24).run Try.prog w = .ok false w := by kernel_rfl
theorem lkfa80_3 (w : World) (b o : Nat) : (Instr.fieldAt 80 (.pointer (some ⟨b, o, none⟩)) 3).run Try.prog w = .ok (.pointer (some ⟨b, o + 3, none⟩)) w := by kernel_rfl
theorem lkna44 (w : World) : (isAgg 44).run Try.prog w = .ok false w := by kernel_rfl
theorem lkfa80_0 (w : World) (b o : Nat) : (Instr.fieldAt 80 (.pointer (some ⟨b, o, none⟩)) 0).run Try.prog w = .ok (.pointer (some ⟨b, o + 0, none⟩)) w := by kernel_rfl
theorem lkna3 (w : World) : (isAgg 3).run Try.prog w = .ok false w := by kernel_rfl
theorem lkcallable41 : Callable Try.prog 41 := ⟨_, Try.func41, by kernel_rfl, by kernel_rfl⟩
theorem lkcallable40 : Callable Try.prog 40 := ⟨_, Try.func40, by kernel_rfl, by kernel_rfl⟩
theorem lkal55 (w : World) : (Instr.alloc 55 true (.tuple #[])).run Try.prog w = .ok (.pointer (some ⟨w.heap.size, 0, none⟩)) (w.alloc (.cells ([.int .i64 0, .slice none 0 0] : List Value).toArray 55)) := by kernel_rfl
theorem lksz55 : (Try.prog.info? 55).map (·.size) = some 2 := by kernel_rfl
theorem lkwd55 : Wide Try.prog 55 2 := wide_of (fun w => by kernel_rfl) (by kernel_rfl)
theorem lkmk55 : (Try.prog.info? 55).map (fun i => (i.zero, i.size, i.bytes)) = some (some (.agg #[.int .i64 0, .slice none 0 0]), 2, 32) := by kernel_rfl
theorem lkel73 : Elem Try.prog 73 55 (.agg #[.int .i64 0, .slice none 0 0]) 2 32 := elem_of Try.underlying73 lkmk55 (by rfl) (by decide)
theorem lkfa55_0 (w : World) (b o : Nat) : (Instr.fieldAt 55 (.pointer (some ⟨b, o, none⟩)) 0).run Try.prog w = .ok (.pointer (some ⟨b, o + 0, none⟩)) w := by kernel_rfl
theorem lksz3 : (Try.prog.info? 3).map (·.size) = some 1 := by kernel_rfl
theorem lkcallable42 : Callable Try.prog 42 := ⟨_, Try.func42, by kernel_rfl, by kernel_rfl⟩
theorem lkfa80_1 (w : World) (b o : Nat) : (Instr.fieldAt 80 (.pointer (some ⟨b, o, none⟩)) 1).run Try.prog w = .ok (.pointer (some ⟨b, o + 1, none⟩)) w := by kernel_rfl
theorem lkcallable37 : Callable Try.prog 37 := ⟨_, Try.func37, by kernel_rfl, by kernel_rfl⟩
theorem lkcallable25 : Callable Try.prog 25 := ⟨_, Try.func25, by kernel_rfl, by kernel_rfl⟩
theorem lkcallable43 : Callable Try.prog 43 := ⟨_, Try.func43, by kernel_rfl, by kernel_rfl⟩
set_option maxRecDepth 100000 in
set_option maxHeartbeats 8000000 in
theorem logKeepsMain (B : Base) (H : List Res) (w : World) (z : Int) (a : Option Addr) (m ca : Nat) (hacts : RdActs7 B a m) (hv : Inv B H w) :
    Calls Try.prog 13 #[.int .i64 z, .slice a m ca] w fun e w' => e = .returned (.bool true) ∧ Inv B H w' := by
  obtain ⟨r, n, hr, hra, hrb, hrn, hn1, hn2⟩ := wrap30 z
  refine (callsIn_wide (n := 5)).1 ?_
  refine callsIn_of_wp Try.func13 rfl trivial ?_
  simp only [Try.ntmps13, List.size_toArray, List.length_cons, List.length_nil, Nat.reduceAdd, Nat.reduceSub, Array.replicate_succ, Array.replicate_zero, List.push_toArray, List.append_toArray, List.nil_append, List.cons_append]
  refine wpIn_seq_k (fun K1 hK1 => ?_)
  refine wpIn_region_lit ?_
  refine wpi_exG (v := .bool false) (fun _ => trivial) (wn rfl) rfl (ex_assign rfl rfl) ?_
  refine wpListIn_nil ?_
  simp only [Act.put, List.setIfInBounds_toArray, List.set_cons_succ, List.set_cons_zero]
  refine then_normal (hK1 _ _ ?_)
  clear hK1 K1
  refine wpIn_seq_k (fun K2 hK2 => ?_)
  refine wpIn_seq_k (fun K3 hK3 => ?_)
  refine wpIn_region_lit ?_
  refine wpi_callG lkcallable38 (fun _ => trivial) wideC rfl (wn rfl) rfl (args := #[]) (by simp only [List.map_toArray, List.map_nil]) ((lawAwake07 _ _ _ hv).mono ?_)
  rintro e w4 ⟨rfl, hv⟩
  refine ⟨_, rfl, ?_⟩
  refine wpi_exG (v := .bool false) (fun _ => trivial) (wn rfl) rfl (ex_not rfl rfl rfl) ?_
  refine wpi_exG (v := .bool false) (fun _ => trivial) (wn rfl) rfl (ex_move rfl rfl) ?_
  simp only [Act.put, List.setIfInBounds_toArray, List.set_cons_succ, List.set_cons_zero]
  refine wpi_exG (v := .slice a m ca) (fun _ => trivial) (wanted_of (j := 2) (d := 24) (b := false) rfl rfl rfl) rfl (ex_move rfl rfl) ?_
  refine wpi_exG (v := .int .i64 (m : Int)) (fun _ => trivial) (wanted_of (j := 2) (d := 24) (b := false) rfl rfl rfl) rfl (ex_len0 Try.underlying78 rfl rfl) ?_
  by_cases hb5 : (m : Int) > 30
  · refine wpi_exG (v := .bool true) (fun _ => trivial) (wanted_of (j := 2) (d := 24) (b := false) rfl rfl rfl) rfl (ex_gtr (k := .i64) (m := (m : Int)) (n := 30) rfl rfl rfl (decide_eq_true hb5)) ?_
    simp only [Act.put, List.setIfInBounds_toArray, List.set_cons_succ, List.set_cons_zero]
    refine wpi_exG (v := .bool true) (fun _ => trivial) (wn rfl) rfl (ex_pick (b := false) rfl rfl rfl) ?_
    refine wpListIn_nil ?_
    simp only [Act.put, List.setIfInBounds_toArray, List.set_cons_succ, List.set_cons_zero]
    refine then_normal (hK3 _ _ ?_)
    clear hK3 K3
    refine wpIn_cond_true rfl ?_
    refine wpIn_seq_k (fun K6 hK6 => ?_)
    refine wpIn_region_lit ?_
    refine wpi_callG lkcallable38 (fun _ => trivial) wideC rfl (wn rfl) rfl (args := #[]) (by simp only [List.map_toArray, List.map_nil]) ((lawAwake07 _ _ _ hv).mono ?_)
    rintro e w7 ⟨rfl, hv⟩
    refine ⟨_, rfl, ?_⟩
    refine wpi_exG (v := .bool true) (fun _ => trivial) (wn rfl) rfl (ex_assign rfl rfl) ?_
    refine wpListIn_nil ?_
    simp only [Act.put, List.setIfInBounds_toArray, List.set_cons_succ, List.set_cons_zero]
    refine then_normal (hK6 _ _ ?_)
    clear hK6 K6
    refine wpIn_ret ?_
    refine then_ret ?_
    clear hK2 K2
    refine bodyPost_ret (results_tmp rfl _ _ _) rfl ?_
    exact ⟨rfl, hv.tail 0⟩
  · refine wpi_exG (v := .bool false) (fun _ => trivial) (wanted_of (j := 2) (d := 24) (b := false) rfl rfl rfl) rfl (ex_gtr (k := .i64) (m := (m : Int)) (n := 30) rfl rfl rfl (decide_eq_false hb5)) ?_
    simp only [Act.put, List.setIfInBounds_toArray, List.set_cons_succ, List.set_cons_zero]
    refine wpi_exG (v := .bool false) (fun _ => trivial) (wn rfl) rfl (ex_pick (b := false) rfl rfl rfl) ?_
    refine wpListIn_nil ?_
    simp only [Act.put, List.setIfInBounds_toArray, List.set_cons_succ, List.set_cons_zero]
    refine then_normal (hK3 _ _ ?_)
    clear hK3 K3
    refine wpIn_cond_false rfl ?_
    refine wpIn_skip ?_
    refine then_normal (hK2 _ _ ?_)
    clear hK2 K2
    refine wpIn_seq_k (fun K8 hK8 => ?_)
    refine wpIn_region_lit ?_
    refine wpi_exG (v := .int .i64 z) (fun _ => trivial) (wn rfl) rfl (ex_move rfl rfl) ?_
    refine wpi_exG (v := .int .i64 r) (fun _ => trivial) (wn rfl) rfl (ex_rem (m := z) (n := 30) rfl rfl rfl (by decide) hr) ?_
    refine wpi_exG (v := .int .i64 (r + 30)) (fun _ => trivial) (wn rfl) rfl (ex_add (m := r) (n := 30) rfl rfl rfl (i64_in (by omega))) ?_
    simp only [Act.put, List.setIfInBounds_toArray, List.set_cons_succ, List.set_cons_zero]
    refine wpi_exG (v := .int .i64 ((n : Int) - 1)) (fun _ => trivial) (wn rfl) rfl (ex_rem (m := (r + 30)) (n := 30) rfl rfl rfl (by decide) hrn) ?_
    refine wpi_exG (v := .int .i64 (n : Int)) (fun _ => trivial) (wn rfl) rfl (ex_add (m := 1) (n := ((n : Int) - 1)) rfl rfl rfl (by rw [i64_in (by omega)]; omega)) ?_
    refine wpi_exG (v := .int .i64 (n : Int)) (fun _ => trivial) (wn rfl) rfl (ex_assign rfl rfl) ?_
    refine wpListIn_nil ?_
    simp only [Act.put, List.setIfInBounds_toArray, List.set_cons_succ, List.set_cons_zero]
    refine then_normal (hK8 _ _ ?_)
    clear hK8 K8
    refine wpIn_seq_k (fun K9 hK9 => ?_)
    refine wpIn_region_lit ?_
    refine wpi_exG (v := .int .i64 (n : Int)) (fun _ => trivial) (wn rfl) rfl (ex_move rfl rfl) ?_
    refine wpi_callG lkcallable21 (fun _ => trivial) wideC rfl (wn rfl) rfl (args := #[.int .i64 (n : Int)]) (by simp only [List.map_toArray, List.map_cons, List.map_nil]; rfl) ((diskNewSl _ _ _ n (by omega) (by omega) hv).mono ?_)
    rintro e w12 ⟨p10, F11, rfl, hv⟩
    refine ⟨_, rfl, ?_⟩
    refine wpi_exG (v := .tuple #[.pointer (some ⟨p10, 0, none⟩), .int .i64 0]) (fun _ => trivial) (wn rfl) rfl (ex_move rfl rfl) ?_
    simp only [Act.put, List.setIfInBounds_toArray, List.set_cons_succ, List.set_cons_zero]
    refine wpi_exG (v := .pointer (some ⟨p10, 0, none⟩)) (fun _ => trivial) (wn rfl) rfl (ex_extract rfl rfl rfl) ?_
    refine wpi_exG (v := .int .i64 0) (fun _ => trivial) (wn rfl) rfl (ex_extract rfl rfl rfl) ?_
    refine wpi_exG (v := .pointer (some ⟨p10, 0, none⟩)) (fun _ => trivial) (wn rfl) rfl (ex_assign rfl rfl) ?_
    simp only [Act.put, List.setIfInBounds_toArray, List.set_cons_succ, List.set_cons_zero]
    refine wpi_exG (v := .int .i64 0) (fun _ => trivial) (wn rfl) rfl (ex_assign rfl rfl) ?_
    refine wpListIn_nil ?_
    simp only [Act.put, List.setIfInBounds_toArray, List.set_cons_succ, List.set_cons_zero]
    refine then_normal (hK9 _ _ ?_)
    clear hK9 K9
    refine wpIn_seq_k (fun K13 hK13 => ?_)
    refine wpIn_seq_k (fun K14 hK14 => ?_)
    refine wpIn_region_lit ?_
    refine wpi_exG (v := .pointer (some ⟨p10, 0, none⟩)) (fun _ => trivial) (wn rfl) rfl (ex_move rfl rfl) ?_
    refine wpi_exG (v := .bool false) (fun _ => trivial) (wn rfl) rfl (ex_pisnil Try.underlying36 rfl rfl rfl rfl) ?_
    refine wpListIn_nil ?_
    simp only [Act.put, List.setIfInBounds_toArray, List.set_cons_succ, List.set_cons_zero]
    refine then_normal (hK14 _ _ ?_)
    clear hK14 K14
    refine wpIn_cond_false rfl ?_
    refine wpIn_skip ?_
    refine then_normal (hK13 _ _ ?_)
    clear hK13 K13
    refine wpIn_seq_k (fun K15 hK15 => ?_)
    refine wpIn_region_lit ?_
    refine wpi_exG (v := .pointer (some ⟨p10, 0, none⟩)) (fun _ => trivial) (wn rfl) rfl (ex_move rfl rfl) ?_
    refine wpi_exG (v := .int .i64 (n : Int)) (fun _ => trivial) (wn rfl) rfl (ex_move rfl rfl) ?_
    refine wpi_callG lkcallable39 (fun _ => trivial) wideC rfl (wn rfl) rfl (args := #[.pointer (some ⟨p10, 0, none⟩), .int .i64 0, .int .i64 (n : Int), .int .i64 0]) (by simp only [List.map_toArray, List.map_cons, List.map_nil]; rfl) ((logOpen _ _ _ p10 0 n 0 (Disk.zero n) (Disk.zero n) _ rfl (by show (0 : Nat) ≤ _; omega) (has_of (by omega) (by rw [lz_len]; omega)) (by show (-1 : Int) ≠ 0; decide) (by omega) (by omega) (by rw [lz_len]; omega) (by rw [lz_len]; omega) (by omega) hv).mono ?_)
    rintro e w26 ⟨C23, q16, us17, es18, ad19, c20, xs21, F22, hB24, hop, hstop, hun, hen25, rfl, hv⟩
    refine ⟨_, rfl, ?_⟩
    rw [lz_view] at hop hstop
    obtain ⟨hue, hse⟩ := open_all (lstate_zero n).head hop hstop
    replace hue := hue.symm
    replace hse := hse.symm
    subst hue; subst hse
    simp only [Act.put, List.setIfInBounds_toArray, List.set_cons_succ, List.set_cons_zero]
    refine wpi_exG (v := .tuple #[.pointer (some ⟨q16, 0, none⟩), .slice ad19 0 c20, .int .i64 0]) (fun _ => trivial) (wn rfl) rfl (ex_move rfl rfl) ?_
    refine wpi_exG (v := .pointer (some ⟨q16, 0, none⟩)) (fun _ => trivial) (wn rfl) rfl (ex_extract rfl rfl rfl) ?_
    refine wpi_exG (v := .slice ad19 0 c20) (fun _ => trivial) (wn rfl) rfl (ex_extract rfl rfl rfl) ?_
    simp only [Act.put, List.setIfInBounds_toArray, List.set_cons_succ, List.set_cons_zero]
    refine wpi_exG (v := .int .i64 0) (fun _ => trivial) (wn rfl) rfl (ex_extract rfl rfl rfl) ?_
    refine wpi_exG (v := .pointer (some ⟨q16, 0, none⟩)) (fun _ => trivial) (wn rfl) rfl (ex_assign rfl rfl) ?_
    refine wpi_exG (v := .slice ad19 0 c20) (fun _ => trivial) (wn rfl) rfl (ex_assign rfl rfl) ?_
    simp only [Act.put, List.setIfInBounds_toArray, List.set_cons_succ, List.set_cons_zero]
    refine wpi_exG (v := .int .i64 0) (fun _ => trivial) (wn rfl) rfl (ex_assign rfl rfl) ?_
    refine wpListIn_nil ?_
    simp only [Act.put, List.setIfInBounds_toArray, List.set_cons_succ, List.set_cons_zero]
    refine then_normal (hK15 _ _ ?_)
    clear hK15 K15
    refine wpIn_seq_k (fun K27 hK27 => ?_)
    refine wpIn_seq_k (fun K28 hK28 => ?_)
    refine wpIn_region_lit ?_
    refine wpi_exG (v := .pointer (some ⟨q16, 0, none⟩)) (fun _ => trivial) (wn rfl) rfl (ex_move rfl rfl) ?_
    refine wpi_exG (v := .bool false) (fun _ => trivial) (wn rfl) rfl (ex_pisnil Try.underlying72 rfl rfl rfl rfl) ?_
    refine wpListIn_nil ?_
    simp only [Act.put, List.setIfInBounds_toArray, List.set_cons_succ, List.set_cons_zero]
    refine then_normal (hK28 _ _ ?_)
    clear hK28 K28
    refine wpIn_cond_false rfl ?_
    refine wpIn_skip ?_
    refine then_normal (hK27 _ _ ?_)
    clear hK27 K27
    refine wpIn_seq_k (fun K29 hK29 => ?_)
    refine wpIn_region_lit ?_
    refine wpi_exG (v := .int .i64 0) (fun _ => trivial) (wn rfl) rfl (ex_assign rfl rfl) ?_
    refine wpListIn_nil ?_
    simp only [Act.put, List.setIfInBounds_toArray, List.set_cons_succ, List.set_cons_zero]
    refine then_normal (hK29 _ _ ?_)
    clear hK29 K29
    refine wpIn_seq_k (fun K30 hK30 => ?_)
    refine wpIn_region_lit ?_
    refine wpi_exG (v := .slice none 0 0) (fun _ => trivial) (wn rfl) rfl (ex_assign rfl rfl) ?_
    refine wpListIn_nil ?_
    simp only [Act.put, List.setIfInBounds_toArray, List.set_cons_succ, List.set_cons_zero]
    refine then_normal (hK30 _ _ ?_)
    clear hK30 K30
    refine wpIn_seq_k (fun K31 hK31 => ?_)
    refine wpIn_region_lit ?_
    refine wpi_exG (v := .slice none 0 0) (fun _ => trivial) (wn rfl) rfl (ex_assign rfl rfl) ?_
    refine wpListIn_nil ?_
    simp only [Act.put, List.setIfInBounds_toArray, List.set_cons_succ, List.set_cons_zero]
    refine then_normal (hK31 _ _ ?_)
    clear hK31 K31
    refine wpIn_seq_k (fun K32 hK32 => ?_)
    refine wpIn_seq_k (fun K33 hK33 => ?_)
    refine wpIn_region_lit ?_
    refine wpi_exG (v := .int .i64 0) (fun _ => trivial) (wn rfl) rfl (ex_assign rfl rfl) ?_
    refine wpListIn_nil ?_
    simp only [Act.put, List.setIfInBounds_toArray, List.set_cons_succ, List.set_cons_zero]
    refine then_normal (hK33 _ _ ?_)
    clear hK33 K33
    refine wpIn_block ?_
    gi_loopw [8, 11, 12, 13, 14] (fun x8 x11 x12 x13 x14 wr => ∃ (C : Base) (i q used last after : Nat) (D : Disk) (F : List Nat) (fa : Bool) (sure under : List (List UInt8)) (sa : Option Addr) (sc : Nat) (sx : List Value) (ua : Option Addr) (uc : Nat) (ux : List Value), B.Le C ∧ x8 = .pointer (some ⟨q, 0, none⟩) ∧ x11 = .int .i64 (after : Int) ∧ x12 = .slice sa sure.length sc ∧ x13 = .slice ua under.length uc ∧ x14 = .int .i64 (i : Int) ∧ i ≤ m + 1 ∧ last ≤ i ∧ LState D n used last after fa sure under ∧ EntsAt C after sure sx ∧ EntsAt C last under ux ∧ Inv C (Res.cell q [.pointer (some ⟨p10, 0, none⟩), .int .i64 ((0 : Nat) : Int), .int .i64 (n : Int), .int .i64 (used : Int), .int .i64 (last : Int), .bool fa] 111 :: diskR p10 D F :: Res.row 55 2 (.slice sa sure.length sc) sure.length sx :: Res.row 55 2 (.slice ua under.length uc) under.length ux :: H) wr) (fun x8 x11 x12 x13 x14 _ => m + 1 - (intOf x14).toNat)
    case atStart => exact ⟨_, 0, _, 0, 0, 0, _, _, false, [], [], none, 0, [], none, 0, [], hB24, rfl, rfl, rfl, rfl, rfl, by omega, by omega, lstate_zero n, rfl, rfl, (((((((((hv.front 2 rfl).front 1 rfl).sub (List.Sublist.cons_cons _ (List.Sublist.cons_cons _ (List.Sublist.cons _ (List.Sublist.refl _))))).rowNil 55 2).rowNil 55 2).front 1 rfl).front 1 rfl).front 3 rfl).front 3 rfl)⟩
    case round =>
      obtain ⟨C, i, q, used, last, after, D, F, fa, sure, under, sa, sc, sx, ua, uc, ux, hBC, rfl, rfl, rfl, rfl, rfl, hi, hli, hK, hs, hu, hv⟩ := hrel
      have hlst := hK.head.lst
      have hkl := hK.head.len
      have hkf := hK.head.fit
      have hkp := hK.plen
      have hku := hK.ulen
      refine wpIn_seq_k (fun K35 hK35 => ?_)
      refine wpIn_seq_k (fun K36 hK36 => ?_)
      refine wpIn_region_lit ?_
      refine wpi_exG (v := .int .i64 (i : Int)) (fun _ => trivial) (wn rfl) rfl (ex_move rfl rfl) ?_
      refine wpi_exG (v := .slice a m ca) (fun _ => trivial) (wn rfl) rfl (ex_move rfl rfl) ?_
      refine wpi_exG (v := .int .i64 (m : Int)) (fun _ => trivial) (wn rfl) rfl (ex_len0 Try.underlying78 rfl rfl) ?_
      simp only [Act.put, List.setIfInBounds_toArray, List.set_cons_succ, List.set_cons_zero]
      by_cases hb37 : (i : Int) ≤ (m : Int)
      · refine wpi_exG (v := .bool true) (fun _ => trivial) (wn rfl) rfl (ex_leq (k := .i64) (m := (i : Int)) (n := (m : Int)) rfl rfl rfl (decide_eq_true hb37)) ?_
        refine wpListIn_nil ?_
        simp only [Act.put, List.setIfInBounds_toArray, List.set_cons_succ, List.set_cons_zero]
        refine then_normal (hK36 _ _ ?_)
        clear hK36 K36
        refine wpIn_cond_true rfl ?_
        refine wpIn_skip ?_
        refine then_normal (hK35 _ _ ?_)
        clear hK35 K35
        refine wpIn_seq_k (fun K38 hK38 => ?_)
        refine wpIn_block ?_
        refine wpIn_seq_k (fun K39 hK39 => ?_)
        refine wpIn_region_lit ?_
        refine wpi_exG (v := .agg #[.int .i64 3, .int .i64 0, .slice none 0 0, .slice none 0 0]) (fun _ => trivial) (wn rfl) rfl (ex_buildN (vs := #[(0, .int .i64 3)]) rfl (by simp only [List.map_toArray, List.map_cons, List.map_nil]; rfl) (by kernel_rfl)) ?_
        refine sl_alloc (fun _ => trivial) (wn rfl) rfl hv lkal80 (fun b40 w41 hv => ?_)
        refine sl_storeNAt 0 (new := [.int .i64 3, .int .i64 0, .slice none 0 0, .slice none 0 0]) (pre := []) (mid := [.int .i64 0, .int .i64 0, .slice none 0 0, .slice none 0 0]) (post := []) (L' := [.int .i64 3, .int .i64 0, .slice none 0 0, .slice none 0 0]) (fun _ => trivial) (wn rfl) rfl rfl rfl hv rfl lksz80 rfl rfl rfl (one_cons rfl (one_cons rfl (one_cons rfl (one_cons rfl one_nil)))) rfl (fun w42 hv => ?_)
        simp only [List.set_cons_succ, List.set_cons_zero] at hv
        refine wpListIn_nil ?_
        simp only [Act.put, List.setIfInBounds_toArray, List.set_cons_succ, List.set_cons_zero]
        refine then_normal (hK39 _ _ ?_)
        clear hK39 K39
        refine wpIn_seq_k (fun K43 hK43 => ?_)
        refine wpIn_seq_k (fun K44 hK44 => ?_)
        refine wpIn_region_lit ?_
        refine wpi_exG (v := .int .i64 (i : Int)) (fun _ => trivial) (wn rfl) rfl (ex_move rfl rfl) ?_
        refine wpi_exG (v := .slice a m ca) (fun _ => trivial) (wn rfl) rfl (ex_move rfl rfl) ?_
        refine wpi_exG (v := .int .i64 (m : Int)) (fun _ => trivial) (wn rfl) rfl (ex_len0 Try.underlying78 rfl rfl) ?_
        simp only [Act.put, List.setIfInBounds_toArray, List.set_cons_succ, List.set_cons_zero]
        by_cases hb45 : (i : Int) < (m : Int)
        · refine wpi_exG (v := .bool true) (fun _ => trivial) (wn rfl) rfl (ex_lss (k := .i64) (m := (i : Int)) (n := (m : Int)) rfl rfl rfl (decide_eq_true hb45)) ?_
          refine wpListIn_nil ?_
          simp only [Act.put, List.setIfInBounds_toArray, List.set_cons_succ, List.set_cons_zero]
          refine then_normal (hK44 _ _ ?_)
          clear hK44 K44
          refine wpIn_cond_true rfl ?_
          refine wpIn_region_lit ?_
          refine wpi_exG (v := .slice a m ca) (fun _ => trivial) (wn rfl) rfl (ex_move rfl rfl) ?_
          refine wpi_exG (v := .int .i64 (i : Int)) (fun _ => trivial) (wn rfl) rfl (ex_move rfl rfl) ?_
          obtain ⟨rb, roff, kd, nn, xb, ks, ax, cx, ak, ck, rfl, hrow, hxok, hxr, hkr, hkw⟩ := hacts i (by omega)
          replace hxr := hxr.more hBC (fun _ h => h)
          replace hkr := hkr.more hBC (fun _ h => h)
          obtain ⟨r9, m9, hr9, hr9a, hr9b, hm9, hm9a⟩ := wrap9 nn
          refine wpi_exG (v := .pointer (some ⟨rb, roff + i * 4, none⟩)) (fun _ => trivial) (wn rfl) rfl (ex_index rfl rfl rfl (run_idx (k := i) Try.underlying78 lkes78 (by omega))) ?_
          simp only [Act.put, List.setIfInBounds_toArray, List.set_cons_succ, List.set_cons_zero]
          refine wpi_exG (v := .agg #[.int .i64 kd, .int .i64 nn, .slice ax xb.length cx, .slice ak ks.length ck]) (fun _ => trivial) (wn rfl) rfl (ex_load rfl rfl (run_load_cells (xs := [.int .i64 kd, .int .i64 nn, .slice ax xb.length cx, .slice ak ks.length ck]) lkwd80 (hrow _ _ (hv.weak hBC)))) ?_
          refine sl_storeNAt 0 (new := [.int .i64 kd, .int .i64 nn, .slice ax xb.length cx, .slice ak ks.length ck]) (pre := []) (mid := [.int .i64 3, .int .i64 0, .slice none 0 0, .slice none 0 0]) (post := []) (L' := [.int .i64 kd, .int .i64 nn, .slice ax xb.length cx, .slice ak ks.length ck]) (fun _ => trivial) (wn rfl) rfl rfl rfl hv rfl lksz80 rfl rfl rfl (one_cons rfl (one_cons rfl (one_cons rfl (one_cons rfl one_nil)))) rfl (fun w46 hv => ?_)
          simp only [List.set_cons_succ, List.set_cons_zero] at hv
          refine wpListIn_nil ?_
          simp only [Act.put, List.setIfInBounds_toArray, List.set_cons_succ, List.set_cons_zero]
          refine then_normal (hK43 _ _ ?_)
          clear hK43 K43
          refine wpIn_seq_k (fun K47 hK47 => ?_)
          refine wpIn_seq_k (fun K48 hK48 => ?_)
          refine wpIn_region_lit ?_
          refine wpi_exG (v := .pointer (some ⟨b40, 2, none⟩)) (fun _ => trivial) (wn rfl) rfl (ex_field rfl rfl (lkfa80_2 _ _ _)) ?_
          refine wpi_exG (v := .slice ax xb.length cx) (fun _ => trivial) (wn rfl) rfl (ex_load rfl rfl (run_load1 lkna24 (hv.load 0 2 rfl rfl))) ?_
          refine wpi_exG (v := .int .i64 (xb.length : Int)) (fun _ => trivial) (wn rfl) rfl (ex_len0 Try.underlying24 rfl rfl) ?_
          simp only [Act.put, List.setIfInBounds_toArray, List.set_cons_succ, List.set_cons_zero]
          by_cases hb49 : (xb.length : Int) > 600
          · refine wpi_exG (v := .bool true) (fun _ => trivial) (wn rfl) rfl (ex_gtr (k := .i64) (m := (xb.length : Int)) (n := 600) rfl rfl rfl (decide_eq_true hb49)) ?_
            refine wpi_exG (v := .bool true) (fun _ => trivial) (wn rfl) rfl (ex_move rfl rfl) ?_
            refine wpi_not (fun _ => trivial) (wanted_not (j := 4) (d := 70) (b := false) (b' := true) rfl rfl rfl (by decide)) ?_
            simp only [Act.put, List.setIfInBounds_toArray, List.set_cons_succ, List.set_cons_zero]
            refine wpi_not (fun _ => trivial) (wanted_not (j := 4) (d := 70) (b := false) (b' := true) rfl rfl rfl (by decide)) ?_
            refine wpi_not (fun _ => trivial) (wanted_not (j := 4) (d := 70) (b := false) (b' := true) rfl rfl rfl (by decide)) ?_
            refine wpi_not (fun _ => trivial) (wanted_not (j := 4) (d := 70) (b := false) (b' := true) rfl rfl rfl (by decide)) ?_
            simp only [Act.put, List.setIfInBounds_toArray, List.set_cons_succ, List.set_cons_zero]
            refine wpi_exG (v := .bool true) (fun _ => trivial) (wn rfl) rfl (ex_pick (b := true) rfl rfl rfl) ?_
            refine wpListIn_nil ?_
            simp only [Act.put, List.setIfInBounds_toArray, List.set_cons_succ, List.set_cons_zero]
            refine then_normal (hK48 _ _ ?_)
            clear hK48 K48
            refine wpIn_cond_true rfl ?_
            refine wpIn_seq_k (fun K50 hK50 => ?_)
            refine wpIn_region_lit ?_
            refine wpi_exG (v := .bool true) (fun _ => trivial) (wn rfl) rfl (ex_assign rfl rfl) ?_
            refine wpListIn_nil ?_
            simp only [Act.put, List.setIfInBounds_toArray, List.set_cons_succ, List.set_cons_zero]
            refine then_normal (hK50 _ _ ?_)
            clear hK50 K50
            refine wpIn_ret ?_
            refine then_ret ?_
            clear hK47 K47
            refine blk_ret ?_
            refine then_ret ?_
            clear hK38 K38
            refine then_ret ?_
            refine blk_ret ?_
            refine then_ret ?_
            clear hK32 K32
            refine bodyPost_ret (results_tmp rfl _ _ _) rfl ?_
            exact ⟨rfl, (hv.tail 5).weak hBC⟩
          · refine wpi_exG (v := .bool false) (fun _ => trivial) (wn rfl) rfl (ex_gtr (k := .i64) (m := (xb.length : Int)) (n := 600) rfl rfl rfl (decide_eq_false hb49)) ?_
            refine wpi_exG (v := .bool false) (fun _ => trivial) (wn rfl) rfl (ex_move rfl rfl) ?_
            refine wpi_exG (v := .pointer (some ⟨b40, 3, none⟩)) (fun _ => trivial) (wanted_of (j := 4) (d := 70) (b := false) rfl rfl rfl) rfl (ex_field rfl rfl (lkfa80_3 _ _ _)) ?_
            simp only [Act.put, List.setIfInBounds_toArray, List.set_cons_succ, List.set_cons_zero]
            refine wpi_exG (v := .slice ak ks.length ck) (fun _ => trivial) (wanted_of (j := 4) (d := 70) (b := false) rfl rfl rfl) rfl (ex_load rfl rfl (run_load1 lkna44 (hv.load 0 3 rfl rfl))) ?_
            refine wpi_exG (v := .int .i64 (ks.length : Int)) (fun _ => trivial) (wanted_of (j := 4) (d := 70) (b := false) rfl rfl rfl) rfl (ex_len0 Try.underlying44 rfl rfl) ?_
            by_cases hb51 : (ks.length : Int) > 40
            · refine wpi_exG (v := .bool true) (fun _ => trivial) (wanted_of (j := 4) (d := 70) (b := false) rfl rfl rfl) rfl (ex_gtr (k := .i64) (m := (ks.length : Int)) (n := 40) rfl rfl rfl (decide_eq_true hb51)) ?_
              simp only [Act.put, List.setIfInBounds_toArray, List.set_cons_succ, List.set_cons_zero]
              refine wpi_exG (v := .bool true) (fun _ => trivial) (wn rfl) rfl (ex_pick (b := false) rfl rfl rfl) ?_
              refine wpListIn_nil ?_
              simp only [Act.put, List.setIfInBounds_toArray, List.set_cons_succ, List.set_cons_zero]
              refine then_normal (hK48 _ _ ?_)
              clear hK48 K48
              refine wpIn_cond_true rfl ?_
              refine wpIn_seq_k (fun K52 hK52 => ?_)
              refine wpIn_region_lit ?_
              refine wpi_exG (v := .bool true) (fun _ => trivial) (wn rfl) rfl (ex_assign rfl rfl) ?_
              refine wpListIn_nil ?_
              simp only [Act.put, List.setIfInBounds_toArray, List.set_cons_succ, List.set_cons_zero]
              refine then_normal (hK52 _ _ ?_)
              clear hK52 K52
              refine wpIn_ret ?_
              refine then_ret ?_
              clear hK47 K47
              refine blk_ret ?_
              refine then_ret ?_
              clear hK38 K38
              refine then_ret ?_
              refine blk_ret ?_
              refine then_ret ?_
              clear hK32 K32
              refine bodyPost_ret (results_tmp rfl _ _ _) rfl ?_
              exact ⟨rfl, (hv.tail 5).weak hBC⟩
            · refine wpi_exG (v := .bool false) (fun _ => trivial) (wanted_of (j := 4) (d := 70) (b := false) rfl rfl rfl) rfl (ex_gtr (k := .i64) (m := (ks.length : Int)) (n := 40) rfl rfl rfl (decide_eq_false hb51)) ?_
              simp only [Act.put, List.setIfInBounds_toArray, List.set_cons_succ, List.set_cons_zero]
              refine wpi_exG (v := .bool false) (fun _ => trivial) (wn rfl) rfl (ex_pick (b := false) rfl rfl rfl) ?_
              refine wpListIn_nil ?_
              simp only [Act.put, List.setIfInBounds_toArray, List.set_cons_succ, List.set_cons_zero]
              refine then_normal (hK48 _ _ ?_)
              clear hK48 K48
              refine wpIn_cond_false rfl ?_
              refine wpIn_skip ?_
              refine then_normal (hK47 _ _ ?_)
              clear hK47 K47
              refine wpIn_seq_k (fun K53 hK53 => ?_)
              refine wpIn_region_lit ?_
              refine wpi_exG (v := .pointer (some ⟨b40, 0, none⟩)) (fun _ => trivial) (wn rfl) rfl (ex_field rfl rfl (lkfa80_0 _ _ _)) ?_
              refine wpi_exG (v := .int .i64 kd) (fun _ => trivial) (wn rfl) rfl (ex_load rfl rfl (run_load1 lkna3 (hv.load 0 0 rfl rfl))) ?_
              refine wpListIn_nil ?_
              simp only [Act.put, List.setIfInBounds_toArray, List.set_cons_succ, List.set_cons_zero]
              refine then_normal (hK53 _ _ ?_)
              clear hK53 K53
              refine wpIn_block ?_
              refine wpIn_seq_k (fun K54 hK54 => ?_)
              refine wpIn_region_lit ?_
              by_cases hb55 : kd = 0
              · refine wpi_exG (v := .bool true) (fun _ => trivial) (wn rfl) rfl (ex_eql (k := .i64) (m := kd) (n := 0) rfl rfl rfl (decide_eq_true hb55)) ?_
                refine wpi_exG (v := .bool true) (fun _ => trivial) (wn rfl) rfl (ex_assign rfl rfl) ?_
                refine wpListIn_nil ?_
                simp only [Act.put, List.setIfInBounds_toArray, List.set_cons_succ, List.set_cons_zero]
                refine then_normal (hK54 _ _ ?_)
                clear hK54 K54
                refine wpIn_cond_true rfl ?_
                refine wpIn_seq_k (fun K56 hK56 => ?_)
                replace hv := hv.front 2 rfl
                simp only [List.eraseIdx_cons_succ, List.eraseIdx_cons_zero] at hv
                replace hv := hv.front 2 rfl
                simp only [List.eraseIdx_cons_succ, List.eraseIdx_cons_zero] at hv
                have hsp := secs_pos xb.length
                cases fa with
                | true =>
                  obtain ⟨ub, rfl⟩ := hK.one
                  refine region_st mixed [.pointer (some ⟨q, 0, none⟩), .pointer (some ⟨q, 0, none⟩), .int .i64 (last : Int), .int .i64 ((last + 1 : Nat) : Int), .pointer (some ⟨b40, 2, none⟩), .slice ax xb.length cx, undef, .int .i64 20] [6] [⟨fun vals w => vals = [] ∧ Inv C (Res.cell q [.pointer (some ⟨p10, 0, none⟩), .int .i64 ((0 : Nat) : Int), .int .i64 (n : Int), .int .i64 (used : Int), .int .i64 (last : Int), .bool true] 111 :: diskR p10 D F :: Res.cell b40 [.int .i64 kd, .int .i64 nn, .slice ax xb.length cx, .slice ak ks.length ck] 80 :: Res.row 55 2 (.slice sa sure.length sc) sure.length sx :: Res.row 55 2 (.slice ua ([ub].length) uc) ([ub].length) ux :: H) w, fun _ _ _ ⟨h, hi⟩ he => ⟨h, hi.ext he⟩⟩, ⟨fun vals w => vals = [.int .i64 20] ∧ Inv C (Res.cell q [.pointer (some ⟨p10, 0, none⟩), .int .i64 ((0 : Nat) : Int), .int .i64 (n : Int), .int .i64 (used : Int), .int .i64 (last : Int), .bool true] 111 :: diskR p10 D F :: Res.cell b40 [.int .i64 kd, .int .i64 nn, .slice ax xb.length cx, .slice ak ks.length ck] 80 :: Res.row 55 2 (.slice sa sure.length sc) sure.length sx :: Res.row 55 2 (.slice ua ([ub].length) uc) ([ub].length) ux :: H) w, fun _ _ _ ⟨h, hi⟩ he => ⟨h, hi.ext he⟩⟩] 168 rfl (by kernel_rfl) ⟨rfl, hv⟩ ⟨?_, ?_, ?_, ?_, ?_, ?_, ?_, ?_, trivial⟩ ?_
                  · intro aa ww vals hJ hR
                    exact add_step' rfl (Ex.adds' (ex_move rfl (show aa.eval (.tmp 8) = _ from hR.keep 8 rfl)) (wn rfl) rfl)
                  · intro aa ww vals hJ hR
                    exact add_step' rfl (Ex.adds' (ex_move rfl (show aa.eval (.tmp 8) = _ from hR.keep 8 rfl)) (wn rfl) rfl)
                  · intro aa ww vals hJ hR
                    have h2 : vals.length ≤ 0 := hR.hi 6 (by simp) rfl
                    have hl : vals.length = 0 := by omega
                    obtain ⟨hvals, hv⟩ := hJ.at0 hl
                    exact add_step' rfl (stepOk_calls lkcallable41 (wn rfl) rfl (args := #[.pointer (some ⟨q, 0, none⟩)]) (by simp only [List.map_toArray, List.map_cons, List.map_nil]; rw [show aa.eval (.tmp 81) = .pointer (some ⟨q, 0, none⟩) from hR.v 1 81 rfl rfl rfl rfl] <;> rfl) ((logLastB (hv.get 0 rfl)).mono fun e w9 ⟨he, hw⟩ => ⟨_, he, by subst hw; exact Ext.rfl' _, rfl⟩))
                  · intro aa ww vals hJ hR
                    exact add_step' rfl (Ex.adds' (ex_add (m := (last : Int)) (n := 1) rfl (show aa.eval (.tmp 82) = _ from hR.v 2 82 rfl rfl rfl rfl) rfl (by rw [i64_in (by omega)]; omega)) (wn rfl) rfl)
                  · intro aa ww vals hJ hR
                    exact add_step' rfl (Ex.adds' (ex_field rfl (show aa.eval (.tmp 15) = _ from hR.keep 15 rfl) (lkfa80_2 _ _ _)) (wn rfl) rfl)
                  · intro aa ww vals hJ hR
                    have h2 : vals.length ≤ 0 := hR.hi 6 (by simp) rfl
                    have hl : vals.length = 0 := by omega
                    obtain ⟨hvals, hv⟩ := hJ.at0 hl
                    exact add_step' rfl (Ex.adds' (ex_load rfl (show aa.eval (.tmp 84) = _ from hR.v 4 84 rfl rfl rfl rfl) (run_load1 lkna24 (hv.load 2 2 rfl rfl))) (wn rfl) rfl)
                  · intro aa ww vals hJ hR
                    refine mem_step' rfl fun hvl => ?_
                    have hl : vals.length = 0 := hvl
                    obtain ⟨hvals, hv⟩ := hJ.at0 hl
                    refine stepMem_calls lkcallable40 (wn rfl) rfl (args := #[.pointer (some ⟨q, 0, none⟩), .int .i64 ((last + 1 : Nat) : Int), .slice ax xb.length cx]) (by simp only [List.map_toArray, List.map_cons, List.map_nil]; rw [show aa.eval (.tmp 80) = .pointer (some ⟨q, 0, none⟩) from hR.v 0 80 rfl rfl rfl rfl, show aa.eval (.tmp 83) = .int .i64 ((last + 1 : Nat) : Int) from hR.v 3 83 rfl rfl rfl rfl, show aa.eval (.tmp 85) = .slice ax xb.length cx from hR.v 5 85 rfl rfl rfl rfl] <;> rfl) ((logAppendOff _ _ _ q p10 0 n used last D _ ax _ _ xb ((last + 1 : Nat) : Int) hv).mono ?_)
                    rintro e w57 ⟨rfl, rfl⟩
                    refine ⟨_, rfl, JS.next hl ⟨by rw [hvals]; rfl, hv⟩⟩
                  · intro aa ww vals hJ hR
                    have h1 : 0 < vals.length := hR.lo 6 (by simp) rfl
                    have hl : vals.length = 1 := by have := JS.le (n := 1) (by rfl) hJ; omega
                    obtain ⟨hvals, hv⟩ := hJ.at0 hl
                    exact add_step' rfl (Ex.adds' (ex_assign rfl (show aa.eval (.tmp 86) = _ from (hR.val 6 86 rfl rfl rfl).trans (by rw [hvals]; rfl))) (wn rfl) rfl)
                  rintro w58 vals ⟨rfl, hv⟩
                  rw [show mixV [6] [.int .i64 20] 0 [.pointer (some ⟨q, 0, none⟩), .pointer (some ⟨q, 0, none⟩), .int .i64 (last : Int), .int .i64 ((last + 1 : Nat) : Int), .pointer (some ⟨b40, 2, none⟩), .slice ax xb.length cx, undef, .int .i64 20] = [.pointer (some ⟨q, 0, none⟩), .pointer (some ⟨q, 0, none⟩), .int .i64 (last : Int), .int .i64 ((last + 1 : Nat) : Int), .pointer (some ⟨b40, 2, none⟩), .slice ax xb.length cx, .int .i64 20, .int .i64 20] from rfl]
                  simp only [putAll, Act.put, List.setIfInBounds_toArray, List.set_cons_succ, List.set_cons_zero]
                  refine then_normal (hK56 _ _ ?_)
                  clear hK56 K56
                  refine wpIn_seq_k (fun K59 hK59 => ?_)
                  refine region_st mixed [.pointer (some ⟨q, 0, none⟩), .int .i64 (last : Int), .pointer (some ⟨b40, 2, none⟩), .slice ax xb.length cx, .agg #[.int .i64 (last : Int), .slice ax xb.length cx], undef, undef] [5, 6] [⟨fun vals w => vals = [] ∧ Inv C (Res.cell q [.pointer (some ⟨p10, 0, none⟩), .int .i64 ((0 : Nat) : Int), .int .i64 (n : Int), .int .i64 (used : Int), .int .i64 (last : Int), .bool true] 111 :: diskR p10 D F :: Res.cell b40 [.int .i64 kd, .int .i64 nn, .slice ax xb.length cx, .slice ak ks.length ck] 80 :: Res.row 55 2 (.slice sa sure.length sc) sure.length sx :: Res.row 55 2 (.slice ua ([ub].length) uc) ([ub].length) ux :: H) w, fun _ _ _ ⟨h, hi⟩ he => ⟨h, hi.ext he⟩⟩, ⟨fun vals w => ∃ b60, vals = [.pointer (some ⟨b60, 0, none⟩)] ∧ Inv C (Res.cell b60 [.int .i64 0, .slice none 0 0] 55 :: Res.cell q [.pointer (some ⟨p10, 0, none⟩), .int .i64 ((0 : Nat) : Int), .int .i64 (n : Int), .int .i64 (used : Int), .int .i64 (last : Int), .bool true] 111 :: diskR p10 D F :: Res.cell b40 [.int .i64 kd, .int .i64 nn, .slice ax xb.length cx, .slice ak ks.length ck] 80 :: Res.row 55 2 (.slice sa sure.length sc) sure.length sx :: Res.row 55 2 (.slice ua ([ub].length) uc) ([ub].length) ux :: H) w, fun _ _ _ ⟨b60, h, hi⟩ he => ⟨b60, h, hi.ext he⟩⟩, ⟨fun vals w => ∃ b60, vals = [.pointer (some ⟨b60, 0, none⟩), undef] ∧ Inv C (Res.cell b60 [.int .i64 (last : Int), .slice ax xb.length cx] 55 :: Res.cell q [.pointer (some ⟨p10, 0, none⟩), .int .i64 ((0 : Nat) : Int), .int .i64 (n : Int), .int .i64 (used : Int), .int .i64 (last : Int), .bool true] 111 :: diskR p10 D F :: Res.cell b40 [.int .i64 kd, .int .i64 nn, .slice ax xb.length cx, .slice ak ks.length ck] 80 :: Res.row 55 2 (.slice sa sure.length sc) sure.length sx :: Res.row 55 2 (.slice ua ([ub].length) uc) ([ub].length) ux :: H) w, fun _ _ _ ⟨b60, h, hi⟩ he => ⟨b60, h, hi.ext he⟩⟩] 168 rfl (by kernel_rfl) ⟨rfl, hv⟩ ⟨?_, ?_, ?_, ?_, ?_, ?_, ?_, trivial⟩ ?_
                  · intro aa ww vals hJ hR
                    exact add_step' rfl (Ex.adds' (ex_move rfl (show aa.eval (.tmp 8) = _ from hR.keep 8 rfl)) (wn rfl) rfl)
                  · intro aa ww vals hJ hR
                    have h2 : vals.length ≤ 1 := hR.hi 6 (by simp) rfl
                    rcases (show vals.length = 0 ∨ vals.length = 1 by omega) with hl | hl
                    · obtain ⟨hvals, hv⟩ := hJ.at0 hl
                      exact add_step' rfl (stepOk_calls lkcallable41 (wn rfl) rfl (args := #[.pointer (some ⟨q, 0, none⟩)]) (by simp only [List.map_toArray, List.map_cons, List.map_nil]; rw [show aa.eval (.tmp 87) = .pointer (some ⟨q, 0, none⟩) from hR.v 0 87 rfl rfl rfl rfl] <;> rfl) ((logLastB (hv.get 0 rfl)).mono fun e w9 ⟨he, hw⟩ => ⟨_, he, by subst hw; exact Ext.rfl' _, rfl⟩))
                    · obtain ⟨b60, hvals, hv⟩ := hJ.at0 hl
                      exact add_step' rfl (stepOk_calls lkcallable41 (wn rfl) rfl (args := #[.pointer (some ⟨q, 0, none⟩)]) (by simp only [List.map_toArray, List.map_cons, List.map_nil]; rw [show aa.eval (.tmp 87) = .pointer (some ⟨q, 0, none⟩) from hR.v 0 87 rfl rfl rfl rfl] <;> rfl) ((logLastB (hv.get 1 rfl)).mono fun e w9 ⟨he, hw⟩ => ⟨_, he, by subst hw; exact Ext.rfl' _, rfl⟩))
                  · intro aa ww vals hJ hR
                    exact add_step' rfl (Ex.adds' (ex_field rfl (show aa.eval (.tmp 15) = _ from hR.keep 15 rfl) (lkfa80_2 _ _ _)) (wn rfl) rfl)
                  · intro aa ww vals hJ hR
                    have h2 : vals.length ≤ 1 := hR.hi 6 (by simp) rfl
                    rcases (show vals.length = 0 ∨ vals.length = 1 by omega) with hl | hl
                    · obtain ⟨hvals, hv⟩ := hJ.at0 hl
                      exact add_step' rfl (Ex.adds' (ex_load rfl (show aa.eval (.tmp 89) = _ from hR.v 2 89 rfl rfl rfl rfl) (run_load1 lkna24 (hv.load 2 2 rfl rfl))) (wn rfl) rfl)
                    · obtain ⟨b60, hvals, hv⟩ := hJ.at0 hl
                      exact add_step' rfl (Ex.adds' (ex_load rfl (show aa.eval (.tmp 89) = _ from hR.v 2 89 rfl rfl rfl rfl) (run_load1 lkna24 (hv.load 3 2 rfl rfl))) (wn rfl) rfl)
                  · intro aa ww vals hJ hR
                    exact add_step' rfl (Ex.adds' (ex_buildN (vs := #[(0, .int .i64 (last : Int)), (1, .slice ax xb.length cx)]) rfl (by simp only [List.map_toArray, List.map_cons, List.map_nil]; rw [show aa.eval (.tmp 88) = .int .i64 (last : Int) from hR.v 1 88 rfl rfl rfl rfl, show aa.eval (.tmp 90) = .slice ax xb.length cx from hR.v 3 90 rfl rfl rfl rfl]) (by kernel_rfl)) (wn rfl) rfl)
                  · intro aa ww vals hJ hR
                    refine mem_step' rfl fun hvl => ?_
                    have hl : vals.length = 0 := hvl
                    obtain ⟨hvals, hv⟩ := hJ.at0 hl
                    refine mem_alloc (wn rfl) rfl hv lkal55 (fun b60 w61 hv => ?_)
                    exact JS.next hl ⟨b60, by rw [hvals]; rfl, hv⟩
                  · intro aa ww vals hJ hR
                    refine mem_step' rfl fun hvl => ?_
                    have hl : vals.length = 1 := hvl
                    obtain ⟨b60, hvals, hv⟩ := hJ.at0 hl
                    refine mem_storeNAt 0 (new := [.int .i64 (last : Int), .slice ax xb.length cx]) (pre := []) (mid := [.int .i64 0, .slice none 0 0]) (post := []) (L' := [.int .i64 (last : Int), .slice ax xb.length cx]) (wn rfl) rfl (show aa.eval (.tmp 17) = _ from (hR.val 5 17 rfl rfl rfl).trans (by rw [hvals]; rfl)) (show aa.eval (.tmp 91) = _ from hR.v 4 91 rfl rfl rfl rfl) hv rfl lksz55 rfl rfl rfl (one_cons rfl (one_cons rfl one_nil)) rfl (fun w62 hv => ?_)
                    exact JS.next hl ⟨b60, by rw [hvals]; rfl, hv⟩
                  rintro w63 vals ⟨b60, rfl, hv⟩
                  rw [show mixV [5, 6] [.pointer (some ⟨b60, 0, none⟩), undef] 0 [.pointer (some ⟨q, 0, none⟩), .int .i64 (last : Int), .pointer (some ⟨b40, 2, none⟩), .slice ax xb.length cx, .agg #[.int .i64 (last : Int), .slice ax xb.length cx], undef, undef] = [.pointer (some ⟨q, 0, none⟩), .int .i64 (last : Int), .pointer (some ⟨b40, 2, none⟩), .slice ax xb.length cx, .agg #[.int .i64 (last : Int), .slice ax xb.length cx], .pointer (some ⟨b60, 0, none⟩), undef] from rfl]
                  simp only [putAll, Act.put, List.setIfInBounds_toArray, List.set_cons_succ, List.set_cons_zero]
                  refine then_normal (hK59 _ _ ?_)
                  clear hK59 K59
                  refine wpIn_seq_k (fun K64 hK64 => ?_)
                  refine wpIn_region_lit ?_
                  refine wpi_exG (v := .int .i64 20) (fun _ => trivial) (wn rfl) rfl (ex_move rfl rfl) ?_
                  refine wpi_exG (v := .bool false) (fun _ => trivial) (wn rfl) rfl (ex_eql (k := .i64) (m := 20) (n := 0) rfl rfl rfl (by decide)) ?_
                  refine wpListIn_nil ?_
                  simp only [Act.put, List.setIfInBounds_toArray, List.set_cons_succ, List.set_cons_zero]
                  refine then_normal (hK64 _ _ ?_)
                  clear hK64 K64
                  refine wpIn_cond_false rfl ?_
                  refine wpIn_seq_k (fun K65 hK65 => ?_)
                  refine wpIn_region_lit ?_
                  refine wpi_exG (v := .int .i64 20) (fun _ => trivial) (wn rfl) rfl (ex_move rfl rfl) ?_
                  refine wpi_exG (v := .bool true) (fun _ => trivial) (wn rfl) rfl (ex_eql (k := .i64) (m := 20) (n := 20) rfl rfl rfl (by decide)) ?_
                  refine wpi_exG (v := .bool true) (fun _ => trivial) (wn rfl) rfl (ex_move rfl rfl) ?_
                  simp only [Act.put, List.setIfInBounds_toArray, List.set_cons_succ, List.set_cons_zero]
                  refine wpi_exG (v := .slice ua ([ub].length) uc) (fun _ => trivial) (wanted_of (j := 2) (d := 100) (b := true) rfl rfl rfl) rfl (ex_move rfl rfl) ?_
                  refine wpi_exG (v := .int .i64 (([ub].length) : Int)) (fun _ => trivial) (wanted_of (j := 2) (d := 100) (b := true) rfl rfl rfl) rfl (ex_len0 Try.underlying73 rfl rfl) ?_
                  refine wpi_exG (v := .bool false) (fun _ => trivial) (wanted_of (j := 2) (d := 100) (b := true) rfl rfl rfl) rfl (ex_eql (k := .i64) (m := (([ub].length) : Int)) (n := 0) rfl rfl rfl (decide_eq_false (by simp))) ?_
                  simp only [Act.put, List.setIfInBounds_toArray, List.set_cons_succ, List.set_cons_zero]
                  refine wpi_exG (v := .bool false) (fun _ => trivial) (wn rfl) rfl (ex_pick (b := true) rfl rfl rfl) ?_
                  refine wpListIn_nil ?_
                  simp only [Act.put, List.setIfInBounds_toArray, List.set_cons_succ, List.set_cons_zero]
                  refine then_normal (hK65 _ _ ?_)
                  clear hK65 K65
                  refine wpIn_cond_false rfl ?_
                  refine wpIn_skip ?_
                  refine blk_normal ?_
                  refine blk_normal ?_
                  refine then_normal (hK38 _ _ ?_)
                  clear hK38 K38
                  refine wpIn_region_lit ?_
                  refine wpi_exG (v := .int .i64 (i : Int)) (fun _ => trivial) (wn rfl) rfl (ex_move rfl rfl) ?_
                  refine wpi_exG (v := .int .i64 ((i : Int) + 1)) (fun _ => trivial) (wn rfl) rfl (ex_add (m := (i : Int)) (n := 1) rfl rfl rfl (i64_in (by omega))) ?_
                  refine wpi_exG (v := .int .i64 ((i : Int) + 1)) (fun _ => trivial) (wn rfl) rfl (ex_assign rfl rfl) ?_
                  refine wpListIn_nil ?_
                  simp only [Act.put, List.setIfInBounds_toArray, List.set_cons_succ, List.set_cons_zero]
                  refine then_normal ?_
                  go_roundw
                  case rel => exact ⟨_, i + 1, _, _, _, _, _, _, _, _, _, _, _, _, _, _, _, hBC, rfl, rfl, rfl, rfl, by simp, by omega, by omega, hK, hs, hu, (((((hv.front 5 rfl).front 5 rfl).front 4 rfl).front 4 rfl).sub (List.Sublist.cons_cons _ (List.Sublist.cons_cons _ (List.Sublist.cons_cons _ (List.Sublist.cons_cons _ (List.Sublist.cons _ (List.Sublist.cons _ (List.Sublist.refl _))))))))⟩
                  case measure => show m + 1 - ((i : Int) + 1).toNat < m + 1 - (i : Int).toNat; omega
                | false =>
                  obtain ⟨hp0, rfl⟩ := hK.rest rfl
                  by_cases hfull : used + secs xb.length > n
                  · refine region_st mixed [.pointer (some ⟨q, 0, none⟩), .pointer (some ⟨q, 0, none⟩), .int .i64 (last : Int), .int .i64 ((last + 1 : Nat) : Int), .pointer (some ⟨b40, 2, none⟩), .slice ax xb.length cx, undef, .int .i64 22] [6] [⟨fun vals w => vals = [] ∧ Inv C (Res.cell q [.pointer (some ⟨p10, 0, none⟩), .int .i64 ((0 : Nat) : Int), .int .i64 (n : Int), .int .i64 (used : Int), .int .i64 (last : Int), .bool false] 111 :: diskR p10 D F :: Res.cell b40 [.int .i64 kd, .int .i64 nn, .slice ax xb.length cx, .slice ak ks.length ck] 80 :: Res.row 55 2 (.slice sa sure.length sc) sure.length sx :: Res.row 55 2 (.slice ua (([] : List (List UInt8)).length) uc) (([] : List (List UInt8)).length) ux :: H) w, fun _ _ _ ⟨h, hi⟩ he => ⟨h, hi.ext he⟩⟩, ⟨fun vals w => vals = [.int .i64 22] ∧ Inv C (Res.cell q [.pointer (some ⟨p10, 0, none⟩), .int .i64 ((0 : Nat) : Int), .int .i64 (n : Int), .int .i64 (used : Int), .int .i64 (last : Int), .bool false] 111 :: diskR p10 D F :: Res.cell b40 [.int .i64 kd, .int .i64 nn, .slice ax xb.length cx, .slice ak ks.length ck] 80 :: Res.row 55 2 (.slice sa sure.length sc) sure.length sx :: Res.row 55 2 (.slice ua (([] : List (List UInt8)).length) uc) (([] : List (List UInt8)).length) ux :: H) w, fun _ _ _ ⟨h, hi⟩ he => ⟨h, hi.ext he⟩⟩] 168 rfl (by kernel_rfl) ⟨rfl, hv⟩ ⟨?_, ?_, ?_, ?_, ?_, ?_, ?_, ?_, trivial⟩ ?_
                    · intro aa ww vals hJ hR
                      exact add_step' rfl (Ex.adds' (ex_move rfl (show aa.eval (.tmp 8) = _ from hR.keep 8 rfl)) (wn rfl) rfl)
                    · intro aa ww vals hJ hR
                      exact add_step' rfl (Ex.adds' (ex_move rfl (show aa.eval (.tmp 8) = _ from hR.keep 8 rfl)) (wn rfl) rfl)
                    · intro aa ww vals hJ hR
                      have h2 : vals.length ≤ 0 := hR.hi 6 (by simp) rfl
                      have hl : vals.length = 0 := by omega
                      obtain ⟨hvals, hv⟩ := hJ.at0 hl
                      exact add_step' rfl (stepOk_calls lkcallable41 (wn rfl) rfl (args := #[.pointer (some ⟨q, 0, none⟩)]) (by simp only [List.map_toArray, List.map_cons, List.map_nil]; rw [show aa.eval (.tmp 81) = .pointer (some ⟨q, 0, none⟩) from hR.v 1 81 rfl rfl rfl rfl] <;> rfl) ((logLastB (hv.get 0 rfl)).mono fun e w9 ⟨he, hw⟩ => ⟨_, he, by subst hw; exact Ext.rfl' _, rfl⟩))
                    · intro aa ww vals hJ hR
                      exact add_step' rfl (Ex.adds' (ex_add (m := (last : Int)) (n := 1) rfl (show aa.eval (.tmp 82) = _ from hR.v 2 82 rfl rfl rfl rfl) rfl (by rw [i64_in (by omega)]; omega)) (wn rfl) rfl)
                    · intro aa ww vals hJ hR
                      exact add_step' rfl (Ex.adds' (ex_field rfl (show aa.eval (.tmp 15) = _ from hR.keep 15 rfl) (lkfa80_2 _ _ _)) (wn rfl) rfl)
                    · intro aa ww vals hJ hR
                      have h2 : vals.length ≤ 0 := hR.hi 6 (by simp) rfl
                      have hl : vals.length = 0 := by omega
                      obtain ⟨hvals, hv⟩ := hJ.at0 hl
                      exact add_step' rfl (Ex.adds' (ex_load rfl (show aa.eval (.tmp 84) = _ from hR.v 4 84 rfl rfl rfl rfl) (run_load1 lkna24 (hv.load 2 2 rfl rfl))) (wn rfl) rfl)
                    · intro aa ww vals hJ hR
                      refine mem_step' rfl fun hvl => ?_
                      have hl : vals.length = 0 := hvl
                      obtain ⟨hvals, hv⟩ := hJ.at0 hl
                      refine stepMem_calls lkcallable40 (wn rfl) rfl (args := #[.pointer (some ⟨q, 0, none⟩), .int .i64 ((last + 1 : Nat) : Int), .slice ax xb.length cx]) (by simp only [List.map_toArray, List.map_cons, List.map_nil]; rw [show aa.eval (.tmp 80) = .pointer (some ⟨q, 0, none⟩) from hR.v 0 80 rfl rfl rfl rfl, show aa.eval (.tmp 83) = .int .i64 ((last + 1 : Nat) : Int) from hR.v 3 83 rfl rfl rfl rfl, show aa.eval (.tmp 85) = .slice ax xb.length cx from hR.v 5 85 rfl rfl rfl rfl] <;> rfl) ((appendFull _ _ _ q p10 n used last D _ ax _ xb (by omega) hkf (by omega) (by omega) (by omega) (by omega) hxok hxr hv hfull).mono ?_)
                      rintro e w66 ⟨rfl, hv⟩
                      refine ⟨_, rfl, JS.next hl ⟨by rw [hvals]; rfl, hv⟩⟩
                    · intro aa ww vals hJ hR
                      have h1 : 0 < vals.length := hR.lo 6 (by simp) rfl
                      have hl : vals.length = 1 := by have := JS.le (n := 1) (by rfl) hJ; omega
                      obtain ⟨hvals, hv⟩ := hJ.at0 hl
                      exact add_step' rfl (Ex.adds' (ex_assign rfl (show aa.eval (.tmp 86) = _ from (hR.val 6 86 rfl rfl rfl).trans (by rw [hvals]; rfl))) (wn rfl) rfl)
                    rintro w67 vals ⟨rfl, hv⟩
                    rw [show mixV [6] [.int .i64 22] 0 [.pointer (some ⟨q, 0, none⟩), .pointer (some ⟨q, 0, none⟩), .int .i64 (last : Int), .int .i64 ((last + 1 : Nat) : Int), .pointer (some ⟨b40, 2, none⟩), .slice ax xb.length cx, undef, .int .i64 22] = [.pointer (some ⟨q, 0, none⟩), .pointer (some ⟨q, 0, none⟩), .int .i64 (last : Int), .int .i64 ((last + 1 : Nat) : Int), .pointer (some ⟨b40, 2, none⟩), .slice ax xb.length cx, .int .i64 22, .int .i64 22] from rfl]
                    simp only [putAll, Act.put, List.setIfInBounds_toArray, List.set_cons_succ, List.set_cons_zero]
                    refine then_normal (hK56 _ _ ?_)
                    clear hK56 K56
                    refine wpIn_seq_k (fun K68 hK68 => ?_)
                    refine region_st mixed [.pointer (some ⟨q, 0, none⟩), .int .i64 (last : Int), .pointer (some ⟨b40, 2, none⟩), .slice ax xb.length cx, .agg #[.int .i64 (last : Int), .slice ax xb.length cx], undef, undef] [5, 6] [⟨fun vals w => vals = [] ∧ Inv C (Res.cell q [.pointer (some ⟨p10, 0, none⟩), .int .i64 ((0 : Nat) : Int), .int .i64 (n : Int), .int .i64 (used : Int), .int .i64 (last : Int), .bool false] 111 :: diskR p10 D F :: Res.cell b40 [.int .i64 kd, .int .i64 nn, .slice ax xb.length cx, .slice ak ks.length ck] 80 :: Res.row 55 2 (.slice sa sure.length sc) sure.length sx :: Res.row 55 2 (.slice ua (([] : List (List UInt8)).length) uc) (([] : List (List UInt8)).length) ux :: H) w, fun _ _ _ ⟨h, hi⟩ he => ⟨h, hi.ext he⟩⟩, ⟨fun vals w => ∃ b69, vals = [.pointer (some ⟨b69, 0, none⟩)] ∧ Inv C (Res.cell b69 [.int .i64 0, .slice none 0 0] 55 :: Res.cell q [.pointer (some ⟨p10, 0, none⟩), .int .i64 ((0 : Nat) : Int), .int .i64 (n : Int), .int .i64 (used : Int), .int .i64 (last : Int), .bool false] 111 :: diskR p10 D F :: Res.cell b40 [.int .i64 kd, .int .i64 nn, .slice ax xb.length cx, .slice ak ks.length ck] 80 :: Res.row 55 2 (.slice sa sure.length sc) sure.length sx :: Res.row 55 2 (.slice ua (([] : List (List UInt8)).length) uc) (([] : List (List UInt8)).length) ux :: H) w, fun _ _ _ ⟨b69, h, hi⟩ he => ⟨b69, h, hi.ext he⟩⟩, ⟨fun vals w => ∃ b69, vals = [.pointer (some ⟨b69, 0, none⟩), undef] ∧ Inv C (Res.cell b69 [.int .i64 (last : Int), .slice ax xb.length cx] 55 :: Res.cell q [.pointer (some ⟨p10, 0, none⟩), .int .i64 ((0 : Nat) : Int), .int .i64 (n : Int), .int .i64 (used : Int), .int .i64 (last : Int), .bool false] 111 :: diskR p10 D F :: Res.cell b40 [.int .i64 kd, .int .i64 nn, .slice ax xb.length cx, .slice ak ks.length ck] 80 :: Res.row 55 2 (.slice sa sure.length sc) sure.length sx :: Res.row 55 2 (.slice ua (([] : List (List UInt8)).length) uc) (([] : List (List UInt8)).length) ux :: H) w, fun _ _ _ ⟨b69, h, hi⟩ he => ⟨b69, h, hi.ext he⟩⟩] 168 rfl (by kernel_rfl) ⟨rfl, hv⟩ ⟨?_, ?_, ?_, ?_, ?_, ?_, ?_, trivial⟩ ?_
                    · intro aa ww vals hJ hR
                      exact add_step' rfl (Ex.adds' (ex_move rfl (show aa.eval (.tmp 8) = _ from hR.keep 8 rfl)) (wn rfl) rfl)
                    · intro aa ww vals hJ hR
                      have h2 : vals.length ≤ 1 := hR.hi 6 (by simp) rfl
                      rcases (show vals.length = 0 ∨ vals.length = 1 by omega) with hl | hl
                      · obtain ⟨hvals, hv⟩ := hJ.at0 hl
                        exact add_step' rfl (stepOk_calls lkcallable41 (wn rfl) rfl (args := #[.pointer (some ⟨q, 0, none⟩)]) (by simp only [List.map_toArray, List.map_cons, List.map_nil]; rw [show aa.eval (.tmp 87) = .pointer (some ⟨q, 0, none⟩) from hR.v 0 87 rfl rfl rfl rfl] <;> rfl) ((logLastB (hv.get 0 rfl)).mono fun e w9 ⟨he, hw⟩ => ⟨_, he, by subst hw; exact Ext.rfl' _, rfl⟩))
                      · obtain ⟨b69, hvals, hv⟩ := hJ.at0 hl
                        exact add_step' rfl (stepOk_calls lkcallable41 (wn rfl) rfl (args := #[.pointer (some ⟨q, 0, none⟩)]) (by simp only [List.map_toArray, List.map_cons, List.map_nil]; rw [show aa.eval (.tmp 87) = .pointer (some ⟨q, 0, none⟩) from hR.v 0 87 rfl rfl rfl rfl] <;> rfl) ((logLastB (hv.get 1 rfl)).mono fun e w9 ⟨he, hw⟩ => ⟨_, he, by subst hw; exact Ext.rfl' _, rfl⟩))
                    · intro aa ww vals hJ hR
                      exact add_step' rfl (Ex.adds' (ex_field rfl (show aa.eval (.tmp 15) = _ from hR.keep 15 rfl) (lkfa80_2 _ _ _)) (wn rfl) rfl)
                    · intro aa ww vals hJ hR
                      have h2 : vals.length ≤ 1 := hR.hi 6 (by simp) rfl
                      rcases (show vals.length = 0 ∨ vals.length = 1 by omega) with hl | hl
                      · obtain ⟨hvals, hv⟩ := hJ.at0 hl
                        exact add_step' rfl (Ex.adds' (ex_load rfl (show aa.eval (.tmp 89) = _ from hR.v 2 89 rfl rfl rfl rfl) (run_load1 lkna24 (hv.load 2 2 rfl rfl))) (wn rfl) rfl)
                      · obtain ⟨b69, hvals, hv⟩ := hJ.at0 hl
                        exact add_step' rfl (Ex.adds' (ex_load rfl (show aa.eval (.tmp 89) = _ from hR.v 2 89 rfl rfl rfl rfl) (run_load1 lkna24 (hv.load 3 2 rfl rfl))) (wn rfl) rfl)
                    · intro aa ww vals hJ hR
                      exact add_step' rfl (Ex.adds' (ex_buildN (vs := #[(0, .int .i64 (last : Int)), (1, .slice ax xb.length cx)]) rfl (by simp only [List.map_toArray, List.map_cons, List.map_nil]; rw [show aa.eval (.tmp 88) = .int .i64 (last : Int) from hR.v 1 88 rfl rfl rfl rfl, show aa.eval (.tmp 90) = .slice ax xb.length cx from hR.v 3 90 rfl rfl rfl rfl]) (by kernel_rfl)) (wn rfl) rfl)
                    · intro aa ww vals hJ hR
                      refine mem_step' rfl fun hvl => ?_
                      have hl : vals.length = 0 := hvl
                      obtain ⟨hvals, hv⟩ := hJ.at0 hl
                      refine mem_alloc (wn rfl) rfl hv lkal55 (fun b69 w70 hv => ?_)
                      exact JS.next hl ⟨b69, by rw [hvals]; rfl, hv⟩
                    · intro aa ww vals hJ hR
                      refine mem_step' rfl fun hvl => ?_
                      have hl : vals.length = 1 := hvl
                      obtain ⟨b69, hvals, hv⟩ := hJ.at0 hl
                      refine mem_storeNAt 0 (new := [.int .i64 (last : Int), .slice ax xb.length cx]) (pre := []) (mid := [.int .i64 0, .slice none 0 0]) (post := []) (L' := [.int .i64 (last : Int), .slice ax xb.length cx]) (wn rfl) rfl (show aa.eval (.tmp 17) = _ from (hR.val 5 17 rfl rfl rfl).trans (by rw [hvals]; rfl)) (show aa.eval (.tmp 91) = _ from hR.v 4 91 rfl rfl rfl rfl) hv rfl lksz55 rfl rfl rfl (one_cons rfl (one_cons rfl one_nil)) rfl (fun w71 hv => ?_)
                      exact JS.next hl ⟨b69, by rw [hvals]; rfl, hv⟩
                    rintro w72 vals ⟨b69, rfl, hv⟩
                    rw [show mixV [5, 6] [.pointer (some ⟨b69, 0, none⟩), undef] 0 [.pointer (some ⟨q, 0, none⟩), .int .i64 (last : Int), .pointer (some ⟨b40, 2, none⟩), .slice ax xb.length cx, .agg #[.int .i64 (last : Int), .slice ax xb.length cx], undef, undef] = [.pointer (some ⟨q, 0, none⟩), .int .i64 (last : Int), .pointer (some ⟨b40, 2, none⟩), .slice ax xb.length cx, .agg #[.int .i64 (last : Int), .slice ax xb.length cx], .pointer (some ⟨b69, 0, none⟩), undef] from rfl]
                    simp only [putAll, Act.put, List.setIfInBounds_toArray, List.set_cons_succ, List.set_cons_zero]
                    refine then_normal (hK68 _ _ ?_)
                    clear hK68 K68
                    refine wpIn_seq_k (fun K73 hK73 => ?_)
                    refine wpIn_region_lit ?_
                    refine wpi_exG (v := .int .i64 22) (fun _ => trivial) (wn rfl) rfl (ex_move rfl rfl) ?_
                    refine wpi_exG (v := .bool false) (fun _ => trivial) (wn rfl) rfl (ex_eql (k := .i64) (m := 22) (n := 0) rfl rfl rfl (by decide)) ?_
                    refine wpListIn_nil ?_
                    simp only [Act.put, List.setIfInBounds_toArray, List.set_cons_succ, List.set_cons_zero]
                    refine then_normal (hK73 _ _ ?_)
                    clear hK73 K73
                    refine wpIn_cond_false rfl ?_
                    refine wpIn_seq_k (fun K74 hK74 => ?_)
                    refine wpIn_region_lit ?_
                    refine wpi_exG (v := .int .i64 22) (fun _ => trivial) (wn rfl) rfl (ex_move rfl rfl) ?_
                    refine wpi_exG (v := .bool false) (fun _ => trivial) (wn rfl) rfl (ex_eql (k := .i64) (m := 22) (n := 20) rfl rfl rfl (by decide)) ?_
                    refine wpi_exG (v := .bool false) (fun _ => trivial) (wn rfl) rfl (ex_move rfl rfl) ?_
                    simp only [Act.put, List.setIfInBounds_toArray, List.set_cons_succ, List.set_cons_zero]
                    refine wpi_not (fun _ => trivial) (wanted_not (j := 2) (d := 100) (b := true) (b' := false) rfl rfl rfl (by decide)) ?_
                    refine wpi_not (fun _ => trivial) (wanted_not (j := 2) (d := 100) (b := true) (b' := false) rfl rfl rfl (by decide)) ?_
                    refine wpi_not (fun _ => trivial) (wanted_not (j := 2) (d := 100) (b := true) (b' := false) rfl rfl rfl (by decide)) ?_
                    simp only [Act.put, List.setIfInBounds_toArray, List.set_cons_succ, List.set_cons_zero]
                    refine wpi_exG (v := .bool false) (fun _ => trivial) (wn rfl) rfl (ex_pick (b := false) rfl rfl rfl) ?_
                    refine wpListIn_nil ?_
                    simp only [Act.put, List.setIfInBounds_toArray, List.set_cons_succ, List.set_cons_zero]
                    refine then_normal (hK74 _ _ ?_)
                    clear hK74 K74
                    refine wpIn_cond_false rfl ?_
                    refine wpIn_skip ?_
                    refine blk_normal ?_
                    refine blk_normal ?_
                    refine then_normal (hK38 _ _ ?_)
                    clear hK38 K38
                    refine wpIn_region_lit ?_
                    refine wpi_exG (v := .int .i64 (i : Int)) (fun _ => trivial) (wn rfl) rfl (ex_move rfl rfl) ?_
                    refine wpi_exG (v := .int .i64 ((i : Int) + 1)) (fun _ => trivial) (wn rfl) rfl (ex_add (m := (i : Int)) (n := 1) rfl rfl rfl (i64_in (by omega))) ?_
                    refine wpi_exG (v := .int .i64 ((i : Int) + 1)) (fun _ => trivial) (wn rfl) rfl (ex_assign rfl rfl) ?_
                    refine wpListIn_nil ?_
                    simp only [Act.put, List.setIfInBounds_toArray, List.set_cons_succ, List.set_cons_zero]
                    refine then_normal ?_
                    go_roundw
                    case rel => exact ⟨_, i + 1, _, _, _, _, _, _, _, _, _, _, _, _, _, _, _, hBC, rfl, rfl, rfl, rfl, by simp, by omega, by omega, hK, hs, hu, (((((hv.front 5 rfl).front 5 rfl).front 4 rfl).front 4 rfl).sub (List.Sublist.cons_cons _ (List.Sublist.cons_cons _ (List.Sublist.cons_cons _ (List.Sublist.cons_cons _ (List.Sublist.cons _ (List.Sublist.cons _ (List.Sublist.refl _))))))))⟩
                    case measure => show m + 1 - ((i : Int) + 1).toNat < m + 1 - (i : Int).toNat; omega
                  rcases hK.append (b := xb) (by omega) (by omega) (by omega) with ⟨hput, hK2⟩ | ⟨hput, hK2⟩
                  · refine region_st mixed [.pointer (some ⟨q, 0, none⟩), .pointer (some ⟨q, 0, none⟩), .int .i64 (last : Int), .int .i64 ((last + 1 : Nat) : Int), .pointer (some ⟨b40, 2, none⟩), .slice ax xb.length cx, undef, .int .i64 0] [6] [⟨fun vals w => vals = [] ∧ Inv C (Res.cell q [.pointer (some ⟨p10, 0, none⟩), .int .i64 ((0 : Nat) : Int), .int .i64 (n : Int), .int .i64 (used : Int), .int .i64 (last : Int), .bool false] 111 :: diskR p10 D F :: Res.cell b40 [.int .i64 kd, .int .i64 nn, .slice ax xb.length cx, .slice ak ks.length ck] 80 :: Res.row 55 2 (.slice sa sure.length sc) sure.length sx :: Res.row 55 2 (.slice ua (([] : List (List UInt8)).length) uc) (([] : List (List UInt8)).length) ux :: H) w, fun _ _ _ ⟨h, hi⟩ he => ⟨h, hi.ext he⟩⟩, ⟨fun vals w => ∃ F75, vals = [.int .i64 0] ∧ Inv C (Res.cell q [.pointer (some ⟨p10, 0, none⟩), .int .i64 ((0 : Nat) : Int), .int .i64 (n : Int), .int .i64 ((used + secs xb.length : Nat) : Int), .int .i64 ((last + 1 : Nat) : Int), .bool false] 111 :: diskR p10 ((putAll' D used (logText xb) (logHdr (last + 1) xb)).2) F75 :: Res.cell b40 [.int .i64 kd, .int .i64 nn, .slice ax xb.length cx, .slice ak ks.length ck] 80 :: Res.row 55 2 (.slice sa sure.length sc) sure.length sx :: Res.row 55 2 (.slice ua (([] : List (List UInt8)).length) uc) (([] : List (List UInt8)).length) ux :: H) w, fun _ _ _ ⟨F75, h, hi⟩ he => ⟨F75, h, hi.ext he⟩⟩] 168 rfl (by kernel_rfl) ⟨rfl, hv⟩ ⟨?_, ?_, ?_, ?_, ?_, ?_, ?_, ?_, trivial⟩ ?_
                    · intro aa ww vals hJ hR
                      exact add_step' rfl (Ex.adds' (ex_move rfl (show aa.eval (.tmp 8) = _ from hR.keep 8 rfl)) (wn rfl) rfl)
                    · intro aa ww vals hJ hR
                      exact add_step' rfl (Ex.adds' (ex_move rfl (show aa.eval (.tmp 8) = _ from hR.keep 8 rfl)) (wn rfl) rfl)
                    · intro aa ww vals hJ hR
                      have h2 : vals.length ≤ 0 := hR.hi 6 (by simp) rfl
                      have hl : vals.length = 0 := by omega
                      obtain ⟨hvals, hv⟩ := hJ.at0 hl
                      exact add_step' rfl (stepOk_calls lkcallable41 (wn rfl) rfl (args := #[.pointer (some ⟨q, 0, none⟩)]) (by simp only [List.map_toArray, List.map_cons, List.map_nil]; rw [show aa.eval (.tmp 81) = .pointer (some ⟨q, 0, none⟩) from hR.v 1 81 rfl rfl rfl rfl] <;> rfl) ((logLastB (hv.get 0 rfl)).mono fun e w9 ⟨he, hw⟩ => ⟨_, he, by subst hw; exact Ext.rfl' _, rfl⟩))
                    · intro aa ww vals hJ hR
                      exact add_step' rfl (Ex.adds' (ex_add (m := (last : Int)) (n := 1) rfl (show aa.eval (.tmp 82) = _ from hR.v 2 82 rfl rfl rfl rfl) rfl (by rw [i64_in (by omega)]; omega)) (wn rfl) rfl)
                    · intro aa ww vals hJ hR
                      exact add_step' rfl (Ex.adds' (ex_field rfl (show aa.eval (.tmp 15) = _ from hR.keep 15 rfl) (lkfa80_2 _ _ _)) (wn rfl) rfl)
                    · intro aa ww vals hJ hR
                      have h2 : vals.length ≤ 0 := hR.hi 6 (by simp) rfl
                      have hl : vals.length = 0 := by omega
                      obtain ⟨hvals, hv⟩ := hJ.at0 hl
                      exact add_step' rfl (Ex.adds' (ex_load rfl (show aa.eval (.tmp 84) = _ from hR.v 4 84 rfl rfl rfl rfl) (run_load1 lkna24 (hv.load 2 2 rfl rfl))) (wn rfl) rfl)
                    · intro aa ww vals hJ hR
                      refine mem_step' rfl fun hvl => ?_
                      have hl : vals.length = 0 := hvl
                      obtain ⟨hvals, hv⟩ := hJ.at0 hl
                      refine stepMem_calls lkcallable40 (wn rfl) rfl (args := #[.pointer (some ⟨q, 0, none⟩), .int .i64 ((last + 1 : Nat) : Int), .slice ax xb.length cx]) (by simp only [List.map_toArray, List.map_cons, List.map_nil]; rw [show aa.eval (.tmp 80) = .pointer (some ⟨q, 0, none⟩) from hR.v 0 80 rfl rfl rfl rfl, show aa.eval (.tmp 83) = .int .i64 ((last + 1 : Nat) : Int) from hR.v 3 83 rfl rfl rfl rfl, show aa.eval (.tmp 85) = .slice ax xb.length cx from hR.v 5 85 rfl rfl rfl rfl] <;> rfl) ((appendDone _ _ _ q p10 n used last D _ ax _ xb (by omega) hkf (by omega) (by omega) (by omega) (by omega) hxok hxr hv (by omega) hput).mono ?_)
                      rintro e w76 ⟨F75, rfl, hv⟩
                      refine ⟨_, rfl, JS.next hl ⟨F75, by rw [hvals]; rfl, hv⟩⟩
                    · intro aa ww vals hJ hR
                      have h1 : 0 < vals.length := hR.lo 6 (by simp) rfl
                      have hl : vals.length = 1 := by have := JS.le (n := 1) (by rfl) hJ; omega
                      obtain ⟨F75, hvals, hv⟩ := hJ.at0 hl
                      exact add_step' rfl (Ex.adds' (ex_assign rfl (show aa.eval (.tmp 86) = _ from (hR.val 6 86 rfl rfl rfl).trans (by rw [hvals]; rfl))) (wn rfl) rfl)
                    rintro w77 vals ⟨F75, rfl, hv⟩
                    rw [show mixV [6] [.int .i64 0] 0 [.pointer (some ⟨q, 0, none⟩), .pointer (some ⟨q, 0, none⟩), .int .i64 (last : Int), .int .i64 ((last + 1 : Nat) : Int), .pointer (some ⟨b40, 2, none⟩), .slice ax xb.length cx, undef, .int .i64 0] = [.pointer (some ⟨q, 0, none⟩), .pointer (some ⟨q, 0, none⟩), .int .i64 (last : Int), .int .i64 ((last + 1 : Nat) : Int), .pointer (some ⟨b40, 2, none⟩), .slice ax xb.length cx, .int .i64 0, .int .i64 0] from rfl]
                    simp only [putAll, Act.put, List.setIfInBounds_toArray, List.set_cons_succ, List.set_cons_zero]
                    refine then_normal (hK56 _ _ ?_)
                    clear hK56 K56
                    refine wpIn_seq_k (fun K78 hK78 => ?_)
                    refine region_st mixed [.pointer (some ⟨q, 0, none⟩), .int .i64 ((last + 1 : Nat) : Int), .pointer (some ⟨b40, 2, none⟩), .slice ax xb.length cx, .agg #[.int .i64 ((last + 1 : Nat) : Int), .slice ax xb.length cx], undef, undef] [5, 6] [⟨fun vals w => vals = [] ∧ Inv C (Res.cell q [.pointer (some ⟨p10, 0, none⟩), .int .i64 ((0 : Nat) : Int), .int .i64 (n : Int), .int .i64 ((used + secs xb.length : Nat) : Int), .int .i64 ((last + 1 : Nat) : Int), .bool false] 111 :: diskR p10 ((putAll' D used (logText xb) (logHdr (last + 1) xb)).2) F75 :: Res.cell b40 [.int .i64 kd, .int .i64 nn, .slice ax xb.length cx, .slice ak ks.length ck] 80 :: Res.row 55 2 (.slice sa sure.length sc) sure.length sx :: Res.row 55 2 (.slice ua (([] : List (List UInt8)).length) uc) (([] : List (List UInt8)).length) ux :: H) w, fun _ _ _ ⟨h, hi⟩ he => ⟨h, hi.ext he⟩⟩, ⟨fun vals w => ∃ b79, vals = [.pointer (some ⟨b79, 0, none⟩)] ∧ Inv C (Res.cell b79 [.int .i64 0, .slice none 0 0] 55 :: Res.cell q [.pointer (some ⟨p10, 0, none⟩), .int .i64 ((0 : Nat) : Int), .int .i64 (n : Int), .int .i64 ((used + secs xb.length : Nat) : Int), .int .i64 ((last + 1 : Nat) : Int), .bool false] 111 :: diskR p10 ((putAll' D used (logText xb) (logHdr (last + 1) xb)).2) F75 :: Res.cell b40 [.int .i64 kd, .int .i64 nn, .slice ax xb.length cx, .slice ak ks.length ck] 80 :: Res.row 55 2 (.slice sa sure.length sc) sure.length sx :: Res.row 55 2 (.slice ua (([] : List (List UInt8)).length) uc) (([] : List (List UInt8)).length) ux :: H) w, fun _ _ _ ⟨b79, h, hi⟩ he => ⟨b79, h, hi.ext he⟩⟩, ⟨fun vals w => ∃ b79, vals = [.pointer (some ⟨b79, 0, none⟩), undef] ∧ Inv C (Res.cell b79 [.int .i64 ((last + 1 : Nat) : Int), .slice ax xb.length cx] 55 :: Res.cell q [.pointer (some ⟨p10, 0, none⟩), .int .i64 ((0 : Nat) : Int), .int .i64 (n : Int), .int .i64 ((used + secs xb.length : Nat) : Int), .int .i64 ((last + 1 : Nat) : Int), .bool false] 111 :: diskR p10 ((putAll' D used (logText xb) (logHdr (last + 1) xb)).2) F75 :: Res.cell b40 [.int .i64 kd, .int .i64 nn, .slice ax xb.length cx, .slice ak ks.length ck] 80 :: Res.row 55 2 (.slice sa sure.length sc) sure.length sx :: Res.row 55 2 (.slice ua (([] : List (List UInt8)).length) uc) (([] : List (List UInt8)).length) ux :: H) w, fun _ _ _ ⟨b79, h, hi⟩ he => ⟨b79, h, hi.ext he⟩⟩] 168 rfl (by kernel_rfl) ⟨rfl, hv⟩ ⟨?_, ?_, ?_, ?_, ?_, ?_, ?_, trivial⟩ ?_
                    · intro aa ww vals hJ hR
                      exact add_step' rfl (Ex.adds' (ex_move rfl (show aa.eval (.tmp 8) = _ from hR.keep 8 rfl)) (wn rfl) rfl)
                    · intro aa ww vals hJ hR
                      have h2 : vals.length ≤ 1 := hR.hi 6 (by simp) rfl
                      rcases (show vals.length = 0 ∨ vals.length = 1 by omega) with hl | hl
                      · obtain ⟨hvals, hv⟩ := hJ.at0 hl
                        exact add_step' rfl (stepOk_calls lkcallable41 (wn rfl) rfl (args := #[.pointer (some ⟨q, 0, none⟩)]) (by simp only [List.map_toArray, List.map_cons, List.map_nil]; rw [show aa.eval (.tmp 87) = .pointer (some ⟨q, 0, none⟩) from hR.v 0 87 rfl rfl rfl rfl] <;> rfl) ((logLastB (hv.get 0 rfl)).mono fun e w9 ⟨he, hw⟩ => ⟨_, he, by subst hw; exact Ext.rfl' _, rfl⟩))
                      · obtain ⟨b79, hvals, hv⟩ := hJ.at0 hl
                        exact add_step' rfl (stepOk_calls lkcallable41 (wn rfl) rfl (args := #[.pointer (some ⟨q, 0, none⟩)]) (by simp only [List.map_toArray, List.map_cons, List.map_nil]; rw [show aa.eval (.tmp 87) = .pointer (some ⟨q, 0, none⟩) from hR.v 0 87 rfl rfl rfl rfl] <;> rfl) ((logLastB (hv.get 1 rfl)).mono fun e w9 ⟨he, hw⟩ => ⟨_, he, by subst hw; exact Ext.rfl' _, rfl⟩))
                    · intro aa ww vals hJ hR
                      exact add_step' rfl (Ex.adds' (ex_field rfl (show aa.eval (.tmp 15) = _ from hR.keep 15 rfl) (lkfa80_2 _ _ _)) (wn rfl) rfl)
                    · intro aa ww vals hJ hR
                      have h2 : vals.length ≤ 1 := hR.hi 6 (by simp) rfl
                      rcases (show vals.length = 0 ∨ vals.length = 1 by omega) with hl | hl
                      · obtain ⟨hvals, hv⟩ := hJ.at0 hl
                        exact add_step' rfl (Ex.adds' (ex_load rfl (show aa.eval (.tmp 89) = _ from hR.v 2 89 rfl rfl rfl rfl) (run_load1 lkna24 (hv.load 2 2 rfl rfl))) (wn rfl) rfl)
                      · obtain ⟨b79, hvals, hv⟩ := hJ.at0 hl
                        exact add_step' rfl (Ex.adds' (ex_load rfl (show aa.eval (.tmp 89) = _ from hR.v 2 89 rfl rfl rfl rfl) (run_load1 lkna24 (hv.load 3 2 rfl rfl))) (wn rfl) rfl)
                    · intro aa ww vals hJ hR
                      exact add_step' rfl (Ex.adds' (ex_buildN (vs := #[(0, .int .i64 ((last + 1 : Nat) : Int)), (1, .slice ax xb.length cx)]) rfl (by simp only [List.map_toArray, List.map_cons, List.map_nil]; rw [show aa.eval (.tmp 88) = .int .i64 ((last + 1 : Nat) : Int) from hR.v 1 88 rfl rfl rfl rfl, show aa.eval (.tmp 90) = .slice ax xb.length cx from hR.v 3 90 rfl rfl rfl rfl]) (by kernel_rfl)) (wn rfl) rfl)
                    · intro aa ww vals hJ hR
                      refine mem_step' rfl fun hvl => ?_
                      have hl : vals.length = 0 := hvl
                      obtain ⟨hvals, hv⟩ := hJ.at0 hl
                      refine mem_alloc (wn rfl) rfl hv lkal55 (fun b79 w80 hv => ?_)
                      exact JS.next hl ⟨b79, by rw [hvals]; rfl, hv⟩
                    · intro aa ww vals hJ hR
                      refine mem_step' rfl fun hvl => ?_
                      have hl : vals.length = 1 := hvl
                      obtain ⟨b79, hvals, hv⟩ := hJ.at0 hl
                      refine mem_storeNAt 0 (new := [.int .i64 ((last + 1 : Nat) : Int), .slice ax xb.length cx]) (pre := []) (mid := [.int .i64 0, .slice none 0 0]) (post := []) (L' := [.int .i64 ((last + 1 : Nat) : Int), .slice ax xb.length cx]) (wn rfl) rfl (show aa.eval (.tmp 17) = _ from (hR.val 5 17 rfl rfl rfl).trans (by rw [hvals]; rfl)) (show aa.eval (.tmp 91) = _ from hR.v 4 91 rfl rfl rfl rfl) hv rfl lksz55 rfl rfl rfl (one_cons rfl (one_cons rfl one_nil)) rfl (fun w81 hv => ?_)
                      exact JS.next hl ⟨b79, by rw [hvals]; rfl, hv⟩
                    rintro w82 vals ⟨b79, rfl, hv⟩
                    rw [show mixV [5, 6] [.pointer (some ⟨b79, 0, none⟩), undef] 0 [.pointer (some ⟨q, 0, none⟩), .int .i64 ((last + 1 : Nat) : Int), .pointer (some ⟨b40, 2, none⟩), .slice ax xb.length cx, .agg #[.int .i64 ((last + 1 : Nat) : Int), .slice ax xb.length cx], undef, undef] = [.pointer (some ⟨q, 0, none⟩), .int .i64 ((last + 1 : Nat) : Int), .pointer (some ⟨b40, 2, none⟩), .slice ax xb.length cx, .agg #[.int .i64 ((last + 1 : Nat) : Int), .slice ax xb.length cx], .pointer (some ⟨b79, 0, none⟩), undef] from rfl]
                    simp only [putAll, Act.put, List.setIfInBounds_toArray, List.set_cons_succ, List.set_cons_zero]
                    refine then_normal (hK78 _ _ ?_)
                    clear hK78 K78
                    refine wpIn_seq_k (fun K83 hK83 => ?_)
                    refine wpIn_region_lit ?_
                    refine wpi_exG (v := .int .i64 0) (fun _ => trivial) (wn rfl) rfl (ex_move rfl rfl) ?_
                    refine wpi_exG (v := .bool true) (fun _ => trivial) (wn rfl) rfl (ex_eql (k := .i64) (m := 0) (n := 0) rfl rfl rfl (by decide)) ?_
                    refine wpListIn_nil ?_
                    simp only [Act.put, List.setIfInBounds_toArray, List.set_cons_succ, List.set_cons_zero]
                    refine then_normal (hK83 _ _ ?_)
                    clear hK83 K83
                    refine wpIn_cond_true rfl ?_
                    refine wpIn_region_lit ?_
                    refine wpi_exG (v := .slice sa sure.length sc) (fun _ => trivial) (wn rfl) rfl (ex_move rfl rfl) ?_
                    refine wpi_exG (v := .agg #[.int .i64 ((last + 1 : Nat) : Int), .slice ax xb.length cx]) (fun _ => trivial) (wn rfl) rfl (ex_load rfl rfl (run_load_mid (pre := []) (mid := [.int .i64 ((last + 1 : Nat) : Int), .slice ax xb.length cx]) (post := []) lkwd55 (show Blk _ b79 ([] ++ [.int .i64 ((last + 1 : Nat) : Int), .slice ax xb.length cx] ++ []) _ from hv.get 0 rfl) rfl)) ?_
                    refine sl_rowAgg (L := [.int .i64 ((last + 1 : Nat) : Int), .slice ax xb.length cx]) (fun _ => trivial) (wn rfl) rfl rfl hv lkel73 rfl (by decide) (fun b84 w85 hv => ?_)
                    simp only [Act.put, List.setIfInBounds_toArray, List.set_cons_succ, List.set_cons_zero]
                    replace hv := hv.front 5 rfl
                    simp only [List.eraseIdx_cons_succ, List.eraseIdx_cons_zero] at hv
                    have hsl : sure.length ≤ 100 + m := by omega
                    refine sl_append (news := [.int .i64 ((last + 1 : Nat) : Int), .slice ax xb.length cx]) (fun _ => trivial) (wn rfl) rfl rfl rfl lkel73 hv ⟨Nat.le_refl _, by unfold maxLen; omega, fun h => by cases h⟩ rfl (rd_all (hv.get 1 rfl)) (by intro u hu; simp only [List.mem_cons, List.not_mem_nil, or_false] at hu; rcases hu with rfl | rfl <;> rfl) (by unfold maxLen; omega) (by omega) (fun v86 w89 hv => ?_)
                    obtain ⟨va87, vc88, rfl⟩ := row_slice hv.head
                    refine wpi_exG (v := .slice va87 (sure.length + 1) vc88) (fun _ => trivial) (wn rfl) rfl (ex_assign rfl rfl) ?_
                    refine wpListIn_nil ?_
                    simp only [Act.put, List.setIfInBounds_toArray, List.set_cons_succ, List.set_cons_zero]
                    refine blk_normal ?_
                    refine blk_normal ?_
                    refine then_normal (hK38 _ _ ?_)
                    clear hK38 K38
                    refine wpIn_region_lit ?_
                    refine wpi_exG (v := .int .i64 (i : Int)) (fun _ => trivial) (wn rfl) rfl (ex_move rfl rfl) ?_
                    refine wpi_exG (v := .int .i64 ((i : Int) + 1)) (fun _ => trivial) (wn rfl) rfl (ex_add (m := (i : Int)) (n := 1) rfl rfl rfl (i64_in (by omega))) ?_
                    refine wpi_exG (v := .int .i64 ((i : Int) + 1)) (fun _ => trivial) (wn rfl) rfl (ex_assign rfl rfl) ?_
                    refine wpListIn_nil ?_
                    simp only [Act.put, List.setIfInBounds_toArray, List.set_cons_succ, List.set_cons_zero]
                    refine then_normal ?_
                    go_roundw
                    case rel => 
                      have hs2 : EntsAt C after (sure ++ [xb]) (sx ++ [.int .i64 ((last + 1 : Nat) : Int), .slice ax xb.length cx]) := by
                        have h9 := hs.snoc hxok hxr
                        rw [← hlst] at h9
                        exact h9
                      have hv9 := (((((hv.front 6 rfl).front 1 rfl).front 5 rfl).front 5 rfl).sub (List.Sublist.cons_cons _ (List.Sublist.cons_cons _ (List.Sublist.cons_cons _ (List.Sublist.cons_cons _ (List.Sublist.cons _ (List.Sublist.cons _ (List.Sublist.cons _ (List.Sublist.refl _)))))))))
                      rw [show sure.length + 1 = (sure ++ [xb]).length by rw [List.length_append]; rfl] at hv9
                      exact ⟨C, i + 1, _, _, _, _, _, _, _, sure ++ [xb], [], va87, vc88, _, ua, uc, ux, hBC, rfl, rfl, by rw [List.length_append]; rfl, rfl, by simp, by omega, by omega, hK2, hs2, hu, hv9⟩
                    case measure => show m + 1 - ((i : Int) + 1).toNat < m + 1 - (i : Int).toNat; omega
                  · refine region_st mixed [.pointer (some ⟨q, 0, none⟩), .pointer (some ⟨q, 0, none⟩), .int .i64 (last : Int), .int .i64 ((last + 1 : Nat) : Int), .pointer (some ⟨b40, 2, none⟩), .slice ax xb.length cx, undef, .int .i64 20] [6] [⟨fun vals w => vals = [] ∧ Inv C (Res.cell q [.pointer (some ⟨p10, 0, none⟩), .int .i64 ((0 : Nat) : Int), .int .i64 (n : Int), .int .i64 (used : Int), .int .i64 (last : Int), .bool false] 111 :: diskR p10 D F :: Res.cell b40 [.int .i64 kd, .int .i64 nn, .slice ax xb.length cx, .slice ak ks.length ck] 80 :: Res.row 55 2 (.slice sa sure.length sc) sure.length sx :: Res.row 55 2 (.slice ua (([] : List (List UInt8)).length) uc) (([] : List (List UInt8)).length) ux :: H) w, fun _ _ _ ⟨h, hi⟩ he => ⟨h, hi.ext he⟩⟩, ⟨fun vals w => ∃ F90, vals = [.int .i64 20] ∧ Inv C (Res.cell q [.pointer (some ⟨p10, 0, none⟩), .int .i64 ((0 : Nat) : Int), .int .i64 (n : Int), .int .i64 (used : Int), .int .i64 (last : Int), .bool true] 111 :: diskR p10 ((putAll' D used (logText xb) (logHdr (last + 1) xb)).2) F90 :: Res.cell b40 [.int .i64 kd, .int .i64 nn, .slice ax xb.length cx, .slice ak ks.length ck] 80 :: Res.row 55 2 (.slice sa sure.length sc) sure.length sx :: Res.row 55 2 (.slice ua (([] : List (List UInt8)).length) uc) (([] : List (List UInt8)).length) ux :: H) w, fun _ _ _ ⟨F90, h, hi⟩ he => ⟨F90, h, hi.ext he⟩⟩] 168 rfl (by kernel_rfl) ⟨rfl, hv⟩ ⟨?_, ?_, ?_, ?_, ?_, ?_, ?_, ?_, trivial⟩ ?_
                    · intro aa ww vals hJ hR
                      exact add_step' rfl (Ex.adds' (ex_move rfl (show aa.eval (.tmp 8) = _ from hR.keep 8 rfl)) (wn rfl) rfl)
                    · intro aa ww vals hJ hR
                      exact add_step' rfl (Ex.adds' (ex_move rfl (show aa.eval (.tmp 8) = _ from hR.keep 8 rfl)) (wn rfl) rfl)
                    · intro aa ww vals hJ hR
                      have h2 : vals.length ≤ 0 := hR.hi 6 (by simp) rfl
                      have hl : vals.length = 0 := by omega
                      obtain ⟨hvals, hv⟩ := hJ.at0 hl
                      exact add_step' rfl (stepOk_calls lkcallable41 (wn rfl) rfl (args := #[.pointer (some ⟨q, 0, none⟩)]) (by simp only [List.map_toArray, List.map_cons, List.map_nil]; rw [show aa.eval (.tmp 81) = .pointer (some ⟨q, 0, none⟩) from hR.v 1 81 rfl rfl rfl rfl] <;> rfl) ((logLastB (hv.get 0 rfl)).mono fun e w9 ⟨he, hw⟩ => ⟨_, he, by subst hw; exact Ext.rfl' _, rfl⟩))
                    · intro aa ww vals hJ hR
                      exact add_step' rfl (Ex.adds' (ex_add (m := (last : Int)) (n := 1) rfl (show aa.eval (.tmp 82) = _ from hR.v 2 82 rfl rfl rfl rfl) rfl (by rw [i64_in (by omega)]; omega)) (wn rfl) rfl)
                    · intro aa ww vals hJ hR
                      exact add_step' rfl (Ex.adds' (ex_field rfl (show aa.eval (.tmp 15) = _ from hR.keep 15 rfl) (lkfa80_2 _ _ _)) (wn rfl) rfl)
                    · intro aa ww vals hJ hR
                      have h2 : vals.length ≤ 0 := hR.hi 6 (by simp) rfl
                      have hl : vals.length = 0 := by omega
                      obtain ⟨hvals, hv⟩ := hJ.at0 hl
                      exact add_step' rfl (Ex.adds' (ex_load rfl (show aa.eval (.tmp 84) = _ from hR.v 4 84 rfl rfl rfl rfl) (run_load1 lkna24 (hv.load 2 2 rfl rfl))) (wn rfl) rfl)
                    · intro aa ww vals hJ hR
                      refine mem_step' rfl fun hvl => ?_
                      have hl : vals.length = 0 := hvl
                      obtain ⟨hvals, hv⟩ := hJ.at0 hl
                      refine stepMem_calls lkcallable40 (wn rfl) rfl (args := #[.pointer (some ⟨q, 0, none⟩), .int .i64 ((last + 1 : Nat) : Int), .slice ax xb.length cx]) (by simp only [List.map_toArray, List.map_cons, List.map_nil]; rw [show aa.eval (.tmp 80) = .pointer (some ⟨q, 0, none⟩) from hR.v 0 80 rfl rfl rfl rfl, show aa.eval (.tmp 83) = .int .i64 ((last + 1 : Nat) : Int) from hR.v 3 83 rfl rfl rfl rfl, show aa.eval (.tmp 85) = .slice ax xb.length cx from hR.v 5 85 rfl rfl rfl rfl] <;> rfl) ((appendFail _ _ _ q p10 n used last D _ ax _ xb (by omega) hkf (by omega) (by omega) (by omega) (by omega) hxok hxr hv (by omega) hput).mono ?_)
                      rintro e w91 ⟨F90, rfl, hv⟩
                      refine ⟨_, rfl, JS.next hl ⟨F90, by rw [hvals]; rfl, hv⟩⟩
                    · intro aa ww vals hJ hR
                      have h1 : 0 < vals.length := hR.lo 6 (by simp) rfl
                      have hl : vals.length = 1 := by have := JS.le (n := 1) (by rfl) hJ; omega
                      obtain ⟨F90, hvals, hv⟩ := hJ.at0 hl
                      exact add_step' rfl (Ex.adds' (ex_assign rfl (show aa.eval (.tmp 86) = _ from (hR.val 6 86 rfl rfl rfl).trans (by rw [hvals]; rfl))) (wn rfl) rfl)
                    rintro w92 vals ⟨F90, rfl, hv⟩
                    rw [show mixV [6] [.int .i64 20] 0 [.pointer (some ⟨q, 0, none⟩), .pointer (some ⟨q, 0, none⟩), .int .i64 (last : Int), .int .i64 ((last + 1 : Nat) : Int), .pointer (some ⟨b40, 2, none⟩), .slice ax xb.length cx, undef, .int .i64 20] = [.pointer (some ⟨q, 0, none⟩), .pointer (some ⟨q, 0, none⟩), .int .i64 (last : Int), .int .i64 ((last + 1 : Nat) : Int), .pointer (some ⟨b40, 2, none⟩), .slice ax xb.length cx, .int .i64 20, .int .i64 20] from rfl]
                    simp only [putAll, Act.put, List.setIfInBounds_toArray, List.set_cons_succ, List.set_cons_zero]
                    refine then_normal (hK56 _ _ ?_)
                    clear hK56 K56
                    refine wpIn_seq_k (fun K93 hK93 => ?_)
                    refine region_st mixed [.pointer (some ⟨q, 0, none⟩), .int .i64 (last : Int), .pointer (some ⟨b40, 2, none⟩), .slice ax xb.length cx, .agg #[.int .i64 (last : Int), .slice ax xb.length cx], undef, undef] [5, 6] [⟨fun vals w => vals = [] ∧ Inv C (Res.cell q [.pointer (some ⟨p10, 0, none⟩), .int .i64 ((0 : Nat) : Int), .int .i64 (n : Int), .int .i64 (used : Int), .int .i64 (last : Int), .bool true] 111 :: diskR p10 ((putAll' D used (logText xb) (logHdr (last + 1) xb)).2) F90 :: Res.cell b40 [.int .i64 kd, .int .i64 nn, .slice ax xb.length cx, .slice ak ks.length ck] 80 :: Res.row 55 2 (.slice sa sure.length sc) sure.length sx :: Res.row 55 2 (.slice ua (([] : List (List UInt8)).length) uc) (([] : List (List UInt8)).length) ux :: H) w, fun _ _ _ ⟨h, hi⟩ he => ⟨h, hi.ext he⟩⟩, ⟨fun vals w => ∃ b94, vals = [.pointer (some ⟨b94, 0, none⟩)] ∧ Inv C (Res.cell b94 [.int .i64 0, .slice none 0 0] 55 :: Res.cell q [.pointer (some ⟨p10, 0, none⟩), .int .i64 ((0 : Nat) : Int), .int .i64 (n : Int), .int .i64 (used : Int), .int .i64 (last : Int), .bool true] 111 :: diskR p10 ((putAll' D used (logText xb) (logHdr (last + 1) xb)).2) F90 :: Res.cell b40 [.int .i64 kd, .int .i64 nn, .slice ax xb.length cx, .slice ak ks.length ck] 80 :: Res.row 55 2 (.slice sa sure.length sc) sure.length sx :: Res.row 55 2 (.slice ua (([] : List (List UInt8)).length) uc) (([] : List (List UInt8)).length) ux :: H) w, fun _ _ _ ⟨b94, h, hi⟩ he => ⟨b94, h, hi.ext he⟩⟩, ⟨fun vals w => ∃ b94, vals = [.pointer (some ⟨b94, 0, none⟩), undef] ∧ Inv C (Res.cell b94 [.int .i64 (last : Int), .slice ax xb.length cx] 55 :: Res.cell q [.pointer (some ⟨p10, 0, none⟩), .int .i64 ((0 : Nat) : Int), .int .i64 (n : Int), .int .i64 (used : Int), .int .i64 (last : Int), .bool true] 111 :: diskR p10 ((putAll' D used (logText xb) (logHdr (last + 1) xb)).2) F90 :: Res.cell b40 [.int .i64 kd, .int .i64 nn, .slice ax xb.length cx, .slice ak ks.length ck] 80 :: Res.row 55 2 (.slice sa sure.length sc) sure.length sx :: Res.row 55 2 (.slice ua (([] : List (List UInt8)).length) uc) (([] : List (List UInt8)).length) ux :: H) w, fun _ _ _ ⟨b94, h, hi⟩ he => ⟨b94, h, hi.ext he⟩⟩] 168 rfl (by kernel_rfl) ⟨rfl, hv⟩ ⟨?_, ?_, ?_, ?_, ?_, ?_, ?_, trivial⟩ ?_
                    · intro aa ww vals hJ hR
                      exact add_step' rfl (Ex.adds' (ex_move rfl (show aa.eval (.tmp 8) = _ from hR.keep 8 rfl)) (wn rfl) rfl)
                    · intro aa ww vals hJ hR
                      have h2 : vals.length ≤ 1 := hR.hi 6 (by simp) rfl
                      rcases (show vals.length = 0 ∨ vals.length = 1 by omega) with hl | hl
                      · obtain ⟨hvals, hv⟩ := hJ.at0 hl
                        exact add_step' rfl (stepOk_calls lkcallable41 (wn rfl) rfl (args := #[.pointer (some ⟨q, 0, none⟩)]) (by simp only [List.map_toArray, List.map_cons, List.map_nil]; rw [show aa.eval (.tmp 87) = .pointer (some ⟨q, 0, none⟩) from hR.v 0 87 rfl rfl rfl rfl] <;> rfl) ((logLastB (hv.get 0 rfl)).mono fun e w9 ⟨he, hw⟩ => ⟨_, he, by subst hw; exact Ext.rfl' _, rfl⟩))
                      · obtain ⟨b94, hvals, hv⟩ := hJ.at0 hl
                        exact add_step' rfl (stepOk_calls lkcallable41 (wn rfl) rfl (args := #[.pointer (some ⟨q, 0, none⟩)]) (by simp only [List.map_toArray, List.map_cons, List.map_nil]; rw [show aa.eval (.tmp 87) = .pointer (some ⟨q, 0, none⟩) from hR.v 0 87 rfl rfl rfl rfl] <;> rfl) ((logLastB (hv.get 1 rfl)).mono fun e w9 ⟨he, hw⟩ => ⟨_, he, by subst hw; exact Ext.rfl' _, rfl⟩))
                    · intro aa ww vals hJ hR
                      exact add_step' rfl (Ex.adds' (ex_field rfl (show aa.eval (.tmp 15) = _ from hR.keep 15 rfl) (lkfa80_2 _ _ _)) (wn rfl) rfl)
                    · intro aa ww vals hJ hR
                      have h2 : vals.length ≤ 1 := hR.hi 6 (by simp) rfl
                      rcases (show vals.length = 0 ∨ vals.length = 1 by omega) with hl | hl
                      · obtain ⟨hvals, hv⟩ := hJ.at0 hl
                        exact add_step' rfl (Ex.adds' (ex_load rfl (show aa.eval (.tmp 89) = _ from hR.v 2 89 rfl rfl rfl rfl) (run_load1 lkna24 (hv.load 2 2 rfl rfl))) (wn rfl) rfl)
                      · obtain ⟨b94, hvals, hv⟩ := hJ.at0 hl
                        exact add_step' rfl (Ex.adds' (ex_load rfl (show aa.eval (.tmp 89) = _ from hR.v 2 89 rfl rfl rfl rfl) (run_load1 lkna24 (hv.load 3 2 rfl rfl))) (wn rfl) rfl)
                    · intro aa ww vals hJ hR
                      exact add_step' rfl (Ex.adds' (ex_buildN (vs := #[(0, .int .i64 (last : Int)), (1, .slice ax xb.length cx)]) rfl (by simp only [List.map_toArray, List.map_cons, List.map_nil]; rw [show aa.eval (.tmp 88) = .int .i64 (last : Int) from hR.v 1 88 rfl rfl rfl rfl, show aa.eval (.tmp 90) = .slice ax xb.length cx from hR.v 3 90 rfl rfl rfl rfl]) (by kernel_rfl)) (wn rfl) rfl)
                    · intro aa ww vals hJ hR
                      refine mem_step' rfl fun hvl => ?_
                      have hl : vals.length = 0 := hvl
                      obtain ⟨hvals, hv⟩ := hJ.at0 hl
                      refine mem_alloc (wn rfl) rfl hv lkal55 (fun b94 w95 hv => ?_)
                      exact JS.next hl ⟨b94, by rw [hvals]; rfl, hv⟩
                    · intro aa ww vals hJ hR
                      refine mem_step' rfl fun hvl => ?_
                      have hl : vals.length = 1 := hvl
                      obtain ⟨b94, hvals, hv⟩ := hJ.at0 hl
                      refine mem_storeNAt 0 (new := [.int .i64 (last : Int), .slice ax xb.length cx]) (pre := []) (mid := [.int .i64 0, .slice none 0 0]) (post := []) (L' := [.int .i64 (last : Int), .slice ax xb.length cx]) (wn rfl) rfl (show aa.eval (.tmp 17) = _ from (hR.val 5 17 rfl rfl rfl).trans (by rw [hvals]; rfl)) (show aa.eval (.tmp 91) = _ from hR.v 4 91 rfl rfl rfl rfl) hv rfl lksz55 rfl rfl rfl (one_cons rfl (one_cons rfl one_nil)) rfl (fun w96 hv => ?_)
                      exact JS.next hl ⟨b94, by rw [hvals]; rfl, hv⟩
                    rintro w97 vals ⟨b94, rfl, hv⟩
                    rw [show mixV [5, 6] [.pointer (some ⟨b94, 0, none⟩), undef] 0 [.pointer (some ⟨q, 0, none⟩), .int .i64 (last : Int), .pointer (some ⟨b40, 2, none⟩), .slice ax xb.length cx, .agg #[.int .i64 (last : Int), .slice ax xb.length cx], undef, undef] = [.pointer (some ⟨q, 0, none⟩), .int .i64 (last : Int), .pointer (some ⟨b40, 2, none⟩), .slice ax xb.length cx, .agg #[.int .i64 (last : Int), .slice ax xb.length cx], .pointer (some ⟨b94, 0, none⟩), undef] from rfl]
                    simp only [putAll, Act.put, List.setIfInBounds_toArray, List.set_cons_succ, List.set_cons_zero]
                    refine then_normal (hK93 _ _ ?_)
                    clear hK93 K93
                    refine wpIn_seq_k (fun K98 hK98 => ?_)
                    refine wpIn_region_lit ?_
                    refine wpi_exG (v := .int .i64 20) (fun _ => trivial) (wn rfl) rfl (ex_move rfl rfl) ?_
                    refine wpi_exG (v := .bool false) (fun _ => trivial) (wn rfl) rfl (ex_eql (k := .i64) (m := 20) (n := 0) rfl rfl rfl (by decide)) ?_
                    refine wpListIn_nil ?_
                    simp only [Act.put, List.setIfInBounds_toArray, List.set_cons_succ, List.set_cons_zero]
                    refine then_normal (hK98 _ _ ?_)
                    clear hK98 K98
                    refine wpIn_cond_false rfl ?_
                    refine wpIn_seq_k (fun K99 hK99 => ?_)
                    refine wpIn_region_lit ?_
                    refine wpi_exG (v := .int .i64 20) (fun _ => trivial) (wn rfl) rfl (ex_move rfl rfl) ?_
                    refine wpi_exG (v := .bool true) (fun _ => trivial) (wn rfl) rfl (ex_eql (k := .i64) (m := 20) (n := 20) rfl rfl rfl (by decide)) ?_
                    refine wpi_exG (v := .bool true) (fun _ => trivial) (wn rfl) rfl (ex_move rfl rfl) ?_
                    simp only [Act.put, List.setIfInBounds_toArray, List.set_cons_succ, List.set_cons_zero]
                    refine wpi_exG (v := .slice ua (([] : List (List UInt8)).length) uc) (fun _ => trivial) (wanted_of (j := 2) (d := 100) (b := true) rfl rfl rfl) rfl (ex_move rfl rfl) ?_
                    refine wpi_exG (v := .int .i64 ((([] : List (List UInt8)).length) : Int)) (fun _ => trivial) (wanted_of (j := 2) (d := 100) (b := true) rfl rfl rfl) rfl (ex_len0 Try.underlying73 rfl rfl) ?_
                    refine wpi_exG (v := .bool true) (fun _ => trivial) (wanted_of (j := 2) (d := 100) (b := true) rfl rfl rfl) rfl (ex_eql (k := .i64) (m := ((([] : List (List UInt8)).length) : Int)) (n := 0) rfl rfl rfl (decide_eq_true (rfl))) ?_
                    simp only [Act.put, List.setIfInBounds_toArray, List.set_cons_succ, List.set_cons_zero]
                    refine wpi_exG (v := .bool true) (fun _ => trivial) (wn rfl) rfl (ex_pick (b := true) rfl rfl rfl) ?_
                    refine wpListIn_nil ?_
                    simp only [Act.put, List.setIfInBounds_toArray, List.set_cons_succ, List.set_cons_zero]
                    refine then_normal (hK99 _ _ ?_)
                    clear hK99 K99
                    refine wpIn_cond_true rfl ?_
                    refine wpIn_seq_k (fun K100 hK100 => ?_)
                    refine wpIn_region_lit ?_
                    refine wpi_exG (v := .pointer (some ⟨b94, 0, none⟩)) (fun _ => trivial) (wn rfl) rfl (ex_field rfl rfl (lkfa55_0 _ _ _)) ?_
                    refine wpi_exG (v := .int .i64 (last : Int)) (fun _ => trivial) (wn rfl) rfl (ex_load rfl rfl (run_load1 lkna3 (hv.load 0 0 rfl rfl))) ?_
                    refine wpi_exG (v := .int .i64 ((last + 1 : Nat) : Int)) (fun _ => trivial) (wn rfl) rfl (ex_add (m := (last : Int)) (n := 1) rfl rfl rfl (by rw [i64_in (by omega)]; omega)) ?_
                    simp only [Act.put, List.setIfInBounds_toArray, List.set_cons_succ, List.set_cons_zero]
                    refine wpi_exG (v := .pointer (some ⟨b94, 0, none⟩)) (fun _ => trivial) (wn rfl) rfl (ex_field rfl rfl (lkfa55_0 _ _ _)) ?_
                    refine sl_storeAt 0 (v := .int .i64 ((last + 1 : Nat) : Int)) (L' := [.int .i64 ((last + 1 : Nat) : Int), .slice ax xb.length cx]) (fun _ => trivial) (wn rfl) rfl rfl rfl hv rfl lksz3 (by simp) rfl rfl rfl (fun w101 hv => ?_)
                    simp only [List.set_cons_succ, List.set_cons_zero] at hv
                    refine wpListIn_nil ?_
                    simp only [Act.put, List.setIfInBounds_toArray, List.set_cons_succ, List.set_cons_zero]
                    refine then_normal (hK100 _ _ ?_)
                    clear hK100 K100
                    refine wpIn_region_lit ?_
                    refine wpi_exG (v := .agg #[.int .i64 ((last + 1 : Nat) : Int), .slice ax xb.length cx]) (fun _ => trivial) (wn rfl) rfl (ex_load rfl rfl (run_load_mid (pre := []) (mid := [.int .i64 ((last + 1 : Nat) : Int), .slice ax xb.length cx]) (post := []) lkwd55 (show Blk _ b94 ([] ++ [.int .i64 ((last + 1 : Nat) : Int), .slice ax xb.length cx] ++ []) _ from hv.get 0 rfl) rfl)) ?_
                    refine sl_rowAgg (L := [.int .i64 ((last + 1 : Nat) : Int), .slice ax xb.length cx]) (fun _ => trivial) (wn rfl) rfl rfl hv lkel73 rfl (by decide) (fun b102 w103 hv => ?_)
                    refine wpi_exG (v := .slice (some ⟨b102, 0, none⟩) 1 1) (fun _ => trivial) (wn rfl) rfl (ex_assign rfl rfl) ?_
                    refine wpListIn_nil ?_
                    simp only [Act.put, List.setIfInBounds_toArray, List.set_cons_succ, List.set_cons_zero]
                    refine blk_normal ?_
                    refine blk_normal ?_
                    refine then_normal (hK38 _ _ ?_)
                    clear hK38 K38
                    refine wpIn_region_lit ?_
                    refine wpi_exG (v := .int .i64 (i : Int)) (fun _ => trivial) (wn rfl) rfl (ex_move rfl rfl) ?_
                    refine wpi_exG (v := .int .i64 ((i : Int) + 1)) (fun _ => trivial) (wn rfl) rfl (ex_add (m := (i : Int)) (n := 1) rfl rfl rfl (i64_in (by omega))) ?_
                    refine wpi_exG (v := .int .i64 ((i : Int) + 1)) (fun _ => trivial) (wn rfl) rfl (ex_assign rfl rfl) ?_
                    refine wpListIn_nil ?_
                    simp only [Act.put, List.setIfInBounds_toArray, List.set_cons_succ, List.set_cons_zero]
                    refine then_normal ?_
                    go_roundw
                    case rel => 
                      have hv5 := (((((hv.front 5 rfl).front 4 rfl).front 4 rfl).front 3 rfl).sub (List.Sublist.cons_cons _ (List.Sublist.cons_cons _ (List.Sublist.cons_cons _ (List.Sublist.cons_cons _ (List.Sublist.cons _ (List.Sublist.cons _ (List.Sublist.cons _ (List.Sublist.refl _)))))))))
                      have hv6 := Pm.Inv.cellRow (n := 1) (size := 2) hv5 rfl (by unfold maxLen; omega)
                      exact ⟨C, i + 1, _, _, _, _, _, _, _, _, [xb], _, _, _, _, _, _, hBC, rfl, rfl, rfl, rfl, by simp, by omega, by omega, hK2, hs, .one hxok hxr, (((hv6.front 3 rfl).front 3 rfl).front 3 rfl)⟩
                    case measure => show m + 1 - ((i : Int) + 1).toNat < m + 1 - (i : Int).toNat; omega
              · refine wpi_exG (v := .bool false) (fun _ => trivial) (wn rfl) rfl (ex_eql (k := .i64) (m := kd) (n := 0) rfl rfl rfl (decide_eq_false hb55)) ?_
                refine wpi_exG (v := .bool false) (fun _ => trivial) (wn rfl) rfl (ex_assign rfl rfl) ?_
                refine wpListIn_nil ?_
                simp only [Act.put, List.setIfInBounds_toArray, List.set_cons_succ, List.set_cons_zero]
                refine then_normal (hK54 _ _ ?_)
                clear hK54 K54
                refine wpIn_cond_false rfl ?_
                refine wpIn_seq_k (fun K104 hK104 => ?_)
                refine wpIn_region_lit ?_
                by_cases hb105 : kd = 1
                · refine wpi_exG (v := .bool true) (fun _ => trivial) (wn rfl) rfl (ex_eql (k := .i64) (m := kd) (n := 1) rfl rfl rfl (decide_eq_true hb105)) ?_
                  refine wpi_exG (v := .bool true) (fun _ => trivial) (wn rfl) rfl (ex_assign rfl rfl) ?_
                  refine wpListIn_nil ?_
                  simp only [Act.put, List.setIfInBounds_toArray, List.set_cons_succ, List.set_cons_zero]
                  refine then_normal (hK104 _ _ ?_)
                  clear hK104 K104
                  refine wpIn_cond_true rfl ?_
                  refine wpIn_seq_k (fun K106 hK106 => ?_)
                  replace hv := hv.front 2 rfl
                  simp only [List.eraseIdx_cons_succ, List.eraseIdx_cons_zero] at hv
                  replace hv := hv.front 2 rfl
                  simp only [List.eraseIdx_cons_succ, List.eraseIdx_cons_zero] at hv
                  cases fa with
                  | true =>
                    refine wpIn_region_lit ?_
                    refine wpi_exG (v := .pointer (some ⟨q, 0, none⟩)) (fun _ => trivial) (wn rfl) rfl (ex_move rfl rfl) ?_
                    refine wpi_exG (v := .pointer (some ⟨q, 0, none⟩)) (fun _ => trivial) (wn rfl) rfl (ex_move rfl rfl) ?_
                    refine wpi_callG lkcallable41 (fun _ => trivial) wideC rfl (wn rfl) rfl (args := #[.pointer (some ⟨q, 0, none⟩)]) (by simp only [List.map_toArray, List.map_cons, List.map_nil]; rfl) ((logLastB (hv.get 0 rfl)).mono ?_)
                    rintro e w107 ⟨rfl, rfl⟩
                    refine ⟨_, rfl, ?_⟩
                    simp only [Act.put, List.setIfInBounds_toArray, List.set_cons_succ, List.set_cons_zero]
                    refine wpi_callG lkcallable42 (fun _ => trivial) wideC rfl (wn rfl) rfl (args := #[.pointer (some ⟨q, 0, none⟩), .int .i64 (last : Int)]) (by simp only [List.map_toArray, List.map_cons, List.map_nil]; rfl) ((logResetOff _ _ _ q p10 0 n used last (by omega) hv).mono ?_)
                    rintro e w108 ⟨rfl, rfl⟩
                    refine ⟨_, rfl, ?_⟩
                    refine wpi_exG (v := .bool false) (fun _ => trivial) (wn rfl) rfl (ex_eql (k := .i64) (m := 20) (n := 0) rfl rfl rfl (by decide)) ?_
                    refine wpListIn_nil ?_
                    simp only [Act.put, List.setIfInBounds_toArray, List.set_cons_succ, List.set_cons_zero]
                    refine then_normal (hK106 _ _ ?_)
                    clear hK106 K106
                    refine wpIn_cond_false rfl ?_
                    refine wpIn_skip ?_
                    refine blk_normal ?_
                    refine blk_normal ?_
                    refine then_normal (hK38 _ _ ?_)
                    clear hK38 K38
                    refine wpIn_region_lit ?_
                    refine wpi_exG (v := .int .i64 (i : Int)) (fun _ => trivial) (wn rfl) rfl (ex_move rfl rfl) ?_
                    refine wpi_exG (v := .int .i64 ((i : Int) + 1)) (fun _ => trivial) (wn rfl) rfl (ex_add (m := (i : Int)) (n := 1) rfl rfl rfl (i64_in (by omega))) ?_
                    refine wpi_exG (v := .int .i64 ((i : Int) + 1)) (fun _ => trivial) (wn rfl) rfl (ex_assign rfl rfl) ?_
                    refine wpListIn_nil ?_
                    simp only [Act.put, List.setIfInBounds_toArray, List.set_cons_succ, List.set_cons_zero]
                    refine then_normal ?_
                    go_roundw
                    case rel => exact ⟨_, i + 1, _, _, _, _, _, _, _, _, _, _, _, _, _, _, _, hBC, rfl, rfl, rfl, rfl, by simp, by omega, by omega, hK, hs, hu, (((((hv.front 4 rfl).front 4 rfl).front 3 rfl).front 3 rfl).sub (List.Sublist.cons_cons _ (List.Sublist.cons_cons _ (List.Sublist.cons_cons _ (List.Sublist.cons_cons _ (List.Sublist.cons _ (List.Sublist.refl _)))))))⟩
                    case measure => show m + 1 - ((i : Int) + 1).toNat < m + 1 - (i : Int).toNat; omega
                  | false =>
                    refine wpIn_region_lit ?_
                    refine wpi_exG (v := .pointer (some ⟨q, 0, none⟩)) (fun _ => trivial) (wn rfl) rfl (ex_move rfl rfl) ?_
                    refine wpi_exG (v := .pointer (some ⟨q, 0, none⟩)) (fun _ => trivial) (wn rfl) rfl (ex_move rfl rfl) ?_
                    refine wpi_callG lkcallable41 (fun _ => trivial) wideC rfl (wn rfl) rfl (args := #[.pointer (some ⟨q, 0, none⟩)]) (by simp only [List.map_toArray, List.map_cons, List.map_nil]; rfl) ((logLastB (hv.get 0 rfl)).mono ?_)
                    rintro e w109 ⟨rfl, rfl⟩
                    refine ⟨_, rfl, ?_⟩
                    simp only [Act.put, List.setIfInBounds_toArray, List.set_cons_succ, List.set_cons_zero]
                    refine wpi_callG lkcallable42 (fun _ => trivial) wideC rfl (wn rfl) rfl (args := #[.pointer (some ⟨q, 0, none⟩), .int .i64 (last : Int)]) (by simp only [List.map_toArray, List.map_cons, List.map_nil]; rfl) ((logReset _ _ _ q p10 0 n used last (by omega) hv).mono ?_)
                    rintro e w110 ⟨rfl, hv⟩
                    refine ⟨_, rfl, ?_⟩
                    refine wpi_exG (v := .bool true) (fun _ => trivial) (wn rfl) rfl (ex_eql (k := .i64) (m := 0) (n := 0) rfl rfl rfl (by decide)) ?_
                    refine wpListIn_nil ?_
                    simp only [Act.put, List.setIfInBounds_toArray, List.set_cons_succ, List.set_cons_zero]
                    refine then_normal (hK106 _ _ ?_)
                    clear hK106 K106
                    refine wpIn_cond_true rfl ?_
                    refine wpIn_region_lit ?_
                    refine wpi_exG (v := .pointer (some ⟨q, 0, none⟩)) (fun _ => trivial) (wn rfl) rfl (ex_move rfl rfl) ?_
                    refine wpi_callG lkcallable41 (fun _ => trivial) wideC rfl (wn rfl) rfl (args := #[.pointer (some ⟨q, 0, none⟩)]) (by simp only [List.map_toArray, List.map_cons, List.map_nil]; rfl) ((logLastB (hv.get 0 rfl)).mono ?_)
                    rintro e w111 ⟨rfl, rfl⟩
                    refine ⟨_, rfl, ?_⟩
                    refine wpi_exG (v := .int .i64 (last : Int)) (fun _ => trivial) (wn rfl) rfl (ex_assign rfl rfl) ?_
                    simp only [Act.put, List.setIfInBounds_toArray, List.set_cons_succ, List.set_cons_zero]
                    refine wpi_exG (v := .slice none 0 0) (fun _ => trivial) (wn rfl) rfl (ex_assign rfl rfl) ?_
                    refine wpi_exG (v := .slice none 0 0) (fun _ => trivial) (wn rfl) rfl (ex_assign rfl rfl) ?_
                    refine wpListIn_nil ?_
                    simp only [Act.put, List.setIfInBounds_toArray, List.set_cons_succ, List.set_cons_zero]
                    refine blk_normal ?_
                    refine blk_normal ?_
                    refine then_normal (hK38 _ _ ?_)
                    clear hK38 K38
                    refine wpIn_region_lit ?_
                    refine wpi_exG (v := .int .i64 (i : Int)) (fun _ => trivial) (wn rfl) rfl (ex_move rfl rfl) ?_
                    refine wpi_exG (v := .int .i64 ((i : Int) + 1)) (fun _ => trivial) (wn rfl) rfl (ex_add (m := (i : Int)) (n := 1) rfl rfl rfl (i64_in (by omega))) ?_
                    refine wpi_exG (v := .int .i64 ((i : Int) + 1)) (fun _ => trivial) (wn rfl) rfl (ex_assign rfl rfl) ?_
                    refine wpListIn_nil ?_
                    simp only [Act.put, List.setIfInBounds_toArray, List.set_cons_succ, List.set_cons_zero]
                    refine then_normal ?_
                    go_roundw
                    case rel => exact ⟨C, i + 1, _, _, _, last, _, _, _, [], [], none, 0, [], none, 0, [], hBC, rfl, rfl, rfl, rfl, by simp, by omega, by omega, hK.reset, rfl, rfl, (((((((((hv.front 1 rfl).front 1 rfl).sub (List.Sublist.cons_cons _ (List.Sublist.cons_cons _ (List.Sublist.cons _ (List.Sublist.cons _ (List.Sublist.cons _ (List.Sublist.refl _))))))).rowNil 55 2).rowNil 55 2).front 1 rfl).front 1 rfl).front 3 rfl).front 3 rfl)⟩
                    case measure => show m + 1 - ((i : Int) + 1).toNat < m + 1 - (i : Int).toNat; omega
                · refine wpi_exG (v := .bool false) (fun _ => trivial) (wn rfl) rfl (ex_eql (k := .i64) (m := kd) (n := 1) rfl rfl rfl (decide_eq_false hb105)) ?_
                  refine wpi_exG (v := .bool false) (fun _ => trivial) (wn rfl) rfl (ex_assign rfl rfl) ?_
                  refine wpListIn_nil ?_
                  simp only [Act.put, List.setIfInBounds_toArray, List.set_cons_succ, List.set_cons_zero]
                  refine then_normal (hK104 _ _ ?_)
                  clear hK104 K104
                  refine wpIn_cond_false rfl ?_
                  refine wpIn_seq_k (fun K112 hK112 => ?_)
                  refine wpIn_region_lit ?_
                  by_cases hb113 : kd = 2
                  · refine wpi_exG (v := .bool true) (fun _ => trivial) (wn rfl) rfl (ex_eql (k := .i64) (m := kd) (n := 2) rfl rfl rfl (decide_eq_true hb113)) ?_
                    refine wpi_exG (v := .bool true) (fun _ => trivial) (wn rfl) rfl (ex_assign rfl rfl) ?_
                    refine wpListIn_nil ?_
                    simp only [Act.put, List.setIfInBounds_toArray, List.set_cons_succ, List.set_cons_zero]
                    refine then_normal (hK112 _ _ ?_)
                    clear hK112 K112
                    refine wpIn_cond_true rfl ?_
                    refine wpIn_region_lit ?_
                    refine wpi_exG (v := .pointer (some ⟨p10, 0, none⟩)) (fun _ => trivial) (wn rfl) rfl (ex_move rfl rfl) ?_
                    refine wpi_exG (v := .pointer (some ⟨b40, 1, none⟩)) (fun _ => trivial) (wn rfl) rfl (ex_field rfl rfl (lkfa80_1 _ _ _)) ?_
                    refine wpi_exG (v := .int .i64 nn) (fun _ => trivial) (wn rfl) rfl (ex_load rfl rfl (run_load1 lkna3 (hv.load 0 1 rfl rfl))) ?_
                    simp only [Act.put, List.setIfInBounds_toArray, List.set_cons_succ, List.set_cons_zero]
                    refine wpi_exG (v := .int .i64 r9) (fun _ => trivial) (wn rfl) rfl (ex_rem (m := nn) (n := 9) rfl rfl rfl (by decide) hr9) ?_
                    refine wpi_exG (v := .int .i64 (r9 + 9)) (fun _ => trivial) (wn rfl) rfl (ex_add (m := r9) (n := 9) rfl rfl rfl (i64_in (by omega))) ?_
                    refine wpi_exG (v := .int .i64 m9) (fun _ => trivial) (wn rfl) rfl (ex_rem (m := (r9 + 9)) (n := 9) rfl rfl rfl (by decide) hm9) ?_
                    simp only [Act.put, List.setIfInBounds_toArray, List.set_cons_succ, List.set_cons_zero]
                    replace hv := hv.front 2 rfl
                    simp only [List.eraseIdx_cons_succ, List.eraseIdx_cons_zero] at hv
                    refine wpi_callG lkcallable37 (fun _ => trivial) wideC rfl (wn rfl) rfl (args := #[.pointer (some ⟨p10, 0, none⟩), .int .i64 m9]) (by simp only [List.map_toArray, List.map_cons, List.map_nil]; rfl) ((diskLimitSl _ _ _ p10 _ _ m9 (by omega) hv).mono ?_)
                    rintro e w115 ⟨F114, rfl, hv⟩
                    refine ⟨_, rfl, ?_⟩
                    refine wpListIn_nil ?_
                    simp only [Act.put, List.setIfInBounds_toArray, List.set_cons_succ, List.set_cons_zero]
                    refine blk_normal ?_
                    refine blk_normal ?_
                    refine then_normal (hK38 _ _ ?_)
                    clear hK38 K38
                    refine wpIn_region_lit ?_
                    refine wpi_exG (v := .int .i64 (i : Int)) (fun _ => trivial) (wn rfl) rfl (ex_move rfl rfl) ?_
                    refine wpi_exG (v := .int .i64 ((i : Int) + 1)) (fun _ => trivial) (wn rfl) rfl (ex_add (m := (i : Int)) (n := 1) rfl rfl rfl (i64_in (by omega))) ?_
                    refine wpi_exG (v := .int .i64 ((i : Int) + 1)) (fun _ => trivial) (wn rfl) rfl (ex_assign rfl rfl) ?_
                    refine wpListIn_nil ?_
                    simp only [Act.put, List.setIfInBounds_toArray, List.set_cons_succ, List.set_cons_zero]
                    refine then_normal ?_
                    go_roundw
                    case rel => exact ⟨_, i + 1, _, _, _, _, _, _, _, _, _, _, _, _, _, _, _, hBC, rfl, rfl, rfl, rfl, by simp, by omega, by omega, (hK.limit m9), hs, hu, (((((hv.front 4 rfl).front 4 rfl).front 2 rfl).front 4 rfl).sub (List.Sublist.cons_cons _ (List.Sublist.cons_cons _ (List.Sublist.cons_cons _ (List.Sublist.cons_cons _ (List.Sublist.cons _ (List.Sublist.refl _)))))))⟩
                    case measure => show m + 1 - ((i : Int) + 1).toNat < m + 1 - (i : Int).toNat; omega
                  · refine wpi_exG (v := .bool false) (fun _ => trivial) (wn rfl) rfl (ex_eql (k := .i64) (m := kd) (n := 2) rfl rfl rfl (decide_eq_false hb113)) ?_
                    refine wpi_exG (v := .bool false) (fun _ => trivial) (wn rfl) rfl (ex_assign rfl rfl) ?_
                    refine wpListIn_nil ?_
                    simp only [Act.put, List.setIfInBounds_toArray, List.set_cons_succ, List.set_cons_zero]
                    refine then_normal (hK112 _ _ ?_)
                    clear hK112 K112
                    refine wpIn_cond_false rfl ?_
                    refine wpIn_seq_k (fun K116 hK116 => ?_)
                    refine wpIn_region_lit ?_
                    by_cases hb117 : kd = 3
                    · refine wpi_exG (v := .bool true) (fun _ => trivial) (wn rfl) rfl (ex_eql (k := .i64) (m := kd) (n := 3) rfl rfl rfl (decide_eq_true hb117)) ?_
                      refine wpi_exG (v := .bool true) (fun _ => trivial) (wn rfl) rfl (ex_assign rfl rfl) ?_
                      refine wpListIn_nil ?_
                      simp only [Act.put, List.setIfInBounds_toArray, List.set_cons_succ, List.set_cons_zero]
                      refine then_normal (hK116 _ _ ?_)
                      clear hK116 K116
                      refine wpIn_cond_true rfl ?_
                      refine wpIn_seq_k (fun K118 hK118 => ?_)
                      refine wpIn_region_lit ?_
                      refine wpi_exG (v := .pointer (some ⟨p10, 0, none⟩)) (fun _ => trivial) (wn rfl) rfl (ex_move rfl rfl) ?_
                      refine wpi_exG (v := .pointer (some ⟨b40, 3, none⟩)) (fun _ => trivial) (wn rfl) rfl (ex_field rfl rfl (lkfa80_3 _ _ _)) ?_
                      refine wpi_exG (v := .slice ak ks.length ck) (fun _ => trivial) (wn rfl) rfl (ex_load rfl rfl (run_load1 lkna44 (hv.load 0 3 rfl rfl))) ?_
                      simp only [Act.put, List.setIfInBounds_toArray, List.set_cons_succ, List.set_cons_zero]
                      replace hv := hv.front 2 rfl
                      simp only [List.eraseIdx_cons_succ, List.eraseIdx_cons_zero] at hv
                      have hokD : Disk.Ok D := (hv.get 0 rfl : DiskAt _ _ D _).1
                      refine wpi_callG lkcallable25 (fun _ => trivial) wideC rfl (wn rfl) rfl (args := #[.pointer (some ⟨p10, 0, none⟩), .slice ak ks.length ck]) (by simp only [List.map_toArray, List.map_cons, List.map_nil]; rfl) ((diskCrashSl _ _ _ p10 _ _ _ _ _ (ks) hv (by omega) rfl (by omega) (hkr.any') (hkw)).mono ?_)
                      rintro e w120 ⟨F119, rfl, hv⟩
                      refine ⟨_, rfl, ?_⟩
                      have hvN := hv
                      rcases hK.crash (by omega) (ks) with hKH | ⟨ub, rfl, hKH⟩
                      · have hv := hvN
                        refine wpListIn_nil ?_
                        simp only [Act.put, List.setIfInBounds_toArray, List.set_cons_succ, List.set_cons_zero]
                        refine then_normal (hK118 _ _ ?_)
                        clear hK118 K118
                        refine wpIn_seq_k (fun K121 hK121 => ?_)
                        refine wpIn_region_lit ?_
                        refine wpi_exG (v := .pointer (some ⟨p10, 0, none⟩)) (fun _ => trivial) (wn rfl) rfl (ex_move rfl rfl) ?_
                        refine wpi_exG (v := .int .i64 (n : Int)) (fun _ => trivial) (wn rfl) rfl (ex_move rfl rfl) ?_
                        refine wpi_exG (v := .int .i64 (after : Int)) (fun _ => trivial) (wn rfl) rfl (ex_move rfl rfl) ?_
                        simp only [Act.put, List.setIfInBounds_toArray, List.set_cons_succ, List.set_cons_zero]
                        refine wpi_callG lkcallable39 (fun _ => trivial) wideC rfl (wn rfl) rfl (args := #[.pointer (some ⟨p10, 0, none⟩), .int .i64 0, .int .i64 (n : Int), .int .i64 (after : Int)]) (by simp only [List.map_toArray, List.map_cons, List.map_nil]; rfl) ((logOpen _ _ _ p10 0 n after (D.crash ks) (D.crash ks) _ rfl (by show (0 : Nat) ≤ _; omega) (has_of (by omega) (by rw [hKH.len]; omega)) (by show (-1 : Int) ≠ 0; decide) (by omega) (by omega) (by rw [hKH.len]; omega) (by rw [hKH.len]; omega) (by omega) hv).mono ?_)
                        rintro e w132 ⟨C129, q122, us123, es124, ad125, c126, xs127, F128, hB130, hop, hstop, hun, hen131, rfl, hv⟩
                        refine ⟨_, rfl, ?_⟩
                        rw [view_crash hKH] at hop hstop
                        obtain ⟨hue, hse⟩ := open_all hKH hop hstop
                        replace hue := hue.symm
                        replace hse := hse.symm
                        subst hue; subst hse
                        have hlst2 := hKH.lst
                        rw [← hlst2] at hv
                        replace hs := hs.more hB130
                        replace hu := hu.more hB130
                        refine wpi_exG (v := .tuple #[.pointer (some ⟨q122, 0, none⟩), .slice ad125 sure.length c126, .int .i64 0]) (fun _ => trivial) (wn rfl) rfl (ex_move rfl rfl) ?_
                        refine wpi_exG (v := .pointer (some ⟨q122, 0, none⟩)) (fun _ => trivial) (wn rfl) rfl (ex_extract rfl rfl rfl) ?_
                        simp only [Act.put, List.setIfInBounds_toArray, List.set_cons_succ, List.set_cons_zero]
                        refine wpi_exG (v := .slice ad125 sure.length c126) (fun _ => trivial) (wn rfl) rfl (ex_extract rfl rfl rfl) ?_
                        refine wpi_exG (v := .int .i64 0) (fun _ => trivial) (wn rfl) rfl (ex_extract rfl rfl rfl) ?_
                        refine wpi_exG (v := .pointer (some ⟨q122, 0, none⟩)) (fun _ => trivial) (wn rfl) rfl (ex_assign rfl rfl) ?_
                        simp only [Act.put, List.setIfInBounds_toArray, List.set_cons_succ, List.set_cons_zero]
                        refine wpi_exG (v := .slice ad125 sure.length c126) (fun _ => trivial) (wn rfl) rfl (ex_assign rfl rfl) ?_
                        refine wpi_exG (v := .int .i64 0) (fun _ => trivial) (wn rfl) rfl (ex_assign rfl rfl) ?_
                        refine wpListIn_nil ?_
                        simp only [Act.put, List.setIfInBounds_toArray, List.set_cons_succ, List.set_cons_zero]
                        refine then_normal (hK121 _ _ ?_)
                        clear hK121 K121
                        refine wpIn_seq_k (fun K133 hK133 => ?_)
                        refine wpIn_region_lit ?_
                        refine sl_row0 (size := 2) (fun _ => trivial) (wn rfl) rfl hv row_none (fun b134 w135 hv => ?_)
                        refine wpi_exG (v := .slice sa sure.length sc) (fun _ => trivial) (wn rfl) rfl (ex_move rfl rfl) ?_
                        have hsrc := (hv.front 6 rfl).rowSrc
                        have hel := hs.len
                        have hsl : sure.length ≤ 100 + m := by omega
                        refine sl_append (news := sx) (fun _ => trivial) (wn rfl) rfl rfl rfl lkel73 hv hsrc.2 hel hsrc.1 hs.cells (by unfold maxLen; first | omega | (simp only [List.length_cons, List.length_nil]; omega)) (by first | omega | (simp only [List.length_cons, List.length_nil]; omega)) (fun v136 w139 hv => ?_)
                        obtain ⟨va137, vc138, rfl⟩ := row_slice hv.head
                        rw [show 0 + sure.length = sure.length from Nat.zero_add _] at hv ⊢
                        simp only [Act.put, List.setIfInBounds_toArray, List.set_cons_succ, List.set_cons_zero]
                        refine wpi_exG (v := .slice ua under.length uc) (fun _ => trivial) (wn rfl) rfl (ex_move rfl rfl) ?_
                        have hsrc := (hv.front 7 rfl).rowSrc
                        have hel := hu.len
                        refine sl_append (news := ux) (fun _ => trivial) (wn rfl) rfl rfl rfl lkel73 hv hsrc.2 hel hsrc.1 hu.cells (by unfold maxLen; first | omega | (simp only [List.length_cons, List.length_nil]; omega)) (by first | omega | (simp only [List.length_cons, List.length_nil]; omega)) (fun v140 w143 hv => ?_)
                        obtain ⟨va141, vc142, rfl⟩ := row_slice hv.head
                        rw [show sure.length + under.length = (sure ++ under).length from List.length_append.symm] at hv ⊢
                        refine wpi_exG (v := .slice va141 ((sure ++ under).length) vc142) (fun _ => trivial) (wn rfl) rfl (ex_assign rfl rfl) ?_
                        refine wpListIn_nil ?_
                        simp only [Act.put, List.setIfInBounds_toArray, List.set_cons_succ, List.set_cons_zero]
                        refine then_normal (hK133 _ _ ?_)
                        clear hK133 K133
                        refine wpIn_seq_k (fun K144 hK144 => ?_)
                        refine wpIn_seq_k (fun K145 hK145 => ?_)
                        refine wpIn_region_lit ?_
                        refine wpi_exG (v := .pointer (some ⟨q122, 0, none⟩)) (fun _ => trivial) (wn rfl) rfl (ex_move rfl rfl) ?_
                        refine wpi_exG (v := .bool false) (fun _ => trivial) (wn rfl) rfl (ex_pisnil Try.underlying72 rfl rfl rfl rfl) ?_
                        refine wpi_exG (v := .bool false) (fun _ => trivial) (wn rfl) rfl (ex_move rfl rfl) ?_
                        simp only [Act.put, List.setIfInBounds_toArray, List.set_cons_succ, List.set_cons_zero]
                        refine wpi_exG (v := .int .i64 0) (fun _ => trivial) (wanted_of (j := 2) (d := 150) (b := false) rfl rfl rfl) rfl (ex_move rfl rfl) ?_
                        refine wpi_exG (v := .bool false) (fun _ => trivial) (wanted_of (j := 2) (d := 150) (b := false) rfl rfl rfl) rfl (ex_neq (k := .i64) (m := 0) (n := 0) rfl rfl rfl (by decide)) ?_
                        refine wpi_exG (v := .bool false) (fun _ => trivial) (wn rfl) rfl (ex_pick (b := false) rfl rfl rfl) ?_
                        simp only [Act.put, List.setIfInBounds_toArray, List.set_cons_succ, List.set_cons_zero]
                        refine wpi_exG (v := .bool false) (fun _ => trivial) (wn rfl) rfl (ex_move rfl rfl) ?_
                        refine wpi_exG (v := .slice ad125 sure.length c126) (fun _ => trivial) (wanted_of (j := 6) (d := 154) (b := false) rfl rfl rfl) rfl (ex_move rfl rfl) ?_
                        refine wpi_exG (v := .slice sa sure.length sc) (fun _ => trivial) (wanted_of (j := 6) (d := 154) (b := false) rfl rfl rfl) rfl (ex_move rfl rfl) ?_
                        simp only [Act.put, List.setIfInBounds_toArray, List.set_cons_succ, List.set_cons_zero]
                        replace hv := hv.front 2 rfl
                        simp only [List.eraseIdx_cons_succ, List.eraseIdx_cons_zero] at hv
                        obtain ⟨C146, hB148, hv, hra, -, hback1⟩ := hv.rowBy
                        replace hv := hv.front 5 rfl
                        simp only [List.eraseIdx_cons_succ, List.eraseIdx_cons_zero] at hv
                        obtain ⟨C147, hB149, hv, hrb, -, hback2⟩ := hv.rowBy
                        replace hra := hra.more hB149 (fun _ h => h)
                        refine wpi_callG lkcallable43 (fun _ => trivial) wideC rfl (wanted_of (j := 6) (d := 154) (b := false) rfl rfl rfl) rfl (args := #[.slice ad125 sure.length c126, .slice sa sure.length sc]) (by simp only [List.map_toArray, List.map_cons, List.map_nil]; rfl) ((refSame _ _ _ _ _ _ _ after (sure) sure _ _ ((hen131.more hB148).more hB149) ((hs.more hB148).more hB149) hra.any' hrb.any' (by first | omega | (simp only [List.length_append, List.length_cons, List.length_nil]; omega)) (by first | omega | (simp only [List.length_append, List.length_cons, List.length_nil]; omega)) hv).mono ?_)
                        rintro e w150 ⟨he, hv⟩
                        rw [decide_eq_true (by simp)] at he
                        subst he
                        refine ⟨_, rfl, ?_⟩
                        replace hv := hback1 _ _ (hback2 _ _ hv)
                        refine wpi_exG (v := .bool false) (fun _ => trivial) (wanted_of (j := 6) (d := 154) (b := false) rfl rfl rfl) rfl (ex_not rfl rfl rfl) ?_
                        refine wpi_exG (v := .bool false) (fun _ => trivial) (wanted_of (j := 6) (d := 154) (b := false) rfl rfl rfl) rfl (ex_move rfl rfl) ?_
                        simp only [Act.put, List.setIfInBounds_toArray, List.set_cons_succ, List.set_cons_zero]
                        refine wpi_not (fun _ => trivial) (wanted_not (j := 11) (d := 159) (b := true) (b' := false) rfl rfl rfl (by decide)) ?_
                        refine wpi_not (fun _ => trivial) (wanted_not (j := 11) (d := 159) (b := true) (b' := false) rfl rfl rfl (by decide)) ?_
                        refine wpi_not (fun _ => trivial) (wanted_not (j := 11) (d := 159) (b := true) (b' := false) rfl rfl rfl (by decide)) ?_
                        simp only [Act.put, List.setIfInBounds_toArray, List.set_cons_succ, List.set_cons_zero]
                        refine wpi_not (fun _ => trivial) (wanted_not (j := 11) (d := 159) (b := true) (b' := false) rfl rfl rfl (by decide)) ?_
                        refine wpi_exG (v := .bool false) (fun _ => trivial) (wanted_of (j := 6) (d := 154) (b := false) rfl rfl rfl) rfl (ex_pick (b := false) rfl rfl rfl) ?_
                        refine wpi_exG (v := .bool false) (fun _ => trivial) (wn rfl) rfl (ex_pick (b := false) rfl rfl rfl) ?_
                        refine wpListIn_nil ?_
                        simp only [Act.put, List.setIfInBounds_toArray, List.set_cons_succ, List.set_cons_zero]
                        refine then_normal (hK145 _ _ ?_)
                        clear hK145 K145
                        refine wpIn_cond_false rfl ?_
                        refine wpIn_skip ?_
                        refine then_normal (hK144 _ _ ?_)
                        clear hK144 K144
                        refine wpIn_region_lit ?_
                        refine wpi_exG (v := .pointer (some ⟨q122, 0, none⟩)) (fun _ => trivial) (wn rfl) rfl (ex_move rfl rfl) ?_
                        refine wpi_exG (v := .slice ad125 sure.length c126) (fun _ => trivial) (wn rfl) rfl (ex_move rfl rfl) ?_
                        refine wpi_exG (v := .pointer (some ⟨q122, 0, none⟩)) (fun _ => trivial) (wn rfl) rfl (ex_assign rfl rfl) ?_
                        simp only [Act.put, List.setIfInBounds_toArray, List.set_cons_succ, List.set_cons_zero]
                        refine wpi_exG (v := .slice ad125 sure.length c126) (fun _ => trivial) (wn rfl) rfl (ex_assign rfl rfl) ?_
                        refine wpi_exG (v := .slice none 0 0) (fun _ => trivial) (wn rfl) rfl (ex_assign rfl rfl) ?_
                        refine wpListIn_nil ?_
                        simp only [Act.put, List.setIfInBounds_toArray, List.set_cons_succ, List.set_cons_zero]
                        refine blk_normal ?_
                        refine blk_normal ?_
                        refine then_normal (hK38 _ _ ?_)
                        clear hK38 K38
                        refine wpIn_region_lit ?_
                        refine wpi_exG (v := .int .i64 (i : Int)) (fun _ => trivial) (wn rfl) rfl (ex_move rfl rfl) ?_
                        refine wpi_exG (v := .int .i64 ((i : Int) + 1)) (fun _ => trivial) (wn rfl) rfl (ex_add (m := (i : Int)) (n := 1) rfl rfl rfl (i64_in (by omega))) ?_
                        refine wpi_exG (v := .int .i64 ((i : Int) + 1)) (fun _ => trivial) (wn rfl) rfl (ex_assign rfl rfl) ?_
                        refine wpListIn_nil ?_
                        simp only [Act.put, List.setIfInBounds_toArray, List.set_cons_succ, List.set_cons_zero]
                        refine then_normal ?_
                        go_roundw
                        case rel => exact ⟨_, i + 1, _, _, _, _, _, _, _, _, [], _, _, _, none, 0, [], (hBC.trans hB130), rfl, rfl, rfl, rfl, by simp, by omega, by omega, hKH.fresh rfl rfl, hen131, rfl, (((((((hv.front 4 rfl).front 4 rfl).sub (List.Sublist.cons_cons _ (List.Sublist.cons_cons _ (List.Sublist.cons_cons _ (List.Sublist.cons _ (List.Sublist.cons _ (List.Sublist.cons _ (List.Sublist.cons _ (List.Sublist.cons _ (List.Sublist.refl _)))))))))).rowNil 55 2).front 3 rfl).front 3 rfl).front 3 rfl)⟩
                        case measure => show m + 1 - ((i : Int) + 1).toNat < m + 1 - (i : Int).toNat; omega
                      · have hv := hvN
                        refine wpListIn_nil ?_
                        simp only [Act.put, List.setIfInBounds_toArray, List.set_cons_succ, List.set_cons_zero]
                        refine then_normal (hK118 _ _ ?_)
                        clear hK118 K118
                        refine wpIn_seq_k (fun K151 hK151 => ?_)
                        refine wpIn_region_lit ?_
                        refine wpi_exG (v := .pointer (some ⟨p10, 0, none⟩)) (fun _ => trivial) (wn rfl) rfl (ex_move rfl rfl) ?_
                        refine wpi_exG (v := .int .i64 (n : Int)) (fun _ => trivial) (wn rfl) rfl (ex_move rfl rfl) ?_
                        refine wpi_exG (v := .int .i64 (after : Int)) (fun _ => trivial) (wn rfl) rfl (ex_move rfl rfl) ?_
                        simp only [Act.put, List.setIfInBounds_toArray, List.set_cons_succ, List.set_cons_zero]
                        refine wpi_callG lkcallable39 (fun _ => trivial) wideC rfl (wn rfl) rfl (args := #[.pointer (some ⟨p10, 0, none⟩), .int .i64 0, .int .i64 (n : Int), .int .i64 (after : Int)]) (by simp only [List.map_toArray, List.map_cons, List.map_nil]; rfl) ((logOpen _ _ _ p10 0 n after (D.crash ks) (D.crash ks) _ rfl (by show (0 : Nat) ≤ _; omega) (has_of (by omega) (by rw [hKH.len]; omega)) (by show (-1 : Int) ≠ 0; decide) (by omega) (by omega) (by rw [hKH.len]; omega) (by rw [hKH.len]; omega) (by omega) hv).mono ?_)
                        rintro e w162 ⟨C159, q152, us153, es154, ad155, c156, xs157, F158, hB160, hop, hstop, hun, hen161, rfl, hv⟩
                        refine ⟨_, rfl, ?_⟩
                        rw [view_crash hKH] at hop hstop
                        obtain ⟨hue, hse⟩ := open_all hKH hop hstop
                        replace hue := hue.symm
                        replace hse := hse.symm
                        subst hue; subst hse
                        have hlst2 := hKH.lst
                        rw [← hlst2] at hv
                        replace hs := hs.more hB160
                        replace hu := hu.more hB160
                        refine wpi_exG (v := .tuple #[.pointer (some ⟨q152, 0, none⟩), .slice ad155 ((sure ++ [ub]).length) c156, .int .i64 0]) (fun _ => trivial) (wn rfl) rfl (ex_move rfl rfl) ?_
                        refine wpi_exG (v := .pointer (some ⟨q152, 0, none⟩)) (fun _ => trivial) (wn rfl) rfl (ex_extract rfl rfl rfl) ?_
                        simp only [Act.put, List.setIfInBounds_toArray, List.set_cons_succ, List.set_cons_zero]
                        refine wpi_exG (v := .slice ad155 ((sure ++ [ub]).length) c156) (fun _ => trivial) (wn rfl) rfl (ex_extract rfl rfl rfl) ?_
                        refine wpi_exG (v := .int .i64 0) (fun _ => trivial) (wn rfl) rfl (ex_extract rfl rfl rfl) ?_
                        refine wpi_exG (v := .pointer (some ⟨q152, 0, none⟩)) (fun _ => trivial) (wn rfl) rfl (ex_assign rfl rfl) ?_
                        simp only [Act.put, List.setIfInBounds_toArray, List.set_cons_succ, List.set_cons_zero]
                        refine wpi_exG (v := .slice ad155 ((sure ++ [ub]).length) c156) (fun _ => trivial) (wn rfl) rfl (ex_assign rfl rfl) ?_
                        refine wpi_exG (v := .int .i64 0) (fun _ => trivial) (wn rfl) rfl (ex_assign rfl rfl) ?_
                        refine wpListIn_nil ?_
                        simp only [Act.put, List.setIfInBounds_toArray, List.set_cons_succ, List.set_cons_zero]
                        refine then_normal (hK151 _ _ ?_)
                        clear hK151 K151
                        refine wpIn_seq_k (fun K163 hK163 => ?_)
                        refine wpIn_region_lit ?_
                        refine sl_row0 (size := 2) (fun _ => trivial) (wn rfl) rfl hv row_none (fun b164 w165 hv => ?_)
                        refine wpi_exG (v := .slice sa sure.length sc) (fun _ => trivial) (wn rfl) rfl (ex_move rfl rfl) ?_
                        have hsrc := (hv.front 6 rfl).rowSrc
                        have hel := hs.len
                        have hsl : sure.length ≤ 100 + m := by omega
                        refine sl_append (news := sx) (fun _ => trivial) (wn rfl) rfl rfl rfl lkel73 hv hsrc.2 hel hsrc.1 hs.cells (by unfold maxLen; first | omega | (simp only [List.length_cons, List.length_nil]; omega)) (by first | omega | (simp only [List.length_cons, List.length_nil]; omega)) (fun v166 w169 hv => ?_)
                        obtain ⟨va167, vc168, rfl⟩ := row_slice hv.head
                        rw [show 0 + sure.length = sure.length from Nat.zero_add _] at hv ⊢
                        simp only [Act.put, List.setIfInBounds_toArray, List.set_cons_succ, List.set_cons_zero]
                        refine wpi_exG (v := .slice ua ([ub].length) uc) (fun _ => trivial) (wn rfl) rfl (ex_move rfl rfl) ?_
                        have hsrc := (hv.front 7 rfl).rowSrc
                        have hel := hu.len
                        refine sl_append (news := ux) (fun _ => trivial) (wn rfl) rfl rfl rfl lkel73 hv hsrc.2 hel hsrc.1 hu.cells (by unfold maxLen; first | omega | (simp only [List.length_cons, List.length_nil]; omega)) (by first | omega | (simp only [List.length_cons, List.length_nil]; omega)) (fun v170 w173 hv => ?_)
                        obtain ⟨va171, vc172, rfl⟩ := row_slice hv.head
                        rw [show sure.length + ([ub].length) = (sure ++ [ub]).length from List.length_append.symm] at hv ⊢
                        refine wpi_exG (v := .slice va171 ((sure ++ [ub]).length) vc172) (fun _ => trivial) (wn rfl) rfl (ex_assign rfl rfl) ?_
                        refine wpListIn_nil ?_
                        simp only [Act.put, List.setIfInBounds_toArray, List.set_cons_succ, List.set_cons_zero]
                        refine then_normal (hK163 _ _ ?_)
                        clear hK163 K163
                        refine wpIn_seq_k (fun K174 hK174 => ?_)
                        refine wpIn_seq_k (fun K175 hK175 => ?_)
                        have hmore := EntsAt.append hs (by rw [← hlst]; exact hu)
                        refine wpIn_region_lit ?_
                        refine wpi_exG (v := .pointer (some ⟨q152, 0, none⟩)) (fun _ => trivial) (wn rfl) rfl (ex_move rfl rfl) ?_
                        refine wpi_exG (v := .bool false) (fun _ => trivial) (wn rfl) rfl (ex_pisnil Try.underlying72 rfl rfl rfl rfl) ?_
                        refine wpi_exG (v := .bool false) (fun _ => trivial) (wn rfl) rfl (ex_move rfl rfl) ?_
                        simp only [Act.put, List.setIfInBounds_toArray, List.set_cons_succ, List.set_cons_zero]
                        refine wpi_exG (v := .int .i64 0) (fun _ => trivial) (wanted_of (j := 2) (d := 150) (b := false) rfl rfl rfl) rfl (ex_move rfl rfl) ?_
                        refine wpi_exG (v := .bool false) (fun _ => trivial) (wanted_of (j := 2) (d := 150) (b := false) rfl rfl rfl) rfl (ex_neq (k := .i64) (m := 0) (n := 0) rfl rfl rfl (by decide)) ?_
                        refine wpi_exG (v := .bool false) (fun _ => trivial) (wn rfl) rfl (ex_pick (b := false) rfl rfl rfl) ?_
                        simp only [Act.put, List.setIfInBounds_toArray, List.set_cons_succ, List.set_cons_zero]
                        refine wpi_exG (v := .bool false) (fun _ => trivial) (wn rfl) rfl (ex_move rfl rfl) ?_
                        refine wpi_exG (v := .slice ad155 ((sure ++ [ub]).length) c156) (fun _ => trivial) (wanted_of (j := 6) (d := 154) (b := false) rfl rfl rfl) rfl (ex_move rfl rfl) ?_
                        refine wpi_exG (v := .slice sa sure.length sc) (fun _ => trivial) (wanted_of (j := 6) (d := 154) (b := false) rfl rfl rfl) rfl (ex_move rfl rfl) ?_
                        simp only [Act.put, List.setIfInBounds_toArray, List.set_cons_succ, List.set_cons_zero]
                        replace hv := hv.front 2 rfl
                        simp only [List.eraseIdx_cons_succ, List.eraseIdx_cons_zero] at hv
                        obtain ⟨C176, hB178, hv, hra, -, hback1⟩ := hv.rowBy
                        replace hv := hv.front 5 rfl
                        simp only [List.eraseIdx_cons_succ, List.eraseIdx_cons_zero] at hv
                        obtain ⟨C177, hB179, hv, hrb, -, hback2⟩ := hv.rowBy
                        replace hra := hra.more hB179 (fun _ h => h)
                        refine wpi_callG lkcallable43 (fun _ => trivial) wideC rfl (wanted_of (j := 6) (d := 154) (b := false) rfl rfl rfl) rfl (args := #[.slice ad155 ((sure ++ [ub]).length) c156, .slice sa sure.length sc]) (by simp only [List.map_toArray, List.map_cons, List.map_nil]; rfl) ((refSame _ _ _ _ _ _ _ after ((sure ++ [ub])) sure _ _ ((hen161.more hB178).more hB179) ((hs.more hB178).more hB179) hra.any' hrb.any' (by first | omega | (simp only [List.length_append, List.length_cons, List.length_nil]; omega)) (by first | omega | (simp only [List.length_append, List.length_cons, List.length_nil]; omega)) hv).mono ?_)
                        rintro e w180 ⟨he, hv⟩
                        rw [decide_eq_false (by simp)] at he
                        subst he
                        refine ⟨_, rfl, ?_⟩
                        replace hv := hback1 _ _ (hback2 _ _ hv)
                        refine wpi_exG (v := .bool true) (fun _ => trivial) (wanted_of (j := 6) (d := 154) (b := false) rfl rfl rfl) rfl (ex_not rfl rfl rfl) ?_
                        refine wpi_exG (v := .bool true) (fun _ => trivial) (wanted_of (j := 6) (d := 154) (b := false) rfl rfl rfl) rfl (ex_move rfl rfl) ?_
                        simp only [Act.put, List.setIfInBounds_toArray, List.set_cons_succ, List.set_cons_zero]
                        refine wpi_exG (v := .slice ad155 ((sure ++ [ub]).length) c156) (fun _ => trivial) (wanted_of (j := 11) (d := 159) (b := true) rfl rfl rfl) rfl (ex_move rfl rfl) ?_
                        refine wpi_exG (v := .slice va171 ((sure ++ [ub]).length) vc172) (fun _ => trivial) (wanted_of (j := 11) (d := 159) (b := true) rfl rfl rfl) rfl (ex_move rfl rfl) ?_
                        obtain ⟨C181, hB183, hv, hra, -, hback1⟩ := hv.rowBy
                        replace hv := hv.front 1 rfl
                        simp only [List.eraseIdx_cons_succ, List.eraseIdx_cons_zero] at hv
                        obtain ⟨C182, hB184, hv, hrb, -, hback2⟩ := hv.rowBy
                        replace hra := hra.more hB184 (fun _ h => h)
                        refine wpi_callG lkcallable43 (fun _ => trivial) wideC rfl (wanted_of (j := 11) (d := 159) (b := true) rfl rfl rfl) rfl (args := #[.slice ad155 ((sure ++ [ub]).length) c156, .slice va171 ((sure ++ [ub]).length) vc172]) (by simp only [List.map_toArray, List.map_cons, List.map_nil]; rfl) ((refSame _ _ _ _ _ _ _ after ((sure ++ [ub])) (sure ++ [ub]) _ _ ((hen161.more hB183).more hB184) ((hmore.more hB183).more hB184) hra.any' hrb.any' (by first | omega | (simp only [List.length_append, List.length_cons, List.length_nil]; omega)) (by first | omega | (simp only [List.length_append, List.length_cons, List.length_nil]; omega)) hv).mono ?_)
                        rintro e w185 ⟨he, hv⟩
                        rw [decide_eq_true (by simp)] at he
                        subst he
                        refine ⟨_, rfl, ?_⟩
                        replace hv := hback1 _ _ (hback2 _ _ hv)
                        simp only [Act.put, List.setIfInBounds_toArray, List.set_cons_succ, List.set_cons_zero]
                        refine wpi_exG (v := .bool false) (fun _ => trivial) (wanted_of (j := 11) (d := 159) (b := true) rfl rfl rfl) rfl (ex_not rfl rfl rfl) ?_
                        refine wpi_exG (v := .bool false) (fun _ => trivial) (wanted_of (j := 6) (d := 154) (b := false) rfl rfl rfl) rfl (ex_pick (b := true) rfl rfl rfl) ?_
                        refine wpi_exG (v := .bool false) (fun _ => trivial) (wn rfl) rfl (ex_pick (b := false) rfl rfl rfl) ?_
                        refine wpListIn_nil ?_
                        simp only [Act.put, List.setIfInBounds_toArray, List.set_cons_succ, List.set_cons_zero]
                        refine then_normal (hK175 _ _ ?_)
                        clear hK175 K175
                        refine wpIn_cond_false rfl ?_
                        refine wpIn_skip ?_
                        refine then_normal (hK174 _ _ ?_)
                        clear hK174 K174
                        refine wpIn_region_lit ?_
                        refine wpi_exG (v := .pointer (some ⟨q152, 0, none⟩)) (fun _ => trivial) (wn rfl) rfl (ex_move rfl rfl) ?_
                        refine wpi_exG (v := .slice ad155 ((sure ++ [ub]).length) c156) (fun _ => trivial) (wn rfl) rfl (ex_move rfl rfl) ?_
                        refine wpi_exG (v := .pointer (some ⟨q152, 0, none⟩)) (fun _ => trivial) (wn rfl) rfl (ex_assign rfl rfl) ?_
                        simp only [Act.put, List.setIfInBounds_toArray, List.set_cons_succ, List.set_cons_zero]
                        refine wpi_exG (v := .slice ad155 ((sure ++ [ub]).length) c156) (fun _ => trivial) (wn rfl) rfl (ex_assign rfl rfl) ?_
                        refine wpi_exG (v := .slice none 0 0) (fun _ => trivial) (wn rfl) rfl (ex_assign rfl rfl) ?_
                        refine wpListIn_nil ?_
                        simp only [Act.put, List.setIfInBounds_toArray, List.set_cons_succ, List.set_cons_zero]
                        refine blk_normal ?_
                        refine blk_normal ?_
                        refine then_normal (hK38 _ _ ?_)
                        clear hK38 K38
                        refine wpIn_region_lit ?_
                        refine wpi_exG (v := .int .i64 (i : Int)) (fun _ => trivial) (wn rfl) rfl (ex_move rfl rfl) ?_
                        refine wpi_exG (v := .int .i64 ((i : Int) + 1)) (fun _ => trivial) (wn rfl) rfl (ex_add (m := (i : Int)) (n := 1) rfl rfl rfl (i64_in (by omega))) ?_
                        refine wpi_exG (v := .int .i64 ((i : Int) + 1)) (fun _ => trivial) (wn rfl) rfl (ex_assign rfl rfl) ?_
                        refine wpListIn_nil ?_
                        simp only [Act.put, List.setIfInBounds_toArray, List.set_cons_succ, List.set_cons_zero]
                        refine then_normal ?_
                        go_roundw
                        case rel => exact ⟨_, i + 1, _, _, _, _, _, _, _, _, [], _, _, _, none, 0, [], (hBC.trans hB160), rfl, rfl, rfl, rfl, by simp, by omega, by omega, hKH.fresh rfl rfl, hen161, rfl, (((((((hv.front 4 rfl).front 4 rfl).sub (List.Sublist.cons_cons _ (List.Sublist.cons_cons _ (List.Sublist.cons_cons _ (List.Sublist.cons _ (List.Sublist.cons _ (List.Sublist.cons _ (List.Sublist.cons _ (List.Sublist.cons _ (List.Sublist.refl _)))))))))).rowNil 55 2).front 3 rfl).front 3 rfl).front 3 rfl)⟩
                        case measure => show m + 1 - ((i : Int) + 1).toNat < m + 1 - (i : Int).toNat; omega
                    · refine wpi_exG (v := .bool false) (fun _ => trivial) (wn rfl) rfl (ex_eql (k := .i64) (m := kd) (n := 3) rfl rfl rfl (decide_eq_false hb117)) ?_
                      refine wpi_exG (v := .bool false) (fun _ => trivial) (wn rfl) rfl (ex_assign rfl rfl) ?_
                      refine wpListIn_nil ?_
                      simp only [Act.put, List.setIfInBounds_toArray, List.set_cons_succ, List.set_cons_zero]
                      refine then_normal (hK116 _ _ ?_)
                      clear hK116 K116
                      refine wpIn_cond_false rfl ?_
                      refine wpIn_skip ?_
                      refine blk_normal ?_
                      refine blk_normal ?_
                      refine then_normal (hK38 _ _ ?_)
                      clear hK38 K38
                      refine wpIn_region_lit ?_
                      refine wpi_exG (v := .int .i64 (i : Int)) (fun _ => trivial) (wn rfl) rfl (ex_move rfl rfl) ?_
                      refine wpi_exG (v := .int .i64 ((i : Int) + 1)) (fun _ => trivial) (wn rfl) rfl (ex_add (m := (i : Int)) (n := 1) rfl rfl rfl (i64_in (by omega))) ?_
                      refine wpi_exG (v := .int .i64 ((i : Int) + 1)) (fun _ => trivial) (wn rfl) rfl (ex_assign rfl rfl) ?_
                      refine wpListIn_nil ?_
                      simp only [Act.put, List.setIfInBounds_toArray, List.set_cons_succ, List.set_cons_zero]
                      refine then_normal ?_
                      go_roundw
                      case rel => exact ⟨_, i + 1, _, _, _, _, _, _, _, _, _, _, _, _, _, _, _, hBC, rfl, rfl, rfl, rfl, by simp, by omega, by omega, hK, hs, hu, (((((hv.front 4 rfl).front 4 rfl).front 4 rfl).front 4 rfl).sub (List.Sublist.cons_cons _ (List.Sublist.cons_cons _ (List.Sublist.cons_cons _ (List.Sublist.cons_cons _ (List.Sublist.cons _ (List.Sublist.refl _)))))))⟩
                      case measure => show m + 1 - ((i : Int) + 1).toNat < m + 1 - (i : Int).toNat; omega
        · refine wpi_exG (v := .bool false) (fun _ => trivial) (wn rfl) rfl (ex_lss (k := .i64) (m := (i : Int)) (n := (m : Int)) rfl rfl rfl (decide_eq_false hb45)) ?_
          refine wpListIn_nil ?_
          simp only [Act.put, List.setIfInBounds_toArray, List.set_cons_succ, List.set_cons_zero]
          refine then_normal (hK44 _ _ ?_)
          clear hK44 K44
          refine wpIn_cond_false rfl ?_
          refine wpIn_skip ?_
          refine then_normal (hK43 _ _ ?_)
          clear hK43 K43
          refine wpIn_seq_k (fun K186 hK186 => ?_)
          refine wpIn_seq_k (fun K187 hK187 => ?_)
          refine wpIn_region_lit ?_
          refine wpi_exG (v := .pointer (some ⟨b40, 2, none⟩)) (fun _ => trivial) (wn rfl) rfl (ex_field rfl rfl (lkfa80_2 _ _ _)) ?_
          refine wpi_exG (v := .slice none 0 0) (fun _ => trivial) (wn rfl) rfl (ex_load rfl rfl (run_load1 lkna24 (hv.load 0 2 rfl rfl))) ?_
          refine wpi_exG (v := .int .i64 0) (fun _ => trivial) (wn rfl) rfl (ex_len0 Try.underlying24 rfl rfl) ?_
          simp only [Act.put, List.setIfInBounds_toArray, List.set_cons_succ, List.set_cons_zero]
          refine wpi_exG (v := .bool false) (fun _ => trivial) (wn rfl) rfl (ex_gtr (k := .i64) (m := 0) (n := 600) rfl rfl rfl (by decide)) ?_
          refine wpi_exG (v := .bool false) (fun _ => trivial) (wn rfl) rfl (ex_move rfl rfl) ?_
          refine wpi_exG (v := .pointer (some ⟨b40, 3, none⟩)) (fun _ => trivial) (wanted_of (j := 4) (d := 70) (b := false) rfl rfl rfl) rfl (ex_field rfl rfl (lkfa80_3 _ _ _)) ?_
          simp only [Act.put, List.setIfInBounds_toArray, List.set_cons_succ, List.set_cons_zero]
          refine wpi_exG (v := .slice none 0 0) (fun _ => trivial) (wanted_of (j := 4) (d := 70) (b := false) rfl rfl rfl) rfl (ex_load rfl rfl (run_load1 lkna44 (hv.load 0 3 rfl rfl))) ?_
          refine wpi_exG (v := .int .i64 0) (fun _ => trivial) (wanted_of (j := 4) (d := 70) (b := false) rfl rfl rfl) rfl (ex_len0 Try.underlying44 rfl rfl) ?_
          refine wpi_exG (v := .bool false) (fun _ => trivial) (wanted_of (j := 4) (d := 70) (b := false) rfl rfl rfl) rfl (ex_gtr (k := .i64) (m := 0) (n := 40) rfl rfl rfl (by decide)) ?_
          simp only [Act.put, List.setIfInBounds_toArray, List.set_cons_succ, List.set_cons_zero]
          refine wpi_exG (v := .bool false) (fun _ => trivial) (wn rfl) rfl (ex_pick (b := false) rfl rfl rfl) ?_
          refine wpListIn_nil ?_
          simp only [Act.put, List.setIfInBounds_toArray, List.set_cons_succ, List.set_cons_zero]
          refine then_normal (hK187 _ _ ?_)
          clear hK187 K187
          refine wpIn_cond_false rfl ?_
          refine wpIn_skip ?_
          refine then_normal (hK186 _ _ ?_)
          clear hK186 K186
          refine wpIn_seq_k (fun K188 hK188 => ?_)
          refine wpIn_region_lit ?_
          refine wpi_exG (v := .pointer (some ⟨b40, 0, none⟩)) (fun _ => trivial) (wn rfl) rfl (ex_field rfl rfl (lkfa80_0 _ _ _)) ?_
          refine wpi_exG (v := .int .i64 3) (fun _ => trivial) (wn rfl) rfl (ex_load rfl rfl (run_load1 lkna3 (hv.load 0 0 rfl rfl))) ?_
          refine wpListIn_nil ?_
          simp only [Act.put, List.setIfInBounds_toArray, List.set_cons_succ, List.set_cons_zero]
          refine then_normal (hK188 _ _ ?_)
          clear hK188 K188
          refine wpIn_block ?_
          refine wpIn_seq_k (fun K189 hK189 => ?_)
          refine wpIn_region_lit ?_
          refine wpi_exG (v := .bool false) (fun _ => trivial) (wn rfl) rfl (ex_eql (k := .i64) (m := 3) (n := 0) rfl rfl rfl (by decide)) ?_
          refine wpi_exG (v := .bool false) (fun _ => trivial) (wn rfl) rfl (ex_assign rfl rfl) ?_
          refine wpListIn_nil ?_
          simp only [Act.put, List.setIfInBounds_toArray, List.set_cons_succ, List.set_cons_zero]
          refine then_normal (hK189 _ _ ?_)
          clear hK189 K189
          refine wpIn_cond_false rfl ?_
          refine wpIn_seq_k (fun K190 hK190 => ?_)
          refine wpIn_region_lit ?_
          refine wpi_exG (v := .bool false) (fun _ => trivial) (wn rfl) rfl (ex_eql (k := .i64) (m := 3) (n := 1) rfl rfl rfl (by decide)) ?_
          refine wpi_exG (v := .bool false) (fun _ => trivial) (wn rfl) rfl (ex_assign rfl rfl) ?_
          refine wpListIn_nil ?_
          simp only [Act.put, List.setIfInBounds_toArray, List.set_cons_succ, List.set_cons_zero]
          refine then_normal (hK190 _ _ ?_)
          clear hK190 K190
          refine wpIn_cond_false rfl ?_
          refine wpIn_seq_k (fun K191 hK191 => ?_)
          refine wpIn_region_lit ?_
          refine wpi_exG (v := .bool false) (fun _ => trivial) (wn rfl) rfl (ex_eql (k := .i64) (m := 3) (n := 2) rfl rfl rfl (by decide)) ?_
          refine wpi_exG (v := .bool false) (fun _ => trivial) (wn rfl) rfl (ex_assign rfl rfl) ?_
          refine wpListIn_nil ?_
          simp only [Act.put, List.setIfInBounds_toArray, List.set_cons_succ, List.set_cons_zero]
          refine then_normal (hK191 _ _ ?_)
          clear hK191 K191
          refine wpIn_cond_false rfl ?_
          refine wpIn_seq_k (fun K192 hK192 => ?_)
          refine wpIn_region_lit ?_
          refine wpi_exG (v := .bool true) (fun _ => trivial) (wn rfl) rfl (ex_eql (k := .i64) (m := 3) (n := 3) rfl rfl rfl (by decide)) ?_
          refine wpi_exG (v := .bool true) (fun _ => trivial) (wn rfl) rfl (ex_assign rfl rfl) ?_
          refine wpListIn_nil ?_
          simp only [Act.put, List.setIfInBounds_toArray, List.set_cons_succ, List.set_cons_zero]
          refine then_normal (hK192 _ _ ?_)
          clear hK192 K192
          refine wpIn_cond_true rfl ?_
          refine wpIn_seq_k (fun K193 hK193 => ?_)
          refine wpIn_region_lit ?_
          refine wpi_exG (v := .pointer (some ⟨p10, 0, none⟩)) (fun _ => trivial) (wn rfl) rfl (ex_move rfl rfl) ?_
          refine wpi_exG (v := .pointer (some ⟨b40, 3, none⟩)) (fun _ => trivial) (wn rfl) rfl (ex_field rfl rfl (lkfa80_3 _ _ _)) ?_
          refine wpi_exG (v := .slice none 0 0) (fun _ => trivial) (wn rfl) rfl (ex_load rfl rfl (run_load1 lkna44 (hv.load 0 3 rfl rfl))) ?_
          simp only [Act.put, List.setIfInBounds_toArray, List.set_cons_succ, List.set_cons_zero]
          replace hv := hv.front 2 rfl
          simp only [List.eraseIdx_cons_succ, List.eraseIdx_cons_zero] at hv
          have hokD : Disk.Ok D := (hv.get 0 rfl : DiskAt _ _ D _).1
          refine wpi_callG lkcallable25 (fun _ => trivial) wideC rfl (wn rfl) rfl (args := #[.pointer (some ⟨p10, 0, none⟩), .slice none 0 0]) (by simp only [List.map_toArray, List.map_cons, List.map_nil]; rfl) ((diskCrashSl _ _ _ p10 _ _ _ _ _ ([]) hv (by omega) rfl (by decide) (rdV_nil) (fun k hk => by cases hk)).mono ?_)
          rintro e w195 ⟨F194, rfl, hv⟩
          refine ⟨_, rfl, ?_⟩
          have hvN := hv
          rcases hK.crash (by omega) ([]) with hKH | ⟨ub, rfl, hKH⟩
          · have hv := hvN
            refine wpListIn_nil ?_
            simp only [Act.put, List.setIfInBounds_toArray, List.set_cons_succ, List.set_cons_zero]
            refine then_normal (hK193 _ _ ?_)
            clear hK193 K193
            refine wpIn_seq_k (fun K196 hK196 => ?_)
            refine wpIn_region_lit ?_
            refine wpi_exG (v := .pointer (some ⟨p10, 0, none⟩)) (fun _ => trivial) (wn rfl) rfl (ex_move rfl rfl) ?_
            refine wpi_exG (v := .int .i64 (n : Int)) (fun _ => trivial) (wn rfl) rfl (ex_move rfl rfl) ?_
            refine wpi_exG (v := .int .i64 (after : Int)) (fun _ => trivial) (wn rfl) rfl (ex_move rfl rfl) ?_
            simp only [Act.put, List.setIfInBounds_toArray, List.set_cons_succ, List.set_cons_zero]
            refine wpi_callG lkcallable39 (fun _ => trivial) wideC rfl (wn rfl) rfl (args := #[.pointer (some ⟨p10, 0, none⟩), .int .i64 0, .int .i64 (n : Int), .int .i64 (after : Int)]) (by simp only [List.map_toArray, List.map_cons, List.map_nil]; rfl) ((logOpen _ _ _ p10 0 n after (D.crash []) (D.crash []) _ rfl (by show (0 : Nat) ≤ _; omega) (has_of (by omega) (by rw [hKH.len]; omega)) (by show (-1 : Int) ≠ 0; decide) (by omega) (by omega) (by rw [hKH.len]; omega) (by rw [hKH.len]; omega) (by omega) hv).mono ?_)
            rintro e w207 ⟨C204, q197, us198, es199, ad200, c201, xs202, F203, hB205, hop, hstop, hun, hen206, rfl, hv⟩
            refine ⟨_, rfl, ?_⟩
            rw [view_crash hKH] at hop hstop
            obtain ⟨hue, hse⟩ := open_all hKH hop hstop
            replace hue := hue.symm
            replace hse := hse.symm
            subst hue; subst hse
            have hlst2 := hKH.lst
            rw [← hlst2] at hv
            replace hs := hs.more hB205
            replace hu := hu.more hB205
            refine wpi_exG (v := .tuple #[.pointer (some ⟨q197, 0, none⟩), .slice ad200 sure.length c201, .int .i64 0]) (fun _ => trivial) (wn rfl) rfl (ex_move rfl rfl) ?_
            refine wpi_exG (v := .pointer (some ⟨q197, 0, none⟩)) (fun _ => trivial) (wn rfl) rfl (ex_extract rfl rfl rfl) ?_
            simp only [Act.put, List.setIfInBounds_toArray, List.set_cons_succ, List.set_cons_zero]
            refine wpi_exG (v := .slice ad200 sure.length c201) (fun _ => trivial) (wn rfl) rfl (ex_extract rfl rfl rfl) ?_
            refine wpi_exG (v := .int .i64 0) (fun _ => trivial) (wn rfl) rfl (ex_extract rfl rfl rfl) ?_
            refine wpi_exG (v := .pointer (some ⟨q197, 0, none⟩)) (fun _ => trivial) (wn rfl) rfl (ex_assign rfl rfl) ?_
            simp only [Act.put, List.setIfInBounds_toArray, List.set_cons_succ, List.set_cons_zero]
            refine wpi_exG (v := .slice ad200 sure.length c201) (fun _ => trivial) (wn rfl) rfl (ex_assign rfl rfl) ?_
            refine wpi_exG (v := .int .i64 0) (fun _ => trivial) (wn rfl) rfl (ex_assign rfl rfl) ?_
            refine wpListIn_nil ?_
            simp only [Act.put, List.setIfInBounds_toArray, List.set_cons_succ, List.set_cons_zero]
            refine then_normal (hK196 _ _ ?_)
            clear hK196 K196
            refine wpIn_seq_k (fun K208 hK208 => ?_)
            refine wpIn_region_lit ?_
            refine sl_row0 (size := 2) (fun _ => trivial) (wn rfl) rfl hv row_none (fun b209 w210 hv => ?_)
            refine wpi_exG (v := .slice sa sure.length sc) (fun _ => trivial) (wn rfl) rfl (ex_move rfl rfl) ?_
            have hsrc := (hv.front 6 rfl).rowSrc
            have hel := hs.len
            have hsl : sure.length ≤ 100 + m := by omega
            refine sl_append (news := sx) (fun _ => trivial) (wn rfl) rfl rfl rfl lkel73 hv hsrc.2 hel hsrc.1 hs.cells (by unfold maxLen; first | omega | (simp only [List.length_cons, List.length_nil]; omega)) (by first | omega | (simp only [List.length_cons, List.length_nil]; omega)) (fun v211 w214 hv => ?_)
            obtain ⟨va212, vc213, rfl⟩ := row_slice hv.head
            rw [show 0 + sure.length = sure.length from Nat.zero_add _] at hv ⊢
            simp only [Act.put, List.setIfInBounds_toArray, List.set_cons_succ, List.set_cons_zero]
            refine wpi_exG (v := .slice ua under.length uc) (fun _ => trivial) (wn rfl) rfl (ex_move rfl rfl) ?_
            have hsrc := (hv.front 7 rfl).rowSrc
            have hel := hu.len
            refine sl_append (news := ux) (fun _ => trivial) (wn rfl) rfl rfl rfl lkel73 hv hsrc.2 hel hsrc.1 hu.cells (by unfold maxLen; first | omega | (simp only [List.length_cons, List.length_nil]; omega)) (by first | omega | (simp only [List.length_cons, List.length_nil]; omega)) (fun v215 w218 hv => ?_)
            obtain ⟨va216, vc217, rfl⟩ := row_slice hv.head
            rw [show sure.length + under.length = (sure ++ under).length from List.length_append.symm] at hv ⊢
            refine wpi_exG (v := .slice va216 ((sure ++ under).length) vc217) (fun _ => trivial) (wn rfl) rfl (ex_assign rfl rfl) ?_
            refine wpListIn_nil ?_
            simp only [Act.put, List.setIfInBounds_toArray, List.set_cons_succ, List.set_cons_zero]
            refine then_normal (hK208 _ _ ?_)
            clear hK208 K208
            refine wpIn_seq_k (fun K219 hK219 => ?_)
            refine wpIn_seq_k (fun K220 hK220 => ?_)
            refine wpIn_region_lit ?_
            refine wpi_exG (v := .pointer (some ⟨q197, 0, none⟩)) (fun _ => trivial) (wn rfl) rfl (ex_move rfl rfl) ?_
            refine wpi_exG (v := .bool false) (fun _ => trivial) (wn rfl) rfl (ex_pisnil Try.underlying72 rfl rfl rfl rfl) ?_
            refine wpi_exG (v := .bool false) (fun _ => trivial) (wn rfl) rfl (ex_move rfl rfl) ?_
            simp only [Act.put, List.setIfInBounds_toArray, List.set_cons_succ, List.set_cons_zero]
            refine wpi_exG (v := .int .i64 0) (fun _ => trivial) (wanted_of (j := 2) (d := 150) (b := false) rfl rfl rfl) rfl (ex_move rfl rfl) ?_
            refine wpi_exG (v := .bool false) (fun _ => trivial) (wanted_of (j := 2) (d := 150) (b := false) rfl rfl rfl) rfl (ex_neq (k := .i64) (m := 0) (n := 0) rfl rfl rfl (by decide)) ?_
            refine wpi_exG (v := .bool false) (fun _ => trivial) (wn rfl) rfl (ex_pick (b := false) rfl rfl rfl) ?_
            simp only [Act.put, List.setIfInBounds_toArray, List.set_cons_succ, List.set_cons_zero]
            refine wpi_exG (v := .bool false) (fun _ => trivial) (wn rfl) rfl (ex_move rfl rfl) ?_
            refine wpi_exG (v := .slice ad200 sure.length c201) (fun _ => trivial) (wanted_of (j := 6) (d := 154) (b := false) rfl rfl rfl) rfl (ex_move rfl rfl) ?_
            refine wpi_exG (v := .slice sa sure.length sc) (fun _ => trivial) (wanted_of (j := 6) (d := 154) (b := false) rfl rfl rfl) rfl (ex_move rfl rfl) ?_
            simp only [Act.put, List.setIfInBounds_toArray, List.set_cons_succ, List.set_cons_zero]
            replace hv := hv.front 2 rfl
            simp only [List.eraseIdx_cons_succ, List.eraseIdx_cons_zero] at hv
            obtain ⟨C221, hB223, hv, hra, -, hback1⟩ := hv.rowBy
            replace hv := hv.front 5 rfl
            simp only [List.eraseIdx_cons_succ, List.eraseIdx_cons_zero] at hv
            obtain ⟨C222, hB224, hv, hrb, -, hback2⟩ := hv.rowBy
            replace hra := hra.more hB224 (fun _ h => h)
            refine wpi_callG lkcallable43 (fun _ => trivial) wideC rfl (wanted_of (j := 6) (d := 154) (b := false) rfl rfl rfl) rfl (args := #[.slice ad200 sure.length c201, .slice sa sure.length sc]) (by simp only [List.map_toArray, List.map_cons, List.map_nil]; rfl) ((refSame _ _ _ _ _ _ _ after (sure) sure _ _ ((hen206.more hB223).more hB224) ((hs.more hB223).more hB224) hra.any' hrb.any' (by first | omega | (simp only [List.length_append, List.length_cons, List.length_nil]; omega)) (by first | omega | (simp only [List.length_append, List.length_cons, List.length_nil]; omega)) hv).mono ?_)
            rintro e w225 ⟨he, hv⟩
            rw [decide_eq_true (by simp)] at he
            subst he
            refine ⟨_, rfl, ?_⟩
            replace hv := hback1 _ _ (hback2 _ _ hv)
            refine wpi_exG (v := .bool false) (fun _ => trivial) (wanted_of (j := 6) (d := 154) (b := false) rfl rfl rfl) rfl (ex_not rfl rfl rfl) ?_
            refine wpi_exG (v := .bool false) (fun _ => trivial) (wanted_of (j := 6) (d := 154) (b := false) rfl rfl rfl) rfl (ex_move rfl rfl) ?_
            simp only [Act.put, List.setIfInBounds_toArray, List.set_cons_succ, List.set_cons_zero]
            refine wpi_not (fun _ => trivial) (wanted_not (j := 11) (d := 159) (b := true) (b' := false) rfl rfl rfl (by decide)) ?_
            refine wpi_not (fun _ => trivial) (wanted_not (j := 11) (d := 159) (b := true) (b' := false) rfl rfl rfl (by decide)) ?_
            refine wpi_not (fun _ => trivial) (wanted_not (j := 11) (d := 159) (b := true) (b' := false) rfl rfl rfl (by decide)) ?_
            simp only [Act.put, List.setIfInBounds_toArray, List.set_cons_succ, List.set_cons_zero]
            refine wpi_not (fun _ => trivial) (wanted_not (j := 11) (d := 159) (b := true) (b' := false) rfl rfl rfl (by decide)) ?_
            refine wpi_exG (v := .bool false) (fun _ => trivial) (wanted_of (j := 6) (d := 154) (b := false) rfl rfl rfl) rfl (ex_pick (b := false) rfl rfl rfl) ?_
            refine wpi_exG (v := .bool false) (fun _ => trivial) (wn rfl) rfl (ex_pick (b := false) rfl rfl rfl) ?_
            refine wpListIn_nil ?_
            simp only [Act.put, List.setIfInBounds_toArray, List.set_cons_succ, List.set_cons_zero]
            refine then_normal (hK220 _ _ ?_)
            clear hK220 K220
            refine wpIn_cond_false rfl ?_
            refine wpIn_skip ?_
            refine then_normal (hK219 _ _ ?_)
            clear hK219 K219
            refine wpIn_region_lit ?_
            refine wpi_exG (v := .pointer (some ⟨q197, 0, none⟩)) (fun _ => trivial) (wn rfl) rfl (ex_move rfl rfl) ?_
            refine wpi_exG (v := .slice ad200 sure.length c201) (fun _ => trivial) (wn rfl) rfl (ex_move rfl rfl) ?_
            refine wpi_exG (v := .pointer (some ⟨q197, 0, none⟩)) (fun _ => trivial) (wn rfl) rfl (ex_assign rfl rfl) ?_
            simp only [Act.put, List.setIfInBounds_toArray, List.set_cons_succ, List.set_cons_zero]
            refine wpi_exG (v := .slice ad200 sure.length c201) (fun _ => trivial) (wn rfl) rfl (ex_assign rfl rfl) ?_
            refine wpi_exG (v := .slice none 0 0) (fun _ => trivial) (wn rfl) rfl (ex_assign rfl rfl) ?_
            refine wpListIn_nil ?_
            simp only [Act.put, List.setIfInBounds_toArray, List.set_cons_succ, List.set_cons_zero]
            refine blk_normal ?_
            refine blk_normal ?_
            refine then_normal (hK38 _ _ ?_)
            clear hK38 K38
            refine wpIn_region_lit ?_
            refine wpi_exG (v := .int .i64 (i : Int)) (fun _ => trivial) (wn rfl) rfl (ex_move rfl rfl) ?_
            refine wpi_exG (v := .int .i64 ((i : Int) + 1)) (fun _ => trivial) (wn rfl) rfl (ex_add (m := (i : Int)) (n := 1) rfl rfl rfl (i64_in (by omega))) ?_
            refine wpi_exG (v := .int .i64 ((i : Int) + 1)) (fun _ => trivial) (wn rfl) rfl (ex_assign rfl rfl) ?_
            refine wpListIn_nil ?_
            simp only [Act.put, List.setIfInBounds_toArray, List.set_cons_succ, List.set_cons_zero]
            refine then_normal ?_
            go_roundw
            case rel => exact ⟨_, i + 1, _, _, _, _, _, _, _, _, [], _, _, _, none, 0, [], (hBC.trans hB205), rfl, rfl, rfl, rfl, by simp, by omega, by omega, hKH.fresh rfl rfl, hen206, rfl, (((((((hv.front 4 rfl).front 4 rfl).sub (List.Sublist.cons_cons _ (List.Sublist.cons_cons _ (List.Sublist.cons_cons _ (List.Sublist.cons _ (List.Sublist.cons _ (List.Sublist.cons _ (List.Sublist.cons _ (List.Sublist.cons _ (List.Sublist.refl _)))))))))).rowNil 55 2).front 3 rfl).front 3 rfl).front 3 rfl)⟩
            case measure => show m + 1 - ((i : Int) + 1).toNat < m + 1 - (i : Int).toNat; omega
          · have hv := hvN
            refine wpListIn_nil ?_
            simp only [Act.put, List.setIfInBounds_toArray, List.set_cons_succ, List.set_cons_zero]
            refine then_normal (hK193 _ _ ?_)
            clear hK193 K193
            refine wpIn_seq_k (fun K226 hK226 => ?_)
            refine wpIn_region_lit ?_
            refine wpi_exG (v := .pointer (some ⟨p10, 0, none⟩)) (fun _ => trivial) (wn rfl) rfl (ex_move rfl rfl) ?_
            refine wpi_exG (v := .int .i64 (n : Int)) (fun _ => trivial) (wn rfl) rfl (ex_move rfl rfl) ?_
            refine wpi_exG (v := .int .i64 (after : Int)) (fun _ => trivial) (wn rfl) rfl (ex_move rfl rfl) ?_
            simp only [Act.put, List.setIfInBounds_toArray, List.set_cons_succ, List.set_cons_zero]
            refine wpi_callG lkcallable39 (fun _ => trivial) wideC rfl (wn rfl) rfl (args := #[.pointer (some ⟨p10, 0, none⟩), .int .i64 0, .int .i64 (n : Int), .int .i64 (after : Int)]) (by simp only [List.map_toArray, List.map_cons, List.map_nil]; rfl) ((logOpen _ _ _ p10 0 n after (D.crash []) (D.crash []) _ rfl (by show (0 : Nat) ≤ _; omega) (has_of (by omega) (by rw [hKH.len]; omega)) (by show (-1 : Int) ≠ 0; decide) (by omega) (by omega) (by rw [hKH.len]; omega) (by rw [hKH.len]; omega) (by omega) hv).mono ?_)
            rintro e w237 ⟨C234, q227, us228, es229, ad230, c231, xs232, F233, hB235, hop, hstop, hun, hen236, rfl, hv⟩
            refine ⟨_, rfl, ?_⟩
            rw [view_crash hKH] at hop hstop
            obtain ⟨hue, hse⟩ := open_all hKH hop hstop
            replace hue := hue.symm
            replace hse := hse.symm
            subst hue; subst hse
            have hlst2 := hKH.lst
            rw [← hlst2] at hv
            replace hs := hs.more hB235
            replace hu := hu.more hB235
            refine wpi_exG (v := .tuple #[.pointer (some ⟨q227, 0, none⟩), .slice ad230 ((sure ++ [ub]).length) c231, .int .i64 0]) (fun _ => trivial) (wn rfl) rfl (ex_move rfl rfl) ?_
            refine wpi_exG (v := .pointer (some ⟨q227, 0, none⟩)) (fun _ => trivial) (wn rfl) rfl (ex_extract rfl rfl rfl) ?_
            simp only [Act.put, List.setIfInBounds_toArray, List.set_cons_succ, List.set_cons_zero]
            refine wpi_exG (v := .slice ad230 ((sure ++ [ub]).length) c231) (fun _ => trivial) (wn rfl) rfl (ex_extract rfl rfl rfl) ?_
            refine wpi_exG (v := .int .i64 0) (fun _ => trivial) (wn rfl) rfl (ex_extract rfl rfl rfl) ?_
            refine wpi_exG (v := .pointer (some ⟨q227, 0, none⟩)) (fun _ => trivial) (wn rfl) rfl (ex_assign rfl rfl) ?_
            simp only [Act.put, List.setIfInBounds_toArray, List.set_cons_succ, List.set_cons_zero]
            refine wpi_exG (v := .slice ad230 ((sure ++ [ub]).length) c231) (fun _ => trivial) (wn rfl) rfl (ex_assign rfl rfl) ?_
            refine wpi_exG (v := .int .i64 0) (fun _ => trivial) (wn rfl) rfl (ex_assign rfl rfl) ?_
            refine wpListIn_nil ?_
            simp only [Act.put, List.setIfInBounds_toArray, List.set_cons_succ, List.set_cons_zero]
            refine then_normal (hK226 _ _ ?_)
            clear hK226 K226
            refine wpIn_seq_k (fun K238 hK238 => ?_)
            refine wpIn_region_lit ?_
            refine sl_row0 (size := 2) (fun _ => trivial) (wn rfl) rfl hv row_none (fun b239 w240 hv => ?_)
            refine wpi_exG (v := .slice sa sure.length sc) (fun _ => trivial) (wn rfl) rfl (ex_move rfl rfl) ?_
            have hsrc := (hv.front 6 rfl).rowSrc
            have hel := hs.len
            have hsl : sure.length ≤ 100 + m := by omega
            refine sl_append (news := sx) (fun _ => trivial) (wn rfl) rfl rfl rfl lkel73 hv hsrc.2 hel hsrc.1 hs.cells (by unfold maxLen; first | omega | (simp only [List.length_cons, List.length_nil]; omega)) (by first | omega | (simp only [List.length_cons, List.length_nil]; omega)) (fun v241 w244 hv => ?_)
            obtain ⟨va242, vc243, rfl⟩ := row_slice hv.head
            rw [show 0 + sure.length = sure.length from Nat.zero_add _] at hv ⊢
            simp only [Act.put, List.setIfInBounds_toArray, List.set_cons_succ, List.set_cons_zero]
            refine wpi_exG (v := .slice ua ([ub].length) uc) (fun _ => trivial) (wn rfl) rfl (ex_move rfl rfl) ?_
            have hsrc := (hv.front 7 rfl).rowSrc
            have hel := hu.len
            refine sl_append (news := ux) (fun _ => trivial) (wn rfl) rfl rfl rfl lkel73 hv hsrc.2 hel hsrc.1 hu.cells (by unfold maxLen; first | omega | (simp only [List.length_cons, List.length_nil]; omega)) (by first | omega | (simp only [List.length_cons, List.length_nil]; omega)) (fun v245 w248 hv => ?_)
            obtain ⟨va246, vc247, rfl⟩ := row_slice hv.head
            rw [show sure.length + ([ub].length) = (sure ++ [ub]).length from List.length_append.symm] at hv ⊢
            refine wpi_exG (v := .slice va246 ((sure ++ [ub]).length) vc247) (fun _ => trivial) (wn rfl) rfl (ex_assign rfl rfl) ?_
            refine wpListIn_nil ?_
            simp only [Act.put, List.setIfInBounds_toArray, List.set_cons_succ, List.set_cons_zero]
            refine then_normal (hK238 _ _ ?_)
            clear hK238 K238
            refine wpIn_seq_k (fun K249 hK249 => ?_)
            refine wpIn_seq_k (fun K250 hK250 => ?_)
            have hmore := EntsAt.append hs (by rw [← hlst]; exact hu)
            refine wpIn_region_lit ?_
            refine wpi_exG (v := .pointer (some ⟨q227, 0, none⟩)) (fun _ => trivial) (wn rfl) rfl (ex_move rfl rfl) ?_
            refine wpi_exG (v := .bool false) (fun _ => trivial) (wn rfl) rfl (ex_pisnil Try.underlying72 rfl rfl rfl rfl) ?_
            refine wpi_exG (v := .bool false) (fun _ => trivial) (wn rfl) rfl (ex_move rfl rfl) ?_
            simp only [Act.put, List.setIfInBounds_toArray, List.set_cons_succ, List.set_cons_zero]
            refine wpi_exG (v := .int .i64 0) (fun _ => trivial) (wanted_of (j := 2) (d := 150) (b := false) rfl rfl rfl) rfl (ex_move rfl rfl) ?_
            refine wpi_exG (v := .bool false) (fun _ => trivial) (wanted_of (j := 2) (d := 150) (b := false) rfl rfl rfl) rfl (ex_neq (k := .i64) (m := 0) (n := 0) rfl rfl rfl (by decide)) ?_
            refine wpi_exG (v := .bool false) (fun _ => trivial) (wn rfl) rfl (ex_pick (b := false) rfl rfl rfl) ?_
            simp only [Act.put, List.setIfInBounds_toArray, List.set_cons_succ, List.set_cons_zero]
            refine wpi_exG (v := .bool false) (fun _ => trivial) (wn rfl) rfl (ex_move rfl rfl) ?_
            refine wpi_exG (v := .slice ad230 ((sure ++ [ub]).length) c231) (fun _ => trivial) (wanted_of (j := 6) (d := 154) (b := false) rfl rfl rfl) rfl (ex_move rfl rfl) ?_
            refine wpi_exG (v := .slice sa sure.length sc) (fun _ => trivial) (wanted_of (j := 6) (d := 154) (b := false) rfl rfl rfl) rfl (ex_move rfl rfl) ?_
            simp only [Act.put, List.setIfInBounds_toArray, List.set_cons_succ, List.set_cons_zero]
            replace hv := hv.front 2 rfl
            simp only [List.eraseIdx_cons_succ, List.eraseIdx_cons_zero] at hv
            obtain ⟨C251, hB253, hv, hra, -, hback1⟩ := hv.rowBy
            replace hv := hv.front 5 rfl
            simp only [List.eraseIdx_cons_succ, List.eraseIdx_cons_zero] at hv
            obtain ⟨C252, hB254, hv, hrb, -, hback2⟩ := hv.rowBy
            replace hra := hra.more hB254 (fun _ h => h)
            refine wpi_callG lkcallable43 (fun _ => trivial) wideC rfl (wanted_of (j := 6) (d := 154) (b := false) rfl rfl rfl) rfl (args := #[.slice ad230 ((sure ++ [ub]).length) c231, .slice sa sure.length sc]) (by simp only [List.map_toArray, List.map_cons, List.map_nil]; rfl) ((refSame _ _ _ _ _ _ _ after ((sure ++ [ub])) sure _ _ ((hen236.more hB253).more hB254) ((hs.more hB253).more hB254) hra.any' hrb.any' (by first | omega | (simp only [List.length_append, List.length_cons, List.length_nil]; omega)) (by first | omega | (simp only [List.length_append, List.length_cons, List.length_nil]; omega)) hv).mono ?_)
            rintro e w255 ⟨he, hv⟩
            rw [decide_eq_false (by simp)] at he
            subst he
            refine ⟨_, rfl, ?_⟩
            replace hv := hback1 _ _ (hback2 _ _ hv)
            refine wpi_exG (v := .bool true) (fun _ => trivial) (wanted_of (j := 6) (d := 154) (b := false) rfl rfl rfl) rfl (ex_not rfl rfl rfl) ?_
            refine wpi_exG (v := .bool true) (fun _ => trivial) (wanted_of (j := 6) (d := 154) (b := false) rfl rfl rfl) rfl (ex_move rfl rfl) ?_
            simp only [Act.put, List.setIfInBounds_toArray, List.set_cons_succ, List.set_cons_zero]
            refine wpi_exG (v := .slice ad230 ((sure ++ [ub]).length) c231) (fun _ => trivial) (wanted_of (j := 11) (d := 159) (b := true) rfl rfl rfl) rfl (ex_move rfl rfl) ?_
            refine wpi_exG (v := .slice va246 ((sure ++ [ub]).length) vc247) (fun _ => trivial) (wanted_of (j := 11) (d := 159) (b := true) rfl rfl rfl) rfl (ex_move rfl rfl) ?_
            obtain ⟨C256, hB258, hv, hra, -, hback1⟩ := hv.rowBy
            replace hv := hv.front 1 rfl
            simp only [List.eraseIdx_cons_succ, List.eraseIdx_cons_zero] at hv
            obtain ⟨C257, hB259, hv, hrb, -, hback2⟩ := hv.rowBy
            replace hra := hra.more hB259 (fun _ h => h)
            refine wpi_callG lkcallable43 (fun _ => trivial) wideC rfl (wanted_of (j := 11) (d := 159) (b := true) rfl rfl rfl) rfl (args := #[.slice ad230 ((sure ++ [ub]).length) c231, .slice va246 ((sure ++ [ub]).length) vc247]) (by simp only [List.map_toArray, List.map_cons, List.map_nil]; rfl) ((refSame _ _ _ _ _ _ _ after ((sure ++ [ub])) (sure ++ [ub]) _ _ ((hen236.more hB258).more hB259) ((hmore.more hB258).more hB259) hra.any' hrb.any' (by first | omega | (simp only [List.length_append, List.length_cons, List.length_nil]; omega)) (by first | omega | (simp only [List.length_append, List.length_cons, List.length_nil]; omega)) hv).mono ?_)
            rintro e w260 ⟨he, hv⟩
            rw [decide_eq_true (by simp)] at he
            subst he
            refine ⟨_, rfl, ?_⟩
            replace hv := hback1 _ _ (hback2 _ _ hv)
            simp only [Act.put, List.setIfInBounds_toArray, List.set_cons_succ, List.set_cons_zero]
            refine wpi_exG (v := .bool false) (fun _ => trivial) (wanted_of (j := 11) (d := 159) (b := true) rfl rfl rfl) rfl (ex_not rfl rfl rfl) ?_
            refine wpi_exG (v := .bool false) (fun _ => trivial) (wanted_of (j := 6) (d := 154) (b := false) rfl rfl rfl) rfl (ex_pick (b := true) rfl rfl rfl) ?_
            refine wpi_exG (v := .bool false) (fun _ => trivial) (wn rfl) rfl (ex_pick (b := false) rfl rfl rfl) ?_
            refine wpListIn_nil ?_
            simp only [Act.put, List.setIfInBounds_toArray, List.set_cons_succ, List.set_cons_zero]
            refine then_normal (hK250 _ _ ?_)
            clear hK250 K250
            refine wpIn_cond_false rfl ?_
            refine wpIn_skip ?_
            refine then_normal (hK249 _ _ ?_)
            clear hK249 K249
            refine wpIn_region_lit ?_
            refine wpi_exG (v := .pointer (some ⟨q227, 0, none⟩)) (fun _ => trivial) (wn rfl) rfl (ex_move rfl rfl) ?_
            refine wpi_exG (v := .slice ad230 ((sure ++ [ub]).length) c231) (fun _ => trivial) (wn rfl) rfl (ex_move rfl rfl) ?_
            refine wpi_exG (v := .pointer (some ⟨q227, 0, none⟩)) (fun _ => trivial) (wn rfl) rfl (ex_assign rfl rfl) ?_
            simp only [Act.put, List.setIfInBounds_toArray, List.set_cons_succ, List.set_cons_zero]
            refine wpi_exG (v := .slice ad230 ((sure ++ [ub]).length) c231) (fun _ => trivial) (wn rfl) rfl (ex_assign rfl rfl) ?_
            refine wpi_exG (v := .slice none 0 0) (fun _ => trivial) (wn rfl) rfl (ex_assign rfl rfl) ?_
            refine wpListIn_nil ?_
            simp only [Act.put, List.setIfInBounds_toArray, List.set_cons_succ, List.set_cons_zero]
            refine blk_normal ?_
            refine blk_normal ?_
            refine then_normal (hK38 _ _ ?_)
            clear hK38 K38
            refine wpIn_region_lit ?_
            refine wpi_exG (v := .int .i64 (i : Int)) (fun _ => trivial) (wn rfl) rfl (ex_move rfl rfl) ?_
            refine wpi_exG (v := .int .i64 ((i : Int) + 1)) (fun _ => trivial) (wn rfl) rfl (ex_add (m := (i : Int)) (n := 1) rfl rfl rfl (i64_in (by omega))) ?_
            refine wpi_exG (v := .int .i64 ((i : Int) + 1)) (fun _ => trivial) (wn rfl) rfl (ex_assign rfl rfl) ?_
            refine wpListIn_nil ?_
            simp only [Act.put, List.setIfInBounds_toArray, List.set_cons_succ, List.set_cons_zero]
            refine then_normal ?_
            go_roundw
            case rel => exact ⟨_, i + 1, _, _, _, _, _, _, _, _, [], _, _, _, none, 0, [], (hBC.trans hB235), rfl, rfl, rfl, rfl, by simp, by omega, by omega, hKH.fresh rfl rfl, hen236, rfl, (((((((hv.front 4 rfl).front 4 rfl).sub (List.Sublist.cons_cons _ (List.Sublist.cons_cons _ (List.Sublist.cons_cons _ (List.Sublist.cons _ (List.Sublist.cons _ (List.Sublist.cons _ (List.Sublist.cons _ (List.Sublist.cons _ (List.Sublist.refl _)))))))))).rowNil 55 2).front 3 rfl).front 3 rfl).front 3 rfl)⟩
            case measure => show m + 1 - ((i : Int) + 1).toNat < m + 1 - (i : Int).toNat; omega
      · refine wpi_exG (v := .bool false) (fun _ => trivial) (wn rfl) rfl (ex_leq (k := .i64) (m := (i : Int)) (n := (m : Int)) rfl rfl rfl (decide_eq_false hb37)) ?_
        refine wpListIn_nil ?_
        simp only [Act.put, List.setIfInBounds_toArray, List.set_cons_succ, List.set_cons_zero]
        refine then_normal (hK36 _ _ ?_)
        clear hK36 K36
        refine wpIn_cond_false rfl ?_
        refine wpIn_exit ?_
        refine then_exit ?_
        clear hK35 K35
        refine then_exit ?_
        refine blk_hit ?_
        refine then_normal (hK32 _ _ ?_)
        clear hK32 K32
        refine wpIn_seq_k (fun K261 hK261 => ?_)
        refine wpIn_region_lit ?_
        refine wpi_exG (v := .bool true) (fun _ => trivial) (wn rfl) rfl (ex_assign rfl rfl) ?_
        refine wpListIn_nil ?_
        simp only [Act.put, List.setIfInBounds_toArray, List.set_cons_succ, List.set_cons_zero]
        refine then_normal (hK261 _ _ ?_)
        clear hK261 K261
        refine wpIn_ret ?_
        refine bodyPost_ret (results_tmp rfl _ _ _) rfl ?_
        exact ⟨rfl, (hv.tail 4).weak hBC⟩
end Go.Proofs.Ytkannfkjnohdlaa
/- LogKeeps, for every input: the law returns true and leaves what was there alone. -/
namespace Go.Proofs.Ytkannfkjnohdlaa.logKeeps
open Go.RowKit Go.WideShapes Go.ChangeShapes Go.ChangeAt Go.Pm
theorem own : ownKnob Try.prog.godebug = none := by kernel_rfl
theorem laidOut : laidOutB Try.prog = true := by kernel_rfl
theorem fits3 : Fits Try.prog 9 3 (.int .i64) := Try.underlying3
theorem fits78 : Fits Try.prog 9 78 (.slice (.pair (.int .i64) (.pair (.int .i64) (.pair (.slice (.int .u8)) (.pair (.slice (.int .i64)) .unit))))) := ⟨80, Try.underlying78, by kernel_rfl, by decide, ⟨_, Try.underlying80, by kernel_rfl, ⟨rfl, by kernel_rfl, Try.underlying3, ⟨rfl, by kernel_rfl, Try.underlying3, ⟨rfl, by kernel_rfl, ⟨5, Try.underlying24, by kernel_rfl, by decide, Try.underlying5⟩, ⟨rfl, by kernel_rfl, ⟨3, Try.underlying44, by kernel_rfl, by decide, Try.underlying3⟩, trivial⟩⟩⟩⟩⟩⟩
set_option maxRecDepth 100000 in
theorem lifted (os : Os) (started : os.Started) (H : Type) (enc : TypeId × Value → H) :
    ReturnsInHanded {} Try.checked os 13 .any (Rows.logKeepsSpec.pre6 enc Try.prog Try.f13 Rows.logKeepsRow.domain false) (Rows.logKeepsSpec.post enc Try.prog Try.f13 false true false false) := by
  refine returnsInHanded_of_change (C := Try.checked) own started (by kernel_rfl) Try.func13
    (ChangeSpec.witness6 (enc := enc) (C := Try.checked) false ⟨#[], #[.int .i64 0, .slice none 0 0], []⟩ 8 (by kernel_rfl) (by kernel_rfl) (by kernel_rfl) (by kernel_rfl)) ?_
  intro W base args ds gs before hval hW _ _
  have hW' : DataW.Whole enc Try.prog Try.f13.params.toList [] false W args.toList ds gs before := hW
  obtain ⟨p, q, hA, -⟩ := hW
  have hA : DataW.TrodAll enc Try.prog W 0 (fun _ => true) true Try.f13.params.toList args.toList ds p := hA
  have hval : ∀ (j : Nat) t v, Try.f13.params[j]? = some t → args[j]? = some v → Value.okWide Try.prog W .any base t v := hval
  rw [Try.params13] at hA hval
  obtain ⟨v0, vs0, d0, ds0, p0, q0, hargs, rfl, rfl, t0, r0⟩ := trodAll_cons hA
  obtain ⟨v1, vs1, d1, ds1, p1, q1, rfl, rfl, rfl, t1, r1⟩ := trodAll_cons r0
  obtain ⟨rfl, rfl, rfl⟩ := trodAll_nil r1
  obtain rfl : args = #[v0, v1] := by cases args; simp_all
  refine law_post (s := Rows.logKeepsSpec) laidOut (fun t ht => ?_) 4 rfl Try.underlying4 rfl rfl hW' ?_
  · rw [Try.params13] at ht
    revert t
    exact of_decide_eq_true (by kernel_rfl)
  obtain ⟨c0, x0, rfl, h0⟩ := arg_rep fits3 (hval 0 3 v0 rfl rfl) t0
  obtain ⟨c1, x1, rfl, h1⟩ := arg_rep fits78 (hval 1 78 v1 rfl rfl) t1
  clear hval hW'
  obtain ⟨rfl, hw0⟩ := h0
  obtain ⟨a, ca, rfl, hok, hrd⟩ := rep_acts7 h1
  refine (logKeepsMain (Base.of W) [] W x0 a x1.length ca hrd (Inv.start W)).mono ?_
  rintro e w' ⟨he, hi⟩
  exact ⟨he, ext_of hi⟩
theorem holds : Rows.LogKeepsSaid :=
  OpenClaim.holds_of_wide 13 Try.f13 rfl rfl rfl rfl rfl rfl rfl ⟨rfl, rfl, rfl, rfl, rfl⟩ rfl rfl rfl rfl rfl (by kernel_rfl) Try.func13 (by kernel_rfl)
    (of_decide_eq_true (by kernel_rfl)) (by unfold Func.isWrapper; rw [if_neg (of_decide_eq_false (by kernel_rfl))]; exact ⟨rfl, rfl⟩)
    (fun os started H enc _ => lifted os started H enc)
end Go.Proofs.Ytkannfkjnohdlaa.logKeeps
theorem Go.Proofs.Ytkannfkjnohdlaa.logKeeps_holds : Go.Proofs.Ytkannfkjnohdlaa.Rows.LogKeepsSaid := Go.Proofs.Ytkannfkjnohdlaa.logKeeps.holds
