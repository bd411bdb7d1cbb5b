/- slots.checkpoint -/
import Derived.Test.YtkannfkjnohdlaaMsC
namespace Go.Proofs.Ytkannfkjnohdlaa
open Go.RowKit Go.Pm
theorem crcSumSl (B : Base) (H : List Res) (w : World) (b n c : Nat) (a : Option Addr) (l : List UInt8) (k : Nat) (hv : Inv B H w) (hk : H[k]? = some (Res.cell b [.slice a n c] 24)) (hr : RdV B H a (l.map B8)) (hn : l.length = n) (h1 : SliceOk a n c) :
    Calls Try.prog 15 #[.slice (some ⟨b, 0, none⟩) 1 1] w fun e w' => e = .returned (.int .u32 (Crc.sum l : Int)) ∧ Inv B H w' := by
  have hb : Bytes w (fun _ => True) a l := fun i hi => by
    obtain ⟨b, off, h1, h2⟩ := hr.cellAt hv i (by simpa using hi)
    exact ⟨b, off, h1, trivial, by simpa using h2⟩
  refine (crcSum1 w b n c a l (hv.load k 0 hk rfl) _ hb hn.symm h1).mono ?_
  rintro e w' ⟨h1, h2⟩
  exact ⟨h1, h2 ▸ hv⟩
theorem rd_head {B : Base} {H : List Res} {hb : Nat} {t : TypeId} {s : List UInt8} (k : Nat) (hk : H[k]? = some (Res.cell hb ((s.take 64).map B8) t)) (off n : Nat) (h : off + n ≤ 64) (hs : 64 ≤ s.length) : RdV B H (some ⟨hb, off, none⟩) ((piece s off n).map B8) := by
  refine rdV_cell (L := (s.take 64).map B8) (t := t) off (List.mem_of_getElem? hk) (fun i hi => ?_)
  have hl : i < n := by rw [List.length_map, piece_length (by omega)] at hi; exact hi
  have h1 : (piece s off n)[i]? = s[off + i]? := piece_get hl
  rw [List.getElem?_eq_getElem (by rw [piece_length (by omega)]; exact hl)] at h1
  rw [List.getElem?_map, List.getElem?_take_of_lt (by omega), ← h1]
  simp
theorem head_get {s : List UInt8} {k : Nat} (hk : k < 64) {c : UInt8} (hc : s[k]? = some c) : ((s.take 64).map B8)[k]? = some (B8 c) := by
  rw [List.getElem?_map, List.getElem?_take_of_lt hk, hc]
  rfl
theorem tmod2 (n : Nat) : ((n : Int)).tmod 2 = ((n % 2 : Nat) : Int) := by rw [Int.tmod_eq_emod_of_nonneg (by omega)]; omega
set_option maxRecDepth 100000 in
theorem i64_neg {n : Nat} (h1 : 9223372036854775808 ≤ n) (h2 : n < 18446744073709551616) : IntKind.i64.wrap (n : Int) = (n : Int) - 18446744073709551616 := by
  rw [IntKind.wrap_i64]; omega
set_option maxRecDepth 100000 in
/-- the piece behind the header -/
theorem body_slice {B : Base} {H : List Res} {ab aoff n cap k : Nat} {s : List UInt8} (hn : s.length = n) (hok : SliceOk (some ⟨ab, aoff, none⟩) n cap) (hr : RdV B H (some ⟨ab, aoff, none⟩) (s.map B8)) (hk : k + 64 ≤ n) :
    ∃ bad, (∀ w, (Instr.sliceAt 24 (.slice (some ⟨ab, aoff, none⟩) n cap) (some (.int .i64 64)) (some (.int .i64 ((64 + k : Nat) : Int))) none).run Try.prog w = .ok (.slice bad k (cap - 64)) w) ∧ SliceOk bad k (cap - 64) ∧ RdV B H bad ((piece s 64 k).map B8) := by
  have hle := hok.le
  have hmx := hok.max
  have hrun : ∀ w, (Instr.sliceAt 24 (.slice (some ⟨ab, aoff, none⟩) n cap) (some (.int .i64 ((64 : Nat) : Int))) (some (.int .i64 ((64 + k : Nat) : Int))) none).run Try.prog w = .ok (sliced (some ⟨ab, aoff, none⟩) 64 (64 + k) cap 1) w := by
    intro w
    rw [run_sliceAt_slice w 24 _ _ _ _ Try.underlying24, run_slice_lh w 24 _ n cap Try.underlying24 .i64 .i64 (64 : Nat) (64 + k : Nat) (by omega) (by omega) (by omega)]
    have hs : (sizeOf (Try.prog.elem 24)).run Try.prog w = .ok 1 w := by kernel_rfl
    rw [hs]
    simp only [Result.andThen, Int.toNat_natCast]
  by_cases hc : cap = 64
  · refine ⟨some ⟨ab, aoff, none⟩, fun w => ?_, ⟨by omega, by omega, fun h => by cases h⟩, ?_⟩
    · rw [show (Value.int .i64 64) = .int .i64 ((64 : Nat) : Int) from rfl, hrun w]
      simp only [sliced, hc, if_true]
      rw [show 64 + k - 64 = k by omega]
    · obtain rfl : k = 0 := by omega
      exact rdV_nil
  · refine ⟨some ⟨ab, aoff + 64, none⟩, fun w => ?_, ⟨by omega, by omega, fun h => by cases h⟩, ?_⟩
    · rw [show (Value.int .i64 64) = .int .i64 ((64 : Nat) : Int) from rfl, hrun w]
      simp only [sliced, hc, if_false, Option.map_some, addr_add, Nat.mul_one]
      rw [show 64 + k - 64 = k by omega]
    · intro i hi
      have hi' : i < k := by rw [List.length_map, piece_length (by omega)] at hi; exact hi
      obtain ⟨b, off, h1, h2⟩ := hr (64 + i) (by rw [List.length_map]; omega)
      simp only [Option.some.injEq, Addr.mk.injEq, and_true] at h1
      obtain ⟨rfl, rfl⟩ := h1
      refine ⟨ab, aoff + 64, rfl, ?_⟩
      have e : ((piece s 64 k).map B8)[i] = (s.map B8)[64 + i]'(by rw [List.length_map]; omega) := by simp [piece]
      rw [e, show aoff + 64 + i = aoff + (64 + i) by omega]
      exact h2
def ckNo : Value := .tuple #[.agg #[.int .i64 0, .slice none 0 0], .int .i64 0, .bool false]
def CkPost (B : Base) (H : List Res) (s : List UInt8) (i : Nat) (e : Ending) (w : World) : Prop :=
  (¬ CkOk s i ∧ e = .returned ckNo ∧ Inv B H w) ∨ (CkOk s i ∧ ∃ ad c, e = .returned (.tuple #[.agg #[.int .i64 (ckT s : Int), .slice ad (ckN s) c], .int .i64 (ckG s : Int), .bool true]) ∧ Inv B (Res.row 5 1 (.slice ad (ckN s) c) (ckN s) ((ckB s).map B8) :: H) w)
theorem run_copy_head {w : World} {hb ab aoff n cap : Nat} {s : List UInt8} {ty : TypeId} (hbk : Blk w hb (List.replicate 64 (Value.int .u8 0)) 89) (hn : s.length = n) (h64 : 64 ≤ n) (hok : SliceOk (some ⟨ab, aoff, none⟩) n cap) (hs : Src w (some ⟨ab, aoff, none⟩) (s.map B8)) :
    (Builtin.copy_ #[24, 24] ty #[.slice (some ⟨hb, 0, none⟩) 64 64, .slice (some ⟨ab, aoff, none⟩) n cap]).run Try.prog w = .ok (.int .i64 64) (setBlk w hb ((s.take 64).map B8)) := by
  have hc := run_copy_mid (P := Try.prog) (dT := 24) (el := 5) (ty := ty) (pre := []) (mid := List.replicate 64 (Value.int .u8 0)) (post := []) (dLen := 64) (dCap := 64) (sLen := n) (sCap := cap) (cs := (s.take 64).map B8) Try.underlying24 (by kernel_rfl) (by rw [List.nil_append, List.append_nil]; exact hbk) 0 rfl
    (by rw [List.length_replicate, List.length_map, List.length_take]; omega) (by rw [List.length_map, List.length_take]; show min 64 s.length = min n 64; omega) hok (by
      rw [List.map_take]
      exact hs.take 64) (oneCell_bytes _)
  rw [List.nil_append, List.append_nil, show goInt ((s.take 64).map B8).length = .int .i64 64 by rw [List.length_map, List.length_take, Nat.min_eq_left (by omega)]; rfl] at hc
  exact hc
theorem zeros64 : [Value.int .u8 0, .int .u8 0, .int .u8 0, .int .u8 0, .int .u8 0, .int .u8 0, .int .u8 0, .int .u8 0, .int .u8 0, .int .u8 0, .int .u8 0, .int .u8 0, .int .u8 0, .int .u8 0, .int .u8 0, .int .u8 0, .int .u8 0, .int .u8 0, .int .u8 0, .int .u8 0, .int .u8 0, .int .u8 0, .int .u8 0, .int .u8 0, .int .u8 0, .int .u8 0, .int .u8 0, .int .u8 0, .int .u8 0, .int .u8 0, .int .u8 0, .int .u8 0, .int .u8 0, .int .u8 0, .int .u8 0, .int .u8 0, .int .u8 0, .int .u8 0, .int .u8 0, .int .u8 0, .int .u8 0, .int .u8 0, .int .u8 0, .int .u8 0, .int .u8 0, .int .u8 0, .int .u8 0, .int .u8 0, .int .u8 0, .int .u8 0, .int .u8 0, .int .u8 0, .int .u8 0, .int .u8 0, .int .u8 0, .int .u8 0, .int .u8 0, .int .u8 0, .int .u8 0, .int .u8 0, .int .u8 0, .int .u8 0, .int .u8 0, .int .u8 0] = List.replicate 64 (.int .u8 0) := rfl

theorem s2al55 (w : World) : (Instr.alloc 55 true (.tuple #[])).run Try.prog w = .ok (.pointer (some ⟨w.heap.size, 0, none⟩)) (w.alloc (.cells ([.int .i64 0, .slice none 0 0] : List Value).toArray 55)) := by kernel_rfl
theorem s2al89 (w : World) : (Instr.alloc 89 true (.tuple #[])).run Try.prog w = .ok (.pointer (some ⟨w.heap.size, 0, none⟩)) (w.alloc (.cells ([.int .u8 0, .int .u8 0, .int .u8 0, .int .u8 0, .int .u8 0, .int .u8 0, .int .u8 0, .int .u8 0, .int .u8 0, .int .u8 0, .int .u8 0, .int .u8 0, .int .u8 0, .int .u8 0, .int .u8 0, .int .u8 0, .int .u8 0, .int .u8 0, .int .u8 0, .int .u8 0, .int .u8 0, .int .u8 0, .int .u8 0, .int .u8 0, .int .u8 0, .int .u8 0, .int .u8 0, .int .u8 0, .int .u8 0, .int .u8 0, .int .u8 0, .int .u8 0, .int .u8 0, .int .u8 0, .int .u8 0, .int .u8 0, .int .u8 0, .int .u8 0, .int .u8 0, .int .u8 0, .int .u8 0, .int .u8 0, .int .u8 0, .int .u8 0, .int .u8 0, .int .u8 0, .int .u8 0, .int .u8 0, .int .u8 0, .int .u8 0, .int .u8 0, .int .u8 0, .int .u8 0, .int .u8 0, .int .u8 0, .int .u8 0, .int .u8 0, .int .u8 0, .int .u8 0, .int .u8 0, .int .u8 0, .int .u8 0, .int .u8 0, .int .u8 0] : List Value).toArray 89)) := by kernel_rfl
theorem s2sa89 (w : World) (b o : Nat) : (Instr.sliceAt 89 (.pointer (some ⟨b, o, none⟩)) none none none).run Try.prog w = .ok (.slice (some ⟨b, o, none⟩) 64 64) w := by kernel_rfl
theorem s2ea89 (w : World) : (sizeOf 5).run Try.prog w = .ok 1 w := by kernel_rfl
theorem s2ua89 : Try.prog.underlying 89 = some (.array 64 5) := by kernel_rfl
theorem s2na5 (w : World) : (isAgg 5).run Try.prog w = .ok false w := by kernel_rfl
theorem s2sz55 : (Try.prog.info? 55).map (·.size) = some 2 := by kernel_rfl
theorem s2wd55 : Wide Try.prog 55 2 := wide_of (fun w => by kernel_rfl) (by kernel_rfl)
theorem s2sb89_25_64 (w : World) (b o : Nat) : (Instr.sliceAt 89 (.pointer (some ⟨b, o, none⟩)) (some (.int .i64 25)) none none).run Try.prog w = .ok (.slice (some ⟨b, o + 25, none⟩) 39 39) w := by kernel_rfl
theorem s2es24 (w : World) : (sizeOf (Try.prog.elem 24)).run Try.prog w = .ok 1 w := by kernel_rfl
theorem s2sb89_1_9 (w : World) (b o : Nat) : (Instr.sliceAt 89 (.pointer (some ⟨b, o, none⟩)) (some (.int .i64 1)) (some (.int .i64 9)) none).run Try.prog w = .ok (.slice (some ⟨b, o + 1, none⟩) 8 63) w := by kernel_rfl
theorem s2callable58 : Callable Try.prog 58 := ⟨_, Try.func58, by kernel_rfl, by kernel_rfl⟩
theorem s2sb89_9_17 (w : World) (b o : Nat) : (Instr.sliceAt 89 (.pointer (some ⟨b, o, none⟩)) (some (.int .i64 9)) (some (.int .i64 17)) none).run Try.prog w = .ok (.slice (some ⟨b, o + 9, none⟩) 8 55) w := by kernel_rfl
theorem s2sb89_17_21 (w : World) (b o : Nat) : (Instr.sliceAt 89 (.pointer (some ⟨b, o, none⟩)) (some (.int .i64 17)) (some (.int .i64 21)) none).run Try.prog w = .ok (.slice (some ⟨b, o + 17, none⟩) 4 47) w := by kernel_rfl
theorem s2mk24 : (Try.prog.info? 24).map (fun i => (i.zero, i.size, i.bytes)) = some (some (.slice none 0 0), 1, 24) := by kernel_rfl
theorem s2el22 : Elem Try.prog 22 24 (.slice none 0 0) 1 24 := elem_of Try.underlying22 s2mk24 (by rfl) (by decide)
theorem s2callable15 : Callable Try.prog 15 := ⟨_, Try.func15, by kernel_rfl, by kernel_rfl⟩
theorem s2sb89_21_25 (w : World) (b o : Nat) : (Instr.sliceAt 89 (.pointer (some ⟨b, o, none⟩)) (some (.int .i64 21)) (some (.int .i64 25)) none).run Try.prog w = .ok (.slice (some ⟨b, o + 21, none⟩) 4 43) w := by kernel_rfl
theorem s2mk5 : (Try.prog.info? 5).map (fun i => (i.zero, i.size, i.bytes)) = some (some (.int .u8 0), 1, 1) := by kernel_rfl
theorem s2el24 : Elem Try.prog 24 5 (.int .u8 0) 1 1 := elem_of Try.underlying24 s2mk5 (by rfl) (by decide)
set_option maxRecDepth 100000 in
set_option maxHeartbeats 2000000 in
theorem slotsCheckpoint (B : Base) (H : List Res) (w : World) (a : Option Addr) (n cap : Nat) (s : List UInt8) (i : Nat) (hn : s.length = n) (h64 : 64 ≤ n) (hok : SliceOk a n cap) (hr : RdV B H a (s.map B8)) (hi2 : i < 2) (hmx : n ≤ 1000000000) (hv : Inv B H w) :
    Calls Try.prog 50 #[.slice a n cap, .int .i64 (i : Int)] w (CkPost B H s i) := by
  obtain ⟨ab, aoff, rfl, -⟩ := hr 0 (by rw [List.length_map]; omega)
  have hn4 := num4 s 17
  have hs4 := num4 s 21
  have hcs := Crc.sum_lt (ckB s)
  refine (callsIn_wide (n := 5)).1 ?_
  refine callsIn_of_wp Try.func50 rfl trivial ?_
  simp only [Try.ntmps50, List.size_toArray, List.length_cons, List.length_nil, Nat.reduceAdd, Nat.reduceSub, Array.replicate_succ, Array.replicate_zero, List.push_toArray, List.append_toArray, List.nil_append, List.cons_append]
  refine wpIn_seq_k (fun K1 hK1 => ?_)
  refine wpIn_region_lit ?_
  refine sl_alloc (fun _ => trivial) (wn rfl) rfl hv s2al55 (fun b2 w3 hv => ?_)
  refine wpi_exG (v := .int .i64 0) (fun _ => trivial) (wn rfl) rfl (ex_assign rfl rfl) ?_
  refine wpi_exG (v := .bool false) (fun _ => trivial) (wn rfl) rfl (ex_assign rfl rfl) ?_
  refine wpListIn_nil ?_
  simp only [Act.put, List.setIfInBounds_toArray, List.set_cons_succ, List.set_cons_zero]
  refine then_normal (hK1 _ _ ?_)
  clear hK1 K1
  refine wpIn_seq_k (fun K4 hK4 => ?_)
  refine wpIn_region_lit ?_
  refine sl_alloc (fun _ => trivial) (wn rfl) rfl hv s2al89 (fun b5 w6 hv => ?_)
  refine wpListIn_nil ?_
  simp only [Act.put, List.setIfInBounds_toArray, List.set_cons_succ, List.set_cons_zero]
  refine then_normal (hK4 _ _ ?_)
  clear hK4 K4
  refine wpIn_seq_k (fun K7 hK7 => ?_)
  refine wpIn_region_lit ?_
  refine wpi_exG (v := .slice (some ⟨b5, 0, none⟩) 64 64) (fun _ => trivial) (wn rfl) rfl (ex_slice rfl rfl rfl rfl rfl (s2sa89 _ _ _)) ?_
  refine wpi_exG (v := .slice (some ⟨ab, aoff, none⟩) n cap) (fun _ => trivial) (wn rfl) rfl (ex_move rfl rfl) ?_
  rw [zeros64] at hv
  refine wpi_exG (v := .int .i64 64) (fun _ => trivial) (wn rfl) rfl (ex_copy rfl rfl rfl (run_copy_head (hv.get 0 rfl) hn h64 hok (hr.src (hv.tail 2)))) ?_
  replace hv := hv.putAt 0 rfl ((s.take 64).map B8)
  simp only [List.set_cons_succ, List.set_cons_zero] at hv
  refine wpListIn_nil ?_
  simp only [Act.put, List.setIfInBounds_toArray, List.set_cons_succ, List.set_cons_zero]
  refine then_normal (hK7 _ _ ?_)
  clear hK7 K7
  refine wpIn_seq_k (fun K8 hK8 => ?_)
  refine wpIn_seq_k (fun K9 hK9 => ?_)
  refine wpIn_region_lit ?_
  refine wpi_exG (v := .pointer (some ⟨b5, 0 + 0, none⟩)) (fun _ => trivial) (wn rfl) rfl (ex_index rfl rfl rfl (run_idxA1 (k := 0) s2ua89 s2ea89 (by omega))) ?_
  obtain ⟨c0, hc0⟩ : ∃ c0, s[0]? = some c0 := ⟨_, List.getElem?_eq_getElem (by omega)⟩
  refine wpi_exG (v := .int .u8 (c0.toNat : Int)) (fun _ => trivial) (wn rfl) rfl (ex_load rfl rfl (run_load1 s2na5 (hv.load 0 (0 + 0) rfl (head_get (by omega) hc0)))) ?_
  by_cases hb10 : (c0.toNat : Int) ≠ 83
  · skip
    refine wpi_exG (v := .bool true) (fun _ => trivial) (wn rfl) rfl (ex_neq (k := .u8) (m := (c0.toNat : Int)) (n := 83) rfl rfl rfl (decide_eq_true hb10)) ?_
    refine wpListIn_nil ?_
    simp only [Act.put, List.setIfInBounds_toArray, List.set_cons_succ, List.set_cons_zero]
    refine then_normal (hK9 _ _ ?_)
    clear hK9 K9
    refine wpIn_cond_true rfl ?_
    refine wpIn_seq_k (fun K11 hK11 => ?_)
    refine wpIn_region_lit ?_
    refine wpi_exG (v := .agg #[.int .i64 0, .slice none 0 0]) (fun _ => trivial) (wn rfl) rfl (ex_buildN (vs := #[]) rfl (by simp only [List.map_toArray, List.map_nil]) (by kernel_rfl)) ?_
    refine sl_storeNAt 1 (new := [.int .i64 0, .slice none 0 0]) (pre := []) (mid := [.int .i64 0, .slice none 0 0]) (post := []) (L' := [.int .i64 0, .slice none 0 0]) (fun _ => trivial) (wn rfl) rfl rfl rfl hv rfl s2sz55 rfl rfl rfl (one_cons rfl (one_cons rfl one_nil)) rfl (fun w12 hv => ?_)
    simp only [List.set_cons_succ, List.set_cons_zero] at hv
    refine wpi_exG (v := .int .i64 0) (fun _ => trivial) (wn rfl) rfl (ex_assign rfl rfl) ?_
    simp only [Act.put, List.setIfInBounds_toArray, List.set_cons_succ, List.set_cons_zero]
    refine wpi_exG (v := .bool false) (fun _ => trivial) (wn rfl) rfl (ex_assign rfl rfl) ?_
    refine wpListIn_nil ?_
    simp only [Act.put, List.setIfInBounds_toArray, List.set_cons_succ, List.set_cons_zero]
    refine then_normal (hK11 _ _ ?_)
    clear hK11 K11
    refine wpIn_ret ?_
    refine then_ret ?_
    clear hK8 K8
    refine bodyPost_ret (res_cell3 rfl rfl (run_load_mid (pre := []) (mid := [.int .i64 0, .slice none 0 0]) (post := []) s2wd55 (show Blk _ b2 ([] ++ [.int .i64 0, .slice none 0 0] ++ []) _ from hv.get 1 rfl) rfl)) rfl ?_
    exact .inl ⟨(fun h => by
      have := h.g1; have := h.g2; have := h.turn; have := h.stamp; have := h.n1; have := h.n2; have := h.sum; have h25 := h.zeros; have h83 := h.mark
      unfold ckG ckT ckN at *
      rw [hc0] at h83; simp only [Option.some.injEq] at h83; subst h83; exact hb10 rfl), rfl, hv.tail 2⟩
  · refine wpi_exG (v := .bool false) (fun _ => trivial) (wn rfl) rfl (ex_neq (k := .u8) (m := (c0.toNat : Int)) (n := 83) rfl rfl rfl (decide_eq_false hb10)) ?_
    refine wpListIn_nil ?_
    simp only [Act.put, List.setIfInBounds_toArray, List.set_cons_succ, List.set_cons_zero]
    refine then_normal (hK9 _ _ ?_)
    clear hK9 K9
    refine wpIn_cond_false rfl ?_
    refine wpIn_skip ?_
    refine then_normal (hK8 _ _ ?_)
    clear hK8 K8
    refine wpIn_seq_k (fun K13 hK13 => ?_)
    refine wpIn_seq_k (fun K14 hK14 => ?_)
    refine wpIn_region_lit ?_
    refine wpi_exG (v := .slice (some ⟨b5, 25, none⟩) 39 39) (fun _ => trivial) (wn rfl) rfl (ex_slice (lo' := (some (.int .i64 25))) (hi' := none) rfl rfl rfl rfl rfl (s2sb89_25_64 _ _ _)) ?_
    refine wpi_exG (v := .int .i64 39) (fun _ => trivial) (wn rfl) rfl (ex_len0 Try.underlying24 rfl rfl) ?_
    refine wpi_exG (v := .int .i64 0) (fun _ => trivial) (wn rfl) rfl (ex_move rfl rfl) ?_
    refine wpListIn_nil ?_
    simp only [Act.put, List.setIfInBounds_toArray, List.set_cons_succ, List.set_cons_zero]
    refine then_normal (hK14 _ _ ?_)
    clear hK14 K14
    refine wpIn_block ?_
    gi_loopw [23] (fun x23 wr => ∃ j : Nat, x23 = .int .i64 (j : Int) ∧ j ≤ 39 ∧ (∀ k, k < j → s[25 + k]? = some 0) ∧ Inv B (Res.cell b5 ((s.take 64).map B8) 89 :: Res.cell b2 [.int .i64 0, .slice none 0 0] 55 :: H) wr) (fun x23 _ => 39 - (intOf x23).toNat)
    case atStart => exact ⟨0, rfl, by omega, (fun k hk => by omega), hv⟩
    case round =>
      obtain ⟨j, rfl, hj, hzs, hv⟩ := hrel
      refine wpIn_seq_k (fun K16 hK16 => ?_)
      refine wpIn_region_lit ?_
      by_cases hb17 : (j : Int) < 39
      · refine wpi_exG (v := .bool true) (fun _ => trivial) (wn rfl) rfl (ex_lss (k := .i64) (m := (j : Int)) (n := 39) rfl rfl rfl (decide_eq_true hb17)) ?_
        refine wpListIn_nil ?_
        simp only [Act.put, List.setIfInBounds_toArray, List.set_cons_succ, List.set_cons_zero]
        refine then_normal (hK16 _ _ ?_)
        clear hK16 K16
        refine wpIn_seq_k (fun K18 hK18 => ?_)
        refine wpIn_cond_true rfl ?_
        refine wpIn_skip ?_
        refine then_normal (hK18 _ _ ?_)
        clear hK18 K18
        refine wpIn_seq_k (fun K19 hK19 => ?_)
        refine wpIn_block ?_
        refine wpIn_seq_k (fun K20 hK20 => ?_)
        refine wpIn_region_lit ?_
        refine wpi_exG (v := .pointer (some ⟨b5, 25 + j, none⟩)) (fun _ => trivial) (wn rfl) rfl (ex_index rfl rfl rfl (run_idx1 (k := j) Try.underlying24 s2es24 (by omega))) ?_
        obtain ⟨cj, hcj⟩ : ∃ cj, s[25 + j]? = some cj := ⟨_, List.getElem?_eq_getElem (by omega)⟩
        refine wpi_exG (v := .int .u8 (cj.toNat : Int)) (fun _ => trivial) (wn rfl) rfl (ex_load rfl rfl (run_load1 s2na5 (hv.load 0 (25 + j) rfl (head_get (by omega) hcj)))) ?_
        refine wpi_exG (v := .int .u8 (cj.toNat : Int)) (fun _ => trivial) (wn rfl) rfl (ex_assign rfl rfl) ?_
        refine wpListIn_nil ?_
        simp only [Act.put, List.setIfInBounds_toArray, List.set_cons_succ, List.set_cons_zero]
        refine then_normal (hK20 _ _ ?_)
        clear hK20 K20
        refine wpIn_seq_k (fun K21 hK21 => ?_)
        refine wpIn_region_lit ?_
        refine wpi_exG (v := .int .u8 (cj.toNat : Int)) (fun _ => trivial) (wn rfl) rfl (ex_move rfl rfl) ?_
        by_cases hb22 : (cj.toNat : Int) ≠ 0
        · skip
          refine wpi_exG (v := .bool true) (fun _ => trivial) (wn rfl) rfl (ex_neq (k := .u8) (m := (cj.toNat : Int)) (n := 0) rfl rfl rfl (decide_eq_true hb22)) ?_
          refine wpListIn_nil ?_
          simp only [Act.put, List.setIfInBounds_toArray, List.set_cons_succ, List.set_cons_zero]
          refine then_normal (hK21 _ _ ?_)
          clear hK21 K21
          refine wpIn_cond_true rfl ?_
          refine wpIn_seq_k (fun K23 hK23 => ?_)
          refine wpIn_region_lit ?_
          refine wpi_exG (v := .agg #[.int .i64 0, .slice none 0 0]) (fun _ => trivial) (wn rfl) rfl (ex_buildN (vs := #[]) rfl (by simp only [List.map_toArray, List.map_nil]) (by kernel_rfl)) ?_
          refine sl_storeNAt 1 (new := [.int .i64 0, .slice none 0 0]) (pre := []) (mid := [.int .i64 0, .slice none 0 0]) (post := []) (L' := [.int .i64 0, .slice none 0 0]) (fun _ => trivial) (wn rfl) rfl rfl rfl hv rfl s2sz55 rfl rfl rfl (one_cons rfl (one_cons rfl one_nil)) rfl (fun w24 hv => ?_)
          simp only [List.set_cons_succ, List.set_cons_zero] at hv
          refine wpi_exG (v := .int .i64 0) (fun _ => trivial) (wn rfl) rfl (ex_assign rfl rfl) ?_
          simp only [Act.put, List.setIfInBounds_toArray, List.set_cons_succ, List.set_cons_zero]
          refine wpi_exG (v := .bool false) (fun _ => trivial) (wn rfl) rfl (ex_assign rfl rfl) ?_
          refine wpListIn_nil ?_
          simp only [Act.put, List.setIfInBounds_toArray, List.set_cons_succ, List.set_cons_zero]
          refine then_normal (hK23 _ _ ?_)
          clear hK23 K23
          refine wpIn_ret ?_
          refine blk_ret ?_
          refine then_ret ?_
          clear hK19 K19
          refine then_ret ?_
          refine blk_ret ?_
          refine then_ret ?_
          clear hK13 K13
          refine bodyPost_ret (res_cell3 rfl rfl (run_load_mid (pre := []) (mid := [.int .i64 0, .slice none 0 0]) (post := []) s2wd55 (show Blk _ b2 ([] ++ [.int .i64 0, .slice none 0 0] ++ []) _ from hv.get 1 rfl) rfl)) rfl ?_
          exact .inl ⟨(fun h => by
            have := h.g1; have := h.g2; have := h.turn; have := h.stamp; have := h.n1; have := h.n2; have := h.sum; have h25 := h.zeros; have h83 := h.mark
            unfold ckG ckT ckN at *
            have := h25 j (by omega); rw [hcj] at this; simp only [Option.some.injEq] at this; subst this; simp at *), rfl, hv.tail 2⟩
        · refine wpi_exG (v := .bool false) (fun _ => trivial) (wn rfl) rfl (ex_neq (k := .u8) (m := (cj.toNat : Int)) (n := 0) rfl rfl rfl (decide_eq_false hb22)) ?_
          refine wpListIn_nil ?_
          simp only [Act.put, List.setIfInBounds_toArray, List.set_cons_succ, List.set_cons_zero]
          refine then_normal (hK21 _ _ ?_)
          clear hK21 K21
          refine wpIn_cond_false rfl ?_
          refine wpIn_skip ?_
          refine blk_normal ?_
          refine then_normal (hK19 _ _ ?_)
          clear hK19 K19
          refine wpIn_region_lit ?_
          refine wpi_exG (v := .int .i64 ((j : Int) + 1)) (fun _ => trivial) (wn rfl) rfl (ex_add (m := (j : Int)) (n := 1) rfl rfl rfl (i64_in (by omega))) ?_
          refine wpi_exG (v := .int .i64 ((j : Int) + 1)) (fun _ => trivial) (wn rfl) rfl (ex_move rfl rfl) ?_
          refine wpListIn_nil ?_
          simp only [Act.put, List.setIfInBounds_toArray, List.set_cons_succ, List.set_cons_zero]
          refine then_normal ?_
          go_roundw
          case rel => exact ⟨j + 1, by simp, by omega, (fun k hk => by
            by_cases e : k = j
            · subst e; rw [hcj]; congr 1; apply UInt8.toNat_inj.1; show cj.toNat = 0; omega
            · exact hzs k (by omega)), hv⟩
          case measure => show 39 - ((j : Int) + 1).toNat < 39 - (j : Int).toNat; omega
      · refine wpi_exG (v := .bool false) (fun _ => trivial) (wn rfl) rfl (ex_lss (k := .i64) (m := (j : Int)) (n := 39) rfl rfl rfl (decide_eq_false hb17)) ?_
        refine wpListIn_nil ?_
        simp only [Act.put, List.setIfInBounds_toArray, List.set_cons_succ, List.set_cons_zero]
        refine then_normal (hK16 _ _ ?_)
        clear hK16 K16
        refine wpIn_seq_k (fun K25 hK25 => ?_)
        refine wpIn_cond_false rfl ?_
        refine wpIn_exit ?_
        refine then_exit ?_
        clear hK25 K25
        refine then_exit ?_
        refine blk_hit ?_
        refine then_normal (hK13 _ _ ?_)
        clear hK13 K13
        refine wpIn_seq_k (fun K26 hK26 => ?_)
        refine wpIn_region_lit ?_
        refine wpi_exG (v := .slice (some ⟨b5, 1, none⟩) 8 63) (fun _ => trivial) (wn rfl) rfl (ex_slice (lo' := (some (.int .i64 1))) (hi' := (some (.int .i64 9))) rfl rfl rfl rfl rfl (s2sb89_1_9 _ _ _)) ?_
        refine wpi_callG s2callable58 (fun _ => trivial) wideC rfl (wn rfl) rfl (args := #[.slice (some ⟨b5, 1, none⟩) 8 63]) (by simp only [List.map_toArray, List.map_cons, List.map_nil]; rfl) ((slotsNumber _ _ _ _ 8 _ (piece s 1 8) (piece_length (by omega)) (by omega) (rd_head 0 rfl 1 8 (by omega) (by omega)) hv).mono ?_)
        rintro e w27 ⟨rfl, hv⟩
        refine ⟨_, rfl, ?_⟩
        have hbig11 := num8 s 1
        by_cases hneg11 : numOf (piece s 1 8) < 9223372036854775808
        · refine wpi_exG (v := .int .i64 (numOf (piece s 1 8) : Int)) (fun _ => trivial) (wn rfl) rfl (ex_int (m := (numOf (piece s 1 8) : Int)) Try.underlying114 Try.underlying3 rfl rfl (i64_in (by omega))) ?_
          simp only [Act.put, List.setIfInBounds_toArray, List.set_cons_succ, List.set_cons_zero]
          refine wpi_exG (v := .int .i64 (numOf (piece s 1 8) : Int)) (fun _ => trivial) (wn rfl) rfl (ex_assign rfl rfl) ?_
          refine wpListIn_nil ?_
          simp only [Act.put, List.setIfInBounds_toArray, List.set_cons_succ, List.set_cons_zero]
          refine then_normal (hK26 _ _ ?_)
          clear hK26 K26
          refine wpIn_seq_k (fun K28 hK28 => ?_)
          refine wpIn_seq_k (fun K29 hK29 => ?_)
          refine wpIn_region_lit ?_
          refine wpi_exG (v := .int .i64 (numOf (piece s 1 8) : Int)) (fun _ => trivial) (wn rfl) rfl (ex_move rfl rfl) ?_
          by_cases hb30 : (numOf (piece s 1 8) : Int) < 1
          · refine wpi_exG (v := .bool true) (fun _ => trivial) (wn rfl) rfl (ex_lss (k := .i64) (m := (numOf (piece s 1 8) : Int)) (n := 1) rfl rfl rfl (decide_eq_true hb30)) ?_
            refine wpi_exG (v := .bool true) (fun _ => trivial) (wn rfl) rfl (ex_move rfl rfl) ?_
            simp only [Act.put, List.setIfInBounds_toArray, List.set_cons_succ, List.set_cons_zero]
            refine wpi_not (fun _ => trivial) (wanted_not (j := 2) (d := 36) (b := false) (b' := true) rfl rfl rfl (by decide)) ?_
            refine wpi_not (fun _ => trivial) (wanted_not (j := 2) (d := 36) (b := false) (b' := true) rfl rfl rfl (by decide)) ?_
            refine wpi_not (fun _ => trivial) (wanted_not (j := 2) (d := 36) (b := false) (b' := true) rfl rfl rfl (by decide)) ?_
            simp only [Act.put, List.setIfInBounds_toArray, List.set_cons_succ, List.set_cons_zero]
            refine wpi_not (fun _ => trivial) (wanted_not (j := 2) (d := 36) (b := false) (b' := true) rfl rfl rfl (by decide)) ?_
            refine wpi_exG (v := .bool true) (fun _ => trivial) (wn rfl) rfl (ex_pick (b := true) rfl rfl rfl) ?_
            refine wpListIn_nil ?_
            simp only [Act.put, List.setIfInBounds_toArray, List.set_cons_succ, List.set_cons_zero]
            refine then_normal (hK29 _ _ ?_)
            clear hK29 K29
            refine wpIn_cond_true rfl ?_
            refine wpIn_seq_k (fun K31 hK31 => ?_)
            refine wpIn_region_lit ?_
            refine wpi_exG (v := .agg #[.int .i64 0, .slice none 0 0]) (fun _ => trivial) (wn rfl) rfl (ex_buildN (vs := #[]) rfl (by simp only [List.map_toArray, List.map_nil]) (by kernel_rfl)) ?_
            refine sl_storeNAt 1 (new := [.int .i64 0, .slice none 0 0]) (pre := []) (mid := [.int .i64 0, .slice none 0 0]) (post := []) (L' := [.int .i64 0, .slice none 0 0]) (fun _ => trivial) (wn rfl) rfl rfl rfl hv rfl s2sz55 rfl rfl rfl (one_cons rfl (one_cons rfl one_nil)) rfl (fun w32 hv => ?_)
            simp only [List.set_cons_succ, List.set_cons_zero] at hv
            refine wpi_exG (v := .int .i64 0) (fun _ => trivial) (wn rfl) rfl (ex_assign rfl rfl) ?_
            simp only [Act.put, List.setIfInBounds_toArray, List.set_cons_succ, List.set_cons_zero]
            refine wpi_exG (v := .bool false) (fun _ => trivial) (wn rfl) rfl (ex_assign rfl rfl) ?_
            refine wpListIn_nil ?_
            simp only [Act.put, List.setIfInBounds_toArray, List.set_cons_succ, List.set_cons_zero]
            refine then_normal (hK31 _ _ ?_)
            clear hK31 K31
            refine wpIn_ret ?_
            refine then_ret ?_
            clear hK28 K28
            refine bodyPost_ret (res_cell3 rfl rfl (run_load_mid (pre := []) (mid := [.int .i64 0, .slice none 0 0]) (post := []) s2wd55 (show Blk _ b2 ([] ++ [.int .i64 0, .slice none 0 0] ++ []) _ from hv.get 1 rfl) rfl)) rfl ?_
            exact .inl ⟨(fun h => by
              have := h.g1; have := h.g2; have := h.turn; have := h.stamp; have := h.n1; have := h.n2; have := h.sum; have h25 := h.zeros; have h83 := h.mark
              unfold ckG ckT ckN at *
              omega), rfl, hv.tail 2⟩
          · refine wpi_exG (v := .bool false) (fun _ => trivial) (wn rfl) rfl (ex_lss (k := .i64) (m := (numOf (piece s 1 8) : Int)) (n := 1) rfl rfl rfl (decide_eq_false hb30)) ?_
            refine wpi_exG (v := .bool false) (fun _ => trivial) (wn rfl) rfl (ex_move rfl rfl) ?_
            simp only [Act.put, List.setIfInBounds_toArray, List.set_cons_succ, List.set_cons_zero]
            refine wpi_exG (v := .int .i64 (numOf (piece s 1 8) : Int)) (fun _ => trivial) (wanted_of (j := 2) (d := 36) (b := false) rfl rfl rfl) rfl (ex_move rfl rfl) ?_
            refine wpi_exG (v := .int .i64 ((numOf (piece s 1 8) % 2 : Nat) : Int)) (fun _ => trivial) (wanted_of (j := 2) (d := 36) (b := false) rfl rfl rfl) rfl (ex_rem (m := (numOf (piece s 1 8) : Int)) (n := 2) rfl rfl rfl (by decide) (tmod2 _)) ?_
            refine wpi_exG (v := .int .i64 (i : Int)) (fun _ => trivial) (wanted_of (j := 2) (d := 36) (b := false) rfl rfl rfl) rfl (ex_move rfl rfl) ?_
            simp only [Act.put, List.setIfInBounds_toArray, List.set_cons_succ, List.set_cons_zero]
            by_cases hb33 : ((numOf (piece s 1 8) % 2 : Nat) : Int) ≠ (i : Int)
            · refine wpi_exG (v := .bool true) (fun _ => trivial) (wanted_of (j := 2) (d := 36) (b := false) rfl rfl rfl) rfl (ex_neq (k := .i64) (m := ((numOf (piece s 1 8) % 2 : Nat) : Int)) (n := (i : Int)) rfl rfl rfl (decide_eq_true hb33)) ?_
              refine wpi_exG (v := .bool true) (fun _ => trivial) (wn rfl) rfl (ex_pick (b := false) rfl rfl rfl) ?_
              refine wpListIn_nil ?_
              simp only [Act.put, List.setIfInBounds_toArray, List.set_cons_succ, List.set_cons_zero]
              refine then_normal (hK29 _ _ ?_)
              clear hK29 K29
              refine wpIn_cond_true rfl ?_
              refine wpIn_seq_k (fun K34 hK34 => ?_)
              refine wpIn_region_lit ?_
              refine wpi_exG (v := .agg #[.int .i64 0, .slice none 0 0]) (fun _ => trivial) (wn rfl) rfl (ex_buildN (vs := #[]) rfl (by simp only [List.map_toArray, List.map_nil]) (by kernel_rfl)) ?_
              refine sl_storeNAt 1 (new := [.int .i64 0, .slice none 0 0]) (pre := []) (mid := [.int .i64 0, .slice none 0 0]) (post := []) (L' := [.int .i64 0, .slice none 0 0]) (fun _ => trivial) (wn rfl) rfl rfl rfl hv rfl s2sz55 rfl rfl rfl (one_cons rfl (one_cons rfl one_nil)) rfl (fun w35 hv => ?_)
              simp only [List.set_cons_succ, List.set_cons_zero] at hv
              refine wpi_exG (v := .int .i64 0) (fun _ => trivial) (wn rfl) rfl (ex_assign rfl rfl) ?_
              simp only [Act.put, List.setIfInBounds_toArray, List.set_cons_succ, List.set_cons_zero]
              refine wpi_exG (v := .bool false) (fun _ => trivial) (wn rfl) rfl (ex_assign rfl rfl) ?_
              refine wpListIn_nil ?_
              simp only [Act.put, List.setIfInBounds_toArray, List.set_cons_succ, List.set_cons_zero]
              refine then_normal (hK34 _ _ ?_)
              clear hK34 K34
              refine wpIn_ret ?_
              refine then_ret ?_
              clear hK28 K28
              refine bodyPost_ret (res_cell3 rfl rfl (run_load_mid (pre := []) (mid := [.int .i64 0, .slice none 0 0]) (post := []) s2wd55 (show Blk _ b2 ([] ++ [.int .i64 0, .slice none 0 0] ++ []) _ from hv.get 1 rfl) rfl)) rfl ?_
              exact .inl ⟨(fun h => by
                have := h.g1; have := h.g2; have := h.turn; have := h.stamp; have := h.n1; have := h.n2; have := h.sum; have h25 := h.zeros; have h83 := h.mark
                unfold ckG ckT ckN at *
                omega), rfl, hv.tail 2⟩
            · refine wpi_exG (v := .bool false) (fun _ => trivial) (wanted_of (j := 2) (d := 36) (b := false) rfl rfl rfl) rfl (ex_neq (k := .i64) (m := ((numOf (piece s 1 8) % 2 : Nat) : Int)) (n := (i : Int)) rfl rfl rfl (decide_eq_false hb33)) ?_
              refine wpi_exG (v := .bool false) (fun _ => trivial) (wn rfl) rfl (ex_pick (b := false) rfl rfl rfl) ?_
              refine wpListIn_nil ?_
              simp only [Act.put, List.setIfInBounds_toArray, List.set_cons_succ, List.set_cons_zero]
              refine then_normal (hK29 _ _ ?_)
              clear hK29 K29
              refine wpIn_cond_false rfl ?_
              refine wpIn_skip ?_
              refine then_normal (hK28 _ _ ?_)
              clear hK28 K28
              refine wpIn_seq_k (fun K36 hK36 => ?_)
              refine wpIn_region_lit ?_
              refine wpi_exG (v := .slice (some ⟨b5, 9, none⟩) 8 55) (fun _ => trivial) (wn rfl) rfl (ex_slice (lo' := (some (.int .i64 9))) (hi' := (some (.int .i64 17))) rfl rfl rfl rfl rfl (s2sb89_9_17 _ _ _)) ?_
              refine wpi_callG s2callable58 (fun _ => trivial) wideC rfl (wn rfl) rfl (args := #[.slice (some ⟨b5, 9, none⟩) 8 55]) (by simp only [List.map_toArray, List.map_cons, List.map_nil]; rfl) ((slotsNumber _ _ _ _ 8 _ (piece s 9 8) (piece_length (by omega)) (by omega) (rd_head 0 rfl 9 8 (by omega) (by omega)) hv).mono ?_)
              rintro e w37 ⟨rfl, hv⟩
              refine ⟨_, rfl, ?_⟩
              have hbig14 := num8 s 9
              by_cases hneg14 : numOf (piece s 9 8) < 9223372036854775808
              · refine wpi_exG (v := .int .i64 (numOf (piece s 9 8) : Int)) (fun _ => trivial) (wn rfl) rfl (ex_int (m := (numOf (piece s 9 8) : Int)) Try.underlying114 Try.underlying3 rfl rfl (i64_in (by omega))) ?_
                simp only [Act.put, List.setIfInBounds_toArray, List.set_cons_succ, List.set_cons_zero]
                refine wpi_exG (v := .int .i64 (numOf (piece s 9 8) : Int)) (fun _ => trivial) (wn rfl) rfl (ex_assign rfl rfl) ?_
                refine wpListIn_nil ?_
                simp only [Act.put, List.setIfInBounds_toArray, List.set_cons_succ, List.set_cons_zero]
                refine then_normal (hK36 _ _ ?_)
                clear hK36 K36
                refine wpIn_seq_k (fun K38 hK38 => ?_)
                refine wpIn_seq_k (fun K39 hK39 => ?_)
                refine wpIn_region_lit ?_
                refine wpi_exG (v := .int .i64 (numOf (piece s 9 8) : Int)) (fun _ => trivial) (wn rfl) rfl (ex_move rfl rfl) ?_
                refine wpi_exG (v := .bool false) (fun _ => trivial) (wn rfl) rfl (ex_lss (k := .i64) (m := (numOf (piece s 9 8) : Int)) (n := 0) rfl rfl rfl (decide_eq_false (by omega))) ?_
                refine wpi_exG (v := .bool false) (fun _ => trivial) (wn rfl) rfl (ex_move rfl rfl) ?_
                simp only [Act.put, List.setIfInBounds_toArray, List.set_cons_succ, List.set_cons_zero]
                refine wpi_exG (v := .int .i64 (numOf (piece s 9 8) : Int)) (fun _ => trivial) (wanted_of (j := 2) (d := 48) (b := false) rfl rfl rfl) rfl (ex_move rfl rfl) ?_
                by_cases hb40 : (numOf (piece s 9 8) : Int) > 1152921504606846975
                · refine wpi_exG (v := .bool true) (fun _ => trivial) (wanted_of (j := 2) (d := 48) (b := false) rfl rfl rfl) rfl (ex_gtr (k := .i64) (m := (numOf (piece s 9 8) : Int)) (n := 1152921504606846975) rfl rfl rfl (decide_eq_true hb40)) ?_
                  refine wpi_exG (v := .bool true) (fun _ => trivial) (wn rfl) rfl (ex_pick (b := false) rfl rfl rfl) ?_
                  refine wpListIn_nil ?_
                  simp only [Act.put, List.setIfInBounds_toArray, List.set_cons_succ, List.set_cons_zero]
                  refine then_normal (hK39 _ _ ?_)
                  clear hK39 K39
                  refine wpIn_cond_true rfl ?_
                  refine wpIn_seq_k (fun K41 hK41 => ?_)
                  refine wpIn_region_lit ?_
                  refine wpi_exG (v := .agg #[.int .i64 0, .slice none 0 0]) (fun _ => trivial) (wn rfl) rfl (ex_buildN (vs := #[]) rfl (by simp only [List.map_toArray, List.map_nil]) (by kernel_rfl)) ?_
                  refine sl_storeNAt 1 (new := [.int .i64 0, .slice none 0 0]) (pre := []) (mid := [.int .i64 0, .slice none 0 0]) (post := []) (L' := [.int .i64 0, .slice none 0 0]) (fun _ => trivial) (wn rfl) rfl rfl rfl hv rfl s2sz55 rfl rfl rfl (one_cons rfl (one_cons rfl one_nil)) rfl (fun w42 hv => ?_)
                  simp only [List.set_cons_succ, List.set_cons_zero] at hv
                  refine wpi_exG (v := .int .i64 0) (fun _ => trivial) (wn rfl) rfl (ex_assign rfl rfl) ?_
                  simp only [Act.put, List.setIfInBounds_toArray, List.set_cons_succ, List.set_cons_zero]
                  refine wpi_exG (v := .bool false) (fun _ => trivial) (wn rfl) rfl (ex_assign rfl rfl) ?_
                  refine wpListIn_nil ?_
                  simp only [Act.put, List.setIfInBounds_toArray, List.set_cons_succ, List.set_cons_zero]
                  refine then_normal (hK41 _ _ ?_)
                  clear hK41 K41
                  refine wpIn_ret ?_
                  refine then_ret ?_
                  clear hK38 K38
                  refine bodyPost_ret (res_cell3 rfl rfl (run_load_mid (pre := []) (mid := [.int .i64 0, .slice none 0 0]) (post := []) s2wd55 (show Blk _ b2 ([] ++ [.int .i64 0, .slice none 0 0] ++ []) _ from hv.get 1 rfl) rfl)) rfl ?_
                  exact .inl ⟨(fun h => by
                    have := h.g1; have := h.g2; have := h.turn; have := h.stamp; have := h.n1; have := h.n2; have := h.sum; have h25 := h.zeros; have h83 := h.mark
                    unfold ckG ckT ckN at *
                    omega), rfl, hv.tail 2⟩
                · refine wpi_exG (v := .bool false) (fun _ => trivial) (wanted_of (j := 2) (d := 48) (b := false) rfl rfl rfl) rfl (ex_gtr (k := .i64) (m := (numOf (piece s 9 8) : Int)) (n := 1152921504606846975) rfl rfl rfl (decide_eq_false hb40)) ?_
                  refine wpi_exG (v := .bool false) (fun _ => trivial) (wn rfl) rfl (ex_pick (b := false) rfl rfl rfl) ?_
                  refine wpListIn_nil ?_
                  simp only [Act.put, List.setIfInBounds_toArray, List.set_cons_succ, List.set_cons_zero]
                  refine then_normal (hK39 _ _ ?_)
                  clear hK39 K39
                  refine wpIn_cond_false rfl ?_
                  refine wpIn_skip ?_
                  refine then_normal (hK38 _ _ ?_)
                  clear hK38 K38
                  refine wpIn_seq_k (fun K43 hK43 => ?_)
                  refine wpIn_region_lit ?_
                  refine wpi_exG (v := .slice (some ⟨b5, 17, none⟩) 4 47) (fun _ => trivial) (wn rfl) rfl (ex_slice (lo' := (some (.int .i64 17))) (hi' := (some (.int .i64 21))) rfl rfl rfl rfl rfl (s2sb89_17_21 _ _ _)) ?_
                  refine wpi_callG s2callable58 (fun _ => trivial) wideC rfl (wn rfl) rfl (args := #[.slice (some ⟨b5, 17, none⟩) 4 47]) (by simp only [List.map_toArray, List.map_cons, List.map_nil]; rfl) ((slotsNumber _ _ _ _ 4 _ (piece s 17 4) (piece_length (by omega)) (by omega) (rd_head 0 rfl 17 4 (by omega) (by omega)) hv).mono ?_)
                  rintro e w44 ⟨rfl, hv⟩
                  refine ⟨_, rfl, ?_⟩
                  refine wpi_exG (v := .int .i64 (numOf (piece s 17 4) : Int)) (fun _ => trivial) (wn rfl) rfl (ex_int (m := (numOf (piece s 17 4) : Int)) Try.underlying114 Try.underlying3 rfl rfl (i64_in (by omega))) ?_
                  simp only [Act.put, List.setIfInBounds_toArray, List.set_cons_succ, List.set_cons_zero]
                  refine wpi_exG (v := .int .i64 (numOf (piece s 17 4) : Int)) (fun _ => trivial) (wn rfl) rfl (ex_assign rfl rfl) ?_
                  refine wpListIn_nil ?_
                  simp only [Act.put, List.setIfInBounds_toArray, List.set_cons_succ, List.set_cons_zero]
                  refine then_normal (hK43 _ _ ?_)
                  clear hK43 K43
                  refine wpIn_seq_k (fun K45 hK45 => ?_)
                  refine wpIn_seq_k (fun K46 hK46 => ?_)
                  refine wpIn_region_lit ?_
                  refine wpi_exG (v := .int .i64 (numOf (piece s 17 4) : Int)) (fun _ => trivial) (wn rfl) rfl (ex_move rfl rfl) ?_
                  by_cases hb47 : (numOf (piece s 17 4) : Int) > 1048576
                  · refine wpi_exG (v := .bool true) (fun _ => trivial) (wn rfl) rfl (ex_gtr (k := .i64) (m := (numOf (piece s 17 4) : Int)) (n := 1048576) rfl rfl rfl (decide_eq_true hb47)) ?_
                    refine wpi_exG (v := .bool true) (fun _ => trivial) (wn rfl) rfl (ex_move rfl rfl) ?_
                    simp only [Act.put, List.setIfInBounds_toArray, List.set_cons_succ, List.set_cons_zero]
                    refine wpi_not (fun _ => trivial) (wanted_not (j := 2) (d := 58) (b := false) (b' := true) rfl rfl rfl (by decide)) ?_
                    refine wpi_not (fun _ => trivial) (wanted_not (j := 2) (d := 58) (b := false) (b' := true) rfl rfl rfl (by decide)) ?_
                    refine wpi_not (fun _ => trivial) (wanted_not (j := 2) (d := 58) (b := false) (b' := true) rfl rfl rfl (by decide)) ?_
                    simp only [Act.put, List.setIfInBounds_toArray, List.set_cons_succ, List.set_cons_zero]
                    refine wpi_not (fun _ => trivial) (wanted_not (j := 2) (d := 58) (b := false) (b' := true) rfl rfl rfl (by decide)) ?_
                    refine wpi_not (fun _ => trivial) (wanted_not (j := 2) (d := 58) (b := false) (b' := true) rfl rfl rfl (by decide)) ?_
                    refine wpi_exG (v := .bool true) (fun _ => trivial) (wn rfl) rfl (ex_pick (b := true) rfl rfl rfl) ?_
                    refine wpListIn_nil ?_
                    simp only [Act.put, List.setIfInBounds_toArray, List.set_cons_succ, List.set_cons_zero]
                    refine then_normal (hK46 _ _ ?_)
                    clear hK46 K46
                    refine wpIn_cond_true rfl ?_
                    refine wpIn_seq_k (fun K48 hK48 => ?_)
                    refine wpIn_region_lit ?_
                    refine wpi_exG (v := .agg #[.int .i64 0, .slice none 0 0]) (fun _ => trivial) (wn rfl) rfl (ex_buildN (vs := #[]) rfl (by simp only [List.map_toArray, List.map_nil]) (by kernel_rfl)) ?_
                    refine sl_storeNAt 1 (new := [.int .i64 0, .slice none 0 0]) (pre := []) (mid := [.int .i64 0, .slice none 0 0]) (post := []) (L' := [.int .i64 0, .slice none 0 0]) (fun _ => trivial) (wn rfl) rfl rfl rfl hv rfl s2sz55 rfl rfl rfl (one_cons rfl (one_cons rfl one_nil)) rfl (fun w49 hv => ?_)
                    simp only [List.set_cons_succ, List.set_cons_zero] at hv
                    refine wpi_exG (v := .int .i64 0) (fun _ => trivial) (wn rfl) rfl (ex_assign rfl rfl) ?_
                    simp only [Act.put, List.setIfInBounds_toArray, List.set_cons_succ, List.set_cons_zero]
                    refine wpi_exG (v := .bool false) (fun _ => trivial) (wn rfl) rfl (ex_assign rfl rfl) ?_
                    refine wpListIn_nil ?_
                    simp only [Act.put, List.setIfInBounds_toArray, List.set_cons_succ, List.set_cons_zero]
                    refine then_normal (hK48 _ _ ?_)
                    clear hK48 K48
                    refine wpIn_ret ?_
                    refine then_ret ?_
                    clear hK45 K45
                    refine bodyPost_ret (res_cell3 rfl rfl (run_load_mid (pre := []) (mid := [.int .i64 0, .slice none 0 0]) (post := []) s2wd55 (show Blk _ b2 ([] ++ [.int .i64 0, .slice none 0 0] ++ []) _ from hv.get 1 rfl) rfl)) rfl ?_
                    exact .inl ⟨(fun h => by
                      have := h.g1; have := h.g2; have := h.turn; have := h.stamp; have := h.n1; have := h.n2; have := h.sum; have h25 := h.zeros; have h83 := h.mark
                      unfold ckG ckT ckN at *
                      omega), rfl, hv.tail 2⟩
                  · refine wpi_exG (v := .bool false) (fun _ => trivial) (wn rfl) rfl (ex_gtr (k := .i64) (m := (numOf (piece s 17 4) : Int)) (n := 1048576) rfl rfl rfl (decide_eq_false hb47)) ?_
                    refine wpi_exG (v := .bool false) (fun _ => trivial) (wn rfl) rfl (ex_move rfl rfl) ?_
                    simp only [Act.put, List.setIfInBounds_toArray, List.set_cons_succ, List.set_cons_zero]
                    refine wpi_exG (v := .int .i64 (numOf (piece s 17 4) : Int)) (fun _ => trivial) (wanted_of (j := 2) (d := 58) (b := false) rfl rfl rfl) rfl (ex_move rfl rfl) ?_
                    refine wpi_exG (v := .slice (some ⟨ab, aoff, none⟩) n cap) (fun _ => trivial) (wanted_of (j := 2) (d := 58) (b := false) rfl rfl rfl) rfl (ex_move rfl rfl) ?_
                    refine wpi_exG (v := .int .i64 (n : Int)) (fun _ => trivial) (wanted_of (j := 2) (d := 58) (b := false) rfl rfl rfl) rfl (ex_len0 Try.underlying24 rfl rfl) ?_
                    simp only [Act.put, List.setIfInBounds_toArray, List.set_cons_succ, List.set_cons_zero]
                    refine wpi_exG (v := .int .i64 ((n : Int) - 64)) (fun _ => trivial) (wanted_of (j := 2) (d := 58) (b := false) rfl rfl rfl) rfl (ex_sub (m := (n : Int)) (n := 64) rfl rfl rfl (i64_in (by omega))) ?_
                    by_cases hb50 : (numOf (piece s 17 4) : Int) > ((n : Int) - 64)
                    · refine wpi_exG (v := .bool true) (fun _ => trivial) (wanted_of (j := 2) (d := 58) (b := false) rfl rfl rfl) rfl (ex_gtr (k := .i64) (m := (numOf (piece s 17 4) : Int)) (n := ((n : Int) - 64)) rfl rfl rfl (decide_eq_true hb50)) ?_
                      refine wpi_exG (v := .bool true) (fun _ => trivial) (wn rfl) rfl (ex_pick (b := false) rfl rfl rfl) ?_
                      refine wpListIn_nil ?_
                      simp only [Act.put, List.setIfInBounds_toArray, List.set_cons_succ, List.set_cons_zero]
                      refine then_normal (hK46 _ _ ?_)
                      clear hK46 K46
                      refine wpIn_cond_true rfl ?_
                      refine wpIn_seq_k (fun K51 hK51 => ?_)
                      refine wpIn_region_lit ?_
                      refine wpi_exG (v := .agg #[.int .i64 0, .slice none 0 0]) (fun _ => trivial) (wn rfl) rfl (ex_buildN (vs := #[]) rfl (by simp only [List.map_toArray, List.map_nil]) (by kernel_rfl)) ?_
                      refine sl_storeNAt 1 (new := [.int .i64 0, .slice none 0 0]) (pre := []) (mid := [.int .i64 0, .slice none 0 0]) (post := []) (L' := [.int .i64 0, .slice none 0 0]) (fun _ => trivial) (wn rfl) rfl rfl rfl hv rfl s2sz55 rfl rfl rfl (one_cons rfl (one_cons rfl one_nil)) rfl (fun w52 hv => ?_)
                      simp only [List.set_cons_succ, List.set_cons_zero] at hv
                      refine wpi_exG (v := .int .i64 0) (fun _ => trivial) (wn rfl) rfl (ex_assign rfl rfl) ?_
                      simp only [Act.put, List.setIfInBounds_toArray, List.set_cons_succ, List.set_cons_zero]
                      refine wpi_exG (v := .bool false) (fun _ => trivial) (wn rfl) rfl (ex_assign rfl rfl) ?_
                      refine wpListIn_nil ?_
                      simp only [Act.put, List.setIfInBounds_toArray, List.set_cons_succ, List.set_cons_zero]
                      refine then_normal (hK51 _ _ ?_)
                      clear hK51 K51
                      refine wpIn_ret ?_
                      refine then_ret ?_
                      clear hK45 K45
                      refine bodyPost_ret (res_cell3 rfl rfl (run_load_mid (pre := []) (mid := [.int .i64 0, .slice none 0 0]) (post := []) s2wd55 (show Blk _ b2 ([] ++ [.int .i64 0, .slice none 0 0] ++ []) _ from hv.get 1 rfl) rfl)) rfl ?_
                      exact .inl ⟨(fun h => by
                        have := h.g1; have := h.g2; have := h.turn; have := h.stamp; have := h.n1; have := h.n2; have := h.sum; have h25 := h.zeros; have h83 := h.mark
                        unfold ckG ckT ckN at *
                        omega), rfl, hv.tail 2⟩
                    · refine wpi_exG (v := .bool false) (fun _ => trivial) (wanted_of (j := 2) (d := 58) (b := false) rfl rfl rfl) rfl (ex_gtr (k := .i64) (m := (numOf (piece s 17 4) : Int)) (n := ((n : Int) - 64)) rfl rfl rfl (decide_eq_false hb50)) ?_
                      refine wpi_exG (v := .bool false) (fun _ => trivial) (wn rfl) rfl (ex_pick (b := false) rfl rfl rfl) ?_
                      refine wpListIn_nil ?_
                      simp only [Act.put, List.setIfInBounds_toArray, List.set_cons_succ, List.set_cons_zero]
                      refine then_normal (hK46 _ _ ?_)
                      clear hK46 K46
                      refine wpIn_cond_false rfl ?_
                      refine wpIn_skip ?_
                      refine then_normal (hK45 _ _ ?_)
                      clear hK45 K45
                      refine wpIn_seq_k (fun K53 hK53 => ?_)
                      refine wpIn_region_lit ?_
                      refine wpi_exG (v := .slice (some ⟨ab, aoff, none⟩) n cap) (fun _ => trivial) (wn rfl) rfl (ex_move rfl rfl) ?_
                      refine wpi_exG (v := .int .i64 (numOf (piece s 17 4) : Int)) (fun _ => trivial) (wn rfl) rfl (ex_move rfl rfl) ?_
                      refine wpi_exG (v := .int .i64 ((64 + numOf (piece s 17 4) : Nat) : Int)) (fun _ => trivial) (wn rfl) rfl (ex_add (m := 64) (n := (numOf (piece s 17 4) : Int)) rfl rfl rfl (by rw [i64_in (by omega)]; omega)) ?_
                      simp only [Act.put, List.setIfInBounds_toArray, List.set_cons_succ, List.set_cons_zero]
                      obtain ⟨bad, hbs, hbok, hbr⟩ := body_slice (k := numOf (piece s 17 4)) hn hok hr (by omega)
                      refine wpi_exG (v := .slice bad (numOf (piece s 17 4)) (cap - 64)) (fun _ => trivial) (wn rfl) rfl (ex_slice (lo' := some (.int .i64 64)) (hi' := some (.int .i64 ((64 + numOf (piece s 17 4) : Nat) : Int))) rfl rfl rfl rfl rfl (hbs _)) ?_
                      refine wpi_exG (v := .slice bad (numOf (piece s 17 4)) (cap - 64)) (fun _ => trivial) (wn rfl) rfl (ex_assign rfl rfl) ?_
                      refine wpListIn_nil ?_
                      simp only [Act.put, List.setIfInBounds_toArray, List.set_cons_succ, List.set_cons_zero]
                      refine then_normal (hK53 _ _ ?_)
                      clear hK53 K53
                      refine wpIn_seq_k (fun K54 hK54 => ?_)
                      refine wpIn_seq_k (fun K55 hK55 => ?_)
                      by_cases hb60 : (Crc.sum (ckB s) : Int) ≠ (numOf (piece s 21 4) : Int)
                      · refine region_st mixed [.slice bad (numOf (piece s 17 4)) (cap - 64), undef, undef, .int .u64 (Crc.sum (ckB s) : Int), .slice (some ⟨b5, 21, none⟩) 4 43, undef, .bool true] [1, 2, 5] [⟨fun vals w => vals = [] ∧ Inv B (Res.cell b5 ((s.take 64).map B8) 89 :: Res.cell b2 [.int .i64 0, .slice none 0 0] 55 :: H) w, fun _ _ _ ⟨h, hi⟩ he => ⟨h, hi.ext he⟩⟩, ⟨fun vals w => ∃ b61, vals = [.slice (some ⟨b61, 0, none⟩) 1 1] ∧ Inv B (Res.cell b61 [.slice bad (numOf (piece s 17 4)) (cap - 64)] 24 :: Res.cell b5 ((s.take 64).map B8) 89 :: Res.cell b2 [.int .i64 0, .slice none 0 0] 55 :: H) w, fun _ _ _ ⟨b61, h, hi⟩ he => ⟨b61, h, hi.ext he⟩⟩, ⟨fun vals w => ∃ b61, vals = [.slice (some ⟨b61, 0, none⟩) 1 1, .int .u32 (Crc.sum (ckB s) : Int)] ∧ Inv B (Res.cell b61 [.slice bad (numOf (piece s 17 4)) (cap - 64)] 24 :: Res.cell b5 ((s.take 64).map B8) 89 :: Res.cell b2 [.int .i64 0, .slice none 0 0] 55 :: H) w, fun _ _ _ ⟨b61, h, hi⟩ he => ⟨b61, h, hi.ext he⟩⟩, ⟨fun vals w => ∃ b61, vals = [.slice (some ⟨b61, 0, none⟩) 1 1, .int .u32 (Crc.sum (ckB s) : Int), .int .u64 (numOf (piece s 21 4) : Int)] ∧ Inv B (Res.cell b61 [.slice bad (numOf (piece s 17 4)) (cap - 64)] 24 :: Res.cell b5 ((s.take 64).map B8) 89 :: Res.cell b2 [.int .i64 0, .slice none 0 0] 55 :: H) w, fun _ _ _ ⟨b61, h, hi⟩ he => ⟨b61, h, hi.ext he⟩⟩] 83 rfl (by kernel_rfl) ⟨rfl, hv⟩ ⟨?_, ?_, ?_, ?_, ?_, ?_, ?_, trivial⟩ ?_
                        · intro aa ww vals hJ hR
                          exact add_step' rfl (Ex.adds' (ex_move rfl (show aa.eval (.tmp 13) = _ from hR.keep 13 rfl)) (wn rfl) rfl)
                        · intro aa ww vals hJ hR
                          refine mem_step' rfl fun hvl => ?_
                          have hl : vals.length = 0 := hvl
                          obtain ⟨hvals, hv⟩ := hJ.at0 hl
                          refine mem_row1 (v := .slice bad (numOf (piece s 17 4)) (cap - 64)) (wn rfl) rfl (show aa.eval (.tmp 70) = _ from hR.v 0 70 rfl rfl rfl rfl) hv s2el22 rfl (fun b61 w62 hv => ?_)
                          exact JS.next hl ⟨b61, by rw [hvals]; rfl, hv⟩
                        · intro aa ww vals hJ hR
                          refine mem_step' rfl fun hvl => ?_
                          have hl : vals.length = 1 := hvl
                          obtain ⟨b61, hvals, hv⟩ := hJ.at0 hl
                          refine stepMem_calls s2callable15 (wn rfl) rfl (args := #[.slice (some ⟨b61, 0, none⟩) 1 1]) (by simp only [List.map_toArray, List.map_cons, List.map_nil]; rw [show aa.eval (.tmp 71) = .slice (some ⟨b61, 0, none⟩) 1 1 from (hR.val 1 71 rfl rfl rfl).trans (by rw [hvals]; rfl)] <;> rfl) ((crcSumSl _ _ _ _ _ _ _ (ckB s) 0 hv rfl (hbr.more (Base.Le.refl _) (fun r hr => List.mem_cons_of_mem _ (List.mem_cons_of_mem _ (List.mem_cons_of_mem _ (hr))))) ((piece_length (by unfold ckN; omega))) (hbok)).mono ?_)
                          rintro e w63 ⟨rfl, hv⟩
                          refine ⟨_, rfl, JS.next hl ⟨b61, by rw [hvals]; rfl, hv⟩⟩
                        · intro aa ww vals hJ hR
                          have h1 : 1 < vals.length := hR.lo 2 (by simp) rfl
                          have h2 : vals.length ≤ 3 := JS.le (by rfl) hJ
                          rcases (show vals.length = 2 ∨ vals.length = 3 by omega) with hl | hl
                          · obtain ⟨b61, hvals, hv⟩ := hJ.at0 hl
                            exact add_step' rfl (Ex.adds' (ex_int (m := (Crc.sum (ckB s) : Int)) Try.underlying25 Try.underlying114 rfl (show aa.eval (.tmp 72) = _ from (hR.val 2 72 rfl rfl rfl).trans (by rw [hvals]; rfl)) (u64_in (by omega))) (wn rfl) rfl)
                          · obtain ⟨b61, hvals, hv⟩ := hJ.at0 hl
                            exact add_step' rfl (Ex.adds' (ex_int (m := (Crc.sum (ckB s) : Int)) Try.underlying25 Try.underlying114 rfl (show aa.eval (.tmp 72) = _ from (hR.val 2 72 rfl rfl rfl).trans (by rw [hvals]; rfl)) (u64_in (by omega))) (wn rfl) rfl)
                        · intro aa ww vals hJ hR
                          exact add_step' rfl (Ex.adds' (ex_slice (lo' := (some (.int .i64 21))) (hi' := (some (.int .i64 25))) rfl (show aa.eval (.tmp 7) = _ from hR.keep 7 rfl) rfl rfl rfl (s2sb89_21_25 _ _ _)) (wn rfl) rfl)
                        · intro aa ww vals hJ hR
                          refine mem_step' rfl fun hvl => ?_
                          have hl : vals.length = 2 := hvl
                          obtain ⟨b61, hvals, hv⟩ := hJ.at0 hl
                          refine stepMem_calls s2callable58 (wn rfl) rfl (args := #[.slice (some ⟨b5, 21, none⟩) 4 43]) (by simp only [List.map_toArray, List.map_cons, List.map_nil]; rw [show aa.eval (.tmp 74) = .slice (some ⟨b5, 21, none⟩) 4 43 from hR.v 4 74 rfl rfl rfl rfl] <;> rfl) ((slotsNumber _ _ _ _ 4 _ (piece s 21 4) (piece_length (by omega)) (by omega) (rd_head 1 rfl 21 4 (by omega) (by omega)) hv).mono ?_)
                          rintro e w64 ⟨rfl, hv⟩
                          refine ⟨_, rfl, JS.next hl ⟨b61, by rw [hvals]; rfl, hv⟩⟩
                        · intro aa ww vals hJ hR
                          have h1 : 2 < vals.length := hR.lo 5 (by simp) rfl
                          have hl : vals.length = 3 := by have := JS.le (n := 3) (by rfl) hJ; omega
                          obtain ⟨b61, hvals, hv⟩ := hJ.at0 hl
                          exact add_step' rfl (Ex.adds' (ex_neq (k := .u64) (m := (Crc.sum (ckB s) : Int)) (n := (numOf (piece s 21 4) : Int)) rfl (show aa.eval (.tmp 73) = _ from hR.v 3 73 rfl rfl rfl rfl) (show aa.eval (.tmp 75) = _ from (hR.val 5 75 rfl rfl rfl).trans (by rw [hvals]; rfl)) (decide_eq_true hb60)) (wn rfl) rfl)
                        rintro w65 vals ⟨b61, rfl, hv⟩
                        rw [show mixV [1, 2, 5] [.slice (some ⟨b61, 0, none⟩) 1 1, .int .u32 (Crc.sum (ckB s) : Int), .int .u64 (numOf (piece s 21 4) : Int)] 0 [.slice bad (numOf (piece s 17 4)) (cap - 64), undef, undef, .int .u64 (Crc.sum (ckB s) : Int), .slice (some ⟨b5, 21, none⟩) 4 43, undef, .bool true] = [.slice bad (numOf (piece s 17 4)) (cap - 64), .slice (some ⟨b61, 0, none⟩) 1 1, .int .u32 (Crc.sum (ckB s) : Int), .int .u64 (Crc.sum (ckB s) : Int), .slice (some ⟨b5, 21, none⟩) 4 43, .int .u64 (numOf (piece s 21 4) : Int), .bool true] from rfl]
                        simp only [putAll, Act.put, List.setIfInBounds_toArray, List.set_cons_succ, List.set_cons_zero]
                        refine then_normal (hK55 _ _ ?_)
                        clear hK55 K55
                        refine wpIn_cond_true rfl ?_
                        refine wpIn_seq_k (fun K66 hK66 => ?_)
                        refine wpIn_region_lit ?_
                        refine wpi_exG (v := .agg #[.int .i64 0, .slice none 0 0]) (fun _ => trivial) (wn rfl) rfl (ex_buildN (vs := #[]) rfl (by simp only [List.map_toArray, List.map_nil]) (by kernel_rfl)) ?_
                        refine sl_storeNAt 2 (new := [.int .i64 0, .slice none 0 0]) (pre := []) (mid := [.int .i64 0, .slice none 0 0]) (post := []) (L' := [.int .i64 0, .slice none 0 0]) (fun _ => trivial) (wn rfl) rfl rfl rfl hv rfl s2sz55 rfl rfl rfl (one_cons rfl (one_cons rfl one_nil)) rfl (fun w67 hv => ?_)
                        simp only [List.set_cons_succ, List.set_cons_zero] at hv
                        refine wpi_exG (v := .int .i64 0) (fun _ => trivial) (wn rfl) rfl (ex_assign rfl rfl) ?_
                        simp only [Act.put, List.setIfInBounds_toArray, List.set_cons_succ, List.set_cons_zero]
                        refine wpi_exG (v := .bool false) (fun _ => trivial) (wn rfl) rfl (ex_assign rfl rfl) ?_
                        refine wpListIn_nil ?_
                        simp only [Act.put, List.setIfInBounds_toArray, List.set_cons_succ, List.set_cons_zero]
                        refine then_normal (hK66 _ _ ?_)
                        clear hK66 K66
                        refine wpIn_ret ?_
                        refine then_ret ?_
                        clear hK54 K54
                        refine bodyPost_ret (res_cell3 rfl rfl (run_load_mid (pre := []) (mid := [.int .i64 0, .slice none 0 0]) (post := []) s2wd55 (show Blk _ b2 ([] ++ [.int .i64 0, .slice none 0 0] ++ []) _ from hv.get 2 rfl) rfl)) rfl ?_
                        exact .inl ⟨(fun h => by
                          have := h.g1; have := h.g2; have := h.turn; have := h.stamp; have := h.n1; have := h.n2; have := h.sum; have h25 := h.zeros; have h83 := h.mark
                          unfold ckG ckT ckN at *
                          omega), rfl, hv.tail 3⟩
                      · refine region_st mixed [.slice bad (numOf (piece s 17 4)) (cap - 64), undef, undef, .int .u64 (Crc.sum (ckB s) : Int), .slice (some ⟨b5, 21, none⟩) 4 43, undef, .bool false] [1, 2, 5] [⟨fun vals w => vals = [] ∧ Inv B (Res.cell b5 ((s.take 64).map B8) 89 :: Res.cell b2 [.int .i64 0, .slice none 0 0] 55 :: H) w, fun _ _ _ ⟨h, hi⟩ he => ⟨h, hi.ext he⟩⟩, ⟨fun vals w => ∃ b68, vals = [.slice (some ⟨b68, 0, none⟩) 1 1] ∧ Inv B (Res.cell b68 [.slice bad (numOf (piece s 17 4)) (cap - 64)] 24 :: Res.cell b5 ((s.take 64).map B8) 89 :: Res.cell b2 [.int .i64 0, .slice none 0 0] 55 :: H) w, fun _ _ _ ⟨b68, h, hi⟩ he => ⟨b68, h, hi.ext he⟩⟩, ⟨fun vals w => ∃ b68, vals = [.slice (some ⟨b68, 0, none⟩) 1 1, .int .u32 (Crc.sum (ckB s) : Int)] ∧ Inv B (Res.cell b68 [.slice bad (numOf (piece s 17 4)) (cap - 64)] 24 :: Res.cell b5 ((s.take 64).map B8) 89 :: Res.cell b2 [.int .i64 0, .slice none 0 0] 55 :: H) w, fun _ _ _ ⟨b68, h, hi⟩ he => ⟨b68, h, hi.ext he⟩⟩, ⟨fun vals w => ∃ b68, vals = [.slice (some ⟨b68, 0, none⟩) 1 1, .int .u32 (Crc.sum (ckB s) : Int), .int .u64 (numOf (piece s 21 4) : Int)] ∧ Inv B (Res.cell b68 [.slice bad (numOf (piece s 17 4)) (cap - 64)] 24 :: Res.cell b5 ((s.take 64).map B8) 89 :: Res.cell b2 [.int .i64 0, .slice none 0 0] 55 :: H) w, fun _ _ _ ⟨b68, h, hi⟩ he => ⟨b68, h, hi.ext he⟩⟩] 83 rfl (by kernel_rfl) ⟨rfl, hv⟩ ⟨?_, ?_, ?_, ?_, ?_, ?_, ?_, trivial⟩ ?_
                        · intro aa ww vals hJ hR
                          exact add_step' rfl (Ex.adds' (ex_move rfl (show aa.eval (.tmp 13) = _ from hR.keep 13 rfl)) (wn rfl) rfl)
                        · intro aa ww vals hJ hR
                          refine mem_step' rfl fun hvl => ?_
                          have hl : vals.length = 0 := hvl
                          obtain ⟨hvals, hv⟩ := hJ.at0 hl
                          refine mem_row1 (v := .slice bad (numOf (piece s 17 4)) (cap - 64)) (wn rfl) rfl (show aa.eval (.tmp 70) = _ from hR.v 0 70 rfl rfl rfl rfl) hv s2el22 rfl (fun b68 w69 hv => ?_)
                          exact JS.next hl ⟨b68, by rw [hvals]; rfl, hv⟩
                        · intro aa ww vals hJ hR
                          refine mem_step' rfl fun hvl => ?_
                          have hl : vals.length = 1 := hvl
                          obtain ⟨b68, hvals, hv⟩ := hJ.at0 hl
                          refine stepMem_calls s2callable15 (wn rfl) rfl (args := #[.slice (some ⟨b68, 0, none⟩) 1 1]) (by simp only [List.map_toArray, List.map_cons, List.map_nil]; rw [show aa.eval (.tmp 71) = .slice (some ⟨b68, 0, none⟩) 1 1 from (hR.val 1 71 rfl rfl rfl).trans (by rw [hvals]; rfl)] <;> rfl) ((crcSumSl _ _ _ _ _ _ _ (ckB s) 0 hv rfl (hbr.more (Base.Le.refl _) (fun r hr => List.mem_cons_of_mem _ (List.mem_cons_of_mem _ (List.mem_cons_of_mem _ (hr))))) ((piece_length (by unfold ckN; omega))) (hbok)).mono ?_)
                          rintro e w70 ⟨rfl, hv⟩
                          refine ⟨_, rfl, JS.next hl ⟨b68, by rw [hvals]; rfl, hv⟩⟩
                        · intro aa ww vals hJ hR
                          have h1 : 1 < vals.length := hR.lo 2 (by simp) rfl
                          have h2 : vals.length ≤ 3 := JS.le (by rfl) hJ
                          rcases (show vals.length = 2 ∨ vals.length = 3 by omega) with hl | hl
                          · obtain ⟨b68, hvals, hv⟩ := hJ.at0 hl
                            exact add_step' rfl (Ex.adds' (ex_int (m := (Crc.sum (ckB s) : Int)) Try.underlying25 Try.underlying114 rfl (show aa.eval (.tmp 72) = _ from (hR.val 2 72 rfl rfl rfl).trans (by rw [hvals]; rfl)) (u64_in (by omega))) (wn rfl) rfl)
                          · obtain ⟨b68, hvals, hv⟩ := hJ.at0 hl
                            exact add_step' rfl (Ex.adds' (ex_int (m := (Crc.sum (ckB s) : Int)) Try.underlying25 Try.underlying114 rfl (show aa.eval (.tmp 72) = _ from (hR.val 2 72 rfl rfl rfl).trans (by rw [hvals]; rfl)) (u64_in (by omega))) (wn rfl) rfl)
                        · intro aa ww vals hJ hR
                          exact add_step' rfl (Ex.adds' (ex_slice (lo' := (some (.int .i64 21))) (hi' := (some (.int .i64 25))) rfl (show aa.eval (.tmp 7) = _ from hR.keep 7 rfl) rfl rfl rfl (s2sb89_21_25 _ _ _)) (wn rfl) rfl)
                        · intro aa ww vals hJ hR
                          refine mem_step' rfl fun hvl => ?_
                          have hl : vals.length = 2 := hvl
                          obtain ⟨b68, hvals, hv⟩ := hJ.at0 hl
                          refine stepMem_calls s2callable58 (wn rfl) rfl (args := #[.slice (some ⟨b5, 21, none⟩) 4 43]) (by simp only [List.map_toArray, List.map_cons, List.map_nil]; rw [show aa.eval (.tmp 74) = .slice (some ⟨b5, 21, none⟩) 4 43 from hR.v 4 74 rfl rfl rfl rfl] <;> rfl) ((slotsNumber _ _ _ _ 4 _ (piece s 21 4) (piece_length (by omega)) (by omega) (rd_head 1 rfl 21 4 (by omega) (by omega)) hv).mono ?_)
                          rintro e w71 ⟨rfl, hv⟩
                          refine ⟨_, rfl, JS.next hl ⟨b68, by rw [hvals]; rfl, hv⟩⟩
                        · intro aa ww vals hJ hR
                          have h1 : 2 < vals.length := hR.lo 5 (by simp) rfl
                          have hl : vals.length = 3 := by have := JS.le (n := 3) (by rfl) hJ; omega
                          obtain ⟨b68, hvals, hv⟩ := hJ.at0 hl
                          exact add_step' rfl (Ex.adds' (ex_neq (k := .u64) (m := (Crc.sum (ckB s) : Int)) (n := (numOf (piece s 21 4) : Int)) rfl (show aa.eval (.tmp 73) = _ from hR.v 3 73 rfl rfl rfl rfl) (show aa.eval (.tmp 75) = _ from (hR.val 5 75 rfl rfl rfl).trans (by rw [hvals]; rfl)) (decide_eq_false hb60)) (wn rfl) rfl)
                        rintro w72 vals ⟨b68, rfl, hv⟩
                        rw [show mixV [1, 2, 5] [.slice (some ⟨b68, 0, none⟩) 1 1, .int .u32 (Crc.sum (ckB s) : Int), .int .u64 (numOf (piece s 21 4) : Int)] 0 [.slice bad (numOf (piece s 17 4)) (cap - 64), undef, undef, .int .u64 (Crc.sum (ckB s) : Int), .slice (some ⟨b5, 21, none⟩) 4 43, undef, .bool false] = [.slice bad (numOf (piece s 17 4)) (cap - 64), .slice (some ⟨b68, 0, none⟩) 1 1, .int .u32 (Crc.sum (ckB s) : Int), .int .u64 (Crc.sum (ckB s) : Int), .slice (some ⟨b5, 21, none⟩) 4 43, .int .u64 (numOf (piece s 21 4) : Int), .bool false] from rfl]
                        simp only [putAll, Act.put, List.setIfInBounds_toArray, List.set_cons_succ, List.set_cons_zero]
                        refine then_normal (hK55 _ _ ?_)
                        clear hK55 K55
                        refine wpIn_cond_false rfl ?_
                        refine wpIn_skip ?_
                        refine then_normal (hK54 _ _ ?_)
                        clear hK54 K54
                        refine wpIn_seq_k (fun K73 hK73 => ?_)
                        refine wpIn_region_lit ?_
                        refine wpi_exG (v := .int .i64 (numOf (piece s 9 8) : Int)) (fun _ => trivial) (wn rfl) rfl (ex_move rfl rfl) ?_
                        refine wpi_exG (v := .slice bad (numOf (piece s 17 4)) (cap - 64)) (fun _ => trivial) (wn rfl) rfl (ex_move rfl rfl) ?_
                        refine sl_appendNew (fun _ => trivial) (wn rfl) rfl rfl rfl s2el24 hv hbok (news := (ckB s).map B8) (by rw [List.length_map, Nat.mul_one]; exact piece_length (by unfold ckN; omega)) (hbr.src (hv.tail 3)) (oneCell_bytes _) (by unfold maxLen; omega) (by omega) (fun v74 w75 hv => ?_)
                        obtain ⟨va76, vc77, rfl⟩ := row_slice hv.head
                        simp only [Act.put, List.setIfInBounds_toArray, List.set_cons_succ, List.set_cons_zero]
                        refine wpi_exG (v := .agg #[.int .i64 (numOf (piece s 9 8) : Int), .slice va76 (numOf (piece s 17 4)) vc77]) (fun _ => trivial) (wn rfl) rfl (ex_buildN (vs := #[(0, .int .i64 (numOf (piece s 9 8) : Int)), (1, .slice va76 (numOf (piece s 17 4)) vc77)]) rfl (by simp only [List.map_toArray, List.map_cons, List.map_nil]; rfl) (by kernel_rfl)) ?_
                        refine wpi_exG (v := .int .i64 (numOf (piece s 1 8) : Int)) (fun _ => trivial) (wn rfl) rfl (ex_move rfl rfl) ?_
                        refine sl_storeNAt 3 (new := [.int .i64 (numOf (piece s 9 8) : Int), .slice va76 (numOf (piece s 17 4)) vc77]) (pre := []) (mid := [.int .i64 0, .slice none 0 0]) (post := []) (L' := [.int .i64 (numOf (piece s 9 8) : Int), .slice va76 (numOf (piece s 17 4)) vc77]) (fun _ => trivial) (wn rfl) rfl rfl rfl hv rfl s2sz55 rfl rfl rfl (one_cons rfl (one_cons rfl one_nil)) rfl (fun w78 hv => ?_)
                        simp only [List.set_cons_succ, List.set_cons_zero] at hv
                        simp only [Act.put, List.setIfInBounds_toArray, List.set_cons_succ, List.set_cons_zero]
                        refine wpi_exG (v := .int .i64 (numOf (piece s 1 8) : Int)) (fun _ => trivial) (wn rfl) rfl (ex_assign rfl rfl) ?_
                        refine wpi_exG (v := .bool true) (fun _ => trivial) (wn rfl) rfl (ex_assign rfl rfl) ?_
                        refine wpListIn_nil ?_
                        simp only [Act.put, List.setIfInBounds_toArray, List.set_cons_succ, List.set_cons_zero]
                        refine then_normal (hK73 _ _ ?_)
                        clear hK73 K73
                        refine wpIn_ret ?_
                        refine bodyPost_ret (res_cell3 rfl rfl (run_load_mid (pre := []) (mid := [.int .i64 (numOf (piece s 9 8) : Int), .slice va76 (numOf (piece s 17 4)) vc77]) (post := []) s2wd55 (show Blk _ b2 ([] ++ [.int .i64 (numOf (piece s 9 8) : Int), .slice va76 (numOf (piece s 17 4)) vc77] ++ []) _ from hv.get 3 rfl) rfl)) rfl ?_
                        exact .inr ⟨⟨by rw [hc0]; congr 1; apply UInt8.toNat_inj.1; show c0.toNat = 83; omega, (fun k hk => hzs k (by omega)), (by unfold ckG; omega), (by unfold ckG; omega), (by unfold ckG; omega), (by unfold ckT; omega), (by unfold ckN; omega), (by unfold ckN; omega), (by omega)⟩, _, _, rfl, (hv.sub (List.Sublist.cons_cons _ (List.Sublist.cons _ (List.Sublist.cons _ (List.Sublist.cons _ (List.Sublist.refl _))))))⟩
              · refine wpi_exG (v := .int .i64 ((numOf (piece s 9 8) : Int) - 18446744073709551616)) (fun _ => trivial) (wn rfl) rfl (ex_int (m := (numOf (piece s 9 8) : Int)) Try.underlying114 Try.underlying3 rfl rfl (i64_neg (by omega) (by omega))) ?_
                simp only [Act.put, List.setIfInBounds_toArray, List.set_cons_succ, List.set_cons_zero]
                refine wpi_exG (v := .int .i64 ((numOf (piece s 9 8) : Int) - 18446744073709551616)) (fun _ => trivial) (wn rfl) rfl (ex_assign rfl rfl) ?_
                refine wpListIn_nil ?_
                simp only [Act.put, List.setIfInBounds_toArray, List.set_cons_succ, List.set_cons_zero]
                refine then_normal (hK36 _ _ ?_)
                clear hK36 K36
                refine wpIn_seq_k (fun K79 hK79 => ?_)
                refine wpIn_seq_k (fun K80 hK80 => ?_)
                refine wpIn_region_lit ?_
                refine wpi_exG (v := .int .i64 ((numOf (piece s 9 8) : Int) - 18446744073709551616)) (fun _ => trivial) (wn rfl) rfl (ex_move rfl rfl) ?_
                refine wpi_exG (v := .bool true) (fun _ => trivial) (wn rfl) rfl (ex_lss (k := .i64) (m := ((numOf (piece s 9 8) : Int) - 18446744073709551616)) (n := 0) rfl rfl rfl (decide_eq_true (by omega))) ?_
                refine wpi_exG (v := .bool true) (fun _ => trivial) (wn rfl) rfl (ex_move rfl rfl) ?_
                simp only [Act.put, List.setIfInBounds_toArray, List.set_cons_succ, List.set_cons_zero]
                refine wpi_not (fun _ => trivial) (wanted_not (j := 2) (d := 48) (b := false) (b' := true) rfl rfl rfl (by decide)) ?_
                refine wpi_not (fun _ => trivial) (wanted_not (j := 2) (d := 48) (b := false) (b' := true) rfl rfl rfl (by decide)) ?_
                refine wpi_exG (v := .bool true) (fun _ => trivial) (wn rfl) rfl (ex_pick (b := true) rfl rfl rfl) ?_
                refine wpListIn_nil ?_
                simp only [Act.put, List.setIfInBounds_toArray, List.set_cons_succ, List.set_cons_zero]
                refine then_normal (hK80 _ _ ?_)
                clear hK80 K80
                refine wpIn_cond_true rfl ?_
                refine wpIn_seq_k (fun K81 hK81 => ?_)
                refine wpIn_region_lit ?_
                refine wpi_exG (v := .agg #[.int .i64 0, .slice none 0 0]) (fun _ => trivial) (wn rfl) rfl (ex_buildN (vs := #[]) rfl (by simp only [List.map_toArray, List.map_nil]) (by kernel_rfl)) ?_
                refine sl_storeNAt 1 (new := [.int .i64 0, .slice none 0 0]) (pre := []) (mid := [.int .i64 0, .slice none 0 0]) (post := []) (L' := [.int .i64 0, .slice none 0 0]) (fun _ => trivial) (wn rfl) rfl rfl rfl hv rfl s2sz55 rfl rfl rfl (one_cons rfl (one_cons rfl one_nil)) rfl (fun w82 hv => ?_)
                simp only [List.set_cons_succ, List.set_cons_zero] at hv
                refine wpi_exG (v := .int .i64 0) (fun _ => trivial) (wn rfl) rfl (ex_assign rfl rfl) ?_
                simp only [Act.put, List.setIfInBounds_toArray, List.set_cons_succ, List.set_cons_zero]
                refine wpi_exG (v := .bool false) (fun _ => trivial) (wn rfl) rfl (ex_assign rfl rfl) ?_
                refine wpListIn_nil ?_
                simp only [Act.put, List.setIfInBounds_toArray, List.set_cons_succ, List.set_cons_zero]
                refine then_normal (hK81 _ _ ?_)
                clear hK81 K81
                refine wpIn_ret ?_
                refine then_ret ?_
                clear hK79 K79
                refine bodyPost_ret (res_cell3 rfl rfl (run_load_mid (pre := []) (mid := [.int .i64 0, .slice none 0 0]) (post := []) s2wd55 (show Blk _ b2 ([] ++ [.int .i64 0, .slice none 0 0] ++ []) _ from hv.get 1 rfl) rfl)) rfl ?_
                exact .inl ⟨(fun h => by
                  have := h.g1; have := h.g2; have := h.turn; have := h.stamp; have := h.n1; have := h.n2; have := h.sum; have h25 := h.zeros; have h83 := h.mark
                  unfold ckG ckT ckN at *
                  omega), rfl, hv.tail 2⟩
        · refine wpi_exG (v := .int .i64 ((numOf (piece s 1 8) : Int) - 18446744073709551616)) (fun _ => trivial) (wn rfl) rfl (ex_int (m := (numOf (piece s 1 8) : Int)) Try.underlying114 Try.underlying3 rfl rfl (i64_neg (by omega) (by omega))) ?_
          simp only [Act.put, List.setIfInBounds_toArray, List.set_cons_succ, List.set_cons_zero]
          refine wpi_exG (v := .int .i64 ((numOf (piece s 1 8) : Int) - 18446744073709551616)) (fun _ => trivial) (wn rfl) rfl (ex_assign rfl rfl) ?_
          refine wpListIn_nil ?_
          simp only [Act.put, List.setIfInBounds_toArray, List.set_cons_succ, List.set_cons_zero]
          refine then_normal (hK26 _ _ ?_)
          clear hK26 K26
          refine wpIn_seq_k (fun K83 hK83 => ?_)
          refine wpIn_seq_k (fun K84 hK84 => ?_)
          refine wpIn_region_lit ?_
          refine wpi_exG (v := .int .i64 ((numOf (piece s 1 8) : Int) - 18446744073709551616)) (fun _ => trivial) (wn rfl) rfl (ex_move rfl rfl) ?_
          refine wpi_exG (v := .bool true) (fun _ => trivial) (wn rfl) rfl (ex_lss (k := .i64) (m := ((numOf (piece s 1 8) : Int) - 18446744073709551616)) (n := 1) rfl rfl rfl (decide_eq_true (by omega))) ?_
          refine wpi_exG (v := .bool true) (fun _ => trivial) (wn rfl) rfl (ex_move rfl rfl) ?_
          simp only [Act.put, List.setIfInBounds_toArray, List.set_cons_succ, List.set_cons_zero]
          refine wpi_not (fun _ => trivial) (wanted_not (j := 2) (d := 36) (b := false) (b' := true) rfl rfl rfl (by decide)) ?_
          refine wpi_not (fun _ => trivial) (wanted_not (j := 2) (d := 36) (b := false) (b' := true) rfl rfl rfl (by decide)) ?_
          refine wpi_not (fun _ => trivial) (wanted_not (j := 2) (d := 36) (b := false) (b' := true) rfl rfl rfl (by decide)) ?_
          simp only [Act.put, List.setIfInBounds_toArray, List.set_cons_succ, List.set_cons_zero]
          refine wpi_not (fun _ => trivial) (wanted_not (j := 2) (d := 36) (b := false) (b' := true) rfl rfl rfl (by decide)) ?_
          refine wpi_exG (v := .bool true) (fun _ => trivial) (wn rfl) rfl (ex_pick (b := true) rfl rfl rfl) ?_
          refine wpListIn_nil ?_
          simp only [Act.put, List.setIfInBounds_toArray, List.set_cons_succ, List.set_cons_zero]
          refine then_normal (hK84 _ _ ?_)
          clear hK84 K84
          refine wpIn_cond_true rfl ?_
          refine wpIn_seq_k (fun K85 hK85 => ?_)
          refine wpIn_region_lit ?_
          refine wpi_exG (v := .agg #[.int .i64 0, .slice none 0 0]) (fun _ => trivial) (wn rfl) rfl (ex_buildN (vs := #[]) rfl (by simp only [List.map_toArray, List.map_nil]) (by kernel_rfl)) ?_
          refine sl_storeNAt 1 (new := [.int .i64 0, .slice none 0 0]) (pre := []) (mid := [.int .i64 0, .slice none 0 0]) (post := []) (L' := [.int .i64 0, .slice none 0 0]) (fun _ => trivial) (wn rfl) rfl rfl rfl hv rfl s2sz55 rfl rfl rfl (one_cons rfl (one_cons rfl one_nil)) rfl (fun w86 hv => ?_)
          simp only [List.set_cons_succ, List.set_cons_zero] at hv
          refine wpi_exG (v := .int .i64 0) (fun _ => trivial) (wn rfl) rfl (ex_assign rfl rfl) ?_
          simp only [Act.put, List.setIfInBounds_toArray, List.set_cons_succ, List.set_cons_zero]
          refine wpi_exG (v := .bool false) (fun _ => trivial) (wn rfl) rfl (ex_assign rfl rfl) ?_
          refine wpListIn_nil ?_
          simp only [Act.put, List.setIfInBounds_toArray, List.set_cons_succ, List.set_cons_zero]
          refine then_normal (hK85 _ _ ?_)
          clear hK85 K85
          refine wpIn_ret ?_
          refine then_ret ?_
          clear hK83 K83
          refine bodyPost_ret (res_cell3 rfl rfl (run_load_mid (pre := []) (mid := [.int .i64 0, .slice none 0 0]) (post := []) s2wd55 (show Blk _ b2 ([] ++ [.int .i64 0, .slice none 0 0] ++ []) _ from hv.get 1 rfl) rfl)) rfl ?_
          exact .inl ⟨(fun h => by
            have := h.g1; have := h.g2; have := h.turn; have := h.stamp; have := h.n1; have := h.n2; have := h.sum; have h25 := h.zeros; have h83 := h.mark
            unfold ckG ckT ckN at *
            omega), rfl, hv.tail 2⟩
end Go.Proofs.Ytkannfkjnohdlaa
