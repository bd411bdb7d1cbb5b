/- SlotsTurn -/
import Derived.Test.YtkannfkjnohdlaaLawAwake08
namespace Go.Proofs.Ytkannfkjnohdlaa
open Go.RowKit Go.Pm
theorem put_other (l : List (Nat × List UInt8)) (d : List (List UInt8)) (k : Nat) (hl : ∀ p ∈ l, p.1 ≠ k) : (l.foldl Disk.put d)[k]? = d[k]? := by
  induction l generalizing d with
  | nil => rfl
  | cons p l ih =>
    rw [List.foldl_cons, ih _ (fun q hq => hl q (by simp [hq]))]
    unfold Disk.put
    rw [List.getElem?_set_ne (hl p (by simp))]
/-- a disk at rest -/
structure Rest (D : Disk) (n : Nat) : Prop where
  len : D.dur.length = n
  left : D.left = -1
  pend : D.pend = []
theorem rest_tick {D : Disk} {n : Nat} (h : Rest D n) : D.tick = D := by unfold Disk.tick; rw [if_neg (by rw [h.left]; decide)]
theorem write_left {D : Disk} (h : D.left = -1) (a : Nat) (l : List UInt8) : (D.write a l).left = -1 := by
  show D.tick.left = -1
  unfold Disk.tick
  rw [if_neg (by rw [h]; decide)]
  exact h
theorem sync_left {D : Disk} (h : D.left = -1) : D.sync.left = -1 := by
  show D.tick.left = -1
  unfold Disk.tick
  rw [if_neg (by rw [h]; decide)]
  exact h
theorem rest_ws {D : Disk} {n : Nat} (h : Rest D n) (a : Nat) (l : List UInt8) : Rest ((D.write a l).sync) n := ⟨(sync_dur _).trans h.len, sync_left (write_left h.left _ _), rfl⟩
theorem ws_get {D : Disk} {n : Nat} (h : Rest D n) (a : Nat) (l : List UInt8) (k : Nat) (hk : k < a ∨ a + Disk.nsec l ≤ k) : ((D.write a l).sync).dur[k]? = D.dur[k]? := by
  show (((D.write a l).pend).foldl Disk.put D.dur)[k]? = D.dur[k]?
  refine put_other _ _ _ (fun p hp => ?_)
  simp only [Disk.write, h.pend, List.nil_append] at hp
  have := Disk.writesOf_mem hp
  omega
theorem putHead_rest {D : Disk} {n : Nat} (h : Rest D n) (a : Nat) (hd : List UInt8) : putHead D a hd = (0, (D.write a hd).sync) := by
  unfold putHead
  rw [if_neg (by rw [h.left]; decide), if_neg (by rw [write_left h.left]; decide)]
theorem putAll_rest {D : Disk} {n : Nat} (h : Rest D n) (a : Nat) (l hd : List UInt8) (hh : hd.length = 64) : ∃ E, putAll' D a l hd = (0, E) ∧ Rest E n ∧ ∀ k, k < a ∨ a + 1 + Disk.nsec l ≤ k → E.dur[k]? = D.dur[k]? := by
  have hn : Disk.nsec hd = 1 := by unfold Disk.nsec; rw [hh]
  unfold putAll'
  by_cases hl : l.length = 0
  · rw [if_pos hl, putHead_rest h]
    exact ⟨_, rfl, rest_ws h _ _, fun k hk => ws_get h _ _ k (by omega)⟩
  · rw [if_neg hl, if_neg (by rw [h.left]; decide), if_neg (by rw [write_left h.left]; decide), putHead_rest (rest_ws h _ _)]
    exact ⟨_, rfl, rest_ws (rest_ws h _ _) _ _, fun k hk => (ws_get (rest_ws h _ _) _ _ k (by omega)).trans (ws_get h _ _ k (by omega))⟩
theorem save_rest {D : Disk} (h : Rest D 12) (i : Nat) (hi : i < 12) (l : List UInt8) (hl : l.length ≤ 300) :
    ∃ E, saveOf D 0 6 i false (i : Int) l = ⟨0, i + 1, false, E⟩ ∧ Rest E 12 ∧ E.view E.pend (6 * (1 - (i + 1) % 2)) 6 = D.view D.pend (6 * (1 - (i + 1) % 2)) 6 := by
  obtain ⟨E, h1, h2, h3⟩ := putAll_rest h (0 + ((i + 1) % 2) * 6) l (headOf (i + 1) (i : Int).toNat l) (headOf_len _ _ _)
  have hns : Disk.nsec l ≤ 5 := nsec_le (by omega)
  have hr : roomOf 6 = 320 := rfl
  refine ⟨E, ?_, h2, ?_⟩
  · unfold saveOf
    rw [if_neg (by decide), if_neg (by omega), if_neg (by rw [hr]; omega), h1, if_neg (fun h => h rfl)]
  · unfold Disk.view
    rw [h2.pend, h.pend]
    apply List.map_congr_left
    intro k hk
    have hk := List.mem_range.1 hk
    rw [List.getD_eq_getElem?_getD, List.getD_eq_getElem?_getD, h3 _ (by omega)]
def RdRows8 (B : Base) (a : Option Addr) (ls : List (List UInt8)) : Prop := ∀ i (h : i < ls.length), ∃ b off a' c', a = some ⟨b, off, none⟩ ∧ (∀ H w, Inv B H w → w.cell? ⟨b, off + i, none⟩ = some (.slice a' ls[i].length c')) ∧ SliceOk a' ls[i].length c' ∧ RdV B [] a' (ls[i].map B8)
theorem tz12 : curF ((Disk.zero 12).view (Disk.zero 12).pend 0 (2 * 6)).flatten 6 2 = none := by kernel_rfl
theorem rest12 : Rest (Disk.zero 12) 12 := ⟨by kernel_rfl, rfl, rfl⟩
theorem rest_has {D : Disk} (h : Rest D 12) (j : Nat) (hj : j ≤ 1) : D.has ((6 * j : Nat) : Int) ((6 : Nat) : Int) = true := has_of (by omega) (by rw [h.len]; omega)
theorem bytes_view {w : World} {b : Nat} {t : TypeId} {v : List (List UInt8)} (h : Blk w b (durCells v) t) : Bytes w (fun _ => True) (some ⟨b, 0, none⟩) v.flatten := bytes_all (by rw [view_bytes8] at h; exact h)
theorem rest_flat {D : Disk} (h : Rest D 12) (hok : D.Ok) (j : Nat) (hj : j ≤ 1) : (D.view D.pend (6 * j) 6).flatten.length = 384 := view_flat_len hok (by rw [h.len]; omega)

theorem stcallable27 : Callable Try.prog 27 := ⟨_, Try.func27, by kernel_rfl, by kernel_rfl⟩
theorem stcallable21 : Callable Try.prog 21 := ⟨_, Try.func21, by kernel_rfl, by kernel_rfl⟩
theorem stcallable30 : Callable Try.prog 30 := ⟨_, Try.func30, by kernel_rfl, by kernel_rfl⟩
theorem stal55 (w : World) : (Instr.alloc 55 true (.tuple #[])).run Try.prog w = .ok (.pointer (some ⟨w.heap.size, 0, none⟩)) (w.alloc (.cells ([.int .i64 0, .slice none 0 0] : List Value).toArray 55)) := by kernel_rfl
theorem stsz55 : (Try.prog.info? 55).map (·.size) = some 2 := by kernel_rfl
theorem stes22 (w : World) : (sizeOf (Try.prog.elem 22)).run Try.prog w = .ok 1 w := by kernel_rfl
theorem stna24 (w : World) : (isAgg 24).run Try.prog w = .ok false w := by kernel_rfl
theorem stcallable26 : Callable Try.prog 26 := ⟨_, Try.func26, by kernel_rfl, by kernel_rfl⟩
theorem stcallable36 : Callable Try.prog 36 := ⟨_, Try.func36, by kernel_rfl, by kernel_rfl⟩
theorem stcallable33 : Callable Try.prog 33 := ⟨_, Try.func33, by kernel_rfl, by kernel_rfl⟩
set_option maxRecDepth 100000 in
set_option maxHeartbeats 1000000 in
theorem slotsTurnMain (B : Base) (H : List Res) (w : World) (a : Option Addr) (n ca : Nat) (ls : List (List UInt8)) (hn : ls.length = n) (hls : RdRows8 B a ls) (hv : Inv B H w) :
    Calls Try.prog 10 #[.slice a n ca] w fun e w' => e = .returned (.bool true) ∧ Inv B H w' := by
  refine (callsIn_wide (n := 5)).1 ?_
  refine callsIn_of_wp Try.func10 rfl trivial ?_
  simp only [Try.ntmps10, List.size_toArray, List.length_cons, List.length_nil, Nat.reduceAdd, Nat.reduceSub, Array.replicate_succ, Array.replicate_zero, List.push_toArray, List.append_toArray, List.nil_append, List.cons_append]
  refine wpIn_seq_k (fun K1 hK1 => ?_)
  refine wpIn_region_lit ?_
  refine wpi_exG (v := .bool false) (fun _ => trivial) (wn rfl) rfl (ex_assign rfl rfl) ?_
  refine wpListIn_nil ?_
  simp only [Act.put, List.setIfInBounds_toArray, List.set_cons_succ, List.set_cons_zero]
  refine then_normal (hK1 _ _ ?_)
  clear hK1 K1
  refine wpIn_seq_k (fun K2 hK2 => ?_)
  refine wpIn_seq_k (fun K3 hK3 => ?_)
  refine wpIn_region_lit ?_
  refine wpi_callG stcallable27 (fun _ => trivial) wideC rfl (wn rfl) rfl (args := #[]) (by simp only [List.map_toArray, List.map_nil]) ((lawAwake08 _ _ _ hv).mono ?_)
  rintro e w4 ⟨rfl, hv⟩
  refine ⟨_, rfl, ?_⟩
  refine wpi_exG (v := .bool false) (fun _ => trivial) (wn rfl) rfl (ex_not rfl rfl rfl) ?_
  refine wpi_exG (v := .bool false) (fun _ => trivial) (wn rfl) rfl (ex_move rfl rfl) ?_
  simp only [Act.put, List.setIfInBounds_toArray, List.set_cons_succ, List.set_cons_zero]
  refine wpi_exG (v := .slice a n ca) (fun _ => trivial) (wanted_of (j := 2) (d := 18) (b := false) rfl rfl rfl) rfl (ex_move rfl rfl) ?_
  refine wpi_exG (v := .int .i64 (n : Int)) (fun _ => trivial) (wanted_of (j := 2) (d := 18) (b := false) rfl rfl rfl) rfl (ex_len0 Try.underlying22 rfl rfl) ?_
  by_cases hb5 : (n : Int) > 12
  · refine wpi_exG (v := .bool true) (fun _ => trivial) (wanted_of (j := 2) (d := 18) (b := false) rfl rfl rfl) rfl (ex_gtr (k := .i64) (m := (n : Int)) (n := 12) rfl rfl rfl (decide_eq_true hb5)) ?_
    simp only [Act.put, List.setIfInBounds_toArray, List.set_cons_succ, List.set_cons_zero]
    refine wpi_exG (v := .bool true) (fun _ => trivial) (wn rfl) rfl (ex_pick (b := false) rfl rfl rfl) ?_
    refine wpListIn_nil ?_
    simp only [Act.put, List.setIfInBounds_toArray, List.set_cons_succ, List.set_cons_zero]
    refine then_normal (hK3 _ _ ?_)
    clear hK3 K3
    refine wpIn_cond_true rfl ?_
    refine wpIn_seq_k (fun K6 hK6 => ?_)
    refine wpIn_region_lit ?_
    refine wpi_callG stcallable27 (fun _ => trivial) wideC rfl (wn rfl) rfl (args := #[]) (by simp only [List.map_toArray, List.map_nil]) ((lawAwake08 _ _ _ hv).mono ?_)
    rintro e w7 ⟨rfl, hv⟩
    refine ⟨_, rfl, ?_⟩
    refine wpi_exG (v := .bool true) (fun _ => trivial) (wn rfl) rfl (ex_assign rfl rfl) ?_
    refine wpListIn_nil ?_
    simp only [Act.put, List.setIfInBounds_toArray, List.set_cons_succ, List.set_cons_zero]
    refine then_normal (hK6 _ _ ?_)
    clear hK6 K6
    refine wpIn_ret ?_
    refine then_ret ?_
    clear hK2 K2
    refine bodyPost_ret (results_tmp rfl _ _ _) rfl ?_
    exact ⟨rfl, hv.tail 0⟩
  · refine wpi_exG (v := .bool false) (fun _ => trivial) (wanted_of (j := 2) (d := 18) (b := false) rfl rfl rfl) rfl (ex_gtr (k := .i64) (m := (n : Int)) (n := 12) rfl rfl rfl (decide_eq_false hb5)) ?_
    simp only [Act.put, List.setIfInBounds_toArray, List.set_cons_succ, List.set_cons_zero]
    refine wpi_exG (v := .bool false) (fun _ => trivial) (wn rfl) rfl (ex_pick (b := false) rfl rfl rfl) ?_
    refine wpListIn_nil ?_
    simp only [Act.put, List.setIfInBounds_toArray, List.set_cons_succ, List.set_cons_zero]
    refine then_normal (hK3 _ _ ?_)
    clear hK3 K3
    refine wpIn_cond_false rfl ?_
    refine wpIn_skip ?_
    refine then_normal (hK2 _ _ ?_)
    clear hK2 K2
    refine wpIn_seq_k (fun K8 hK8 => ?_)
    refine wpIn_region_lit ?_
    refine wpi_callG stcallable21 (fun _ => trivial) wideC rfl (wn rfl) rfl (args := #[.int .i64 12]) (by simp only [List.map_toArray, List.map_cons, List.map_nil]; rfl) ((diskNewSl _ _ _ 12 (by omega) (by omega) hv).mono ?_)
    rintro e w11 ⟨p9, F10, rfl, hv⟩
    refine ⟨_, rfl, ?_⟩
    refine wpi_exG (v := .tuple #[.pointer (some ⟨p9, 0, none⟩), .int .i64 0]) (fun _ => trivial) (wn rfl) rfl (ex_move rfl rfl) ?_
    refine wpi_exG (v := .pointer (some ⟨p9, 0, none⟩)) (fun _ => trivial) (wn rfl) rfl (ex_extract rfl rfl rfl) ?_
    simp only [Act.put, List.setIfInBounds_toArray, List.set_cons_succ, List.set_cons_zero]
    refine wpi_exG (v := .int .i64 0) (fun _ => trivial) (wn rfl) rfl (ex_extract rfl rfl rfl) ?_
    refine wpi_exG (v := .pointer (some ⟨p9, 0, none⟩)) (fun _ => trivial) (wn rfl) rfl (ex_assign rfl rfl) ?_
    refine wpi_exG (v := .int .i64 0) (fun _ => trivial) (wn rfl) rfl (ex_assign rfl rfl) ?_
    refine wpListIn_nil ?_
    simp only [Act.put, List.setIfInBounds_toArray, List.set_cons_succ, List.set_cons_zero]
    refine then_normal (hK8 _ _ ?_)
    clear hK8 K8
    refine wpIn_seq_k (fun K12 hK12 => ?_)
    refine wpIn_seq_k (fun K13 hK13 => ?_)
    refine wpIn_region_lit ?_
    refine wpi_exG (v := .pointer (some ⟨p9, 0, none⟩)) (fun _ => trivial) (wn rfl) rfl (ex_move rfl rfl) ?_
    refine wpi_exG (v := .bool false) (fun _ => trivial) (wn rfl) rfl (ex_pisnil Try.underlying36 rfl rfl rfl rfl) ?_
    refine wpListIn_nil ?_
    simp only [Act.put, List.setIfInBounds_toArray, List.set_cons_succ, List.set_cons_zero]
    refine then_normal (hK13 _ _ ?_)
    clear hK13 K13
    refine wpIn_cond_false rfl ?_
    refine wpIn_skip ?_
    refine then_normal (hK12 _ _ ?_)
    clear hK12 K12
    refine wpIn_seq_k (fun K14 hK14 => ?_)
    refine wpIn_region_lit ?_
    refine wpi_exG (v := .pointer (some ⟨p9, 0, none⟩)) (fun _ => trivial) (wn rfl) rfl (ex_move rfl rfl) ?_
    refine wpi_callG stcallable30 (fun _ => trivial) wideC rfl (wn rfl) rfl (args := #[.pointer (some ⟨p9, 0, none⟩), .int .i64 0, .int .i64 6]) (by simp only [List.map_toArray, List.map_cons, List.map_nil]; rfl) ((slotsOpen _ _ _ p9 0 6 (Disk.zero 12) (Disk.zero 12) _ rfl (by decide) (by kernel_rfl) (by decide) (by decide) (by decide) (by rw [rest12.len]; decide) (by rw [rest12.len]; decide) hv).mono ?_)
    rintro e w20 ⟨q15, cur16, ad17, c18, F19, hcur, rfl, hv⟩
    refine ⟨_, rfl, ?_⟩
    obtain rfl : cur16 = none := (curI_eq hcur).trans tz12
    refine wpi_exG (v := .tuple #[.pointer (some ⟨q15, 0, none⟩), .agg #[.int .i64 0, .slice ad17 0 c18], .bool false, .int .i64 0]) (fun _ => trivial) (wn rfl) rfl (ex_move rfl rfl) ?_
    simp only [Act.put, List.setIfInBounds_toArray, List.set_cons_succ, List.set_cons_zero]
    refine wpi_exG (v := .pointer (some ⟨q15, 0, none⟩)) (fun _ => trivial) (wn rfl) rfl (ex_extract rfl rfl rfl) ?_
    refine wpi_exG (v := .agg #[.int .i64 0, .slice ad17 0 c18]) (fun _ => trivial) (wn rfl) rfl (ex_extract rfl rfl rfl) ?_
    refine wpi_exG (v := .bool false) (fun _ => trivial) (wn rfl) rfl (ex_extract rfl rfl rfl) ?_
    simp only [Act.put, List.setIfInBounds_toArray, List.set_cons_succ, List.set_cons_zero]
    refine wpi_exG (v := .int .i64 0) (fun _ => trivial) (wn rfl) rfl (ex_extract rfl rfl rfl) ?_
    refine sl_alloc (fun _ => trivial) (wn rfl) rfl hv stal55 (fun b21 w22 hv => ?_)
    refine wpi_exG (v := .pointer (some ⟨q15, 0, none⟩)) (fun _ => trivial) (wn rfl) rfl (ex_assign rfl rfl) ?_
    simp only [Act.put, List.setIfInBounds_toArray, List.set_cons_succ, List.set_cons_zero]
    refine sl_storeNAt 0 (new := [.int .i64 0, .slice ad17 0 c18]) (pre := []) (mid := [.int .i64 0, .slice none 0 0]) (post := []) (L' := [.int .i64 0, .slice ad17 0 c18]) (fun _ => trivial) (wn rfl) rfl rfl rfl hv rfl stsz55 rfl rfl rfl (one_cons rfl (one_cons rfl one_nil)) rfl (fun w23 hv => ?_)
    simp only [List.set_cons_succ, List.set_cons_zero] at hv
    refine wpi_exG (v := .bool false) (fun _ => trivial) (wn rfl) rfl (ex_assign rfl rfl) ?_
    refine wpi_exG (v := .int .i64 0) (fun _ => trivial) (wn rfl) rfl (ex_assign rfl rfl) ?_
    refine wpListIn_nil ?_
    simp only [Act.put, List.setIfInBounds_toArray, List.set_cons_succ, List.set_cons_zero]
    refine then_normal (hK14 _ _ ?_)
    clear hK14 K14
    refine wpIn_seq_k (fun K24 hK24 => ?_)
    refine wpIn_seq_k (fun K25 hK25 => ?_)
    refine wpIn_region_lit ?_
    refine wpi_exG (v := .pointer (some ⟨q15, 0, none⟩)) (fun _ => trivial) (wn rfl) rfl (ex_move rfl rfl) ?_
    refine wpi_exG (v := .bool false) (fun _ => trivial) (wn rfl) rfl (ex_pisnil Try.underlying53 rfl rfl rfl rfl) ?_
    refine wpListIn_nil ?_
    simp only [Act.put, List.setIfInBounds_toArray, List.set_cons_succ, List.set_cons_zero]
    refine then_normal (hK25 _ _ ?_)
    clear hK25 K25
    refine wpIn_cond_false rfl ?_
    refine wpIn_skip ?_
    refine then_normal (hK24 _ _ ?_)
    clear hK24 K24
    refine wpIn_seq_k (fun K26 hK26 => ?_)
    refine wpIn_seq_k (fun K27 hK27 => ?_)
    refine wpIn_region_lit ?_
    refine wpi_exG (v := .int .i64 0) (fun _ => trivial) (wn rfl) rfl (ex_assign rfl rfl) ?_
    refine wpListIn_nil ?_
    simp only [Act.put, List.setIfInBounds_toArray, List.set_cons_succ, List.set_cons_zero]
    refine then_normal (hK27 _ _ ?_)
    clear hK27 K27
    refine wpIn_block ?_
    gi_loopw [9] (fun x9 wr => ∃ (i : Nat) (D : Disk) (F : List Nat), x9 = .int .i64 (i : Int) ∧ i ≤ n ∧ Rest D 12 ∧ Inv B (Res.cell q15 [.pointer (some ⟨p9, 0, none⟩), .int .i64 ((0 : Nat) : Int), .int .i64 ((6 : Nat) : Int), .int .i64 (i : Int), .bool false] 102 :: diskR p9 D F :: H) wr) (fun x9 _ => n - (intOf x9).toNat)
    case atStart => exact ⟨0, _, _, rfl, by omega, rest12, (((hv.front 3 rfl).front 2 rfl).sub (List.Sublist.cons_cons _ (List.Sublist.cons_cons _ (List.Sublist.cons _ (List.Sublist.cons _ (List.Sublist.refl _))))))⟩
    case round =>
      obtain ⟨i, D, F, rfl, hi, hR, hv⟩ := hrel
      refine wpIn_seq_k (fun K29 hK29 => ?_)
      refine wpIn_seq_k (fun K30 hK30 => ?_)
      refine wpIn_region_lit ?_
      refine wpi_exG (v := .int .i64 (i : Int)) (fun _ => trivial) (wn rfl) rfl (ex_move rfl rfl) ?_
      refine wpi_exG (v := .slice a n ca) (fun _ => trivial) (wn rfl) rfl (ex_move rfl rfl) ?_
      refine wpi_exG (v := .int .i64 (n : Int)) (fun _ => trivial) (wn rfl) rfl (ex_len0 Try.underlying22 rfl rfl) ?_
      simp only [Act.put, List.setIfInBounds_toArray, List.set_cons_succ, List.set_cons_zero]
      by_cases hb31 : (i : Int) < (n : Int)
      · refine wpi_exG (v := .bool true) (fun _ => trivial) (wn rfl) rfl (ex_lss (k := .i64) (m := (i : Int)) (n := (n : Int)) rfl rfl rfl (decide_eq_true hb31)) ?_
        refine wpListIn_nil ?_
        simp only [Act.put, List.setIfInBounds_toArray, List.set_cons_succ, List.set_cons_zero]
        refine then_normal (hK30 _ _ ?_)
        clear hK30 K30
        refine wpIn_cond_true rfl ?_
        refine wpIn_skip ?_
        refine then_normal (hK29 _ _ ?_)
        clear hK29 K29
        refine wpIn_seq_k (fun K32 hK32 => ?_)
        refine wpIn_block ?_
        refine wpIn_seq_k (fun K33 hK33 => ?_)
        refine wpIn_seq_k (fun K34 hK34 => ?_)
        refine wpIn_region_lit ?_
        refine wpi_exG (v := .slice a n ca) (fun _ => trivial) (wn rfl) rfl (ex_move rfl rfl) ?_
        refine wpi_exG (v := .int .i64 (i : Int)) (fun _ => trivial) (wn rfl) rfl (ex_move rfl rfl) ?_
        have hin : i < ls.length := by omega
        obtain ⟨rb, roff, ra, rc, rfl, hrow, hrok, hrd⟩ := hls i hin
        generalize ls[i] = l at *
        refine wpi_exG (v := .pointer (some ⟨rb, roff + i, none⟩)) (fun _ => trivial) (wn rfl) rfl (ex_index rfl rfl rfl (run_idx1 (k := i) Try.underlying22 stes22 (by omega))) ?_
        simp only [Act.put, List.setIfInBounds_toArray, List.set_cons_succ, List.set_cons_zero]
        refine wpi_exG (v := .slice ra l.length rc) (fun _ => trivial) (wn rfl) rfl (ex_load rfl rfl (run_load1 stna24 (hrow _ _ hv))) ?_
        refine wpi_exG (v := .int .i64 (l.length : Int)) (fun _ => trivial) (wn rfl) rfl (ex_len0 Try.underlying24 rfl rfl) ?_
        by_cases hb35 : (l.length : Int) > 300
        · refine wpi_exG (v := .bool true) (fun _ => trivial) (wn rfl) rfl (ex_gtr (k := .i64) (m := (l.length : Int)) (n := 300) rfl rfl rfl (decide_eq_true hb35)) ?_
          refine wpListIn_nil ?_
          simp only [Act.put, List.setIfInBounds_toArray, List.set_cons_succ, List.set_cons_zero]
          refine then_normal (hK34 _ _ ?_)
          clear hK34 K34
          refine wpIn_cond_true rfl ?_
          refine wpIn_seq_k (fun K36 hK36 => ?_)
          refine wpIn_region_lit ?_
          refine wpi_exG (v := .bool true) (fun _ => trivial) (wn rfl) rfl (ex_assign rfl rfl) ?_
          refine wpListIn_nil ?_
          simp only [Act.put, List.setIfInBounds_toArray, List.set_cons_succ, List.set_cons_zero]
          refine then_normal (hK36 _ _ ?_)
          clear hK36 K36
          refine wpIn_ret ?_
          refine then_ret ?_
          clear hK33 K33
          refine blk_ret ?_
          refine then_ret ?_
          clear hK32 K32
          refine then_ret ?_
          refine blk_ret ?_
          refine then_ret ?_
          clear hK26 K26
          refine bodyPost_ret (results_tmp rfl _ _ _) rfl ?_
          exact ⟨rfl, hv.tail 2⟩
        · refine wpi_exG (v := .bool false) (fun _ => trivial) (wn rfl) rfl (ex_gtr (k := .i64) (m := (l.length : Int)) (n := 300) rfl rfl rfl (decide_eq_false hb35)) ?_
          obtain ⟨E, hsv, hRE, hview⟩ := save_rest hR i (by omega) l (by omega)
          refine wpListIn_nil ?_
          simp only [Act.put, List.setIfInBounds_toArray, List.set_cons_succ, List.set_cons_zero]
          refine then_normal (hK34 _ _ ?_)
          clear hK34 K34
          refine wpIn_cond_false rfl ?_
          refine wpIn_skip ?_
          refine then_normal (hK33 _ _ ?_)
          clear hK33 K33
          refine wpIn_seq_k (fun K37 hK37 => ?_)
          refine wpIn_region_lit ?_
          refine wpi_exG (v := .int .i64 (i : Int)) (fun _ => trivial) (wn rfl) rfl (ex_move rfl rfl) ?_
          refine wpi_exG (v := .int .i64 ((i + 1 : Nat) : Int)) (fun _ => trivial) (wn rfl) rfl (ex_add (m := (i : Int)) (n := 1) rfl rfl rfl (by rw [i64_in (by omega)]; omega)) ?_
          refine wpi_exG (v := .int .i64 ((i + 1 : Nat) : Int)) (fun _ => trivial) (wn rfl) rfl (ex_assign rfl rfl) ?_
          refine wpListIn_nil ?_
          simp only [Act.put, List.setIfInBounds_toArray, List.set_cons_succ, List.set_cons_zero]
          refine then_normal (hK37 _ _ ?_)
          clear hK37 K37
          refine wpIn_seq_k (fun K38 hK38 => ?_)
          refine wpIn_region_lit ?_
          refine wpi_exG (v := .int .i64 ((i + 1 : Nat) : Int)) (fun _ => trivial) (wn rfl) rfl (ex_move rfl rfl) ?_
          refine wpi_exG (v := .int .i64 (((i + 1) % 2 : Nat) : Int)) (fun _ => trivial) (wn rfl) rfl (ex_rem (m := ((i + 1 : Nat) : Int)) (n := 2) rfl rfl rfl (by decide) (tmod2 _)) ?_
          refine wpi_exG (v := .int .i64 ((1 - (i + 1) % 2 : Nat) : Int)) (fun _ => trivial) (wn rfl) rfl (ex_sub (m := 1) (n := (((i + 1) % 2 : Nat) : Int)) rfl rfl rfl (by rw [i64_in (by omega)]; omega)) ?_
          simp only [Act.put, List.setIfInBounds_toArray, List.set_cons_succ, List.set_cons_zero]
          refine wpi_exG (v := .int .i64 ((6 * (1 - (i + 1) % 2) : Nat) : Int)) (fun _ => trivial) (wn rfl) rfl (ex_mul (m := 6) (n := ((1 - (i + 1) % 2 : Nat) : Int)) rfl rfl rfl (by rw [i64_in (by omega)]; omega)) ?_
          refine wpi_exG (v := .int .i64 ((6 * (1 - (i + 1) % 2) : Nat) : Int)) (fun _ => trivial) (wn rfl) rfl (ex_assign rfl rfl) ?_
          refine wpListIn_nil ?_
          simp only [Act.put, List.setIfInBounds_toArray, List.set_cons_succ, List.set_cons_zero]
          refine then_normal (hK38 _ _ ?_)
          clear hK38 K38
          refine wpIn_seq_k (fun K39 hK39 => ?_)
          refine wpIn_region_lit ?_
          refine wpi_exG (v := .pointer (some ⟨p9, 0, none⟩)) (fun _ => trivial) (wn rfl) rfl (ex_move rfl rfl) ?_
          refine wpi_exG (v := .int .i64 ((6 * (1 - (i + 1) % 2) : Nat) : Int)) (fun _ => trivial) (wn rfl) rfl (ex_move rfl rfl) ?_
          replace hv := hv.front 1 rfl
          simp only [List.eraseIdx_cons_succ, List.eraseIdx_cons_zero] at hv
          refine wpi_callG stcallable26 (fun _ => trivial) wideC rfl (wn rfl) rfl (args := #[.pointer (some ⟨p9, 0, none⟩), .int .i64 ((6 * (1 - (i + 1) % 2) : Nat) : Int), .int .i64 6]) (by simp only [List.map_toArray, List.map_cons, List.map_nil]; rfl) ((diskReadOk _ _ _ p9 _ _ (6 * (1 - (i + 1) % 2)) 6 hv D (rest_tick hR) (by rw [hR.pend]; decide) (rest_has hR _ (by omega)) (by rw [hR.left]; decide) (by decide) (by omega) (by rw [hR.len]; omega)).mono ?_)
          rintro e w42 ⟨b41, rfl, F40, hv⟩
          refine ⟨_, rfl, ?_⟩
          have hokD : D.Ok := (hv.get 1 rfl : DiskAt _ _ D _).1
          have hflD := rest_flat hR hokD (1 - (i + 1) % 2) (by omega)
          simp only [Act.put, List.setIfInBounds_toArray, List.set_cons_succ, List.set_cons_zero]
          refine wpi_exG (v := .tuple #[.slice (some ⟨b41, 0, none⟩) 384 384, .int .i64 0]) (fun _ => trivial) (wn rfl) rfl (ex_move rfl rfl) ?_
          refine wpi_exG (v := .slice (some ⟨b41, 0, none⟩) 384 384) (fun _ => trivial) (wn rfl) rfl (ex_extract rfl rfl rfl) ?_
          refine wpi_exG (v := .int .i64 0) (fun _ => trivial) (wn rfl) rfl (ex_extract rfl rfl rfl) ?_
          simp only [Act.put, List.setIfInBounds_toArray, List.set_cons_succ, List.set_cons_zero]
          refine wpi_exG (v := .slice (some ⟨b41, 0, none⟩) 384 384) (fun _ => trivial) (wn rfl) rfl (ex_assign rfl rfl) ?_
          refine wpi_exG (v := .int .i64 0) (fun _ => trivial) (wn rfl) rfl (ex_assign rfl rfl) ?_
          refine wpListIn_nil ?_
          simp only [Act.put, List.setIfInBounds_toArray, List.set_cons_succ, List.set_cons_zero]
          refine then_normal (hK39 _ _ ?_)
          clear hK39 K39
          refine wpIn_seq_k (fun K43 hK43 => ?_)
          refine wpIn_seq_k (fun K44 hK44 => ?_)
          refine wpIn_region_lit ?_
          refine wpi_exG (v := .pointer (some ⟨q15, 0, none⟩)) (fun _ => trivial) (wn rfl) rfl (ex_move rfl rfl) ?_
          refine wpi_exG (v := .int .i64 (i : Int)) (fun _ => trivial) (wn rfl) rfl (ex_move rfl rfl) ?_
          refine wpi_exG (v := .slice (some ⟨rb, roff, none⟩) n ca) (fun _ => trivial) (wn rfl) rfl (ex_move rfl rfl) ?_
          simp only [Act.put, List.setIfInBounds_toArray, List.set_cons_succ, List.set_cons_zero]
          refine wpi_exG (v := .int .i64 (i : Int)) (fun _ => trivial) (wn rfl) rfl (ex_move rfl rfl) ?_
          refine wpi_exG (v := .pointer (some ⟨rb, roff + i, none⟩)) (fun _ => trivial) (wn rfl) rfl (ex_index rfl rfl rfl (run_idx1 (k := i) Try.underlying22 stes22 (by omega))) ?_
          refine wpi_exG (v := .slice ra l.length rc) (fun _ => trivial) (wn rfl) rfl (ex_load rfl rfl (run_load1 stna24 (hrow _ _ hv))) ?_
          simp only [Act.put, List.setIfInBounds_toArray, List.set_cons_succ, List.set_cons_zero]
          refine wpi_exG (v := .agg #[.int .i64 (i : Int), .slice ra l.length rc]) (fun _ => trivial) (wn rfl) rfl (ex_buildN (vs := #[(0, .int .i64 (i : Int)), (1, .slice ra l.length rc)]) rfl (by simp only [List.map_toArray, List.map_cons, List.map_nil]; rfl) (by kernel_rfl)) ?_
          replace hv := hv.front 1 rfl
          simp only [List.eraseIdx_cons_succ, List.eraseIdx_cons_zero] at hv
          replace hv := hv.front 2 rfl
          simp only [List.eraseIdx_cons_succ, List.eraseIdx_cons_zero] at hv
          refine wpi_callG stcallable36 (fun _ => trivial) wideC rfl (wn rfl) rfl (args := #[.pointer (some ⟨q15, 0, none⟩), .agg #[.int .i64 (i : Int), .slice ra l.length rc]]) (by simp only [List.map_toArray, List.map_cons, List.map_nil]; rfl) ((slotsSave _ _ _ q15 p9 0 6 i false D _ (i : Int) _ _ _ l (0 + ((i + 1) % 2) * 6) rfl (by omega) (by decide) (by decide) (by rw [hR.len]; omega) (by rw [hR.len]; decide) (by rw [hR.pend]; decide) rfl hrok hrd.any' hv).mono ?_)
          rintro e w46 ⟨F45, rfl, hv⟩
          refine ⟨_, rfl, ?_⟩
          rw [hsv] at hv ⊢
          refine wpi_exG (v := .bool false) (fun _ => trivial) (wn rfl) rfl (ex_neq (k := .i64) (m := 0) (n := 0) rfl rfl rfl (by decide)) ?_
          simp only [Act.put, List.setIfInBounds_toArray, List.set_cons_succ, List.set_cons_zero]
          refine wpi_exG (v := .bool false) (fun _ => trivial) (wn rfl) rfl (ex_move rfl rfl) ?_
          refine wpi_exG (v := .pointer (some ⟨q15, 0, none⟩)) (fun _ => trivial) (wanted_of (j := 9) (d := 72) (b := false) rfl rfl rfl) rfl (ex_move rfl rfl) ?_
          refine wpi_callG stcallable33 (fun _ => trivial) wideC rfl (wanted_of (j := 9) (d := 72) (b := false) rfl rfl rfl) rfl (args := #[.pointer (some ⟨q15, 0, none⟩)]) (by simp only [List.map_toArray, List.map_cons, List.map_nil]; rfl) ((slotsGeneration _ _ _ q15 p9 0 6 (i + 1) false (hv.front 0 rfl)).mono ?_)
          rintro e w47 ⟨rfl, rfl⟩
          refine ⟨_, rfl, ?_⟩
          simp only [Act.put, List.setIfInBounds_toArray, List.set_cons_succ, List.set_cons_zero]
          refine wpi_exG (v := .int .i64 ((i + 1 : Nat) : Int)) (fun _ => trivial) (wanted_of (j := 9) (d := 72) (b := false) rfl rfl rfl) rfl (ex_move rfl rfl) ?_
          refine wpi_exG (v := .bool false) (fun _ => trivial) (wanted_of (j := 9) (d := 72) (b := false) rfl rfl rfl) rfl (ex_neq (k := .i64) (m := ((i + 1 : Nat) : Int)) (n := ((i + 1 : Nat) : Int)) rfl rfl rfl (decide_eq_false (fun h => h rfl))) ?_
          refine wpi_exG (v := .bool false) (fun _ => trivial) (wn rfl) rfl (ex_pick (b := false) rfl rfl rfl) ?_
          refine wpListIn_nil ?_
          simp only [Act.put, List.setIfInBounds_toArray, List.set_cons_succ, List.set_cons_zero]
          refine then_normal (hK44 _ _ ?_)
          clear hK44 K44
          refine wpIn_cond_false rfl ?_
          refine wpIn_skip ?_
          refine then_normal (hK43 _ _ ?_)
          clear hK43 K43
          refine wpIn_seq_k (fun K48 hK48 => ?_)
          refine wpIn_region_lit ?_
          refine wpi_exG (v := .pointer (some ⟨p9, 0, none⟩)) (fun _ => trivial) (wn rfl) rfl (ex_move rfl rfl) ?_
          refine wpi_exG (v := .int .i64 ((6 * (1 - (i + 1) % 2) : Nat) : Int)) (fun _ => trivial) (wn rfl) rfl (ex_move rfl rfl) ?_
          replace hv := hv.front 1 rfl
          simp only [List.eraseIdx_cons_succ, List.eraseIdx_cons_zero] at hv
          refine wpi_callG stcallable26 (fun _ => trivial) wideC rfl (wn rfl) rfl (args := #[.pointer (some ⟨p9, 0, none⟩), .int .i64 ((6 * (1 - (i + 1) % 2) : Nat) : Int), .int .i64 6]) (by simp only [List.map_toArray, List.map_cons, List.map_nil]; rfl) ((diskReadOk _ _ _ p9 _ _ (6 * (1 - (i + 1) % 2)) 6 hv E (rest_tick hRE) (by rw [hRE.pend]; decide) (rest_has hRE _ (by omega)) (by rw [hRE.left]; decide) (by decide) (by omega) (by rw [hRE.len]; omega)).mono ?_)
          rintro e w51 ⟨b50, rfl, F49, hv⟩
          refine ⟨_, rfl, ?_⟩
          have hokE : E.Ok := (hv.get 1 rfl : DiskAt _ _ E _).1
          have hflE := rest_flat hRE hokE (1 - (i + 1) % 2) (by omega)
          simp only [Act.put, List.setIfInBounds_toArray, List.set_cons_succ, List.set_cons_zero]
          refine wpi_exG (v := .tuple #[.slice (some ⟨b50, 0, none⟩) 384 384, .int .i64 0]) (fun _ => trivial) (wn rfl) rfl (ex_move rfl rfl) ?_
          refine wpi_exG (v := .slice (some ⟨b50, 0, none⟩) 384 384) (fun _ => trivial) (wn rfl) rfl (ex_extract rfl rfl rfl) ?_
          refine wpi_exG (v := .int .i64 0) (fun _ => trivial) (wn rfl) rfl (ex_extract rfl rfl rfl) ?_
          simp only [Act.put, List.setIfInBounds_toArray, List.set_cons_succ, List.set_cons_zero]
          refine wpi_exG (v := .slice (some ⟨b50, 0, none⟩) 384 384) (fun _ => trivial) (wn rfl) rfl (ex_assign rfl rfl) ?_
          refine wpi_exG (v := .int .i64 0) (fun _ => trivial) (wn rfl) rfl (ex_assign rfl rfl) ?_
          refine wpListIn_nil ?_
          simp only [Act.put, List.setIfInBounds_toArray, List.set_cons_succ, List.set_cons_zero]
          refine then_normal (hK48 _ _ ?_)
          clear hK48 K48
          refine wpIn_seq_k (fun K52 hK52 => ?_)
          refine wpIn_region_lit ?_
          refine wpi_exG (v := .slice (some ⟨b41, 0, none⟩) 384 384) (fun _ => trivial) (wn rfl) rfl (ex_move rfl rfl) ?_
          refine wpi_exG (v := .string ⟨((D.view D.pend (6 * (1 - (i + 1) % 2)) 6).flatten).toArray⟩) (fun _ => trivial) (wn rfl) rfl (ex_str Try.underlying24 Try.underlying5 Try.underlying9 rfl rfl (bytes_view (hv.get 3 rfl)) (hflD)) ?_
          refine wpi_exG (v := .slice (some ⟨b50, 0, none⟩) 384 384) (fun _ => trivial) (wn rfl) rfl (ex_move rfl rfl) ?_
          simp only [Act.put, List.setIfInBounds_toArray, List.set_cons_succ, List.set_cons_zero]
          refine wpi_exG (v := .string ⟨((E.view E.pend (6 * (1 - (i + 1) % 2)) 6).flatten).toArray⟩) (fun _ => trivial) (wn rfl) rfl (ex_str Try.underlying24 Try.underlying5 Try.underlying9 rfl rfl (bytes_view (hv.get 0 rfl)) (hflE)) ?_
          refine wpi_exG (v := .bool false) (fun _ => trivial) (wn rfl) rfl (ex_sneq (s := ((D.view D.pend (6 * (1 - (i + 1) % 2)) 6).flatten)) (s' := ((E.view E.pend (6 * (1 - (i + 1) % 2)) 6).flatten)) rfl rfl rfl (decide_eq_false (fun h => h (by rw [hview])))) ?_
          refine wpListIn_nil ?_
          simp only [Act.put, List.setIfInBounds_toArray, List.set_cons_succ, List.set_cons_zero]
          refine then_normal (hK52 _ _ ?_)
          clear hK52 K52
          refine wpIn_cond_false rfl ?_
          refine wpIn_skip ?_
          refine blk_normal ?_
          refine then_normal (hK32 _ _ ?_)
          clear hK32 K32
          refine wpIn_region_lit ?_
          refine wpi_exG (v := .int .i64 (i : Int)) (fun _ => trivial) (wn rfl) rfl (ex_move rfl rfl) ?_
          refine wpi_exG (v := .int .i64 ((i : Int) + 1)) (fun _ => trivial) (wn rfl) rfl (ex_add (m := (i : Int)) (n := 1) rfl rfl rfl (i64_in (by omega))) ?_
          refine wpi_exG (v := .int .i64 ((i : Int) + 1)) (fun _ => trivial) (wn rfl) rfl (ex_assign rfl rfl) ?_
          refine wpListIn_nil ?_
          simp only [Act.put, List.setIfInBounds_toArray, List.set_cons_succ, List.set_cons_zero]
          refine then_normal ?_
          go_roundw
          case rel => exact ⟨i + 1, _, _, by simp, by omega, hRE, (((hv.front 1 rfl).front 2 rfl).sub (List.Sublist.cons_cons _ (List.Sublist.cons_cons _ (List.Sublist.cons _ (List.Sublist.cons _ (List.Sublist.refl _))))))⟩
          case measure => show n - ((i : Int) + 1).toNat < n - (i : Int).toNat; omega
      · refine wpi_exG (v := .bool false) (fun _ => trivial) (wn rfl) rfl (ex_lss (k := .i64) (m := (i : Int)) (n := (n : Int)) rfl rfl rfl (decide_eq_false hb31)) ?_
        refine wpListIn_nil ?_
        simp only [Act.put, List.setIfInBounds_toArray, List.set_cons_succ, List.set_cons_zero]
        refine then_normal (hK30 _ _ ?_)
        clear hK30 K30
        refine wpIn_cond_false rfl ?_
        refine wpIn_exit ?_
        refine then_exit ?_
        clear hK29 K29
        refine then_exit ?_
        refine blk_hit ?_
        refine then_normal (hK26 _ _ ?_)
        clear hK26 K26
        refine wpIn_seq_k (fun K53 hK53 => ?_)
        refine wpIn_region_lit ?_
        refine wpi_exG (v := .bool true) (fun _ => trivial) (wn rfl) rfl (ex_assign rfl rfl) ?_
        refine wpListIn_nil ?_
        simp only [Act.put, List.setIfInBounds_toArray, List.set_cons_succ, List.set_cons_zero]
        refine then_normal (hK53 _ _ ?_)
        clear hK53 K53
        refine wpIn_ret ?_
        refine bodyPost_ret (results_tmp rfl _ _ _) rfl ?_
        exact ⟨rfl, hv.tail 2⟩
theorem rep_rows {W : World} {cs : List Value} {l : List (List UInt8)} (h : Rep W (· < W.heap.size) (.slice (.slice (.int .u8))) cs l) :
    ∃ a cap, cs = [.slice a l.length cap] ∧ SliceOk a l.length cap ∧ RdRows8 (Base.of W) a l := by
  obtain ⟨a, cap, h1, h2, h3⟩ := rep_rows8.1 h
  refine ⟨a, cap, h1, h2, fun i hi => ?_⟩
  obtain ⟨b, off, a', c', e1, e2, e3, e4, e5⟩ := h3 i hi
  refine ⟨b, off, a', c', e1, fun H w hv => ?_, e4, rdV_of W e5.src⟩
  rw [← e3]
  exact World.cell?_of_block (by rw [Array.getElem?_eq_getElem e2]; exact hv.base.blk b _ (Array.getElem?_eq_getElem e2))
end Go.Proofs.Ytkannfkjnohdlaa
