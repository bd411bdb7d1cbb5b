/- DiskKeeps -/
import Derived.Test.YtkannfkjnohdlaaLawDiskOrder
import Derived.Test.YtkannfkjnohdlaaOps3
import Derived.Test.YtkannfkjnohdlaaArgs
namespace Go.Proofs.Ytkannfkjnohdlaa
open Go.RowKit Go.Pm
def sevens : List UInt8 := List.replicate 64 7
def tCells (T : Nat → Bool) : List Value := (List.range 8).map (fun k => .bool (T k))
def turn (T : Nat → Bool) (k : Nat) : Nat → Bool := fun j => T j || j == k
theorem tCells_get (T : Nat → Bool) (k : Nat) (hk : k < 8) {b : Bool} (hb : T k = b) : (tCells T)[0 + k]? = some (.bool b) := by
  rw [Nat.zero_add, ← hb]; simp [tCells, hk]
theorem tCells_set (T : Nat → Bool) (k : Nat) : (tCells T).set (0 + k) (.bool true) = tCells (turn T k) := by
  rw [Nat.zero_add]
  apply List.ext_getElem (by simp [tCells])
  intro i h1 h2
  rw [List.getElem_set]
  by_cases hij : k = i
  · subst hij; simp [tCells, turn]
  · have : (i == k) = false := by simp; omega
    simp [tCells, turn, hij, this]
theorem tCells_no : [.bool false, .bool false, .bool false, .bool false, .bool false, .bool false, .bool false, .bool false] = tCells (fun _ => false) := rfl
structure KInv (T : Nat → Bool) (D : Disk) : Prop where
  len : D.dur.length = 8
  left : D.left = -1
  pend : ∀ p ∈ D.pend, T p.1 = true
  dur : ∀ k, k < 8 → T k = false → D.dur[k]? = some sevens
theorem kinv_start : KInv (fun _ => false) (((Disk.zero 8).write 0 (List.replicate 512 7)).sync) := by
  refine ⟨by kernel_rfl, rfl, (fun p hp => by cases hp), fun k hk _ => ?_⟩
  have : (((Disk.zero 8).write 0 (List.replicate 512 7)).sync).dur = List.replicate 8 sevens := by kernel_rfl
  rw [this, List.getElem?_replicate, if_pos hk]
theorem nsec61 (c : UInt8) : Disk.nsec (List.replicate 61 c) = 1 := by simp only [Disk.nsec, List.length_replicate]
theorem kinv_write {T : Nat → Bool} {D : Disk} (h : KInv T D) (k : Nat) (c : UInt8) : KInv (turn T k) (D.write k (List.replicate 61 c)) := by
  refine ⟨h.len, ?_, fun p hp => ?_, fun j hj ht => h.dur j hj ?_⟩
  · show D.tick.left = -1
    unfold Disk.tick
    rw [if_neg (by rw [h.left]; decide)]
    exact h.left
  · simp only [Disk.write, nsec61, List.mem_append] at hp
    rcases hp with hp | hp
    · simp [turn, h.pend p hp]
    · have := Disk.writesOf_mem hp
      have : p.1 = k := by omega
      simp [turn, this]
  · simp only [turn, Bool.or_eq_false_iff] at ht
    exact ht.1
theorem kinv_put {T : Nat → Bool} (l : List (Nat × List UInt8)) (d : List (List UInt8)) (hl : ∀ p ∈ l, T p.1 = true) (k : Nat) (hk : T k = false) : (l.foldl Disk.put d)[k]? = d[k]? := by
  induction l generalizing d with
  | nil => rfl
  | cons p l ih =>
    rw [List.foldl_cons, ih _ (fun q hq => hl q (by simp [hq]))]
    unfold Disk.put
    rw [List.getElem?_set_ne]
    intro e
    have := hl p (by simp)
    rw [e, hk] at this
    cases this
theorem kinv_crash {T : Nat → Bool} {D : Disk} (h : KInv T D) (ks : List Int) : KInv T (D.crash ks) := by
  refine ⟨?_, rfl, fun p hp => by simp [Disk.crash] at hp, fun k hk ht => ?_⟩
  · simp only [Disk.crash, Disk.foldl_put_length]; exact h.len
  · simp only [Disk.crash]
    rw [kinv_put _ _ (fun p hp => h.pend p (Disk.kept_mem hp)) k ht]
    exact h.dur k hk ht
theorem kinv_tick {T : Nat → Bool} {D : Disk} (h : KInv T D) : D.tick = D := by
  unfold Disk.tick
  rw [if_neg (by rw [h.left]; decide)]
theorem kinv_over {T : Nat → Bool} {l : List (Nat × List UInt8)} (hl : ∀ p ∈ l, T p.1 = true) {k : Nat} (hk : T k = false) (s : List UInt8) : Disk.over l k s = s := by
  unfold Disk.over
  induction l generalizing s with
  | nil => rfl
  | cons p l ih =>
    rw [List.foldl_cons, ih (fun q hq => hl q (by simp [hq]))]
    rw [if_neg (fun e => ?_)]
    have := hl p (by simp)
    rw [e, hk] at this
    cases this
theorem kinv_view {T : Nat → Bool} {D : Disk} (h : KInv T D) {k : Nat} (hk : k < 8) (ht : T k = false) : (D.view D.pend 0 8)[k]? = some sevens := by
  unfold Disk.view
  rw [List.getElem?_map, List.getElem?_range hk]
  simp only [Option.map_some, Nat.zero_add]
  rw [kinv_over h.pend ht, List.getD_eq_getElem?_getD, h.dur k hk ht]
  rfl
theorem kinv_has {T : Nat → Bool} {D : Disk} (h : KInv T D) (k : Nat) (hk : k < 8) (c : UInt8) : D.has (k : Int) (Disk.nsec (List.replicate 61 c)) = true := by
  unfold Disk.has
  rw [nsec61, h.len]
  simp
  omega
theorem kinv_has8 {T : Nat → Bool} {D : Disk} (h : KInv T D) : D.has ((0 : Nat) : Int) ((8 : Nat) : Int) = true := by
  unfold Disk.has
  rw [h.len]
  rfl
theorem bytes_sec {w : World} {b : Nat} {t : TypeId} {v : List (List UInt8)} {s : List UInt8} (h : Blk w b (durCells v) t) (h64 : ∀ s ∈ v, s.length = 64) (k : Nat) (hk : v[k]? = some s) : Bytes w (fun _ => True) (some ⟨b, 0 + k * 64, none⟩) s := by
  obtain ⟨hlt, rfl⟩ := List.getElem?_eq_some_iff.1 hk
  rw [durCells_split v k hlt] at h
  have hs := src_mid h (off := 0 + k * 64) (by
    rw [durCells_length (fun s hs => h64 s (List.mem_of_mem_take hs)), List.length_take, Nat.min_eq_left (Nat.le_of_lt hlt)]; omega)
  intro i hi
  obtain ⟨b', off', h1, h2⟩ := hs i (by simpa using hi)
  exact ⟨b', off', h1, trivial, by simpa using h2⟩
theorem write_len (D : Disk) (k : Nat) (c : UInt8) : (D.write k (List.replicate 61 c)).pend.length = D.pend.length + 1 := by
  simp only [Disk.write, nsec61, Disk.writesOf, List.length_append, List.length_map, List.length_range]
theorem crash_plen (D : Disk) (ks : List Int) : (D.crash ks).pend.length = 0 := rfl
def RdRows (B : Base) (a : Option Addr) (kss : List (List Int)) : Prop := ∀ i (h : i < kss.length), ∃ b off a' c', a = some ⟨b, off, none⟩ ∧ (∀ H w, Inv B H w → w.cell? ⟨b, off + i, none⟩ = some (.slice a' kss[i].length c')) ∧ RdV B [] a' (kss[i].map intV)

theorem dkcallable20 : Callable Try.prog 20 := ⟨_, Try.func20, by kernel_rfl, by kernel_rfl⟩
theorem dkcallable21 : Callable Try.prog 21 := ⟨_, Try.func21, by kernel_rfl, by kernel_rfl⟩
theorem dkcallable23 : Callable Try.prog 23 := ⟨_, Try.func23, by kernel_rfl, by kernel_rfl⟩
theorem dkcallable22 : Callable Try.prog 22 := ⟨_, Try.func22, by kernel_rfl, by kernel_rfl⟩
theorem dkcallable24 : Callable Try.prog 24 := ⟨_, Try.func24, by kernel_rfl, by kernel_rfl⟩
theorem dkal43 (w : World) : (Instr.alloc 43 true (.tuple #[])).run Try.prog w = .ok (.pointer (some ⟨w.heap.size, 0, none⟩)) (w.alloc (.cells ([.bool false, .bool false, .bool false, .bool false, .bool false, .bool false, .bool false, .bool false] : List Value).toArray 43)) := by kernel_rfl
theorem dkes24 (w : World) : (sizeOf (Try.prog.elem 24)).run Try.prog w = .ok 1 w := by kernel_rfl
theorem dkna5 (w : World) : (isAgg 5).run Try.prog w = .ok false w := by kernel_rfl
theorem dkea43 (w : World) : (sizeOf 4).run Try.prog w = .ok 1 w := by kernel_rfl
theorem dkua43 : Try.prog.underlying 43 = some (.array 8 4) := by kernel_rfl
theorem dksz4 : (Try.prog.info? 4).map (·.size) = some 1 := by kernel_rfl
theorem dkes35 (w : World) : (sizeOf (Try.prog.elem 35)).run Try.prog w = .ok 1 w := by kernel_rfl
theorem dkna44 (w : World) : (isAgg 44).run Try.prog w = .ok false w := by kernel_rfl
theorem dkcallable25 : Callable Try.prog 25 := ⟨_, Try.func25, by kernel_rfl, by kernel_rfl⟩
theorem dkcallable26 : Callable Try.prog 26 := ⟨_, Try.func26, by kernel_rfl, by kernel_rfl⟩
theorem dkna4 (w : World) : (isAgg 4).run Try.prog w = .ok false w := by kernel_rfl
set_option maxRecDepth 100000 in
set_option maxHeartbeats 4000000 in
theorem diskKeepsMain (B : Base) (H : List Res) (w : World) (a : Option Addr) (n ca : Nat) (l : List UInt8) (b : Option Addr) (m cb : Nat) (kss : List (List Int)) (hn : l.length = n) (hm : kss.length = m) (hl : RdV B [] a (l.map B8)) (hkss : RdRows B b kss) (hw : ∀ ks ∈ kss, ∀ k ∈ ks, -9223372036854775808 ≤ k ∧ k ≤ 9223372036854775807) (hv : Inv B H w) :
    Calls Try.prog 7 #[.slice a n ca, .slice b m cb] w fun e w' => e = .returned (.bool true) ∧ Inv B H w' := by
  refine (callsIn_wide (n := 5)).1 ?_
  refine callsIn_of_wp Try.func7 rfl trivial ?_
  simp only [Try.ntmps7, List.size_toArray, List.length_cons, List.length_nil, Nat.reduceAdd, Nat.reduceSub, Array.replicate_succ, Array.replicate_zero, List.push_toArray, List.append_toArray, List.nil_append, List.cons_append]
  refine wpIn_seq_k (fun K1 hK1 => ?_)
  refine wpIn_region_lit ?_
  refine wpi_exG (v := .bool false) (fun _ => trivial) (wn rfl) rfl (ex_assign rfl rfl) ?_
  refine wpListIn_nil ?_
  simp only [Act.put, List.setIfInBounds_toArray, List.set_cons_succ, List.set_cons_zero]
  refine then_normal (hK1 _ _ ?_)
  clear hK1 K1
  refine wpIn_seq_k (fun K2 hK2 => ?_)
  refine wpIn_seq_k (fun K3 hK3 => ?_)
  refine wpIn_region_lit ?_
  refine wpi_callG dkcallable20 (fun _ => trivial) wideC rfl (wn rfl) rfl (args := #[]) (by simp only [List.map_toArray, List.map_nil]) ((lawAwake06 _ _ _ hv).mono ?_)
  rintro e w4 ⟨rfl, hv⟩
  refine ⟨_, rfl, ?_⟩
  refine wpi_exG (v := .bool false) (fun _ => trivial) (wn rfl) rfl (ex_not rfl rfl rfl) ?_
  refine wpi_exG (v := .bool false) (fun _ => trivial) (wn rfl) rfl (ex_move rfl rfl) ?_
  simp only [Act.put, List.setIfInBounds_toArray, List.set_cons_succ, List.set_cons_zero]
  refine wpi_exG (v := .slice a n ca) (fun _ => trivial) (wanted_of (j := 2) (d := 16) (b := false) rfl rfl rfl) rfl (ex_move rfl rfl) ?_
  refine wpi_exG (v := .int .i64 (n : Int)) (fun _ => trivial) (wanted_of (j := 2) (d := 16) (b := false) rfl rfl rfl) rfl (ex_len0 Try.underlying24 rfl rfl) ?_
  by_cases hb5 : (n : Int) > 20
  · refine wpi_exG (v := .bool true) (fun _ => trivial) (wanted_of (j := 2) (d := 16) (b := false) rfl rfl rfl) rfl (ex_gtr (k := .i64) (m := (n : Int)) (n := 20) rfl rfl rfl (decide_eq_true hb5)) ?_
    simp only [Act.put, List.setIfInBounds_toArray, List.set_cons_succ, List.set_cons_zero]
    refine wpi_exG (v := .bool true) (fun _ => trivial) (wn rfl) rfl (ex_pick (b := false) rfl rfl rfl) ?_
    refine wpi_exG (v := .bool true) (fun _ => trivial) (wn rfl) rfl (ex_move rfl rfl) ?_
    refine wpi_not (fun _ => trivial) (wanted_not (j := 7) (d := 21) (b := false) (b' := true) rfl rfl rfl (by decide)) ?_
    simp only [Act.put, List.setIfInBounds_toArray, List.set_cons_succ, List.set_cons_zero]
    refine wpi_not (fun _ => trivial) (wanted_not (j := 7) (d := 21) (b := false) (b' := true) rfl rfl rfl (by decide)) ?_
    refine wpi_not (fun _ => trivial) (wanted_not (j := 7) (d := 21) (b := false) (b' := true) rfl rfl rfl (by decide)) ?_
    refine wpi_exG (v := .bool true) (fun _ => trivial) (wn rfl) rfl (ex_pick (b := true) rfl rfl rfl) ?_
    refine wpListIn_nil ?_
    simp only [Act.put, List.setIfInBounds_toArray, List.set_cons_succ, List.set_cons_zero]
    refine then_normal (hK3 _ _ ?_)
    clear hK3 K3
    refine wpIn_cond_true rfl ?_
    refine wpIn_seq_k (fun K6 hK6 => ?_)
    refine wpIn_region_lit ?_
    refine wpi_callG dkcallable20 (fun _ => trivial) wideC rfl (wn rfl) rfl (args := #[]) (by simp only [List.map_toArray, List.map_nil]) ((lawAwake06 _ _ _ hv).mono ?_)
    rintro e w7 ⟨rfl, hv⟩
    refine ⟨_, rfl, ?_⟩
    refine wpi_exG (v := .bool true) (fun _ => trivial) (wn rfl) rfl (ex_assign rfl rfl) ?_
    refine wpListIn_nil ?_
    simp only [Act.put, List.setIfInBounds_toArray, List.set_cons_succ, List.set_cons_zero]
    refine then_normal (hK6 _ _ ?_)
    clear hK6 K6
    refine wpIn_ret ?_
    refine then_ret ?_
    clear hK2 K2
    refine bodyPost_ret (results_tmp rfl _ _ _) rfl ?_
    exact ⟨rfl, hv.tail 0⟩
  · refine wpi_exG (v := .bool false) (fun _ => trivial) (wanted_of (j := 2) (d := 16) (b := false) rfl rfl rfl) rfl (ex_gtr (k := .i64) (m := (n : Int)) (n := 20) rfl rfl rfl (decide_eq_false hb5)) ?_
    simp only [Act.put, List.setIfInBounds_toArray, List.set_cons_succ, List.set_cons_zero]
    refine wpi_exG (v := .bool false) (fun _ => trivial) (wn rfl) rfl (ex_pick (b := false) rfl rfl rfl) ?_
    refine wpi_exG (v := .bool false) (fun _ => trivial) (wn rfl) rfl (ex_move rfl rfl) ?_
    refine wpi_exG (v := .slice b m cb) (fun _ => trivial) (wanted_of (j := 7) (d := 21) (b := false) rfl rfl rfl) rfl (ex_move rfl rfl) ?_
    simp only [Act.put, List.setIfInBounds_toArray, List.set_cons_succ, List.set_cons_zero]
    refine wpi_exG (v := .int .i64 (m : Int)) (fun _ => trivial) (wanted_of (j := 7) (d := 21) (b := false) rfl rfl rfl) rfl (ex_len0 Try.underlying35 rfl rfl) ?_
    by_cases hb8 : (m : Int) > 5
    · refine wpi_exG (v := .bool true) (fun _ => trivial) (wanted_of (j := 7) (d := 21) (b := false) rfl rfl rfl) rfl (ex_gtr (k := .i64) (m := (m : Int)) (n := 5) rfl rfl rfl (decide_eq_true hb8)) ?_
      refine wpi_exG (v := .bool true) (fun _ => trivial) (wn rfl) rfl (ex_pick (b := false) rfl rfl rfl) ?_
      refine wpListIn_nil ?_
      simp only [Act.put, List.setIfInBounds_toArray, List.set_cons_succ, List.set_cons_zero]
      refine then_normal (hK3 _ _ ?_)
      clear hK3 K3
      refine wpIn_cond_true rfl ?_
      refine wpIn_seq_k (fun K9 hK9 => ?_)
      refine wpIn_region_lit ?_
      refine wpi_callG dkcallable20 (fun _ => trivial) wideC rfl (wn rfl) rfl (args := #[]) (by simp only [List.map_toArray, List.map_nil]) ((lawAwake06 _ _ _ hv).mono ?_)
      rintro e w10 ⟨rfl, hv⟩
      refine ⟨_, rfl, ?_⟩
      refine wpi_exG (v := .bool true) (fun _ => trivial) (wn rfl) rfl (ex_assign rfl rfl) ?_
      refine wpListIn_nil ?_
      simp only [Act.put, List.setIfInBounds_toArray, List.set_cons_succ, List.set_cons_zero]
      refine then_normal (hK9 _ _ ?_)
      clear hK9 K9
      refine wpIn_ret ?_
      refine then_ret ?_
      clear hK2 K2
      refine bodyPost_ret (results_tmp rfl _ _ _) rfl ?_
      exact ⟨rfl, hv.tail 0⟩
    · refine wpi_exG (v := .bool false) (fun _ => trivial) (wanted_of (j := 7) (d := 21) (b := false) rfl rfl rfl) rfl (ex_gtr (k := .i64) (m := (m : Int)) (n := 5) rfl rfl rfl (decide_eq_false hb8)) ?_
      refine wpi_exG (v := .bool false) (fun _ => trivial) (wn rfl) rfl (ex_pick (b := false) rfl rfl rfl) ?_
      refine wpListIn_nil ?_
      simp only [Act.put, List.setIfInBounds_toArray, List.set_cons_succ, List.set_cons_zero]
      refine then_normal (hK3 _ _ ?_)
      clear hK3 K3
      refine wpIn_cond_false rfl ?_
      refine wpIn_skip ?_
      refine then_normal (hK2 _ _ ?_)
      clear hK2 K2
      refine wpIn_seq_k (fun K11 hK11 => ?_)
      refine wpIn_region_lit ?_
      refine wpi_callG dkcallable21 (fun _ => trivial) wideC rfl (wn rfl) rfl (args := #[.int .i64 8]) (by simp only [List.map_toArray, List.map_cons, List.map_nil]; rfl) ((diskNewSl _ _ _ 8 (by omega) (by omega) hv).mono ?_)
      rintro e w14 ⟨p12, F13, rfl, hv⟩
      refine ⟨_, rfl, ?_⟩
      refine wpi_exG (v := .tuple #[.pointer (some ⟨p12, 0, none⟩), .int .i64 0]) (fun _ => trivial) (wn rfl) rfl (ex_move rfl rfl) ?_
      refine wpi_exG (v := .pointer (some ⟨p12, 0, none⟩)) (fun _ => trivial) (wn rfl) rfl (ex_extract rfl rfl rfl) ?_
      simp only [Act.put, List.setIfInBounds_toArray, List.set_cons_succ, List.set_cons_zero]
      refine wpi_exG (v := .int .i64 0) (fun _ => trivial) (wn rfl) rfl (ex_extract rfl rfl rfl) ?_
      refine wpi_exG (v := .pointer (some ⟨p12, 0, none⟩)) (fun _ => trivial) (wn rfl) rfl (ex_assign rfl rfl) ?_
      refine wpi_exG (v := .int .i64 0) (fun _ => trivial) (wn rfl) rfl (ex_assign rfl rfl) ?_
      refine wpListIn_nil ?_
      simp only [Act.put, List.setIfInBounds_toArray, List.set_cons_succ, List.set_cons_zero]
      refine then_normal (hK11 _ _ ?_)
      clear hK11 K11
      refine wpIn_seq_k (fun K15 hK15 => ?_)
      refine wpIn_seq_k (fun K16 hK16 => ?_)
      refine wpIn_region_lit ?_
      refine wpi_exG (v := .pointer (some ⟨p12, 0, none⟩)) (fun _ => trivial) (wn rfl) rfl (ex_move rfl rfl) ?_
      refine wpi_exG (v := .bool false) (fun _ => trivial) (wn rfl) rfl (ex_pisnil Try.underlying36 rfl rfl rfl rfl) ?_
      refine wpListIn_nil ?_
      simp only [Act.put, List.setIfInBounds_toArray, List.set_cons_succ, List.set_cons_zero]
      refine then_normal (hK16 _ _ ?_)
      clear hK16 K16
      refine wpIn_cond_false rfl ?_
      refine wpIn_skip ?_
      refine then_normal (hK15 _ _ ?_)
      clear hK15 K15
      refine wpIn_seq_k (fun K17 hK17 => ?_)
      refine wpIn_region_lit ?_
      refine wpi_exG (v := .pointer (some ⟨p12, 0, none⟩)) (fun _ => trivial) (wn rfl) rfl (ex_move rfl rfl) ?_
      refine wpi_callG dkcallable23 (fun _ => trivial) wideC rfl (wn rfl) rfl (args := #[.int .u8 7, .int .i64 8, .int .i64 0]) (by simp only [List.map_toArray, List.map_cons, List.map_nil]; rfl) ((lawFilled _ _ _ 7 7 (rfl) 8 0 512 (by omega) (by omega) hv).mono ?_)
      rintro e w19 ⟨b18, rfl, hv⟩
      refine ⟨_, rfl, ?_⟩
      replace hv := hv.front 1 rfl
      simp only [List.eraseIdx_cons_succ, List.eraseIdx_cons_zero] at hv
      refine wpi_callG dkcallable22 (fun _ => trivial) wideC rfl (wn rfl) rfl (args := #[.pointer (some ⟨p12, 0, none⟩), .int .i64 0, .slice (some ⟨b18, 0, none⟩) 512 512]) (by simp only [List.map_toArray, List.map_cons, List.map_nil]; rfl) ((diskWriteSl _ _ _ p12 _ _ 0 _ _ _ (List.replicate 512 (7 : UInt8)) hv List.length_replicate (ok_full (by omega)) (rd_repAt 0 rfl) (by kernel_rfl) (by decide) (by decide)).mono ?_)
      rintro e w21 ⟨F20, rfl, hv⟩
      refine ⟨_, rfl, ?_⟩
      refine wpListIn_nil ?_
      simp only [Act.put, List.setIfInBounds_toArray, List.set_cons_succ, List.set_cons_zero]
      refine then_normal (hK17 _ _ ?_)
      clear hK17 K17
      refine wpIn_seq_k (fun K22 hK22 => ?_)
      refine wpIn_region_lit ?_
      refine wpi_exG (v := .pointer (some ⟨p12, 0, none⟩)) (fun _ => trivial) (wn rfl) rfl (ex_move rfl rfl) ?_
      refine wpi_callG dkcallable24 (fun _ => trivial) wideC rfl (wn rfl) rfl (args := #[.pointer (some ⟨p12, 0, none⟩)]) (by simp only [List.map_toArray, List.map_cons, List.map_nil]; rfl) ((diskSyncSl _ _ _ p12 _ _ hv (by decide) (by decide)).mono ?_)
      rintro e w24 ⟨F23, rfl, hv⟩
      refine ⟨_, rfl, ?_⟩
      refine wpListIn_nil ?_
      simp only [Act.put, List.setIfInBounds_toArray, List.set_cons_succ, List.set_cons_zero]
      refine then_normal (hK22 _ _ ?_)
      clear hK22 K22
      refine wpIn_seq_k (fun K25 hK25 => ?_)
      refine wpIn_region_lit ?_
      refine sl_alloc (fun _ => trivial) (wn rfl) rfl hv dkal43 (fun b26 w27 hv => ?_)
      refine wpListIn_nil ?_
      simp only [Act.put, List.setIfInBounds_toArray, List.set_cons_succ, List.set_cons_zero]
      refine then_normal (hK25 _ _ ?_)
      clear hK25 K25
      refine wpIn_seq_k (fun K28 hK28 => ?_)
      refine wpIn_seq_k (fun K29 hK29 => ?_)
      refine wpIn_region_lit ?_
      refine wpi_exG (v := .int .i64 0) (fun _ => trivial) (wn rfl) rfl (ex_assign rfl rfl) ?_
      refine wpListIn_nil ?_
      simp only [Act.put, List.setIfInBounds_toArray, List.set_cons_succ, List.set_cons_zero]
      refine then_normal (hK29 _ _ ?_)
      clear hK29 K29
      refine wpIn_block ?_
      rw [tCells_no] at hv
      gi_loopw [8] (fun x8 wr => ∃ (i : Nat) (T : Nat → Bool) (D : Disk) (F : List Nat), x8 = .int .i64 (i : Int) ∧ i ≤ n ∧ KInv T D ∧ D.pend.length ≤ i ∧ Inv B (Res.cell b26 (tCells T) 43 :: diskR p12 D F :: H) wr) (fun x8 _ => n - (intOf x8).toNat)
      case atStart => exact ⟨0, _, _, _, rfl, by omega, kinv_start, Nat.le_refl _, (((hv.front 1 rfl).front 1 rfl).sub (List.Sublist.cons_cons _ (List.Sublist.cons_cons _ (List.Sublist.cons _ (List.Sublist.refl _)))))⟩
      case round =>
        obtain ⟨i, T, D, F, rfl, hi, hK, hpl, hv⟩ := hrel
        refine wpIn_seq_k (fun K31 hK31 => ?_)
        refine wpIn_seq_k (fun K32 hK32 => ?_)
        refine wpIn_region_lit ?_
        refine wpi_exG (v := .int .i64 (i : Int)) (fun _ => trivial) (wn rfl) rfl (ex_move rfl rfl) ?_
        refine wpi_exG (v := .slice a n ca) (fun _ => trivial) (wn rfl) rfl (ex_move rfl rfl) ?_
        refine wpi_exG (v := .int .i64 (n : Int)) (fun _ => trivial) (wn rfl) rfl (ex_len0 Try.underlying24 rfl rfl) ?_
        simp only [Act.put, List.setIfInBounds_toArray, List.set_cons_succ, List.set_cons_zero]
        by_cases hb33 : (i : Int) < (n : Int)
        · refine wpi_exG (v := .bool true) (fun _ => trivial) (wn rfl) rfl (ex_lss (k := .i64) (m := (i : Int)) (n := (n : Int)) rfl rfl rfl (decide_eq_true hb33)) ?_
          refine wpListIn_nil ?_
          simp only [Act.put, List.setIfInBounds_toArray, List.set_cons_succ, List.set_cons_zero]
          refine then_normal (hK32 _ _ ?_)
          clear hK32 K32
          refine wpIn_cond_true rfl ?_
          refine wpIn_skip ?_
          refine then_normal (hK31 _ _ ?_)
          clear hK31 K31
          refine wpIn_seq_k (fun K34 hK34 => ?_)
          refine wpIn_block ?_
          refine wpIn_seq_k (fun K35 hK35 => ?_)
          refine wpIn_region_lit ?_
          refine wpi_exG (v := .slice a n ca) (fun _ => trivial) (wn rfl) rfl (ex_move rfl rfl) ?_
          refine wpi_exG (v := .int .i64 (i : Int)) (fun _ => trivial) (wn rfl) rfl (ex_move rfl rfl) ?_
          have hin : i < l.length := by omega
          obtain ⟨ab, aoff, rfl, hcell⟩ := hl.any.cellAt hv i (by rw [List.length_map]; exact hin)
          simp only [List.getElem_map] at hcell
          generalize l[i] = v at *
          have hv8 := v.toNat_lt
          obtain ⟨k, hkv, hk8⟩ : ∃ k : Nat, ((v.toNat : Int)).tmod 8 = (k : Int) ∧ k < 8 := ⟨v.toNat % 8, by rw [Int.tmod_eq_emod_of_nonneg (by omega)]; omega, by omega⟩
          refine wpi_exG (v := .pointer (some ⟨ab, aoff + i, none⟩)) (fun _ => trivial) (wn rfl) rfl (ex_index rfl rfl rfl (run_idx1 Try.underlying24 dkes24 (by omega))) ?_
          simp only [Act.put, List.setIfInBounds_toArray, List.set_cons_succ, List.set_cons_zero]
          refine wpi_exG (v := .int .u8 (v.toNat : Int)) (fun _ => trivial) (wn rfl) rfl (ex_load rfl rfl (run_load1 dkna5 hcell)) ?_
          refine wpi_exG (v := .int .i64 (v.toNat : Int)) (fun _ => trivial) (wn rfl) rfl (ex_int (m := (v.toNat : Int)) Try.underlying5 Try.underlying3 rfl rfl (i64_in (by omega))) ?_
          refine wpi_exG (v := .int .i64 (k : Int)) (fun _ => trivial) (wn rfl) rfl (ex_rem (m := (v.toNat : Int)) (n := 8) rfl rfl rfl (by decide) hkv) ?_
          simp only [Act.put, List.setIfInBounds_toArray, List.set_cons_succ, List.set_cons_zero]
          refine wpi_exG (v := .int .i64 (k : Int)) (fun _ => trivial) (wn rfl) rfl (ex_assign rfl rfl) ?_
          refine wpListIn_nil ?_
          simp only [Act.put, List.setIfInBounds_toArray, List.set_cons_succ, List.set_cons_zero]
          refine then_normal (hK35 _ _ ?_)
          clear hK35 K35
          refine wpIn_seq_k (fun K36 hK36 => ?_)
          refine wpIn_region_lit ?_
          refine wpi_exG (v := .int .i64 (k : Int)) (fun _ => trivial) (wn rfl) rfl (ex_move rfl rfl) ?_
          refine wpi_exG (v := .pointer (some ⟨b26, 0 + k, none⟩)) (fun _ => trivial) (wn rfl) rfl (ex_index rfl rfl rfl (run_idxA1 dkua43 dkea43 (by omega))) ?_
          refine sl_storeAt 0 (v := .bool true) (L' := tCells (turn T k)) (fun _ => trivial) (wn rfl) rfl rfl rfl hv rfl dksz4 (by simp [tCells]; omega) rfl rfl (tCells_set _ _) (fun w37 hv => ?_)
          simp only [List.set_cons_succ, List.set_cons_zero] at hv
          refine wpListIn_nil ?_
          simp only [Act.put, List.setIfInBounds_toArray, List.set_cons_succ, List.set_cons_zero]
          refine then_normal (hK36 _ _ ?_)
          clear hK36 K36
          refine wpIn_region_lit ?_
          refine wpi_exG (v := .pointer (some ⟨p12, 0, none⟩)) (fun _ => trivial) (wn rfl) rfl (ex_move rfl rfl) ?_
          refine wpi_exG (v := .int .i64 (k : Int)) (fun _ => trivial) (wn rfl) rfl (ex_move rfl rfl) ?_
          refine wpi_exG (v := .int .i64 (i : Int)) (fun _ => trivial) (wn rfl) rfl (ex_move rfl rfl) ?_
          simp only [Act.put, List.setIfInBounds_toArray, List.set_cons_succ, List.set_cons_zero]
          refine wpi_exG (v := .int .i64 (20 + (i : Int))) (fun _ => trivial) (wn rfl) rfl (ex_add (m := 20) (n := (i : Int)) rfl rfl rfl (i64_in (by omega))) ?_
          refine wpi_exG (v := .int .u8 (20 + (i : Int))) (fun _ => trivial) (wn rfl) rfl (ex_int (m := (20 + (i : Int))) Try.underlying3 Try.underlying5 rfl rfl (u8_in (by omega))) ?_
          refine wpi_callG dkcallable23 (fun _ => trivial) wideC rfl (wn rfl) rfl (args := #[.int .u8 (20 + (i : Int)), .int .i64 1, .int .i64 3]) (by simp only [List.map_toArray, List.map_cons, List.map_nil]; rfl) ((lawFilled _ _ _ (UInt8.ofNat (20 + i)) (20 + (i : Int)) (by rw [u8c _ (by omega)]; omega) 1 3 61 (by omega) (by omega) hv).mono ?_)
          rintro e w39 ⟨b38, rfl, hv⟩
          refine ⟨_, rfl, ?_⟩
          simp only [Act.put, List.setIfInBounds_toArray, List.set_cons_succ, List.set_cons_zero]
          replace hv := hv.front 2 rfl
          simp only [List.eraseIdx_cons_succ, List.eraseIdx_cons_zero] at hv
          refine wpi_callG dkcallable22 (fun _ => trivial) wideC rfl (wn rfl) rfl (args := #[.pointer (some ⟨p12, 0, none⟩), .int .i64 (k : Int), .slice (some ⟨b38, 0, none⟩) 61 61]) (by simp only [List.map_toArray, List.map_cons, List.map_nil]; rfl) ((diskWriteSl _ _ _ p12 _ _ k _ _ _ (List.replicate 61 (UInt8.ofNat (20 + i) : UInt8)) hv List.length_replicate (ok_full (by omega)) (rd_repAt 0 rfl) (kinv_has hK _ hk8 _) (by rw [hK.left]; decide) (by omega)).mono ?_)
          rintro e w41 ⟨F40, rfl, hv⟩
          refine ⟨_, rfl, ?_⟩
          refine wpListIn_nil ?_
          simp only [Act.put, List.setIfInBounds_toArray, List.set_cons_succ, List.set_cons_zero]
          refine blk_normal ?_
          refine then_normal (hK34 _ _ ?_)
          clear hK34 K34
          refine wpIn_region_lit ?_
          refine wpi_exG (v := .int .i64 (i : Int)) (fun _ => trivial) (wn rfl) rfl (ex_move rfl rfl) ?_
          refine wpi_exG (v := .int .i64 ((i : Int) + 1)) (fun _ => trivial) (wn rfl) rfl (ex_add (m := (i : Int)) (n := 1) rfl rfl rfl (i64_in (by omega))) ?_
          refine wpi_exG (v := .int .i64 ((i : Int) + 1)) (fun _ => trivial) (wn rfl) rfl (ex_assign rfl rfl) ?_
          refine wpListIn_nil ?_
          simp only [Act.put, List.setIfInBounds_toArray, List.set_cons_succ, List.set_cons_zero]
          refine then_normal ?_
          go_roundw
          case rel => exact ⟨i + 1, _, _, _, by simp, by omega, kinv_write hK _ _, by rw [write_len]; omega, ((hv.front 2 rfl).sub (List.Sublist.cons_cons _ (List.Sublist.cons_cons _ (List.Sublist.cons _ (List.Sublist.refl _)))))⟩
          case measure => show n - ((i : Int) + 1).toNat < n - (i : Int).toNat; omega
        · refine wpi_exG (v := .bool false) (fun _ => trivial) (wn rfl) rfl (ex_lss (k := .i64) (m := (i : Int)) (n := (n : Int)) rfl rfl rfl (decide_eq_false hb33)) ?_
          refine wpListIn_nil ?_
          simp only [Act.put, List.setIfInBounds_toArray, List.set_cons_succ, List.set_cons_zero]
          refine then_normal (hK32 _ _ ?_)
          clear hK32 K32
          refine wpIn_cond_false rfl ?_
          refine wpIn_exit ?_
          refine then_exit ?_
          clear hK31 K31
          refine then_exit ?_
          refine blk_hit ?_
          refine then_normal (hK28 _ _ ?_)
          clear hK28 K28
          refine wpIn_seq_k (fun K42 hK42 => ?_)
          refine wpIn_seq_k (fun K43 hK43 => ?_)
          refine wpIn_region_lit ?_
          refine wpi_exG (v := .int .i64 0) (fun _ => trivial) (wn rfl) rfl (ex_assign rfl rfl) ?_
          refine wpListIn_nil ?_
          simp only [Act.put, List.setIfInBounds_toArray, List.set_cons_succ, List.set_cons_zero]
          refine then_normal (hK43 _ _ ?_)
          clear hK43 K43
          refine wpIn_block ?_
          gi_loopw [10] (fun x10 wr => ∃ (i : Nat) (D : Disk) (F : List Nat), x10 = .int .i64 (i : Int) ∧ i ≤ m + 1 ∧ KInv T D ∧ D.pend.length ≤ 20 ∧ Inv B (Res.cell b26 (tCells T) 43 :: diskR p12 D F :: H) wr) (fun x10 _ => m + 1 - (intOf x10).toNat)
          case atStart => exact ⟨0, _, _, rfl, by omega, hK, by omega, hv⟩
          case round =>
            obtain ⟨i, D, F, rfl, hi, hK, hpl, hv⟩ := hrel
            refine wpIn_seq_k (fun K45 hK45 => ?_)
            refine wpIn_seq_k (fun K46 hK46 => ?_)
            refine wpIn_region_lit ?_
            refine wpi_exG (v := .int .i64 (i : Int)) (fun _ => trivial) (wn rfl) rfl (ex_move rfl rfl) ?_
            refine wpi_exG (v := .slice b m cb) (fun _ => trivial) (wn rfl) rfl (ex_move rfl rfl) ?_
            refine wpi_exG (v := .int .i64 (m : Int)) (fun _ => trivial) (wn rfl) rfl (ex_len0 Try.underlying35 rfl rfl) ?_
            simp only [Act.put, List.setIfInBounds_toArray, List.set_cons_succ, List.set_cons_zero]
            by_cases hb47 : (i : Int) ≤ (m : Int)
            · refine wpi_exG (v := .bool true) (fun _ => trivial) (wn rfl) rfl (ex_leq (k := .i64) (m := (i : Int)) (n := (m : Int)) rfl rfl rfl (decide_eq_true hb47)) ?_
              refine wpListIn_nil ?_
              simp only [Act.put, List.setIfInBounds_toArray, List.set_cons_succ, List.set_cons_zero]
              refine then_normal (hK46 _ _ ?_)
              clear hK46 K46
              refine wpIn_cond_true rfl ?_
              refine wpIn_skip ?_
              refine then_normal (hK45 _ _ ?_)
              clear hK45 K45
              refine wpIn_seq_k (fun K48 hK48 => ?_)
              refine wpIn_block ?_
              refine wpIn_seq_k (fun K49 hK49 => ?_)
              refine wpIn_seq_k (fun K50 hK50 => ?_)
              refine wpIn_region_lit ?_
              refine wpi_exG (v := .int .i64 (i : Int)) (fun _ => trivial) (wn rfl) rfl (ex_move rfl rfl) ?_
              refine wpi_exG (v := .slice b m cb) (fun _ => trivial) (wn rfl) rfl (ex_move rfl rfl) ?_
              refine wpi_exG (v := .int .i64 (m : Int)) (fun _ => trivial) (wn rfl) rfl (ex_len0 Try.underlying35 rfl rfl) ?_
              simp only [Act.put, List.setIfInBounds_toArray, List.set_cons_succ, List.set_cons_zero]
              by_cases hb51 : (i : Int) < (m : Int)
              · refine wpi_exG (v := .bool true) (fun _ => trivial) (wn rfl) rfl (ex_lss (k := .i64) (m := (i : Int)) (n := (m : Int)) rfl rfl rfl (decide_eq_true hb51)) ?_
                refine wpListIn_nil ?_
                simp only [Act.put, List.setIfInBounds_toArray, List.set_cons_succ, List.set_cons_zero]
                refine then_normal (hK50 _ _ ?_)
                clear hK50 K50
                refine wpIn_cond_true rfl ?_
                refine wpIn_seq_k (fun K52 hK52 => ?_)
                refine wpIn_seq_k (fun K53 hK53 => ?_)
                refine wpIn_region_lit ?_
                refine wpi_exG (v := .slice b m cb) (fun _ => trivial) (wn rfl) rfl (ex_move rfl rfl) ?_
                refine wpi_exG (v := .int .i64 (i : Int)) (fun _ => trivial) (wn rfl) rfl (ex_move rfl rfl) ?_
                have hin : i < kss.length := by omega
                obtain ⟨rb, roff, ra, rc, rfl, hrow, hrd⟩ := hkss i hin
                have hkw := hw _ (List.getElem_mem hin)
                generalize kss[i] = ks at *
                refine wpi_exG (v := .pointer (some ⟨rb, roff + i, none⟩)) (fun _ => trivial) (wn rfl) rfl (ex_index rfl rfl rfl (run_idx1 Try.underlying35 dkes35 (by omega))) ?_
                simp only [Act.put, List.setIfInBounds_toArray, List.set_cons_succ, List.set_cons_zero]
                refine wpi_exG (v := .slice ra ks.length rc) (fun _ => trivial) (wn rfl) rfl (ex_load rfl rfl (run_load1 dkna44 (hrow _ _ hv))) ?_
                refine wpi_exG (v := .int .i64 (ks.length : Int)) (fun _ => trivial) (wn rfl) rfl (ex_len0 Try.underlying44 rfl rfl) ?_
                by_cases hb54 : (ks.length : Int) > 60
                · refine wpi_exG (v := .bool true) (fun _ => trivial) (wn rfl) rfl (ex_gtr (k := .i64) (m := (ks.length : Int)) (n := 60) rfl rfl rfl (decide_eq_true hb54)) ?_
                  refine wpListIn_nil ?_
                  simp only [Act.put, List.setIfInBounds_toArray, List.set_cons_succ, List.set_cons_zero]
                  refine then_normal (hK53 _ _ ?_)
                  clear hK53 K53
                  refine wpIn_cond_true rfl ?_
                  refine wpIn_seq_k (fun K55 hK55 => ?_)
                  refine wpIn_region_lit ?_
                  refine wpi_exG (v := .bool true) (fun _ => trivial) (wn rfl) rfl (ex_assign rfl rfl) ?_
                  refine wpListIn_nil ?_
                  simp only [Act.put, List.setIfInBounds_toArray, List.set_cons_succ, List.set_cons_zero]
                  refine then_normal (hK55 _ _ ?_)
                  clear hK55 K55
                  refine wpIn_ret ?_
                  refine then_ret ?_
                  clear hK52 K52
                  refine then_ret ?_
                  clear hK49 K49
                  refine blk_ret ?_
                  refine then_ret ?_
                  clear hK48 K48
                  refine then_ret ?_
                  refine blk_ret ?_
                  refine then_ret ?_
                  clear hK42 K42
                  refine bodyPost_ret (results_tmp rfl _ _ _) rfl ?_
                  exact ⟨rfl, hv.tail 2⟩
                · refine wpi_exG (v := .bool false) (fun _ => trivial) (wn rfl) rfl (ex_gtr (k := .i64) (m := (ks.length : Int)) (n := 60) rfl rfl rfl (decide_eq_false hb54)) ?_
                  refine wpListIn_nil ?_
                  simp only [Act.put, List.setIfInBounds_toArray, List.set_cons_succ, List.set_cons_zero]
                  refine then_normal (hK53 _ _ ?_)
                  clear hK53 K53
                  refine wpIn_cond_false rfl ?_
                  refine wpIn_skip ?_
                  refine then_normal (hK52 _ _ ?_)
                  clear hK52 K52
                  refine wpIn_region_lit ?_
                  refine wpi_exG (v := .pointer (some ⟨p12, 0, none⟩)) (fun _ => trivial) (wn rfl) rfl (ex_move rfl rfl) ?_
                  refine wpi_exG (v := .slice (some ⟨rb, roff, none⟩) m cb) (fun _ => trivial) (wn rfl) rfl (ex_move rfl rfl) ?_
                  refine wpi_exG (v := .int .i64 (i : Int)) (fun _ => trivial) (wn rfl) rfl (ex_move rfl rfl) ?_
                  simp only [Act.put, List.setIfInBounds_toArray, List.set_cons_succ, List.set_cons_zero]
                  refine wpi_exG (v := .pointer (some ⟨rb, roff + i, none⟩)) (fun _ => trivial) (wn rfl) rfl (ex_index rfl rfl rfl (run_idx1 Try.underlying35 dkes35 (by omega))) ?_
                  refine wpi_exG (v := .slice ra ks.length rc) (fun _ => trivial) (wn rfl) rfl (ex_load rfl rfl (run_load1 dkna44 (hrow _ _ hv))) ?_
                  replace hv := hv.front 1 rfl
                  simp only [List.eraseIdx_cons_succ, List.eraseIdx_cons_zero] at hv
                  refine wpi_callG dkcallable25 (fun _ => trivial) wideC rfl (wn rfl) rfl (args := #[.pointer (some ⟨p12, 0, none⟩), .slice ra ks.length rc]) (by simp only [List.map_toArray, List.map_cons, List.map_nil]; rfl) ((diskCrashSl _ _ _ p12 _ _ _ _ _ (ks) hv (by omega) rfl (by omega) hrd.any hkw).mono ?_)
                  rintro e w57 ⟨F56, rfl, hv⟩
                  refine ⟨_, rfl, ?_⟩
                  replace hK := kinv_crash hK ks
                  replace hpl : (D.crash ks).pend.length ≤ 20 := by rw [crash_plen]; omega
                  generalize D.crash ks = D at *
                  refine wpListIn_nil ?_
                  simp only [Act.put, List.setIfInBounds_toArray, List.set_cons_succ, List.set_cons_zero]
                  refine then_normal (hK49 _ _ ?_)
                  clear hK49 K49
                  refine wpIn_seq_k (fun K58 hK58 => ?_)
                  refine wpIn_region_lit ?_
                  refine wpi_exG (v := .pointer (some ⟨p12, 0, none⟩)) (fun _ => trivial) (wn rfl) rfl (ex_move rfl rfl) ?_
                  refine wpi_callG dkcallable26 (fun _ => trivial) wideC rfl (wn rfl) rfl (args := #[.pointer (some ⟨p12, 0, none⟩), .int .i64 0, .int .i64 8]) (by simp only [List.map_toArray, List.map_cons, List.map_nil]; rfl) ((diskReadOk _ _ _ p12 _ _ 0 8 hv D (kinv_tick hK) (by omega) (kinv_has8 hK) (by rw [hK.left]; decide) (by decide) (by decide) (by rw [hK.len]; decide)).mono ?_)
                  rintro e w61 ⟨b60, rfl, F59, hv⟩
                  refine ⟨_, rfl, ?_⟩
                  refine wpi_exG (v := .tuple #[.slice (some ⟨b60, 0, none⟩) 512 512, .int .i64 0]) (fun _ => trivial) (wn rfl) rfl (ex_move rfl rfl) ?_
                  simp only [Act.put, List.setIfInBounds_toArray, List.set_cons_succ, List.set_cons_zero]
                  refine wpi_exG (v := .slice (some ⟨b60, 0, none⟩) 512 512) (fun _ => trivial) (wn rfl) rfl (ex_extract rfl rfl rfl) ?_
                  refine wpi_exG (v := .int .i64 0) (fun _ => trivial) (wn rfl) rfl (ex_extract rfl rfl rfl) ?_
                  refine wpi_exG (v := .slice (some ⟨b60, 0, none⟩) 512 512) (fun _ => trivial) (wn rfl) rfl (ex_assign rfl rfl) ?_
                  simp only [Act.put, List.setIfInBounds_toArray, List.set_cons_succ, List.set_cons_zero]
                  refine wpi_exG (v := .int .i64 0) (fun _ => trivial) (wn rfl) rfl (ex_assign rfl rfl) ?_
                  refine wpListIn_nil ?_
                  simp only [Act.put, List.setIfInBounds_toArray, List.set_cons_succ, List.set_cons_zero]
                  refine then_normal (hK58 _ _ ?_)
                  clear hK58 K58
                  refine wpIn_seq_k (fun K62 hK62 => ?_)
                  refine wpIn_seq_k (fun K63 hK63 => ?_)
                  refine wpIn_region_lit ?_
                  refine wpi_exG (v := .int .i64 0) (fun _ => trivial) (wn rfl) rfl (ex_move rfl rfl) ?_
                  refine wpi_exG (v := .bool false) (fun _ => trivial) (wn rfl) rfl (ex_neq (k := .i64) (m := 0) (n := 0) rfl rfl rfl (by decide)) ?_
                  refine wpi_exG (v := .bool false) (fun _ => trivial) (wn rfl) rfl (ex_move rfl rfl) ?_
                  simp only [Act.put, List.setIfInBounds_toArray, List.set_cons_succ, List.set_cons_zero]
                  refine wpi_exG (v := .slice (some ⟨b60, 0, none⟩) 512 512) (fun _ => trivial) (wanted_of (j := 2) (d := 88) (b := false) rfl rfl rfl) rfl (ex_move rfl rfl) ?_
                  refine wpi_exG (v := .int .i64 512) (fun _ => trivial) (wanted_of (j := 2) (d := 88) (b := false) rfl rfl rfl) rfl (ex_len0 Try.underlying24 rfl rfl) ?_
                  refine wpi_exG (v := .bool false) (fun _ => trivial) (wanted_of (j := 2) (d := 88) (b := false) rfl rfl rfl) rfl (ex_neq (k := .i64) (m := 512) (n := 512) rfl rfl rfl (by decide)) ?_
                  simp only [Act.put, List.setIfInBounds_toArray, List.set_cons_succ, List.set_cons_zero]
                  refine wpi_exG (v := .bool false) (fun _ => trivial) (wn rfl) rfl (ex_pick (b := false) rfl rfl rfl) ?_
                  refine wpListIn_nil ?_
                  simp only [Act.put, List.setIfInBounds_toArray, List.set_cons_succ, List.set_cons_zero]
                  refine then_normal (hK63 _ _ ?_)
                  clear hK63 K63
                  refine wpIn_cond_false rfl ?_
                  refine wpIn_skip ?_
                  refine then_normal (hK62 _ _ ?_)
                  clear hK62 K62
                  refine wpIn_seq_k (fun K64 hK64 => ?_)
                  have hv64 : ∀ s ∈ D.view D.pend 0 8, s.length = 64 := by
                    have hok : D.Ok := (hv.get 1 rfl : DiskAt _ _ D _).1
                    exact Disk.view_64 hok (fun p hp => (hok.pend p hp).2) (by rw [hK.len]; decide)
                  refine wpIn_region_lit ?_
                  refine wpi_exG (v := .int .i64 0) (fun _ => trivial) (wn rfl) rfl (ex_assign rfl rfl) ?_
                  refine wpListIn_nil ?_
                  simp only [Act.put, List.setIfInBounds_toArray, List.set_cons_succ, List.set_cons_zero]
                  refine then_normal (hK64 _ _ ?_)
                  clear hK64 K64
                  refine wpIn_block ?_
                  gi_loopw [13] (fun x13 wr => ∃ k : Nat, x13 = .int .i64 (k : Int) ∧ k ≤ 8 ∧ Inv B (Res.cell b60 (durCells (D.view D.pend 0 8)) 5 :: diskR p12 D F59 :: Res.cell b26 (tCells T) 43 :: H) wr) (fun x13 _ => 8 - (intOf x13).toNat)
                  case atStart => exact ⟨0, rfl, by omega, hv⟩
                  case round =>
                    obtain ⟨k, rfl, hk, hv⟩ := hrel
                    refine wpIn_seq_k (fun K66 hK66 => ?_)
                    refine wpIn_seq_k (fun K67 hK67 => ?_)
                    refine wpIn_region_lit ?_
                    refine wpi_exG (v := .int .i64 (k : Int)) (fun _ => trivial) (wn rfl) rfl (ex_move rfl rfl) ?_
                    by_cases hb68 : (k : Int) < 8
                    · refine wpi_exG (v := .bool true) (fun _ => trivial) (wn rfl) rfl (ex_lss (k := .i64) (m := (k : Int)) (n := 8) rfl rfl rfl (decide_eq_true hb68)) ?_
                      refine wpListIn_nil ?_
                      simp only [Act.put, List.setIfInBounds_toArray, List.set_cons_succ, List.set_cons_zero]
                      refine then_normal (hK67 _ _ ?_)
                      clear hK67 K67
                      refine wpIn_cond_true rfl ?_
                      refine wpIn_skip ?_
                      refine then_normal (hK66 _ _ ?_)
                      clear hK66 K66
                      refine wpIn_seq_k (fun K69 hK69 => ?_)
                      refine wpIn_block ?_
                      refine wpIn_seq_k (fun K70 hK70 => ?_)
                      rcases hTk : T k
                      · refine region_mono mixed [SP.eq (.int .i64 (k : Int)), SP.eq (.pointer (some ⟨b26, 0 + k, none⟩)), SP.eq (.bool false), SP.eq (.bool true), SP.eq (.bool true), SP.eq (.slice (some ⟨b60, 0, none⟩) 512 512), SP.eq (.int .i64 (k : Int)), SP.eq (.int .i64 ((k * 64 : Nat) : Int)), SP.eq (.int .i64 (k : Int)), SP.eq (.int .i64 ((k * 64 : Nat) : Int)), SP.eq (.int .i64 ((k * 64 + 64 : Nat) : Int)), SP.eq (.slice (some ⟨b60, 0 + (k * 64 : Nat), none⟩) ((k * 64 + 64 : Nat) - (k * 64 : Nat)) (512 - (k * 64 : Nat))), SP.eq (.string ⟨(List.replicate 64 (7 : UInt8)).toArray⟩), SP.slc (List.replicate 64 (B8 7)) 64 5, SP.eq (.string ⟨(List.replicate 64 (7 : UInt8)).toArray⟩), SP.eq (.bool false), SP.eq (.bool false)] 114 rfl (by kernel_rfl) hv ⟨?_, ?_, ?_, ?_, ?_, ?_, ?_, ?_, ?_, ?_, ?_, ?_, ?_, ?_, ?_, ?_, ?_, trivial⟩ (fun i o w h => ?_) ?_
                        · intro a w hv hR
                          exact Ex.ok' (ex_move rfl (show a.eval (.tmp 13) = _ from hR.keep 13 rfl)) (wn rfl) rfl
                        · intro a w hv hR
                          exact Ex.ok' (ex_index rfl (show a.eval (.tmp 7) = _ from hR.keep 7 rfl) (show a.eval (.tmp 97) = _ from hR.pred 0 97 rfl rfl) (run_idxA1 dkua43 dkea43 (by omega))) (wn rfl) rfl
                        · intro a w hv hR
                          exact Ex.ok' (ex_load rfl (show a.eval (.tmp 98) = _ from hR.pred 1 98 rfl rfl) (run_load1 dkna4 (hv.load 2 (0 + k) rfl (tCells_get _ _ (by omega) hTk)))) (wn rfl) rfl
                        · intro a w hv hR
                          exact Ex.ok' (ex_not rfl (show a.eval (.tmp 99) = _ from hR.pred 2 99 rfl rfl) rfl) (wn rfl) rfl
                        · intro a w hv hR
                          exact Ex.ok' (ex_move rfl (show a.eval (.tmp 100) = _ from hR.pred 3 100 rfl rfl)) (wn rfl) rfl
                        · intro a w hv hR
                          exact Ex.ok' (ex_move rfl (show a.eval (.tmp 11) = _ from hR.keep 11 rfl)) (wanted_of (j := 4) (d := 101) (b := true) rfl rfl (hR.pred 4 101 rfl rfl)) rfl
                        · intro a w hv hR
                          exact Ex.ok' (ex_move rfl (show a.eval (.tmp 13) = _ from hR.keep 13 rfl)) (wanted_of (j := 4) (d := 101) (b := true) rfl rfl (hR.pred 4 101 rfl rfl)) rfl
                        · intro a w hv hR
                          exact Ex.ok' (ex_mul (m := 64) (n := (k : Int)) rfl rfl (show a.eval (.tmp 103) = _ from hR.pred 6 103 rfl rfl) (by rw [i64_in (by omega)]; omega)) (wanted_of (j := 4) (d := 101) (b := true) rfl rfl (hR.pred 4 101 rfl rfl)) rfl
                        · intro a w hv hR
                          exact Ex.ok' (ex_move rfl (show a.eval (.tmp 13) = _ from hR.keep 13 rfl)) (wanted_of (j := 4) (d := 101) (b := true) rfl rfl (hR.pred 4 101 rfl rfl)) rfl
                        · intro a w hv hR
                          exact Ex.ok' (ex_mul (m := 64) (n := (k : Int)) rfl rfl (show a.eval (.tmp 105) = _ from hR.pred 8 105 rfl rfl) (by rw [i64_in (by omega)]; omega)) (wanted_of (j := 4) (d := 101) (b := true) rfl rfl (hR.pred 4 101 rfl rfl)) rfl
                        · intro a w hv hR
                          exact Ex.ok' (ex_add (m := ((k * 64 : Nat) : Int)) (n := 64) rfl (show a.eval (.tmp 106) = _ from hR.pred 9 106 rfl rfl) rfl (by rw [i64_in (by omega)]; omega)) (wanted_of (j := 4) (d := 101) (b := true) rfl rfl (hR.pred 4 101 rfl rfl)) rfl
                        · intro a w hv hR
                          exact Ex.ok' (ex_slice (lo' := some (.int .i64 ((k * 64 : Nat) : Int))) (hi' := some (.int .i64 ((k * 64 + 64 : Nat) : Int))) rfl (show a.eval (.tmp 102) = _ from hR.pred 5 102 rfl rfl) (congrArg some (show a.eval (.tmp 104) = _ from hR.pred 7 104 rfl rfl)) (congrArg some (show a.eval (.tmp 107) = _ from hR.pred 10 107 rfl rfl)) rfl (run_lohi1 Try.underlying24 dkes24 (by omega) (by omega) (by omega))) (wanted_of (j := 4) (d := 101) (b := true) rfl rfl (hR.pred 4 101 rfl rfl)) rfl
                        · intro a w hv hR
                          exact Ex.ok' (ex_str Try.underlying24 Try.underlying5 Try.underlying9 rfl (show a.eval (.tmp 108) = _ from hR.pred 11 108 rfl rfl) (bytes_sec (hv.get 0 rfl : Blk _ _ (durCells (D.view D.pend 0 8)) _) hv64 k (kinv_view hK (by omega) hTk)) (by show (List.replicate 64 (7 : UInt8)).length = _; rw [List.length_replicate]; omega)) (wanted_of (j := 4) (d := 101) (b := true) rfl rfl (hR.pred 4 101 rfl rfl)) rfl
                        · intro a w hv hR
                          exact stepOk_calls dkcallable23 (wanted_of (j := 4) (d := 101) (b := true) rfl rfl (hR.pred 4 101 rfl rfl)) rfl (args := #[.int .u8 7, .int .i64 1, .int .i64 0]) (by simp only [List.map_toArray, List.map_cons, List.map_nil]; rfl) ((lawFilled (Base.of w) _ w 7 7 (rfl) 1 0 64 (by omega) (by omega) (Inv.start w)).mono fun e w' ⟨b, he, hi⟩ => ⟨_, he, ext_of hi, b, rfl, hi.head⟩)
                        · intro a w hv hR
                          obtain ⟨b, hve, hblk⟩ := hR.pred 13 110 rfl rfl
                          exact Ex.ok' (ex_str Try.underlying24 Try.underlying5 Try.underlying9 rfl (show a.eval (.tmp 110) = _ from hve) (bytes_rep (c := 7) hblk) List.length_replicate) (wanted_of (j := 4) (d := 101) (b := true) rfl rfl (hR.pred 4 101 rfl rfl)) rfl
                        · intro a w hv hR
                          exact Ex.ok' (ex_sneq (s := (List.replicate 64 (7 : UInt8))) (s' := (List.replicate 64 (7 : UInt8))) rfl (show a.eval (.tmp 109) = _ from hR.pred 12 109 rfl rfl) (show a.eval (.tmp 111) = _ from hR.pred 14 111 rfl rfl) (decide_eq_false (fun h => h rfl))) (wanted_of (j := 4) (d := 101) (b := true) rfl rfl (hR.pred 4 101 rfl rfl)) rfl
                        · intro a w hv hR
                          exact Ex.ok' (ex_pick (b := true) rfl (show a.eval (.tmp 101) = _ from hR.pred 4 101 rfl rfl) (show a.eval (.tmp 112) = _ from hR.pred 15 112 rfl rfl)) (wn rfl) rfl
                        · exact (no_none (by kernel_rfl) i o h).elim
                        rintro _ w72 ⟨_, _, rfl, rfl, ⟨_, _, rfl, rfl, ⟨_, _, rfl, rfl, ⟨_, _, rfl, rfl, ⟨_, _, rfl, rfl, ⟨_, _, rfl, rfl, ⟨_, _, rfl, rfl, ⟨_, _, rfl, rfl, ⟨_, _, rfl, rfl, ⟨_, _, rfl, rfl, ⟨_, _, rfl, rfl, ⟨_, _, rfl, rfl, ⟨_, _, rfl, rfl, ⟨_, _, rfl, ⟨b71, rfl, hblkb71⟩, ⟨_, _, rfl, rfl, ⟨_, _, rfl, rfl, ⟨_, _, rfl, rfl, rfl⟩⟩⟩⟩⟩⟩⟩⟩⟩⟩⟩⟩⟩⟩⟩⟩⟩ hv
                        simp only [putAll, Act.put, List.setIfInBounds_toArray, List.set_cons_succ, List.set_cons_zero]
                        refine then_normal (hK70 _ _ ?_)
                        clear hK70 K70
                        refine wpIn_cond_false rfl ?_
                        refine wpIn_skip ?_
                        refine blk_normal ?_
                        refine then_normal (hK69 _ _ ?_)
                        clear hK69 K69
                        refine wpIn_region_lit ?_
                        refine wpi_exG (v := .int .i64 (k : Int)) (fun _ => trivial) (wn rfl) rfl (ex_move rfl rfl) ?_
                        refine wpi_exG (v := .int .i64 ((k : Int) + 1)) (fun _ => trivial) (wn rfl) rfl (ex_add (m := (k : Int)) (n := 1) rfl rfl rfl (i64_in (by omega))) ?_
                        refine wpi_exG (v := .int .i64 ((k : Int) + 1)) (fun _ => trivial) (wn rfl) rfl (ex_assign rfl rfl) ?_
                        refine wpListIn_nil ?_
                        simp only [Act.put, List.setIfInBounds_toArray, List.set_cons_succ, List.set_cons_zero]
                        refine then_normal ?_
                        go_roundw
                        case rel => exact ⟨k + 1, by simp, by omega, hv⟩
                        case measure => show 8 - ((k : Int) + 1).toNat < 8 - (k : Int).toNat; omega
                      · refine region_mono mixed [SP.eq (.int .i64 (k : Int)), SP.eq (.pointer (some ⟨b26, 0 + k, none⟩)), SP.eq (.bool true), SP.eq (.bool false), SP.eq (.bool false), SP.eq (undef), SP.eq (undef), SP.eq (undef), SP.eq (undef), SP.eq (undef), SP.eq (undef), SP.eq (undef), SP.eq (undef), SP.eq (undef), SP.eq (undef), SP.eq (undef), SP.eq (.bool false)] 114 rfl (by kernel_rfl) hv ⟨?_, ?_, ?_, ?_, ?_, ?_, ?_, ?_, ?_, ?_, ?_, ?_, ?_, ?_, ?_, ?_, ?_, trivial⟩ (fun i o w h => ?_) ?_
                        · intro a w hv hR
                          exact Ex.ok' (ex_move rfl (show a.eval (.tmp 13) = _ from hR.keep 13 rfl)) (wn rfl) rfl
                        · intro a w hv hR
                          exact Ex.ok' (ex_index rfl (show a.eval (.tmp 7) = _ from hR.keep 7 rfl) (show a.eval (.tmp 97) = _ from hR.pred 0 97 rfl rfl) (run_idxA1 dkua43 dkea43 (by omega))) (wn rfl) rfl
                        · intro a w hv hR
                          exact Ex.ok' (ex_load rfl (show a.eval (.tmp 98) = _ from hR.pred 1 98 rfl rfl) (run_load1 dkna4 (hv.load 2 (0 + k) rfl (tCells_get _ _ (by omega) hTk)))) (wn rfl) rfl
                        · intro a w hv hR
                          exact Ex.ok' (ex_not rfl (show a.eval (.tmp 99) = _ from hR.pred 2 99 rfl rfl) rfl) (wn rfl) rfl
                        · intro a w hv hR
                          exact Ex.ok' (ex_move rfl (show a.eval (.tmp 100) = _ from hR.pred 3 100 rfl rfl)) (wn rfl) rfl
                        · intro a w hv hR
                          exact stepOk_skip (wanted_not (j := 4) (d := 101) (b := true) (b' := false) rfl rfl (hR.pred 4 101 rfl rfl) (by decide)) rfl
                        · intro a w hv hR
                          exact stepOk_skip (wanted_not (j := 4) (d := 101) (b := true) (b' := false) rfl rfl (hR.pred 4 101 rfl rfl) (by decide)) rfl
                        · intro a w hv hR
                          exact stepOk_skip (wanted_not (j := 4) (d := 101) (b := true) (b' := false) rfl rfl (hR.pred 4 101 rfl rfl) (by decide)) rfl
                        · intro a w hv hR
                          exact stepOk_skip (wanted_not (j := 4) (d := 101) (b := true) (b' := false) rfl rfl (hR.pred 4 101 rfl rfl) (by decide)) rfl
                        · intro a w hv hR
                          exact stepOk_skip (wanted_not (j := 4) (d := 101) (b := true) (b' := false) rfl rfl (hR.pred 4 101 rfl rfl) (by decide)) rfl
                        · intro a w hv hR
                          exact stepOk_skip (wanted_not (j := 4) (d := 101) (b := true) (b' := false) rfl rfl (hR.pred 4 101 rfl rfl) (by decide)) rfl
                        · intro a w hv hR
                          exact stepOk_skip (wanted_not (j := 4) (d := 101) (b := true) (b' := false) rfl rfl (hR.pred 4 101 rfl rfl) (by decide)) rfl
                        · intro a w hv hR
                          exact stepOk_skip (wanted_not (j := 4) (d := 101) (b := true) (b' := false) rfl rfl (hR.pred 4 101 rfl rfl) (by decide)) rfl
                        · intro a w hv hR
                          exact stepOk_skip (wanted_not (j := 4) (d := 101) (b := true) (b' := false) rfl rfl (hR.pred 4 101 rfl rfl) (by decide)) rfl
                        · intro a w hv hR
                          exact stepOk_skip (wanted_not (j := 4) (d := 101) (b := true) (b' := false) rfl rfl (hR.pred 4 101 rfl rfl) (by decide)) rfl
                        · intro a w hv hR
                          exact stepOk_skip (wanted_not (j := 4) (d := 101) (b := true) (b' := false) rfl rfl (hR.pred 4 101 rfl rfl) (by decide)) rfl
                        · intro a w hv hR
                          exact Ex.ok' (ex_pick (b := false) rfl (show a.eval (.tmp 101) = _ from hR.pred 4 101 rfl rfl) rfl) (wn rfl) rfl
                        · exact (no_none (by kernel_rfl) i o h).elim
                        rintro _ w73 ⟨_, _, rfl, rfl, ⟨_, _, rfl, rfl, ⟨_, _, rfl, rfl, ⟨_, _, rfl, rfl, ⟨_, _, rfl, rfl, ⟨_, _, rfl, rfl, ⟨_, _, rfl, rfl, ⟨_, _, rfl, rfl, ⟨_, _, rfl, rfl, ⟨_, _, rfl, rfl, ⟨_, _, rfl, rfl, ⟨_, _, rfl, rfl, ⟨_, _, rfl, rfl, ⟨_, _, rfl, rfl, ⟨_, _, rfl, rfl, ⟨_, _, rfl, rfl, ⟨_, _, rfl, rfl, rfl⟩⟩⟩⟩⟩⟩⟩⟩⟩⟩⟩⟩⟩⟩⟩⟩⟩ hv
                        simp only [putAll, Act.put, List.setIfInBounds_toArray, List.set_cons_succ, List.set_cons_zero]
                        refine then_normal (hK70 _ _ ?_)
                        clear hK70 K70
                        refine wpIn_cond_false rfl ?_
                        refine wpIn_skip ?_
                        refine blk_normal ?_
                        refine then_normal (hK69 _ _ ?_)
                        clear hK69 K69
                        refine wpIn_region_lit ?_
                        refine wpi_exG (v := .int .i64 (k : Int)) (fun _ => trivial) (wn rfl) rfl (ex_move rfl rfl) ?_
                        refine wpi_exG (v := .int .i64 ((k : Int) + 1)) (fun _ => trivial) (wn rfl) rfl (ex_add (m := (k : Int)) (n := 1) rfl rfl rfl (i64_in (by omega))) ?_
                        refine wpi_exG (v := .int .i64 ((k : Int) + 1)) (fun _ => trivial) (wn rfl) rfl (ex_assign rfl rfl) ?_
                        refine wpListIn_nil ?_
                        simp only [Act.put, List.setIfInBounds_toArray, List.set_cons_succ, List.set_cons_zero]
                        refine then_normal ?_
                        go_roundw
                        case rel => exact ⟨k + 1, by simp, by omega, hv⟩
                        case measure => show 8 - ((k : Int) + 1).toNat < 8 - (k : Int).toNat; omega
                    · refine wpi_exG (v := .bool false) (fun _ => trivial) (wn rfl) rfl (ex_lss (k := .i64) (m := (k : Int)) (n := 8) rfl rfl rfl (decide_eq_false hb68)) ?_
                      refine wpListIn_nil ?_
                      simp only [Act.put, List.setIfInBounds_toArray, List.set_cons_succ, List.set_cons_zero]
                      refine then_normal (hK67 _ _ ?_)
                      clear hK67 K67
                      refine wpIn_cond_false rfl ?_
                      refine wpIn_exit ?_
                      refine then_exit ?_
                      clear hK66 K66
                      refine then_exit ?_
                      refine blk_hit ?_
                      refine blk_normal ?_
                      refine then_normal (hK48 _ _ ?_)
                      clear hK48 K48
                      refine wpIn_region_lit ?_
                      refine wpi_exG (v := .int .i64 (i : Int)) (fun _ => trivial) (wn rfl) rfl (ex_move rfl rfl) ?_
                      refine wpi_exG (v := .int .i64 ((i : Int) + 1)) (fun _ => trivial) (wn rfl) rfl (ex_add (m := (i : Int)) (n := 1) rfl rfl rfl (i64_in (by omega))) ?_
                      refine wpi_exG (v := .int .i64 ((i : Int) + 1)) (fun _ => trivial) (wn rfl) rfl (ex_assign rfl rfl) ?_
                      refine wpListIn_nil ?_
                      simp only [Act.put, List.setIfInBounds_toArray, List.set_cons_succ, List.set_cons_zero]
                      refine then_normal ?_
                      go_roundw
                      case rel => exact ⟨i + 1, _, _, by simp, by omega, hK, by omega, (((hv.front 1 rfl).front 2 rfl).sub (List.Sublist.cons_cons _ (List.Sublist.cons_cons _ (List.Sublist.cons _ (List.Sublist.refl _)))))⟩
                      case measure => show m + 1 - ((i : Int) + 1).toNat < m + 1 - (i : Int).toNat; omega
              · refine wpi_exG (v := .bool false) (fun _ => trivial) (wn rfl) rfl (ex_lss (k := .i64) (m := (i : Int)) (n := (m : Int)) rfl rfl rfl (decide_eq_false hb51)) ?_
                refine wpListIn_nil ?_
                simp only [Act.put, List.setIfInBounds_toArray, List.set_cons_succ, List.set_cons_zero]
                refine then_normal (hK50 _ _ ?_)
                clear hK50 K50
                refine wpIn_cond_false rfl ?_
                refine wpIn_skip ?_
                refine then_normal (hK49 _ _ ?_)
                clear hK49 K49
                refine wpIn_seq_k (fun K74 hK74 => ?_)
                refine wpIn_region_lit ?_
                refine wpi_exG (v := .pointer (some ⟨p12, 0, none⟩)) (fun _ => trivial) (wn rfl) rfl (ex_move rfl rfl) ?_
                replace hv := hv.front 1 rfl
                simp only [List.eraseIdx_cons_succ, List.eraseIdx_cons_zero] at hv
                refine wpi_callG dkcallable26 (fun _ => trivial) wideC rfl (wn rfl) rfl (args := #[.pointer (some ⟨p12, 0, none⟩), .int .i64 0, .int .i64 8]) (by simp only [List.map_toArray, List.map_cons, List.map_nil]; rfl) ((diskReadOk _ _ _ p12 _ _ 0 8 hv D (kinv_tick hK) (by omega) (kinv_has8 hK) (by rw [hK.left]; decide) (by decide) (by decide) (by rw [hK.len]; decide)).mono ?_)
                rintro e w77 ⟨b76, rfl, F75, hv⟩
                refine ⟨_, rfl, ?_⟩
                refine wpi_exG (v := .tuple #[.slice (some ⟨b76, 0, none⟩) 512 512, .int .i64 0]) (fun _ => trivial) (wn rfl) rfl (ex_move rfl rfl) ?_
                simp only [Act.put, List.setIfInBounds_toArray, List.set_cons_succ, List.set_cons_zero]
                refine wpi_exG (v := .slice (some ⟨b76, 0, none⟩) 512 512) (fun _ => trivial) (wn rfl) rfl (ex_extract rfl rfl rfl) ?_
                refine wpi_exG (v := .int .i64 0) (fun _ => trivial) (wn rfl) rfl (ex_extract rfl rfl rfl) ?_
                refine wpi_exG (v := .slice (some ⟨b76, 0, none⟩) 512 512) (fun _ => trivial) (wn rfl) rfl (ex_assign rfl rfl) ?_
                simp only [Act.put, List.setIfInBounds_toArray, List.set_cons_succ, List.set_cons_zero]
                refine wpi_exG (v := .int .i64 0) (fun _ => trivial) (wn rfl) rfl (ex_assign rfl rfl) ?_
                refine wpListIn_nil ?_
                simp only [Act.put, List.setIfInBounds_toArray, List.set_cons_succ, List.set_cons_zero]
                refine then_normal (hK74 _ _ ?_)
                clear hK74 K74
                refine wpIn_seq_k (fun K78 hK78 => ?_)
                refine wpIn_seq_k (fun K79 hK79 => ?_)
                refine wpIn_region_lit ?_
                refine wpi_exG (v := .int .i64 0) (fun _ => trivial) (wn rfl) rfl (ex_move rfl rfl) ?_
                refine wpi_exG (v := .bool false) (fun _ => trivial) (wn rfl) rfl (ex_neq (k := .i64) (m := 0) (n := 0) rfl rfl rfl (by decide)) ?_
                refine wpi_exG (v := .bool false) (fun _ => trivial) (wn rfl) rfl (ex_move rfl rfl) ?_
                simp only [Act.put, List.setIfInBounds_toArray, List.set_cons_succ, List.set_cons_zero]
                refine wpi_exG (v := .slice (some ⟨b76, 0, none⟩) 512 512) (fun _ => trivial) (wanted_of (j := 2) (d := 88) (b := false) rfl rfl rfl) rfl (ex_move rfl rfl) ?_
                refine wpi_exG (v := .int .i64 512) (fun _ => trivial) (wanted_of (j := 2) (d := 88) (b := false) rfl rfl rfl) rfl (ex_len0 Try.underlying24 rfl rfl) ?_
                refine wpi_exG (v := .bool false) (fun _ => trivial) (wanted_of (j := 2) (d := 88) (b := false) rfl rfl rfl) rfl (ex_neq (k := .i64) (m := 512) (n := 512) rfl rfl rfl (by decide)) ?_
                simp only [Act.put, List.setIfInBounds_toArray, List.set_cons_succ, List.set_cons_zero]
                refine wpi_exG (v := .bool false) (fun _ => trivial) (wn rfl) rfl (ex_pick (b := false) rfl rfl rfl) ?_
                refine wpListIn_nil ?_
                simp only [Act.put, List.setIfInBounds_toArray, List.set_cons_succ, List.set_cons_zero]
                refine then_normal (hK79 _ _ ?_)
                clear hK79 K79
                refine wpIn_cond_false rfl ?_
                refine wpIn_skip ?_
                refine then_normal (hK78 _ _ ?_)
                clear hK78 K78
                refine wpIn_seq_k (fun K80 hK80 => ?_)
                have hv64 : ∀ s ∈ D.view D.pend 0 8, s.length = 64 := by
                  have hok : D.Ok := (hv.get 1 rfl : DiskAt _ _ D _).1
                  exact Disk.view_64 hok (fun p hp => (hok.pend p hp).2) (by rw [hK.len]; decide)
                refine wpIn_region_lit ?_
                refine wpi_exG (v := .int .i64 0) (fun _ => trivial) (wn rfl) rfl (ex_assign rfl rfl) ?_
                refine wpListIn_nil ?_
                simp only [Act.put, List.setIfInBounds_toArray, List.set_cons_succ, List.set_cons_zero]
                refine then_normal (hK80 _ _ ?_)
                clear hK80 K80
                refine wpIn_block ?_
                gi_loopw [13] (fun x13 wr => ∃ k : Nat, x13 = .int .i64 (k : Int) ∧ k ≤ 8 ∧ Inv B (Res.cell b76 (durCells (D.view D.pend 0 8)) 5 :: diskR p12 D F75 :: Res.cell b26 (tCells T) 43 :: H) wr) (fun x13 _ => 8 - (intOf x13).toNat)
                case atStart => exact ⟨0, rfl, by omega, hv⟩
                case round =>
                  obtain ⟨k, rfl, hk, hv⟩ := hrel
                  refine wpIn_seq_k (fun K82 hK82 => ?_)
                  refine wpIn_seq_k (fun K83 hK83 => ?_)
                  refine wpIn_region_lit ?_
                  refine wpi_exG (v := .int .i64 (k : Int)) (fun _ => trivial) (wn rfl) rfl (ex_move rfl rfl) ?_
                  by_cases hb84 : (k : Int) < 8
                  · refine wpi_exG (v := .bool true) (fun _ => trivial) (wn rfl) rfl (ex_lss (k := .i64) (m := (k : Int)) (n := 8) rfl rfl rfl (decide_eq_true hb84)) ?_
                    refine wpListIn_nil ?_
                    simp only [Act.put, List.setIfInBounds_toArray, List.set_cons_succ, List.set_cons_zero]
                    refine then_normal (hK83 _ _ ?_)
                    clear hK83 K83
                    refine wpIn_cond_true rfl ?_
                    refine wpIn_skip ?_
                    refine then_normal (hK82 _ _ ?_)
                    clear hK82 K82
                    refine wpIn_seq_k (fun K85 hK85 => ?_)
                    refine wpIn_block ?_
                    refine wpIn_seq_k (fun K86 hK86 => ?_)
                    rcases hTk : T k
                    · refine region_mono mixed [SP.eq (.int .i64 (k : Int)), SP.eq (.pointer (some ⟨b26, 0 + k, none⟩)), SP.eq (.bool false), SP.eq (.bool true), SP.eq (.bool true), SP.eq (.slice (some ⟨b76, 0, none⟩) 512 512), SP.eq (.int .i64 (k : Int)), SP.eq (.int .i64 ((k * 64 : Nat) : Int)), SP.eq (.int .i64 (k : Int)), SP.eq (.int .i64 ((k * 64 : Nat) : Int)), SP.eq (.int .i64 ((k * 64 + 64 : Nat) : Int)), SP.eq (.slice (some ⟨b76, 0 + (k * 64 : Nat), none⟩) ((k * 64 + 64 : Nat) - (k * 64 : Nat)) (512 - (k * 64 : Nat))), SP.eq (.string ⟨(List.replicate 64 (7 : UInt8)).toArray⟩), SP.slc (List.replicate 64 (B8 7)) 64 5, SP.eq (.string ⟨(List.replicate 64 (7 : UInt8)).toArray⟩), SP.eq (.bool false), SP.eq (.bool false)] 114 rfl (by kernel_rfl) hv ⟨?_, ?_, ?_, ?_, ?_, ?_, ?_, ?_, ?_, ?_, ?_, ?_, ?_, ?_, ?_, ?_, ?_, trivial⟩ (fun i o w h => ?_) ?_
                      · intro a w hv hR
                        exact Ex.ok' (ex_move rfl (show a.eval (.tmp 13) = _ from hR.keep 13 rfl)) (wn rfl) rfl
                      · intro a w hv hR
                        exact Ex.ok' (ex_index rfl (show a.eval (.tmp 7) = _ from hR.keep 7 rfl) (show a.eval (.tmp 97) = _ from hR.pred 0 97 rfl rfl) (run_idxA1 dkua43 dkea43 (by omega))) (wn rfl) rfl
                      · intro a w hv hR
                        exact Ex.ok' (ex_load rfl (show a.eval (.tmp 98) = _ from hR.pred 1 98 rfl rfl) (run_load1 dkna4 (hv.load 2 (0 + k) rfl (tCells_get _ _ (by omega) hTk)))) (wn rfl) rfl
                      · intro a w hv hR
                        exact Ex.ok' (ex_not rfl (show a.eval (.tmp 99) = _ from hR.pred 2 99 rfl rfl) rfl) (wn rfl) rfl
                      · intro a w hv hR
                        exact Ex.ok' (ex_move rfl (show a.eval (.tmp 100) = _ from hR.pred 3 100 rfl rfl)) (wn rfl) rfl
                      · intro a w hv hR
                        exact Ex.ok' (ex_move rfl (show a.eval (.tmp 11) = _ from hR.keep 11 rfl)) (wanted_of (j := 4) (d := 101) (b := true) rfl rfl (hR.pred 4 101 rfl rfl)) rfl
                      · intro a w hv hR
                        exact Ex.ok' (ex_move rfl (show a.eval (.tmp 13) = _ from hR.keep 13 rfl)) (wanted_of (j := 4) (d := 101) (b := true) rfl rfl (hR.pred 4 101 rfl rfl)) rfl
                      · intro a w hv hR
                        exact Ex.ok' (ex_mul (m := 64) (n := (k : Int)) rfl rfl (show a.eval (.tmp 103) = _ from hR.pred 6 103 rfl rfl) (by rw [i64_in (by omega)]; omega)) (wanted_of (j := 4) (d := 101) (b := true) rfl rfl (hR.pred 4 101 rfl rfl)) rfl
                      · intro a w hv hR
                        exact Ex.ok' (ex_move rfl (show a.eval (.tmp 13) = _ from hR.keep 13 rfl)) (wanted_of (j := 4) (d := 101) (b := true) rfl rfl (hR.pred 4 101 rfl rfl)) rfl
                      · intro a w hv hR
                        exact Ex.ok' (ex_mul (m := 64) (n := (k : Int)) rfl rfl (show a.eval (.tmp 105) = _ from hR.pred 8 105 rfl rfl) (by rw [i64_in (by omega)]; omega)) (wanted_of (j := 4) (d := 101) (b := true) rfl rfl (hR.pred 4 101 rfl rfl)) rfl
                      · intro a w hv hR
                        exact Ex.ok' (ex_add (m := ((k * 64 : Nat) : Int)) (n := 64) rfl (show a.eval (.tmp 106) = _ from hR.pred 9 106 rfl rfl) rfl (by rw [i64_in (by omega)]; omega)) (wanted_of (j := 4) (d := 101) (b := true) rfl rfl (hR.pred 4 101 rfl rfl)) rfl
                      · intro a w hv hR
                        exact Ex.ok' (ex_slice (lo' := some (.int .i64 ((k * 64 : Nat) : Int))) (hi' := some (.int .i64 ((k * 64 + 64 : Nat) : Int))) rfl (show a.eval (.tmp 102) = _ from hR.pred 5 102 rfl rfl) (congrArg some (show a.eval (.tmp 104) = _ from hR.pred 7 104 rfl rfl)) (congrArg some (show a.eval (.tmp 107) = _ from hR.pred 10 107 rfl rfl)) rfl (run_lohi1 Try.underlying24 dkes24 (by omega) (by omega) (by omega))) (wanted_of (j := 4) (d := 101) (b := true) rfl rfl (hR.pred 4 101 rfl rfl)) rfl
                      · intro a w hv hR
                        exact Ex.ok' (ex_str Try.underlying24 Try.underlying5 Try.underlying9 rfl (show a.eval (.tmp 108) = _ from hR.pred 11 108 rfl rfl) (bytes_sec (hv.get 0 rfl : Blk _ _ (durCells (D.view D.pend 0 8)) _) hv64 k (kinv_view hK (by omega) hTk)) (by show (List.replicate 64 (7 : UInt8)).length = _; rw [List.length_replicate]; omega)) (wanted_of (j := 4) (d := 101) (b := true) rfl rfl (hR.pred 4 101 rfl rfl)) rfl
                      · intro a w hv hR
                        exact stepOk_calls dkcallable23 (wanted_of (j := 4) (d := 101) (b := true) rfl rfl (hR.pred 4 101 rfl rfl)) rfl (args := #[.int .u8 7, .int .i64 1, .int .i64 0]) (by simp only [List.map_toArray, List.map_cons, List.map_nil]; rfl) ((lawFilled (Base.of w) _ w 7 7 (rfl) 1 0 64 (by omega) (by omega) (Inv.start w)).mono fun e w' ⟨b, he, hi⟩ => ⟨_, he, ext_of hi, b, rfl, hi.head⟩)
                      · intro a w hv hR
                        obtain ⟨b, hve, hblk⟩ := hR.pred 13 110 rfl rfl
                        exact Ex.ok' (ex_str Try.underlying24 Try.underlying5 Try.underlying9 rfl (show a.eval (.tmp 110) = _ from hve) (bytes_rep (c := 7) hblk) List.length_replicate) (wanted_of (j := 4) (d := 101) (b := true) rfl rfl (hR.pred 4 101 rfl rfl)) rfl
                      · intro a w hv hR
                        exact Ex.ok' (ex_sneq (s := (List.replicate 64 (7 : UInt8))) (s' := (List.replicate 64 (7 : UInt8))) rfl (show a.eval (.tmp 109) = _ from hR.pred 12 109 rfl rfl) (show a.eval (.tmp 111) = _ from hR.pred 14 111 rfl rfl) (decide_eq_false (fun h => h rfl))) (wanted_of (j := 4) (d := 101) (b := true) rfl rfl (hR.pred 4 101 rfl rfl)) rfl
                      · intro a w hv hR
                        exact Ex.ok' (ex_pick (b := true) rfl (show a.eval (.tmp 101) = _ from hR.pred 4 101 rfl rfl) (show a.eval (.tmp 112) = _ from hR.pred 15 112 rfl rfl)) (wn rfl) rfl
                      · exact (no_none (by kernel_rfl) i o h).elim
                      rintro _ w88 ⟨_, _, rfl, rfl, ⟨_, _, rfl, rfl, ⟨_, _, rfl, rfl, ⟨_, _, rfl, rfl, ⟨_, _, rfl, rfl, ⟨_, _, rfl, rfl, ⟨_, _, rfl, rfl, ⟨_, _, rfl, rfl, ⟨_, _, rfl, rfl, ⟨_, _, rfl, rfl, ⟨_, _, rfl, rfl, ⟨_, _, rfl, rfl, ⟨_, _, rfl, rfl, ⟨_, _, rfl, ⟨b87, rfl, hblkb87⟩, ⟨_, _, rfl, rfl, ⟨_, _, rfl, rfl, ⟨_, _, rfl, rfl, rfl⟩⟩⟩⟩⟩⟩⟩⟩⟩⟩⟩⟩⟩⟩⟩⟩⟩ hv
                      simp only [putAll, Act.put, List.setIfInBounds_toArray, List.set_cons_succ, List.set_cons_zero]
                      refine then_normal (hK86 _ _ ?_)
                      clear hK86 K86
                      refine wpIn_cond_false rfl ?_
                      refine wpIn_skip ?_
                      refine blk_normal ?_
                      refine then_normal (hK85 _ _ ?_)
                      clear hK85 K85
                      refine wpIn_region_lit ?_
                      refine wpi_exG (v := .int .i64 (k : Int)) (fun _ => trivial) (wn rfl) rfl (ex_move rfl rfl) ?_
                      refine wpi_exG (v := .int .i64 ((k : Int) + 1)) (fun _ => trivial) (wn rfl) rfl (ex_add (m := (k : Int)) (n := 1) rfl rfl rfl (i64_in (by omega))) ?_
                      refine wpi_exG (v := .int .i64 ((k : Int) + 1)) (fun _ => trivial) (wn rfl) rfl (ex_assign rfl rfl) ?_
                      refine wpListIn_nil ?_
                      simp only [Act.put, List.setIfInBounds_toArray, List.set_cons_succ, List.set_cons_zero]
                      refine then_normal ?_
                      go_roundw
                      case rel => exact ⟨k + 1, by simp, by omega, hv⟩
                      case measure => show 8 - ((k : Int) + 1).toNat < 8 - (k : Int).toNat; omega
                    · refine region_mono mixed [SP.eq (.int .i64 (k : Int)), SP.eq (.pointer (some ⟨b26, 0 + k, none⟩)), SP.eq (.bool true), SP.eq (.bool false), SP.eq (.bool false), SP.eq (undef), SP.eq (undef), SP.eq (undef), SP.eq (undef), SP.eq (undef), SP.eq (undef), SP.eq (undef), SP.eq (undef), SP.eq (undef), SP.eq (undef), SP.eq (undef), SP.eq (.bool false)] 114 rfl (by kernel_rfl) hv ⟨?_, ?_, ?_, ?_, ?_, ?_, ?_, ?_, ?_, ?_, ?_, ?_, ?_, ?_, ?_, ?_, ?_, trivial⟩ (fun i o w h => ?_) ?_
                      · intro a w hv hR
                        exact Ex.ok' (ex_move rfl (show a.eval (.tmp 13) = _ from hR.keep 13 rfl)) (wn rfl) rfl
                      · intro a w hv hR
                        exact Ex.ok' (ex_index rfl (show a.eval (.tmp 7) = _ from hR.keep 7 rfl) (show a.eval (.tmp 97) = _ from hR.pred 0 97 rfl rfl) (run_idxA1 dkua43 dkea43 (by omega))) (wn rfl) rfl
                      · intro a w hv hR
                        exact Ex.ok' (ex_load rfl (show a.eval (.tmp 98) = _ from hR.pred 1 98 rfl rfl) (run_load1 dkna4 (hv.load 2 (0 + k) rfl (tCells_get _ _ (by omega) hTk)))) (wn rfl) rfl
                      · intro a w hv hR
                        exact Ex.ok' (ex_not rfl (show a.eval (.tmp 99) = _ from hR.pred 2 99 rfl rfl) rfl) (wn rfl) rfl
                      · intro a w hv hR
                        exact Ex.ok' (ex_move rfl (show a.eval (.tmp 100) = _ from hR.pred 3 100 rfl rfl)) (wn rfl) rfl
                      · intro a w hv hR
                        exact stepOk_skip (wanted_not (j := 4) (d := 101) (b := true) (b' := false) rfl rfl (hR.pred 4 101 rfl rfl) (by decide)) rfl
                      · intro a w hv hR
                        exact stepOk_skip (wanted_not (j := 4) (d := 101) (b := true) (b' := false) rfl rfl (hR.pred 4 101 rfl rfl) (by decide)) rfl
                      · intro a w hv hR
                        exact stepOk_skip (wanted_not (j := 4) (d := 101) (b := true) (b' := false) rfl rfl (hR.pred 4 101 rfl rfl) (by decide)) rfl
                      · intro a w hv hR
                        exact stepOk_skip (wanted_not (j := 4) (d := 101) (b := true) (b' := false) rfl rfl (hR.pred 4 101 rfl rfl) (by decide)) rfl
                      · intro a w hv hR
                        exact stepOk_skip (wanted_not (j := 4) (d := 101) (b := true) (b' := false) rfl rfl (hR.pred 4 101 rfl rfl) (by decide)) rfl
                      · intro a w hv hR
                        exact stepOk_skip (wanted_not (j := 4) (d := 101) (b := true) (b' := false) rfl rfl (hR.pred 4 101 rfl rfl) (by decide)) rfl
                      · intro a w hv hR
                        exact stepOk_skip (wanted_not (j := 4) (d := 101) (b := true) (b' := false) rfl rfl (hR.pred 4 101 rfl rfl) (by decide)) rfl
                      · intro a w hv hR
                        exact stepOk_skip (wanted_not (j := 4) (d := 101) (b := true) (b' := false) rfl rfl (hR.pred 4 101 rfl rfl) (by decide)) rfl
                      · intro a w hv hR
                        exact stepOk_skip (wanted_not (j := 4) (d := 101) (b := true) (b' := false) rfl rfl (hR.pred 4 101 rfl rfl) (by decide)) rfl
                      · intro a w hv hR
                        exact stepOk_skip (wanted_not (j := 4) (d := 101) (b := true) (b' := false) rfl rfl (hR.pred 4 101 rfl rfl) (by decide)) rfl
                      · intro a w hv hR
                        exact stepOk_skip (wanted_not (j := 4) (d := 101) (b := true) (b' := false) rfl rfl (hR.pred 4 101 rfl rfl) (by decide)) rfl
                      · intro a w hv hR
                        exact Ex.ok' (ex_pick (b := false) rfl (show a.eval (.tmp 101) = _ from hR.pred 4 101 rfl rfl) rfl) (wn rfl) rfl
                      · exact (no_none (by kernel_rfl) i o h).elim
                      rintro _ w89 ⟨_, _, rfl, rfl, ⟨_, _, rfl, rfl, ⟨_, _, rfl, rfl, ⟨_, _, rfl, rfl, ⟨_, _, rfl, rfl, ⟨_, _, rfl, rfl, ⟨_, _, rfl, rfl, ⟨_, _, rfl, rfl, ⟨_, _, rfl, rfl, ⟨_, _, rfl, rfl, ⟨_, _, rfl, rfl, ⟨_, _, rfl, rfl, ⟨_, _, rfl, rfl, ⟨_, _, rfl, rfl, ⟨_, _, rfl, rfl, ⟨_, _, rfl, rfl, ⟨_, _, rfl, rfl, rfl⟩⟩⟩⟩⟩⟩⟩⟩⟩⟩⟩⟩⟩⟩⟩⟩⟩ hv
                      simp only [putAll, Act.put, List.setIfInBounds_toArray, List.set_cons_succ, List.set_cons_zero]
                      refine then_normal (hK86 _ _ ?_)
                      clear hK86 K86
                      refine wpIn_cond_false rfl ?_
                      refine wpIn_skip ?_
                      refine blk_normal ?_
                      refine then_normal (hK85 _ _ ?_)
                      clear hK85 K85
                      refine wpIn_region_lit ?_
                      refine wpi_exG (v := .int .i64 (k : Int)) (fun _ => trivial) (wn rfl) rfl (ex_move rfl rfl) ?_
                      refine wpi_exG (v := .int .i64 ((k : Int) + 1)) (fun _ => trivial) (wn rfl) rfl (ex_add (m := (k : Int)) (n := 1) rfl rfl rfl (i64_in (by omega))) ?_
                      refine wpi_exG (v := .int .i64 ((k : Int) + 1)) (fun _ => trivial) (wn rfl) rfl (ex_assign rfl rfl) ?_
                      refine wpListIn_nil ?_
                      simp only [Act.put, List.setIfInBounds_toArray, List.set_cons_succ, List.set_cons_zero]
                      refine then_normal ?_
                      go_roundw
                      case rel => exact ⟨k + 1, by simp, by omega, hv⟩
                      case measure => show 8 - ((k : Int) + 1).toNat < 8 - (k : Int).toNat; omega
                  · refine wpi_exG (v := .bool false) (fun _ => trivial) (wn rfl) rfl (ex_lss (k := .i64) (m := (k : Int)) (n := 8) rfl rfl rfl (decide_eq_false hb84)) ?_
                    refine wpListIn_nil ?_
                    simp only [Act.put, List.setIfInBounds_toArray, List.set_cons_succ, List.set_cons_zero]
                    refine then_normal (hK83 _ _ ?_)
                    clear hK83 K83
                    refine wpIn_cond_false rfl ?_
                    refine wpIn_exit ?_
                    refine then_exit ?_
                    clear hK82 K82
                    refine then_exit ?_
                    refine blk_hit ?_
                    refine blk_normal ?_
                    refine then_normal (hK48 _ _ ?_)
                    clear hK48 K48
                    refine wpIn_region_lit ?_
                    refine wpi_exG (v := .int .i64 (i : Int)) (fun _ => trivial) (wn rfl) rfl (ex_move rfl rfl) ?_
                    refine wpi_exG (v := .int .i64 ((i : Int) + 1)) (fun _ => trivial) (wn rfl) rfl (ex_add (m := (i : Int)) (n := 1) rfl rfl rfl (i64_in (by omega))) ?_
                    refine wpi_exG (v := .int .i64 ((i : Int) + 1)) (fun _ => trivial) (wn rfl) rfl (ex_assign rfl rfl) ?_
                    refine wpListIn_nil ?_
                    simp only [Act.put, List.setIfInBounds_toArray, List.set_cons_succ, List.set_cons_zero]
                    refine then_normal ?_
                    go_roundw
                    case rel => exact ⟨i + 1, _, _, by simp, by omega, hK, by omega, (((hv.front 1 rfl).front 2 rfl).sub (List.Sublist.cons_cons _ (List.Sublist.cons_cons _ (List.Sublist.cons _ (List.Sublist.refl _)))))⟩
                    case measure => show m + 1 - ((i : Int) + 1).toNat < m + 1 - (i : Int).toNat; omega
            · refine wpi_exG (v := .bool false) (fun _ => trivial) (wn rfl) rfl (ex_leq (k := .i64) (m := (i : Int)) (n := (m : Int)) rfl rfl rfl (decide_eq_false hb47)) ?_
              refine wpListIn_nil ?_
              simp only [Act.put, List.setIfInBounds_toArray, List.set_cons_succ, List.set_cons_zero]
              refine then_normal (hK46 _ _ ?_)
              clear hK46 K46
              refine wpIn_cond_false rfl ?_
              refine wpIn_exit ?_
              refine then_exit ?_
              clear hK45 K45
              refine then_exit ?_
              refine blk_hit ?_
              refine then_normal (hK42 _ _ ?_)
              clear hK42 K42
              refine wpIn_seq_k (fun K90 hK90 => ?_)
              refine wpIn_region_lit ?_
              refine wpi_exG (v := .bool true) (fun _ => trivial) (wn rfl) rfl (ex_assign rfl rfl) ?_
              refine wpListIn_nil ?_
              simp only [Act.put, List.setIfInBounds_toArray, List.set_cons_succ, List.set_cons_zero]
              refine then_normal (hK90 _ _ ?_)
              clear hK90 K90
              refine wpIn_ret ?_
              refine bodyPost_ret (results_tmp rfl _ _ _) rfl ?_
              exact ⟨rfl, hv.tail 2⟩
theorem rep_intss {W : World} {cs : List Value} {l : List (List Int)} (h : Rep W (· < W.heap.size) (.slice (.slice (.int .i64))) cs l) :
    ∃ a cap, cs = [.slice a l.length cap] ∧ SliceOk a l.length cap ∧ RdRows (Base.of W) a l ∧ ∀ ks ∈ l, ∀ k ∈ ks, -9223372036854775808 ≤ k ∧ k ≤ 9223372036854775807 := by
  obtain ⟨a, cap, h1, h2, h4⟩ := h
  refine ⟨a, cap, h1, h2, fun i hi => ?_, fun ks hks => ?_⟩
  · obtain ⟨b, off, xs, e1, e2, e3, e4, e5⟩ := h4 i hi
    obtain ⟨a', c', f1, f2, f3, f4⟩ := rep_ints e5
    refine ⟨b, off, a', c', e1, fun H w hv => ?_, rdV_of W f3⟩
    have := e4 0 (by rw [e3]; decide)
    simp only [f1, List.getElem_cons_zero, Ty.size, Nat.mul_one, Nat.add_zero] at this
    rw [← this]
    exact World.cell?_of_block (by rw [Array.getElem?_eq_getElem e2]; exact hv.base.blk b _ (Array.getElem?_eq_getElem e2))
  · obtain ⟨i, hi, rfl⟩ := List.getElem_of_mem hks
    obtain ⟨b, off, xs, e1, e2, e3, e4, e5⟩ := h4 i hi
    obtain ⟨a', c', f1, f2, f3, f4⟩ := rep_ints e5
    exact f4
end Go.Proofs.Ytkannfkjnohdlaa
