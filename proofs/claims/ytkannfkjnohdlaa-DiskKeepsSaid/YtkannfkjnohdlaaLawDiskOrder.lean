/- DiskOrder -/
import Derived.Test.YtkannfkjnohdlaaLawAwake06
namespace Go.Proofs.Ytkannfkjnohdlaa
open Go.RowKit Go.Pm
theorem tmod20 (n : Int) : -20 < n.tmod 20 ∧ n.tmod 20 < 20 := by
  have h1 := Int.tmod_lt_of_pos n (show (0 : Int) < 20 by decide)
  have h2 : -20 < n.tmod 20 := by
    have := Int.tmod_lt_of_pos (-n) (show (0 : Int) < 20 by decide)
    rw [Int.neg_tmod] at this
    omega
  exact ⟨h2, h1⟩
theorem k20 (n : Int) : ∃ k : Nat, (n.tmod 20 + 20).tmod 20 = (k : Int) ∧ k < 20 := by
  have h := tmod20 n
  have h1 := Int.tmod_lt_of_pos (n.tmod 20 + 20) (show (0 : Int) < 20 by decide)
  have h2 : 0 ≤ (n.tmod 20 + 20).tmod 20 := Int.tmod_nonneg _ (by omega)
  exact ⟨((n.tmod 20 + 20).tmod 20).toNat, by omega, by omega⟩
def oneSec (j : Nat) : List UInt8 := List.replicate 64 (UInt8.ofNat j)
def ordD (i : Nat) : Disk := { Disk.zero 1 with pend := (List.range i).map (fun j => (0, oneSec (j + 1))) }
theorem nsec64 (c : UInt8) : Disk.nsec (List.replicate 64 c) = 1 := by simp only [Disk.nsec, List.length_replicate]
theorem writesOf64 (at_ : Nat) (c : UInt8) : Disk.writesOf at_ (List.replicate 64 c) 1 = [(at_, List.replicate 64 c)] := by
  have h1 : (List.replicate 64 c).take 64 = List.replicate 64 c := List.take_of_length_le (by rw [List.length_replicate]; omega)
  have h2 : Disk.pad (List.replicate 64 c) = List.replicate 64 c := by simp only [Disk.pad, List.length_replicate, Nat.sub_self, List.replicate_zero, List.append_nil]
  simp only [Disk.writesOf, List.range_one, List.map_cons, List.map_nil, Nat.add_zero, Disk.sector, Nat.mul_zero, List.drop_zero, h1, h2]
theorem ordD_left (i : Nat) : (ordD i).left = -1 := rfl
theorem ordD_tick (i : Nat) : (ordD i).tick = ordD i := rfl
theorem ordD_len (i : Nat) : (ordD i).pend.length = i := by simp only [ordD, List.length_map, List.length_range]
theorem ordD_write (i : Nat) : (ordD i).write 0 (List.replicate 64 (UInt8.ofNat (i + 1))) = ordD (i + 1) := by
  unfold Disk.write
  rw [nsec64, writesOf64, ordD_tick]
  unfold ordD
  rw [List.range_succ, List.map_append]
  rfl
theorem ordD_has (i : Nat) (c : UInt8) : (ordD i).has (0 : Nat) (Disk.nsec (List.replicate 64 c)) = true := by
  rw [nsec64]
  rfl
/-- the greatest number below k among l, and one; 0 if there is none -/
def LastP (k : Nat) (l : List Int) (L : Nat) : Prop := L ≤ k ∧ (L = 0 ∨ ((L : Int) - 1) ∈ l) ∧ ∀ j, j ∈ l → 0 ≤ j → j < k → j + 1 ≤ L
theorem lastP_nil (k : Nat) : LastP k [] 0 := ⟨by omega, .inl rfl, fun j h => by simp at h⟩
theorem lastP_out {k : Nat} {l : List Int} {L : Nat} (h : LastP k l L) {v : Int} (hv : v < 0 ∨ (k : Int) ≤ v) : LastP k (l ++ [v]) L := by
  obtain ⟨h1, h2, h3⟩ := h
  refine ⟨h1, h2.imp id (fun h => by simp [h]), fun j hj h0 hk => ?_⟩
  rcases List.mem_append.1 hj with hj | hj
  · exact h3 j hj h0 hk
  · simp at hj; omega
theorem lastP_in {k : Nat} {l : List Int} {L : Nat} (h : LastP k l L) {v : Nat} (hv : v < k) : LastP k (l ++ [(v : Int)]) (if v + 1 > L then v + 1 else L) := by
  obtain ⟨h1, h2, h3⟩ := h
  by_cases c : v + 1 > L
  · rw [if_pos c]
    refine ⟨by omega, .inr (by simp), fun j hj h0 hk => ?_⟩
    rcases List.mem_append.1 hj with hj | hj
    · have := h3 j hj h0 hk; omega
    · simp at hj; omega
  · rw [if_neg c]
    refine ⟨h1, h2.imp id (fun h => by simp [h]), fun j hj h0 hk => ?_⟩
    rcases List.mem_append.1 hj with hj | hj
    · exact h3 j hj h0 hk
    · simp at hj; omega
theorem crash_one (ks : List Int) : ∀ (k L : Nat), LastP k ks L → ((ordD k).crash ks).dur = [oneSec L] := by
  intro k
  induction k with
  | zero =>
    intro L h
    obtain rfl : L = 0 := by have := h.1; omega
    rfl
  | succ k ih =>
    intro L h
    obtain ⟨h1, h2, h3⟩ := h
    have hk : (ordD (k + 1)).kept ks = (ordD k).kept ks ++ (if ks.contains (k : Int) then [(0, oneSec (k + 1))] else []) := by
      unfold Disk.kept ordD
      simp only [List.range_succ, List.map_append, List.map_cons, List.map_nil, List.zipIdx_append, List.filter_append, List.length_map, List.length_range, Nat.zero_add]
      congr 1
      simp only [List.zipIdx_singleton, List.filter_cons, List.filter_nil]
      split <;> rfl
    have hd : ((ordD (k + 1)).crash ks).dur = ((ordD (k + 1)).kept ks).foldl Disk.put [oneSec 0] := rfl
    have hd' : ((ordD k).crash ks).dur = ((ordD k).kept ks).foldl Disk.put [oneSec 0] := rfl
    rw [hd, hk, List.foldl_append, ← hd']
    by_cases hc : ks.contains (k : Int) = true
    · rw [if_pos hc]
      have hm : (k : Int) ∈ ks := by simpa using hc
      have := h3 k hm (by omega) (by omega)
      obtain rfl : L = k + 1 := by omega
      have hl : ((ordD k).crash ks).dur.length = 1 := by
        rw [hd', Disk.foldl_put_length]; rfl
      match hx : ((ordD k).crash ks).dur, hl with
      | [s], _ => rfl
    · rw [if_neg hc]
      have hm : ¬ (k : Int) ∈ ks := by simpa using hc
      have hL : L ≤ k := by
        rcases h2 with h2 | h2
        · omega
        · by_cases e : L = k + 1
          · subst e; exact absurd (by simpa using h2) hm
          · omega
      exact ih L ⟨hL, h2, fun j hj h0 hk => h3 j hj h0 (by omega)⟩
theorem crash_view (ks : List Int) (k L : Nat) (h : LastP k ks L) : ((ordD k).crash ks).view ((ordD k).crash ks).pend 0 1 = [oneSec L] := by
  unfold Disk.view
  rw [crash_one ks k L h]
  rfl
theorem crash_len {ks : List Int} {k L : Nat} (h : LastP k ks L) : ((ordD k).crash ks).dur.length = 1 := by rw [crash_one ks k L h]; rfl
theorem crash_has {ks : List Int} {k L : Nat} (h : LastP k ks L) : ((ordD k).crash ks).has ((0 : Nat) : Int) ((1 : Nat) : Int) = true := by
  unfold Disk.has
  rw [crash_len h]
  rfl
theorem u8c (j : Nat) (h : j ≤ 255) : ((UInt8.ofNat j).toNat : Int) = (j : Int) := by
  rw [UInt8.toNat_ofNat']; omega
theorem bytes_one {w : World} {b : Nat} {t : TypeId} {j : Nat} (h : Blk w b (durCells [oneSec j]) t) : Bytes w (fun _ => True) (some ⟨b, 0, none⟩) (oneSec j) := by
  unfold durCells at h
  rw [List.map_cons, List.map_nil, List.flatten_cons, List.flatten_nil, List.append_nil] at h
  exact bytes_all h
theorem _root_.Go.Pm.RdV.any {B : Base} {H : List Res} {a : Option Addr} {xs : List Value} (h : RdV B [] a xs) : RdV B H a xs := h.more (Base.Le.refl B) (fun r hr => by simp at hr)

theorem docallable20 : Callable Try.prog 20 := ⟨_, Try.func20, by kernel_rfl, by kernel_rfl⟩
theorem docallable21 : Callable Try.prog 21 := ⟨_, Try.func21, by kernel_rfl, by kernel_rfl⟩
theorem docallable23 : Callable Try.prog 23 := ⟨_, Try.func23, by kernel_rfl, by kernel_rfl⟩
theorem docallable22 : Callable Try.prog 22 := ⟨_, Try.func22, by kernel_rfl, by kernel_rfl⟩
theorem does44 (w : World) : (sizeOf (Try.prog.elem 44)).run Try.prog w = .ok 1 w := by kernel_rfl
theorem dona3 (w : World) : (isAgg 3).run Try.prog w = .ok false w := by kernel_rfl
theorem docallable25 : Callable Try.prog 25 := ⟨_, Try.func25, by kernel_rfl, by kernel_rfl⟩
theorem docallable26 : Callable Try.prog 26 := ⟨_, Try.func26, by kernel_rfl, by kernel_rfl⟩
set_option maxRecDepth 100000 in
set_option maxHeartbeats 2000000 in
theorem diskOrderMain (B : Base) (H : List Res) (w : World) (n : Int) (ka : Option Addr) (m kc : Nat) (ks : List Int) (hn : ks.length = m) (hks : RdV B [] ka (ks.map intV)) (hw : ∀ k ∈ ks, -9223372036854775808 ≤ k ∧ k ≤ 9223372036854775807) (hv : Inv B H w) :
    Calls Try.prog 8 #[.int .i64 n, .slice ka m kc] w fun e w' => e = .returned (.bool true) ∧ Inv B H w' := by
  have ht := tmod20 n
  obtain ⟨k, hk, hk20⟩ := k20 n
  refine (callsIn_wide (n := 5)).1 ?_
  refine callsIn_of_wp Try.func8 rfl trivial ?_
  simp only [Try.ntmps8, List.size_toArray, List.length_cons, List.length_nil, Nat.reduceAdd, Nat.reduceSub, Array.replicate_succ, Array.replicate_zero, List.push_toArray, List.append_toArray, List.nil_append, List.cons_append]
  refine wpIn_seq_k (fun K1 hK1 => ?_)
  refine wpIn_region_lit ?_
  refine wpi_exG (v := .bool false) (fun _ => trivial) (wn rfl) rfl (ex_assign rfl rfl) ?_
  refine wpListIn_nil ?_
  simp only [Act.put, List.setIfInBounds_toArray, List.set_cons_succ, List.set_cons_zero]
  refine then_normal (hK1 _ _ ?_)
  clear hK1 K1
  refine wpIn_seq_k (fun K2 hK2 => ?_)
  refine wpIn_seq_k (fun K3 hK3 => ?_)
  refine wpIn_region_lit ?_
  refine wpi_callG docallable20 (fun _ => trivial) wideC rfl (wn rfl) rfl (args := #[]) (by simp only [List.map_toArray, List.map_nil]) ((lawAwake06 _ _ _ hv).mono ?_)
  rintro e w4 ⟨rfl, hv⟩
  refine ⟨_, rfl, ?_⟩
  refine wpi_exG (v := .bool false) (fun _ => trivial) (wn rfl) rfl (ex_not rfl rfl rfl) ?_
  refine wpi_exG (v := .bool false) (fun _ => trivial) (wn rfl) rfl (ex_move rfl rfl) ?_
  simp only [Act.put, List.setIfInBounds_toArray, List.set_cons_succ, List.set_cons_zero]
  refine wpi_exG (v := .slice ka m kc) (fun _ => trivial) (wanted_of (j := 2) (d := 15) (b := false) rfl rfl rfl) rfl (ex_move rfl rfl) ?_
  refine wpi_exG (v := .int .i64 (m : Int)) (fun _ => trivial) (wanted_of (j := 2) (d := 15) (b := false) rfl rfl rfl) rfl (ex_len0 Try.underlying44 rfl rfl) ?_
  by_cases hb5 : (m : Int) > 40
  · refine wpi_exG (v := .bool true) (fun _ => trivial) (wanted_of (j := 2) (d := 15) (b := false) rfl rfl rfl) rfl (ex_gtr (k := .i64) (m := (m : Int)) (n := 40) rfl rfl rfl (decide_eq_true hb5)) ?_
    simp only [Act.put, List.setIfInBounds_toArray, List.set_cons_succ, List.set_cons_zero]
    refine wpi_exG (v := .bool true) (fun _ => trivial) (wn rfl) rfl (ex_pick (b := false) rfl rfl rfl) ?_
    refine wpListIn_nil ?_
    simp only [Act.put, List.setIfInBounds_toArray, List.set_cons_succ, List.set_cons_zero]
    refine then_normal (hK3 _ _ ?_)
    clear hK3 K3
    refine wpIn_cond_true rfl ?_
    refine wpIn_seq_k (fun K6 hK6 => ?_)
    refine wpIn_region_lit ?_
    refine wpi_callG docallable20 (fun _ => trivial) wideC rfl (wn rfl) rfl (args := #[]) (by simp only [List.map_toArray, List.map_nil]) ((lawAwake06 _ _ _ hv).mono ?_)
    rintro e w7 ⟨rfl, hv⟩
    refine ⟨_, rfl, ?_⟩
    refine wpi_exG (v := .bool true) (fun _ => trivial) (wn rfl) rfl (ex_assign rfl rfl) ?_
    refine wpListIn_nil ?_
    simp only [Act.put, List.setIfInBounds_toArray, List.set_cons_succ, List.set_cons_zero]
    refine then_normal (hK6 _ _ ?_)
    clear hK6 K6
    refine wpIn_ret ?_
    refine then_ret ?_
    clear hK2 K2
    refine bodyPost_ret (results_tmp rfl _ _ _) rfl ?_
    exact ⟨rfl, hv.tail 0⟩
  · refine wpi_exG (v := .bool false) (fun _ => trivial) (wanted_of (j := 2) (d := 15) (b := false) rfl rfl rfl) rfl (ex_gtr (k := .i64) (m := (m : Int)) (n := 40) rfl rfl rfl (decide_eq_false hb5)) ?_
    simp only [Act.put, List.setIfInBounds_toArray, List.set_cons_succ, List.set_cons_zero]
    refine wpi_exG (v := .bool false) (fun _ => trivial) (wn rfl) rfl (ex_pick (b := false) rfl rfl rfl) ?_
    refine wpListIn_nil ?_
    simp only [Act.put, List.setIfInBounds_toArray, List.set_cons_succ, List.set_cons_zero]
    refine then_normal (hK3 _ _ ?_)
    clear hK3 K3
    refine wpIn_cond_false rfl ?_
    refine wpIn_skip ?_
    refine then_normal (hK2 _ _ ?_)
    clear hK2 K2
    refine wpIn_seq_k (fun K8 hK8 => ?_)
    refine wpIn_region_lit ?_
    refine wpi_exG (v := .int .i64 n) (fun _ => trivial) (wn rfl) rfl (ex_move rfl rfl) ?_
    refine wpi_exG (v := .int .i64 (n.tmod 20)) (fun _ => trivial) (wn rfl) rfl (ex_rem (m := n) (n := 20) rfl rfl rfl (by decide) rfl) ?_
    refine wpi_exG (v := .int .i64 ((n.tmod 20) + 20)) (fun _ => trivial) (wn rfl) rfl (ex_add (m := (n.tmod 20)) (n := 20) rfl rfl rfl (i64_in (by omega))) ?_
    simp only [Act.put, List.setIfInBounds_toArray, List.set_cons_succ, List.set_cons_zero]
    refine wpi_exG (v := .int .i64 (k : Int)) (fun _ => trivial) (wn rfl) rfl (ex_rem (m := ((n.tmod 20) + 20)) (n := 20) rfl rfl rfl (by decide) hk) ?_
    refine wpi_exG (v := .int .i64 (k : Int)) (fun _ => trivial) (wn rfl) rfl (ex_assign rfl rfl) ?_
    refine wpListIn_nil ?_
    simp only [Act.put, List.setIfInBounds_toArray, List.set_cons_succ, List.set_cons_zero]
    refine then_normal (hK8 _ _ ?_)
    clear hK8 K8
    refine wpIn_seq_k (fun K9 hK9 => ?_)
    refine wpIn_region_lit ?_
    refine wpi_callG docallable21 (fun _ => trivial) wideC rfl (wn rfl) rfl (args := #[.int .i64 1]) (by simp only [List.map_toArray, List.map_cons, List.map_nil]; rfl) ((diskNewSl _ _ _ 1 (by omega) (by omega) hv).mono ?_)
    rintro e w12 ⟨p10, F11, rfl, hv⟩
    refine ⟨_, rfl, ?_⟩
    refine wpi_exG (v := .tuple #[.pointer (some ⟨p10, 0, none⟩), .int .i64 0]) (fun _ => trivial) (wn rfl) rfl (ex_move rfl rfl) ?_
    refine wpi_exG (v := .pointer (some ⟨p10, 0, none⟩)) (fun _ => trivial) (wn rfl) rfl (ex_extract rfl rfl rfl) ?_
    simp only [Act.put, List.setIfInBounds_toArray, List.set_cons_succ, List.set_cons_zero]
    refine wpi_exG (v := .int .i64 0) (fun _ => trivial) (wn rfl) rfl (ex_extract rfl rfl rfl) ?_
    refine wpi_exG (v := .pointer (some ⟨p10, 0, none⟩)) (fun _ => trivial) (wn rfl) rfl (ex_assign rfl rfl) ?_
    refine wpi_exG (v := .int .i64 0) (fun _ => trivial) (wn rfl) rfl (ex_assign rfl rfl) ?_
    refine wpListIn_nil ?_
    simp only [Act.put, List.setIfInBounds_toArray, List.set_cons_succ, List.set_cons_zero]
    refine then_normal (hK9 _ _ ?_)
    clear hK9 K9
    refine wpIn_seq_k (fun K13 hK13 => ?_)
    refine wpIn_seq_k (fun K14 hK14 => ?_)
    refine wpIn_region_lit ?_
    refine wpi_exG (v := .pointer (some ⟨p10, 0, none⟩)) (fun _ => trivial) (wn rfl) rfl (ex_move rfl rfl) ?_
    refine wpi_exG (v := .bool false) (fun _ => trivial) (wn rfl) rfl (ex_pisnil Try.underlying36 rfl rfl rfl rfl) ?_
    refine wpListIn_nil ?_
    simp only [Act.put, List.setIfInBounds_toArray, List.set_cons_succ, List.set_cons_zero]
    refine then_normal (hK14 _ _ ?_)
    clear hK14 K14
    refine wpIn_cond_false rfl ?_
    refine wpIn_skip ?_
    refine then_normal (hK13 _ _ ?_)
    clear hK13 K13
    refine wpIn_seq_k (fun K15 hK15 => ?_)
    refine wpIn_seq_k (fun K16 hK16 => ?_)
    refine wpIn_region_lit ?_
    refine wpi_exG (v := .int .i64 0) (fun _ => trivial) (wn rfl) rfl (ex_assign rfl rfl) ?_
    refine wpListIn_nil ?_
    simp only [Act.put, List.setIfInBounds_toArray, List.set_cons_succ, List.set_cons_zero]
    refine then_normal (hK16 _ _ ?_)
    clear hK16 K16
    refine wpIn_block ?_
    gi_loopw [8] (fun x8 wr => ∃ (i : Nat) (F : List Nat), x8 = .int .i64 (i : Int) ∧ i ≤ k ∧ Inv B (diskR p10 (ordD i) F :: H) wr) (fun x8 _ => k - (intOf x8).toNat)
    case atStart => exact ⟨0, _, rfl, by omega, hv⟩
    case round =>
      obtain ⟨i, F, rfl, hi, hv⟩ := hrel
      refine wpIn_seq_k (fun K18 hK18 => ?_)
      refine wpIn_seq_k (fun K19 hK19 => ?_)
      refine wpIn_region_lit ?_
      refine wpi_exG (v := .int .i64 (i : Int)) (fun _ => trivial) (wn rfl) rfl (ex_move rfl rfl) ?_
      refine wpi_exG (v := .int .i64 (k : Int)) (fun _ => trivial) (wn rfl) rfl (ex_move rfl rfl) ?_
      by_cases hb20 : (i : Int) < (k : Int)
      · refine wpi_exG (v := .bool true) (fun _ => trivial) (wn rfl) rfl (ex_lss (k := .i64) (m := (i : Int)) (n := (k : Int)) rfl rfl rfl (decide_eq_true hb20)) ?_
        refine wpListIn_nil ?_
        simp only [Act.put, List.setIfInBounds_toArray, List.set_cons_succ, List.set_cons_zero]
        refine then_normal (hK19 _ _ ?_)
        clear hK19 K19
        refine wpIn_cond_true rfl ?_
        refine wpIn_skip ?_
        refine then_normal (hK18 _ _ ?_)
        clear hK18 K18
        refine wpIn_seq_k (fun K21 hK21 => ?_)
        refine wpIn_block ?_
        refine wpIn_region_lit ?_
        refine wpi_exG (v := .pointer (some ⟨p10, 0, none⟩)) (fun _ => trivial) (wn rfl) rfl (ex_move rfl rfl) ?_
        refine wpi_exG (v := .int .i64 (i : Int)) (fun _ => trivial) (wn rfl) rfl (ex_move rfl rfl) ?_
        refine wpi_exG (v := .int .i64 ((i : Int) + 1)) (fun _ => trivial) (wn rfl) rfl (ex_add (m := (i : Int)) (n := 1) rfl rfl rfl (i64_in (by omega))) ?_
        simp only [Act.put, List.setIfInBounds_toArray, List.set_cons_succ, List.set_cons_zero]
        refine wpi_exG (v := .int .u8 ((i : Int) + 1)) (fun _ => trivial) (wn rfl) rfl (ex_int (m := ((i : Int) + 1)) Try.underlying3 Try.underlying5 rfl rfl (u8_in (by omega))) ?_
        refine wpi_callG docallable23 (fun _ => trivial) wideC rfl (wn rfl) rfl (args := #[.int .u8 ((i : Int) + 1), .int .i64 1, .int .i64 0]) (by simp only [List.map_toArray, List.map_cons, List.map_nil]; rfl) ((lawFilled _ _ _ (UInt8.ofNat (i + 1)) ((i : Int) + 1) (by rw [u8c _ (by omega)]; omega) 1 0 64 (by omega) (by omega) hv).mono ?_)
        rintro e w23 ⟨b22, rfl, hv⟩
        refine ⟨_, rfl, ?_⟩
        replace hv := hv.front 1 rfl
        simp only [List.eraseIdx_cons_succ, List.eraseIdx_cons_zero] at hv
        refine wpi_callG docallable22 (fun _ => trivial) wideC rfl (wn rfl) rfl (args := #[.pointer (some ⟨p10, 0, none⟩), .int .i64 0, .slice (some ⟨b22, 0, none⟩) 64 64]) (by simp only [List.map_toArray, List.map_cons, List.map_nil]; rfl) ((diskWriteSl _ _ _ p10 _ _ 0 _ _ _ (List.replicate 64 (UInt8.ofNat (i + 1) : UInt8)) hv List.length_replicate (ok_full (by omega)) (rd_repAt 0 rfl) (ordD_has _ _) (by rw [ordD_left]; decide) (by rw [ordD_len]; omega)).mono ?_)
        rintro e w25 ⟨F24, rfl, hv⟩
        refine ⟨_, rfl, ?_⟩
        refine wpListIn_nil ?_
        simp only [Act.put, List.setIfInBounds_toArray, List.set_cons_succ, List.set_cons_zero]
        refine blk_normal ?_
        refine then_normal (hK21 _ _ ?_)
        clear hK21 K21
        refine wpIn_region_lit ?_
        refine wpi_exG (v := .int .i64 (i : Int)) (fun _ => trivial) (wn rfl) rfl (ex_move rfl rfl) ?_
        refine wpi_exG (v := .int .i64 ((i : Int) + 1)) (fun _ => trivial) (wn rfl) rfl (ex_add (m := (i : Int)) (n := 1) rfl rfl rfl (i64_in (by omega))) ?_
        refine wpi_exG (v := .int .i64 ((i : Int) + 1)) (fun _ => trivial) (wn rfl) rfl (ex_assign rfl rfl) ?_
        refine wpListIn_nil ?_
        simp only [Act.put, List.setIfInBounds_toArray, List.set_cons_succ, List.set_cons_zero]
        refine then_normal ?_
        go_roundw
        case rel => exact ⟨i + 1, _, by simp, by omega, by rw [← ordD_write]; exact (hv.sub (List.Sublist.cons_cons _ (List.Sublist.cons _ (List.Sublist.refl _))))⟩
        case measure => show k - ((i : Int) + 1).toNat < k - (i : Int).toNat; omega
      · have hik : i = k := by omega
        rw [hik] at hv
        skip
        refine wpi_exG (v := .bool false) (fun _ => trivial) (wn rfl) rfl (ex_lss (k := .i64) (m := (i : Int)) (n := (k : Int)) rfl rfl rfl (decide_eq_false hb20)) ?_
        refine wpListIn_nil ?_
        simp only [Act.put, List.setIfInBounds_toArray, List.set_cons_succ, List.set_cons_zero]
        refine then_normal (hK19 _ _ ?_)
        clear hK19 K19
        refine wpIn_cond_false rfl ?_
        refine wpIn_exit ?_
        refine then_exit ?_
        clear hK18 K18
        refine then_exit ?_
        refine blk_hit ?_
        refine then_normal (hK15 _ _ ?_)
        clear hK15 K15
        refine wpIn_seq_k (fun K26 hK26 => ?_)
        refine wpIn_region_lit ?_
        refine wpi_exG (v := .int .i64 0) (fun _ => trivial) (wn rfl) rfl (ex_assign rfl rfl) ?_
        refine wpListIn_nil ?_
        simp only [Act.put, List.setIfInBounds_toArray, List.set_cons_succ, List.set_cons_zero]
        refine then_normal (hK26 _ _ ?_)
        clear hK26 K26
        refine wpIn_seq_k (fun K27 hK27 => ?_)
        refine wpIn_seq_k (fun K28 hK28 => ?_)
        refine wpIn_region_lit ?_
        refine wpi_exG (v := .int .i64 0) (fun _ => trivial) (wn rfl) rfl (ex_assign rfl rfl) ?_
        refine wpListIn_nil ?_
        simp only [Act.put, List.setIfInBounds_toArray, List.set_cons_succ, List.set_cons_zero]
        refine then_normal (hK28 _ _ ?_)
        clear hK28 K28
        refine wpIn_block ?_
        gi_loopw [9, 10] (fun x9 x10 wr => ∃ (i L : Nat), x9 = .int .i64 (L : Int) ∧ x10 = .int .i64 (i : Int) ∧ i ≤ m ∧ LastP k (ks.take i) L ∧ Inv B (diskR p10 (ordD k) F :: H) wr) (fun x9 x10 _ => m - (intOf x10).toNat)
        case atStart => exact ⟨0, 0, rfl, rfl, by omega, lastP_nil _, hv⟩
        case round =>
          obtain ⟨i, L, rfl, rfl, hi, hL, hv⟩ := hrel
          have hLk := hL.1
          refine wpIn_seq_k (fun K30 hK30 => ?_)
          refine wpIn_seq_k (fun K31 hK31 => ?_)
          refine wpIn_region_lit ?_
          refine wpi_exG (v := .int .i64 (i : Int)) (fun _ => trivial) (wn rfl) rfl (ex_move rfl rfl) ?_
          refine wpi_exG (v := .slice ka m kc) (fun _ => trivial) (wn rfl) rfl (ex_move rfl rfl) ?_
          refine wpi_exG (v := .int .i64 (m : Int)) (fun _ => trivial) (wn rfl) rfl (ex_len0 Try.underlying44 rfl rfl) ?_
          simp only [Act.put, List.setIfInBounds_toArray, List.set_cons_succ, List.set_cons_zero]
          by_cases hb32 : (i : Int) < (m : Int)
          · refine wpi_exG (v := .bool true) (fun _ => trivial) (wn rfl) rfl (ex_lss (k := .i64) (m := (i : Int)) (n := (m : Int)) rfl rfl rfl (decide_eq_true hb32)) ?_
            refine wpListIn_nil ?_
            simp only [Act.put, List.setIfInBounds_toArray, List.set_cons_succ, List.set_cons_zero]
            refine then_normal (hK31 _ _ ?_)
            clear hK31 K31
            refine wpIn_cond_true rfl ?_
            refine wpIn_skip ?_
            refine then_normal (hK30 _ _ ?_)
            clear hK30 K30
            refine wpIn_seq_k (fun K33 hK33 => ?_)
            refine wpIn_block ?_
            refine wpIn_seq_k (fun K34 hK34 => ?_)
            refine wpIn_region_lit ?_
            refine wpi_exG (v := .slice ka m kc) (fun _ => trivial) (wn rfl) rfl (ex_move rfl rfl) ?_
            refine wpi_exG (v := .int .i64 (i : Int)) (fun _ => trivial) (wn rfl) rfl (ex_move rfl rfl) ?_
            have hin : i < ks.length := by omega
            obtain ⟨ab, aoff, rfl, hcell⟩ := hks.any.cellAt hv i (by rw [List.length_map]; exact hin)
            have hk64 := hw _ (List.getElem_mem hin)
            have htake : ks.take (i + 1) = ks.take i ++ [ks[i]] := by rw [List.take_succ_eq_append_getElem hin]
            simp only [List.getElem_map, intV] at hcell
            generalize ks[i] = v at *
            refine wpi_exG (v := .pointer (some ⟨ab, aoff + i, none⟩)) (fun _ => trivial) (wn rfl) rfl (ex_index rfl rfl rfl (run_idx1 Try.underlying44 does44 (by omega))) ?_
            simp only [Act.put, List.setIfInBounds_toArray, List.set_cons_succ, List.set_cons_zero]
            refine wpi_exG (v := .int .i64 v) (fun _ => trivial) (wn rfl) rfl (ex_load rfl rfl (run_load1 dona3 hcell)) ?_
            by_cases hb35 : v ≥ 0
            · refine wpi_exG (v := .bool true) (fun _ => trivial) (wn rfl) rfl (ex_geq (k := .i64) (m := v) (n := 0) rfl rfl rfl (decide_eq_true hb35)) ?_
              refine wpi_exG (v := .bool true) (fun _ => trivial) (wn rfl) rfl (ex_move rfl rfl) ?_
              simp only [Act.put, List.setIfInBounds_toArray, List.set_cons_succ, List.set_cons_zero]
              refine wpi_exG (v := .slice (some ⟨ab, aoff, none⟩) m kc) (fun _ => trivial) (wanted_of (j := 5) (d := 53) (b := true) rfl rfl rfl) rfl (ex_move rfl rfl) ?_
              refine wpi_exG (v := .int .i64 (i : Int)) (fun _ => trivial) (wanted_of (j := 5) (d := 53) (b := true) rfl rfl rfl) rfl (ex_move rfl rfl) ?_
              refine wpi_exG (v := .pointer (some ⟨ab, aoff + i, none⟩)) (fun _ => trivial) (wanted_of (j := 5) (d := 53) (b := true) rfl rfl rfl) rfl (ex_index rfl rfl rfl (run_idx1 Try.underlying44 does44 (by omega))) ?_
              simp only [Act.put, List.setIfInBounds_toArray, List.set_cons_succ, List.set_cons_zero]
              refine wpi_exG (v := .int .i64 v) (fun _ => trivial) (wanted_of (j := 5) (d := 53) (b := true) rfl rfl rfl) rfl (ex_load rfl rfl (run_load1 dona3 hcell)) ?_
              refine wpi_exG (v := .int .i64 (k : Int)) (fun _ => trivial) (wanted_of (j := 5) (d := 53) (b := true) rfl rfl rfl) rfl (ex_move rfl rfl) ?_
              by_cases hb36 : v < (k : Int)
              · refine wpi_exG (v := .bool true) (fun _ => trivial) (wanted_of (j := 5) (d := 53) (b := true) rfl rfl rfl) rfl (ex_lss (k := .i64) (m := v) (n := (k : Int)) rfl rfl rfl (decide_eq_true hb36)) ?_
                simp only [Act.put, List.setIfInBounds_toArray, List.set_cons_succ, List.set_cons_zero]
                refine wpi_exG (v := .bool true) (fun _ => trivial) (wn rfl) rfl (ex_pick (b := true) rfl rfl rfl) ?_
                refine wpListIn_nil ?_
                simp only [Act.put, List.setIfInBounds_toArray, List.set_cons_succ, List.set_cons_zero]
                refine then_normal (hK34 _ _ ?_)
                clear hK34 K34
                refine wpIn_cond_true rfl ?_
                refine wpIn_region_lit ?_
                refine wpi_exG (v := .int .i64 (L : Int)) (fun _ => trivial) (wn rfl) rfl (ex_move rfl rfl) ?_
                refine wpi_exG (v := .slice (some ⟨ab, aoff, none⟩) m kc) (fun _ => trivial) (wn rfl) rfl (ex_move rfl rfl) ?_
                refine wpi_exG (v := .int .i64 (i : Int)) (fun _ => trivial) (wn rfl) rfl (ex_move rfl rfl) ?_
                simp only [Act.put, List.setIfInBounds_toArray, List.set_cons_succ, List.set_cons_zero]
                refine wpi_exG (v := .pointer (some ⟨ab, aoff + i, none⟩)) (fun _ => trivial) (wn rfl) rfl (ex_index rfl rfl rfl (run_idx1 Try.underlying44 does44 (by omega))) ?_
                refine wpi_exG (v := .int .i64 v) (fun _ => trivial) (wn rfl) rfl (ex_load rfl rfl (run_load1 dona3 hcell)) ?_
                refine wpi_exG (v := .int .i64 (v + 1)) (fun _ => trivial) (wn rfl) rfl (ex_add (m := v) (n := 1) rfl rfl rfl (i64_in (by omega))) ?_
                simp only [Act.put, List.setIfInBounds_toArray, List.set_cons_succ, List.set_cons_zero]
                obtain ⟨u, rfl⟩ : ∃ u : Nat, v = (u : Int) := ⟨v.toNat, by omega⟩
                refine wpi_exG (v := .int .i64 ((if u + 1 > L then u + 1 else L : Nat) : Int)) (fun _ => trivial) (wn rfl) rfl (ex_max2 (m := (L : Int)) (n := (u : Int) + 1) rfl rfl rfl (by split <;> split <;> omega)) ?_
                refine wpi_exG (v := .int .i64 ((if u + 1 > L then u + 1 else L : Nat) : Int)) (fun _ => trivial) (wn rfl) rfl (ex_assign rfl rfl) ?_
                refine wpListIn_nil ?_
                simp only [Act.put, List.setIfInBounds_toArray, List.set_cons_succ, List.set_cons_zero]
                refine blk_normal ?_
                refine then_normal (hK33 _ _ ?_)
                clear hK33 K33
                refine wpIn_region_lit ?_
                refine wpi_exG (v := .int .i64 (i : Int)) (fun _ => trivial) (wn rfl) rfl (ex_move rfl rfl) ?_
                refine wpi_exG (v := .int .i64 ((i : Int) + 1)) (fun _ => trivial) (wn rfl) rfl (ex_add (m := (i : Int)) (n := 1) rfl rfl rfl (i64_in (by omega))) ?_
                refine wpi_exG (v := .int .i64 ((i : Int) + 1)) (fun _ => trivial) (wn rfl) rfl (ex_assign rfl rfl) ?_
                refine wpListIn_nil ?_
                simp only [Act.put, List.setIfInBounds_toArray, List.set_cons_succ, List.set_cons_zero]
                refine then_normal ?_
                go_roundw
                case rel => exact ⟨i + 1, (if u + 1 > L then u + 1 else L), rfl, by simp, by omega, by rw [htake]; exact lastP_in hL (by omega), hv⟩
                case measure => show m - ((i : Int) + 1).toNat < m - (i : Int).toNat; omega
              · skip
                refine wpi_exG (v := .bool false) (fun _ => trivial) (wanted_of (j := 5) (d := 53) (b := true) rfl rfl rfl) rfl (ex_lss (k := .i64) (m := v) (n := (k : Int)) rfl rfl rfl (decide_eq_false hb36)) ?_
                simp only [Act.put, List.setIfInBounds_toArray, List.set_cons_succ, List.set_cons_zero]
                refine wpi_exG (v := .bool false) (fun _ => trivial) (wn rfl) rfl (ex_pick (b := true) rfl rfl rfl) ?_
                refine wpListIn_nil ?_
                simp only [Act.put, List.setIfInBounds_toArray, List.set_cons_succ, List.set_cons_zero]
                refine then_normal (hK34 _ _ ?_)
                clear hK34 K34
                refine wpIn_cond_false rfl ?_
                refine wpIn_skip ?_
                refine blk_normal ?_
                refine then_normal (hK33 _ _ ?_)
                clear hK33 K33
                refine wpIn_region_lit ?_
                refine wpi_exG (v := .int .i64 (i : Int)) (fun _ => trivial) (wn rfl) rfl (ex_move rfl rfl) ?_
                refine wpi_exG (v := .int .i64 ((i : Int) + 1)) (fun _ => trivial) (wn rfl) rfl (ex_add (m := (i : Int)) (n := 1) rfl rfl rfl (i64_in (by omega))) ?_
                refine wpi_exG (v := .int .i64 ((i : Int) + 1)) (fun _ => trivial) (wn rfl) rfl (ex_assign rfl rfl) ?_
                refine wpListIn_nil ?_
                simp only [Act.put, List.setIfInBounds_toArray, List.set_cons_succ, List.set_cons_zero]
                refine then_normal ?_
                go_roundw
                case rel => exact ⟨i + 1, L, rfl, by simp, by omega, by rw [htake]; exact lastP_out hL (.inr (by omega)), hv⟩
                case measure => show m - ((i : Int) + 1).toNat < m - (i : Int).toNat; omega
            · skip
              refine wpi_exG (v := .bool false) (fun _ => trivial) (wn rfl) rfl (ex_geq (k := .i64) (m := v) (n := 0) rfl rfl rfl (decide_eq_false hb35)) ?_
              refine wpi_exG (v := .bool false) (fun _ => trivial) (wn rfl) rfl (ex_move rfl rfl) ?_
              simp only [Act.put, List.setIfInBounds_toArray, List.set_cons_succ, List.set_cons_zero]
              refine wpi_not (fun _ => trivial) (wanted_not (j := 5) (d := 53) (b := true) (b' := false) rfl rfl rfl (by decide)) ?_
              refine wpi_not (fun _ => trivial) (wanted_not (j := 5) (d := 53) (b := true) (b' := false) rfl rfl rfl (by decide)) ?_
              refine wpi_not (fun _ => trivial) (wanted_not (j := 5) (d := 53) (b := true) (b' := false) rfl rfl rfl (by decide)) ?_
              simp only [Act.put, List.setIfInBounds_toArray, List.set_cons_succ, List.set_cons_zero]
              refine wpi_not (fun _ => trivial) (wanted_not (j := 5) (d := 53) (b := true) (b' := false) rfl rfl rfl (by decide)) ?_
              refine wpi_not (fun _ => trivial) (wanted_not (j := 5) (d := 53) (b := true) (b' := false) rfl rfl rfl (by decide)) ?_
              refine wpi_not (fun _ => trivial) (wanted_not (j := 5) (d := 53) (b := true) (b' := false) rfl rfl rfl (by decide)) ?_
              simp only [Act.put, List.setIfInBounds_toArray, List.set_cons_succ, List.set_cons_zero]
              refine wpi_exG (v := .bool false) (fun _ => trivial) (wn rfl) rfl (ex_pick (b := false) rfl rfl rfl) ?_
              refine wpListIn_nil ?_
              simp only [Act.put, List.setIfInBounds_toArray, List.set_cons_succ, List.set_cons_zero]
              refine then_normal (hK34 _ _ ?_)
              clear hK34 K34
              refine wpIn_cond_false rfl ?_
              refine wpIn_skip ?_
              refine blk_normal ?_
              refine then_normal (hK33 _ _ ?_)
              clear hK33 K33
              refine wpIn_region_lit ?_
              refine wpi_exG (v := .int .i64 (i : Int)) (fun _ => trivial) (wn rfl) rfl (ex_move rfl rfl) ?_
              refine wpi_exG (v := .int .i64 ((i : Int) + 1)) (fun _ => trivial) (wn rfl) rfl (ex_add (m := (i : Int)) (n := 1) rfl rfl rfl (i64_in (by omega))) ?_
              refine wpi_exG (v := .int .i64 ((i : Int) + 1)) (fun _ => trivial) (wn rfl) rfl (ex_assign rfl rfl) ?_
              refine wpListIn_nil ?_
              simp only [Act.put, List.setIfInBounds_toArray, List.set_cons_succ, List.set_cons_zero]
              refine then_normal ?_
              go_roundw
              case rel => exact ⟨i + 1, L, rfl, by simp, by omega, by rw [htake]; exact lastP_out hL (.inl (by omega)), hv⟩
              case measure => show m - ((i : Int) + 1).toNat < m - (i : Int).toNat; omega
          · rw [List.take_of_length_le (by omega)] at hL
            refine wpi_exG (v := .bool false) (fun _ => trivial) (wn rfl) rfl (ex_lss (k := .i64) (m := (i : Int)) (n := (m : Int)) rfl rfl rfl (decide_eq_false hb32)) ?_
            refine wpListIn_nil ?_
            simp only [Act.put, List.setIfInBounds_toArray, List.set_cons_succ, List.set_cons_zero]
            refine then_normal (hK31 _ _ ?_)
            clear hK31 K31
            refine wpIn_cond_false rfl ?_
            refine wpIn_exit ?_
            refine then_exit ?_
            clear hK30 K30
            refine then_exit ?_
            refine blk_hit ?_
            refine then_normal (hK27 _ _ ?_)
            clear hK27 K27
            refine wpIn_seq_k (fun K37 hK37 => ?_)
            refine wpIn_region_lit ?_
            refine wpi_exG (v := .pointer (some ⟨p10, 0, none⟩)) (fun _ => trivial) (wn rfl) rfl (ex_move rfl rfl) ?_
            refine wpi_exG (v := .slice ka m kc) (fun _ => trivial) (wn rfl) rfl (ex_move rfl rfl) ?_
            refine wpi_callG docallable25 (fun _ => trivial) wideC rfl (wn rfl) rfl (args := #[.pointer (some ⟨p10, 0, none⟩), .slice ka m kc]) (by simp only [List.map_toArray, List.map_cons, List.map_nil]; rfl) ((diskCrashSl _ _ _ p10 _ _ _ _ _ (ks) hv (by rw [ordD_len]; omega) hn (by omega) hks.any hw).mono ?_)
            rintro e w39 ⟨F38, rfl, hv⟩
            refine ⟨_, rfl, ?_⟩
            refine wpListIn_nil ?_
            simp only [Act.put, List.setIfInBounds_toArray, List.set_cons_succ, List.set_cons_zero]
            refine then_normal (hK37 _ _ ?_)
            clear hK37 K37
            refine wpIn_seq_k (fun K40 hK40 => ?_)
            refine wpIn_region_lit ?_
            refine wpi_exG (v := .pointer (some ⟨p10, 0, none⟩)) (fun _ => trivial) (wn rfl) rfl (ex_move rfl rfl) ?_
            refine wpi_callG docallable26 (fun _ => trivial) wideC rfl (wn rfl) rfl (args := #[.pointer (some ⟨p10, 0, none⟩), .int .i64 0, .int .i64 1]) (by simp only [List.map_toArray, List.map_cons, List.map_nil]; rfl) ((diskReadOk _ _ _ p10 _ _ 0 1 hv ((ordD k).crash ks) rfl (Nat.zero_le _) (crash_has hL) (by show (-1 : Int) ≠ 0; decide) (by decide) (by decide) (by rw [crash_len hL]; decide)).mono ?_)
            rintro e w43 ⟨b42, rfl, F41, hv⟩
            refine ⟨_, rfl, ?_⟩
            refine wpi_exG (v := .tuple #[.slice (some ⟨b42, 0, none⟩) 64 64, .int .i64 0]) (fun _ => trivial) (wn rfl) rfl (ex_move rfl rfl) ?_
            simp only [Act.put, List.setIfInBounds_toArray, List.set_cons_succ, List.set_cons_zero]
            refine wpi_exG (v := .slice (some ⟨b42, 0, none⟩) 64 64) (fun _ => trivial) (wn rfl) rfl (ex_extract rfl rfl rfl) ?_
            refine wpi_exG (v := .int .i64 0) (fun _ => trivial) (wn rfl) rfl (ex_extract rfl rfl rfl) ?_
            refine wpi_exG (v := .slice (some ⟨b42, 0, none⟩) 64 64) (fun _ => trivial) (wn rfl) rfl (ex_assign rfl rfl) ?_
            simp only [Act.put, List.setIfInBounds_toArray, List.set_cons_succ, List.set_cons_zero]
            refine wpi_exG (v := .int .i64 0) (fun _ => trivial) (wn rfl) rfl (ex_assign rfl rfl) ?_
            refine wpListIn_nil ?_
            simp only [Act.put, List.setIfInBounds_toArray, List.set_cons_succ, List.set_cons_zero]
            refine then_normal (hK40 _ _ ?_)
            clear hK40 K40
            refine wpIn_seq_k (fun K44 hK44 => ?_)
            refine region_mono mixed [SP.eq (.int .i64 0), SP.eq (.bool true), SP.eq (.bool true), SP.eq (.slice (some ⟨b42, 0, none⟩) 64 64), SP.eq (.string ⟨(oneSec L).toArray⟩), SP.eq (.int .i64 (L : Int)), SP.eq (.int .u8 (L : Int)), SP.slc (List.replicate 64 (B8 (UInt8.ofNat L))) 64 5, SP.eq (.string ⟨(List.replicate 64 (UInt8.ofNat L : UInt8)).toArray⟩), SP.eq (.bool true), SP.eq (.bool true), SP.eq (.bool true)] 87 rfl (by kernel_rfl) hv ⟨?_, ?_, ?_, ?_, ?_, ?_, ?_, ?_, ?_, ?_, ?_, ?_, trivial⟩ (fun i o w h => ?_) ?_
            · intro a w hv hR
              exact Ex.ok' (ex_move rfl (show a.eval (.tmp 12) = _ from hR.keep 12 rfl)) (wn rfl) rfl
            · intro a w hv hR
              exact Ex.ok' (ex_eql (k := .i64) (m := 0) (n := 0) rfl (show a.eval (.tmp 76) = _ from hR.pred 0 76 rfl rfl) rfl (by decide)) (wn rfl) rfl
            · intro a w hv hR
              exact Ex.ok' (ex_move rfl (show a.eval (.tmp 77) = _ from hR.pred 1 77 rfl rfl)) (wn rfl) rfl
            · intro a w hv hR
              exact Ex.ok' (ex_move rfl (show a.eval (.tmp 11) = _ from hR.keep 11 rfl)) (wanted_of (j := 2) (d := 78) (b := true) rfl rfl (hR.pred 2 78 rfl rfl)) rfl
            · intro a w hv hR
              exact Ex.ok' (ex_str Try.underlying24 Try.underlying5 Try.underlying9 rfl (show a.eval (.tmp 79) = _ from hR.pred 3 79 rfl rfl) (bytes_one (by have := (hv.get 0 rfl : Blk _ _ (durCells (((ordD k).crash ks).view ((ordD k).crash ks).pend 0 1)) _); rw [crash_view ks k L hL] at this; exact this)) (List.length_replicate)) (wanted_of (j := 2) (d := 78) (b := true) rfl rfl (hR.pred 2 78 rfl rfl)) rfl
            · intro a w hv hR
              exact Ex.ok' (ex_move rfl (show a.eval (.tmp 9) = _ from hR.keep 9 rfl)) (wanted_of (j := 2) (d := 78) (b := true) rfl rfl (hR.pred 2 78 rfl rfl)) rfl
            · intro a w hv hR
              exact Ex.ok' (ex_int (m := (L : Int)) Try.underlying3 Try.underlying5 rfl (show a.eval (.tmp 81) = _ from hR.pred 5 81 rfl rfl) (u8_in (by omega))) (wanted_of (j := 2) (d := 78) (b := true) rfl rfl (hR.pred 2 78 rfl rfl)) rfl
            · intro a w hv hR
              exact stepOk_calls docallable23 (wanted_of (j := 2) (d := 78) (b := true) rfl rfl (hR.pred 2 78 rfl rfl)) rfl (args := #[.int .u8 (L : Int), .int .i64 1, .int .i64 0]) (by simp only [List.map_toArray, List.map_cons, List.map_nil]; rw [show a.eval (.tmp 82) = .int .u8 (L : Int) from hR.pred 6 82 rfl rfl]; rfl) ((lawFilled (Base.of w) _ w (UInt8.ofNat L) (L : Int) (u8c _ (by omega)) 1 0 64 (by omega) (by omega) (Inv.start w)).mono fun e w' ⟨b, he, hi⟩ => ⟨_, he, ext_of hi, b, rfl, hi.head⟩)
            · intro a w hv hR
              obtain ⟨b, hve, hblk⟩ := hR.pred 7 83 rfl rfl
              exact Ex.ok' (ex_str Try.underlying24 Try.underlying5 Try.underlying9 rfl (show a.eval (.tmp 83) = _ from hve) (bytes_rep (c := UInt8.ofNat L) hblk) List.length_replicate) (wanted_of (j := 2) (d := 78) (b := true) rfl rfl (hR.pred 2 78 rfl rfl)) rfl
            · intro a w hv hR
              exact Ex.ok' (ex_seql (s := (oneSec L)) (s' := (List.replicate 64 (UInt8.ofNat L : UInt8))) rfl (show a.eval (.tmp 80) = _ from hR.pred 4 80 rfl rfl) (show a.eval (.tmp 84) = _ from hR.pred 8 84 rfl rfl) (decide_eq_true (rfl))) (wanted_of (j := 2) (d := 78) (b := true) rfl rfl (hR.pred 2 78 rfl rfl)) rfl
            · intro a w hv hR
              exact Ex.ok' (ex_pick (b := true) rfl (show a.eval (.tmp 78) = _ from hR.pred 2 78 rfl rfl) (show a.eval (.tmp 85) = _ from hR.pred 9 85 rfl rfl)) (wn rfl) rfl
            · intro a w hv hR
              exact Ex.ok' (ex_assign rfl (show a.eval (.tmp 86) = _ from hR.pred 10 86 rfl rfl)) (wn rfl) rfl
            · exact (no_none (by kernel_rfl) i o h).elim
            rintro _ w46 ⟨_, _, rfl, rfl, ⟨_, _, rfl, rfl, ⟨_, _, rfl, rfl, ⟨_, _, rfl, rfl, ⟨_, _, rfl, rfl, ⟨_, _, rfl, rfl, ⟨_, _, rfl, rfl, ⟨_, _, rfl, ⟨b45, rfl, hblkb45⟩, ⟨_, _, rfl, rfl, ⟨_, _, rfl, rfl, ⟨_, _, rfl, rfl, ⟨_, _, rfl, rfl, rfl⟩⟩⟩⟩⟩⟩⟩⟩⟩⟩⟩⟩ hv
            simp only [putAll, Act.put, List.setIfInBounds_toArray, List.set_cons_succ, List.set_cons_zero]
            refine then_normal (hK44 _ _ ?_)
            clear hK44 K44
            refine wpIn_ret ?_
            refine bodyPost_ret (results_tmp rfl _ _ _) rfl ?_
            exact ⟨rfl, hv.tail 2⟩
end Go.Proofs.Ytkannfkjnohdlaa
