/- The disk's methods. -/
import Derived.Test.YtkannfkjnohdlaaCrcSeals
import Derived.Test.YtkannfkjnohdlaaHeap
import Derived.Test.YtkannfkjnohdlaaDiskSpec
namespace Go.Proofs.Ytkannfkjnohdlaa
open Go.RowKit Go.Pm

def wrCells (p : Nat × List UInt8) : List Value := .int .i64 (p.1 : Int) :: p.2.map B8
def durCells (d : List (List UInt8)) : List Value := (d.map (·.map B8)).flatten
def pendCells (l : List (Nat × List UInt8)) : List Value := (l.map wrCells).flatten

/-- The disk D lies behind the pointer to block p; its blocks are F. -/
def DiskAt (w : World) (p : Nat) (D : Disk) (F : List Nat) : Prop := D.Ok ∧ ∃ gd vp, F = p :: gd :: (Value.ownBlock vp).toList ∧ F.Nodup ∧
  Blk w p [.slice (some ⟨gd, 0, none⟩) D.dur.length D.dur.length, vp, .int .i64 D.left] 87 ∧ Blk w gd (durCells D.dur) 90 ∧ w.ownsRow 0 92 65 vp D.pend.length (pendCells D.pend)

theorem DiskAt.lt {w : World} {p : Nat} {D : Disk} {F : List Nat} (h : DiskAt w p D F) : ∀ k ∈ F, k < w.heap.size := by
  obtain ⟨_, gd, vp, rfl, _, h1, h2, h3⟩ := h
  intro k hk
  simp only [List.mem_cons, Option.mem_toList] at hk
  rcases hk with rfl | rfl | hk
  · exact h1.lt
  · exact h2.lt
  · exact (h3.lt k hk).2
theorem DiskAt.same {w w' : World} {p : Nat} {D : Disk} {F : List Nat} (h : DiskAt w p D F) (hs : ∀ k ∈ F, w'.heap[k]? = w.heap[k]?) : DiskAt w' p D F := by
  obtain ⟨h0, gd, vp, rfl, hn, h1, h2, h3⟩ := h
  refine ⟨h0, gd, vp, rfl, hn, (hs p (by simp)).trans h1, (hs gd (by simp)).trans h2, h3.1, ?_⟩
  rcases h3.2 with h4 | ⟨g, cap, cur, rfl, hb, hg, h5⟩
  · exact .inl h4
  · exact .inr ⟨g, cap, cur, rfl, hb, (hs g (by simp [Value.ownBlock])).trans hg, h5⟩
theorem DiskAt.only {w w' : World} {p : Nat} {D : Disk} {F G : List Nat} (h : DiskAt w p D F) (hs : Only G w w') (hd : ∀ k ∈ F, k ∉ G) : DiskAt w' p D F :=
  h.same (fun k hk => hs.block k (h.lt k hk) (hd k hk))
theorem DiskAt.ext {w w' : World} {p : Nat} {D : Disk} {F : List Nat} (h : DiskAt w p D F) (hs : Ext w w') : DiskAt w' p D F :=
  h.same (fun k hk => hs.block k (h.lt k hk))

theorem ret_bool {b c : Bool} (h : b = c) : Ending.returned (.bool b) = .returned (.bool c) := by rw [h]
theorem ret_val {v u : Value} (h : v = u) : Ending.returned v = .returned u := by rw [h]

set_option maxHeartbeats 1000000 in
theorem diskHas (w : World) (p : Nat) (D : Disk) (F : List Nat) (at_ n : Int) (hD : DiskAt w p D F) (ha : -9223372036854775808 ≤ at_ ∧ at_ ≤ 9223372036854775807) :
    Calls Try.prog 44 #[.pointer (some ⟨p, 0, none⟩), .int .i64 at_, .int .i64 n] w fun e w' => e = .returned (.bool (D.has at_ n)) ∧ w = w' := by
  obtain ⟨hok, gd, vp, rfl, _, h1, _, _⟩ := hD
  have hm := hok.max
  have hc : w.cell? ⟨p, 0, none⟩ = some (.slice (some ⟨gd, 0, none⟩) D.dur.length D.dur.length) := by rw [h1.cell]; rfl
  have hv : Hid (∀ b, D.has at_ n = b ↔ (decide (1 ≤ n) && decide (0 ≤ at_) && decide (at_ < D.dur.length) && decide (n ≤ D.dur.length - at_)) = b) := fun b => Iff.rfl
  clear h1
  generalize D.dur.length = L at *
  generalize D.has at_ n = B at *
  by_cases c1 : 1 ≤ n
  · by_cases c2 : 0 ≤ at_
    · by_cases c3 : at_ < L
      · by_cases c4 : n ≤ L - at_
        · go_enter Try.func44, Try.ntmps44
          go_wp2_with fail
          go_ret
          exact ⟨ret_bool ((hv.out true).2 (by simp [c1, c2, c3, c4])).symm, rfl⟩
        · go_enter Try.func44, Try.ntmps44
          go_wp2_with fail
          go_ret
          exact ⟨ret_bool ((hv.out false).2 (by simp [c1, c2, c3, c4])).symm, rfl⟩
      · go_enter Try.func44, Try.ntmps44
        go_wp2_with fail
        go_ret
        exact ⟨ret_bool ((hv.out false).2 (by simp; omega)).symm, rfl⟩
    · go_enter Try.func44, Try.ntmps44
      go_wp2_with fail
      go_ret
      exact ⟨ret_bool ((hv.out false).2 (by simp; omega)).symm, rfl⟩
  · go_enter Try.func44, Try.ntmps44
    go_wp2_with fail
    go_ret
    exact ⟨ret_bool ((hv.out false).2 (by simp; omega)).symm, rfl⟩

/-- the receiver's cells -/
theorem DiskAt.cells {w : World} {p : Nat} {D : Disk} {F : List Nat} (h : DiskAt w p D F) : ∃ gd vp, w.cell? ⟨p, 0, none⟩ = some (.slice (some ⟨gd, 0, none⟩) D.dur.length D.dur.length) ∧ w.cell? ⟨p, 1, none⟩ = some vp ∧ w.cell? ⟨p, 2, none⟩ = some (.int .i64 D.left) ∧ ∀ k, w.frozen? ⟨p, k, none⟩ = false := by
  obtain ⟨_, gd, vp, _, _, h1, _, _⟩ := h
  exact ⟨gd, vp, by rw [h1.cell]; rfl, by rw [h1.cell]; rfl, by rw [h1.cell]; rfl, fun k => h1.free k⟩
/-- another count of calls -/
theorem DiskAt.setLeft {w : World} {p : Nat} {D : Disk} {F : List Nat} (h : DiskAt w p D F) (n : Int) (hn : -1 ≤ n ∧ n ≤ 9223372036854775807) : DiskAt (w.setCell ⟨p, 2, none⟩ (.int .i64 n)) p { D with left := n } F ∧ Only F w (w.setCell ⟨p, 2, none⟩ (.int .i64 n)) := by
  obtain ⟨h0, gd, vp, rfl, hnd, h1, h2, h3⟩ := h
  have hw : w.setCell ⟨p, 2, none⟩ (.int .i64 n) = setBlk w p [.slice (some ⟨gd, 0, none⟩) D.dur.length D.dur.length, vp, .int .i64 n] := setCell_eq_setRow w p 2 _ _ (0, 0) _ h1
  have ho : ∀ k, k ≠ p → (w.setCell ⟨p, 2, none⟩ (.int .i64 n)).heap[k]? = w.heap[k]? := fun k hk => by rw [hw]; exact setRow_other _ _ _ _ hk
  have hnd' := hnd
  simp only [List.nodup_cons, List.mem_cons, Option.mem_toList, not_or] at hnd'
  refine ⟨⟨⟨h0.dur, h0.pos, h0.max, h0.pend, hn.1, hn.2⟩, gd, vp, rfl, hnd, ?_, (ho gd (fun e => hnd'.1.1 e.symm)).trans h2, h3.1, ?_⟩, ?_⟩
  · rw [hw]; exact h1.set _
  · rcases h3.2 with h4 | ⟨g, cap, cur, rfl, hb, hg, h5⟩
    · exact .inl h4
    · exact .inr ⟨g, cap, cur, rfl, hb, (ho g (fun e => hnd'.1.2 (by simp [Value.ownBlock, e]))).trans hg, h5⟩
  · rw [hw]; exact (Only.refl _ _).setBlk (.inl (by simp)) _

set_option maxHeartbeats 1000000 in
theorem diskCall (w : World) (p : Nat) (D : Disk) (F : List Nat) (hD : DiskAt w p D F) :
    Calls Try.prog 45 #[.pointer (some ⟨p, 0, none⟩)] w fun e w' => e = .returned (.bool (D.left != 0)) ∧ DiskAt w' p D.tick F ∧ Only F w w' := by
  obtain ⟨gd, vp, hc0, hc1, hc2, hfz⟩ := hD.cells
  have hl1 := hD.1.left1
  have hl2 := hD.1.left2
  have hfz2 := hfz 2
  by_cases hz : D.left = 0
  · have ht : D.tick = D := by cases D; simp_all [Disk.tick]
    have hb : (D.left != 0) = false := by simp [hz]
    rw [ht, hb]
    rw [hz] at hc2
    have hDH := Lib.hid hD
    clear hD hfz ht hb hz
    go_enter Try.func45, Try.ntmps45
    go_wp2_with fail
    go_ret
    exact ⟨rfl, hDH.out, Only.refl _ _⟩
  · have hb : (D.left != 0) = true := by simp [hz]
    have hz0 : (D.left == 0) = false := by simp [hz]
    rw [hb]
    by_cases hp : 0 < D.left
    · have ht : D.tick = { D with left := D.left - 1 } := by simp [Disk.tick, hp]
      have hst := Lib.hid (hD.setLeft (D.left - 1) (by omega))
      rw [ht]
      clear hD hfz ht hb hz
      generalize D.left = n at *
      go_enter Try.func45, Try.ntmps45
      go_wp2_with fail
      go_ret
      exact ⟨rfl, hst.out.1, hst.out.2⟩
    · have ht : D.tick = D := by unfold Disk.tick; rw [if_neg hp]
      have hDH := Lib.hid hD
      rw [ht]
      clear hD hfz ht hb hz
      generalize hn : D.left = n at *
      clear hn
      go_enter Try.func45, Try.ntmps45
      go_wp2_with fail
      go_ret
      exact ⟨rfl, hDH.out, Only.refl _ _⟩

def zsec : Value := .agg (List.replicate 64 (Value.int .u8 0)).toArray
theorem zeroSec : (Try.prog.info? 90).map (fun i => (i.zero, i.size, i.bytes)) = some (some zsec, 64, 64) := by kernel_rfl
theorem madeCells_same (v : Value) (n k : Nat) (hk : 0 < k) : (madeCells (List.replicate k v).toArray n).toList = List.replicate n v := by
  unfold madeCells
  apply List.ext_getElem
  · simp
  · intro i h1 h2
    have : i % k < k := Nat.mod_lt _ hk
    simp [this]
theorem durCells_zero (n : Nat) : durCells (List.replicate n (List.replicate 64 0)) = List.replicate (n * 64) (Value.int .u8 0) := by
  unfold durCells
  induction n with
  | zero => simp
  | succ n ih => rw [List.replicate_succ, List.map_cons, List.flatten_cons, ih, Nat.succ_mul, Nat.add_comm, ← List.replicate_append_replicate]; simp [B8]

set_option maxHeartbeats 1000000 in
theorem diskNewBad (w : World) (n : Int) (h : n < 1 ∨ 65536 < n) : Calls Try.prog 21 #[.int .i64 n] w fun e w' => e = .returned (.tuple #[.pointer none, .int .i64 2]) ∧ w = w' := by
  by_cases h1 : n < 1
  · clear h
    go_enter Try.func21, Try.ntmps21
    go_wp2_with fail
    go_ret2
    exact ⟨rfl, rfl⟩
  · have h2 : 65536 < n := by omega
    clear h
    go_enter Try.func21, Try.ntmps21
    go_wp2_with fail
    go_ret2
    exact ⟨rfl, rfl⟩

set_option maxRecDepth 100000 in
set_option maxHeartbeats 1000000 in
theorem diskNew (w : World) (n : Nat) (h1 : 1 ≤ n) (h2 : n ≤ 65536) :
    Calls Try.prog 21 #[.int .i64 n] w fun e w' => ∃ p F, e = .returned (.tuple #[.pointer (some ⟨p, 0, none⟩), .int .i64 0]) ∧ DiskAt w' p (Disk.zero n) F ∧ Ext w w' ∧ ∀ k ∈ F, w.heap.size ≤ k := by
  obtain ⟨i0, hi, hz0, hz1, hz2⟩ := info_parts zeroSec
  have hi' := Lib.hid hi
  have hz0' := Lib.hid hz0
  have hz1' := Lib.hid hz1
  have hz2' := Lib.hid hz2
  clear hi hz0 hz1 hz2
  go_enter Try.func21, Try.ntmps21
  go_wp2_with (at_make; refine wpList_make_full _ rfl _ _ 84 rfl w.heap.size 90 i0 zsec 64 Try.underlying84 hi'.out hz0'.out hz1'.out .i64 .i64 _ _ n rfl rfl rfl rfl (by rw [hz2'.out]; omega) (by unfold maxLen; omega) (Nat.le_refl _) ?_)
  rename_i x cs heq
  intro w1 hown hgrow
  have hcs : (madeCells cs (n * 64)).toList = durCells (List.replicate n (List.replicate 64 0)) := by
    have : cs = (List.replicate 64 (Value.int .u8 0)).toArray := by
      unfold zsec at heq
      exact (Value.agg.inj heq).symm
    rw [this, durCells_zero]
    exact madeCells_same _ _ 64 (by omega)
  rw [hcs] at hown
  have hext : Ext w w1 := (Below.refl _ _).grown hgrow (Nat.le_refl _) (fun k hk => by cases hk)
  have hblk : Blk w1 w.heap.size (durCells (List.replicate n (List.replicate 64 0))) 90 := by
    rcases hown.2 with ⟨h, _⟩ | ⟨g, cap, cur, h, _, hg, h3, _, h5, h6⟩
    · simp at h
    · simp only [Value.slice.injEq, Option.some.injEq, Addr.mk.injEq, and_true, true_and] at h
      obtain ⟨rfl, rfl⟩ := h
      rw [List.take_of_length_le (by rw [Array.length_toList, h5]; exact Nat.le_refl _)] at h6
      rw [← h6]
      simpa using hg
  have hlt := hblk.lt
  have hblkH := Lib.hid hblk
  have hexH := Lib.hid hext
  clear hown hgrow heq hcs hblk hext
  go_wp2_with fail
  go_ret2
  refine ⟨w1.heap.size, [w1.heap.size, w.heap.size], rfl, ⟨Disk.zero_ok h1 h2, w.heap.size, .slice none 0 0, rfl, ?_, ?_, ?_, ?_⟩, hexH.out.alloc hexH.out.size _, ?_⟩
  · simp; omega
  · have := blk_new w1 [.slice (some ⟨w.heap.size, 0, none⟩) n n, .slice none 0 0, .int .i64 (-1)] 87
    simpa [Disk.zero] using this
  · exact hblkH.out.ext ((Below.refl _ _).alloc (Nat.le_refl _) _)
  · exact World.ownsRow_nil _ _ _ _
  · intro k hk
    have := hexH.out.size
    simp at hk
    omega
end Go.Proofs.Ytkannfkjnohdlaa
