/- The disk of sectors, as plain data. -/
namespace Go.Pm

structure Disk where
  dur : List (List UInt8)
  pend : List (Nat × List UInt8)
  left : Int

structure Disk.Ok (D : Disk) : Prop where
  dur : ∀ s ∈ D.dur, s.length = 64
  pos : 1 ≤ D.dur.length
  max : D.dur.length ≤ 65536
  pend : ∀ p ∈ D.pend, p.1 < D.dur.length ∧ p.2.length = 64
  left1 : -1 ≤ D.left
  left2 : D.left ≤ 9223372036854775807

namespace Disk
def has (D : Disk) (at_ n : Int) : Bool := decide (1 ≤ n) && decide (0 ≤ at_) && decide (at_ < D.dur.length) && decide (n ≤ D.dur.length - at_)
/-- a call is counted -/
def tick (D : Disk) : Disk := { D with left := if 0 < D.left then D.left - 1 else D.left }
/-- a piece of a text, filled up to a sector -/
def pad (b : List UInt8) : List UInt8 := b ++ List.replicate (64 - b.length) 0
def nsec (b : List UInt8) : Nat := (b.length + 63) / 64
def sector (b : List UInt8) (i : Nat) : List UInt8 := pad ((b.drop (64 * i)).take 64)
def sectors (b : List UInt8) : List (List UInt8) := (List.range (nsec b)).map (sector b)
def writesOf (at_ : Nat) (b : List UInt8) (k : Nat) : List (Nat × List UInt8) := (List.range k).map (fun i => (at_ + i, sector b i))
def write (D : Disk) (at_ : Nat) (b : List UInt8) : Disk := { D.tick with pend := D.pend ++ writesOf at_ b (nsec b) }
/-- what sector i reads as under the first writes of l -/
def over (l : List (Nat × List UInt8)) (i : Nat) (s : List UInt8) : List UInt8 := l.foldl (fun acc p => if p.1 = i then p.2 else acc) s
def see (D : Disk) (i : Nat) : List UInt8 := over D.pend i (D.dur.getD i [])
def view (D : Disk) (l : List (Nat × List UInt8)) (at_ n : Nat) : List (List UInt8) := (List.range n).map (fun k => over l (at_ + k) (D.dur.getD (at_ + k) []))
def read (D : Disk) (at_ n : Nat) : List UInt8 := (view D D.pend at_ n).flatten
def put (d : List (List UInt8)) (p : Nat × List UInt8) : List (List UInt8) := d.set p.1 p.2
def sync (D : Disk) : Disk := { D.tick with dur := D.pend.foldl put D.dur, pend := [] }
def kept (D : Disk) (keep : List Int) : List (Nat × List UInt8) := (D.pend.zipIdx.filter (fun x => keep.contains (x.2 : Int))).map (·.1)
def crash (D : Disk) (keep : List Int) : Disk := { dur := (D.kept keep).foldl put D.dur, pend := [], left := -1 }
def limit (D : Disk) (n : Int) : Disk := if D.left = 0 then D else { D with left := if n < -1 then -1 else n }
def zero (n : Nat) : Disk := { dur := List.replicate n (List.replicate 64 0), pend := [], left := -1 }

theorem pad_length (b : List UInt8) (h : b.length ≤ 64) : (pad b).length = 64 := by simp [pad]; omega
theorem sector_length (b : List UInt8) (i : Nat) : (sector b i).length = 64 := pad_length _ (by simp; omega)
theorem tick_ok {D : Disk} (h : D.Ok) : D.tick.Ok := by
  refine ⟨h.dur, h.pos, h.max, h.pend, ?_, ?_⟩ <;> (have := h.left1; have := h.left2; simp only [tick]; split <;> omega)
theorem zero_ok {n : Nat} (h1 : 1 ≤ n) (h2 : n ≤ 65536) : (zero n).Ok := by
  refine ⟨fun s hs => ?_, by simp [zero]; omega, by simp [zero]; omega, fun p hp => by simp [zero] at hp, by simp [zero], by simp [zero]⟩
  simp [zero] at hs
  rw [hs.2]; simp
theorem writesOf_mem {at_ : Nat} {b : List UInt8} {k : Nat} {p : Nat × List UInt8} (h : p ∈ writesOf at_ b k) : at_ ≤ p.1 ∧ p.1 < at_ + k ∧ p.2.length = 64 := by
  unfold writesOf at h
  obtain ⟨i, hi, rfl⟩ := List.mem_map.1 h
  have : i < k := by simpa using hi
  exact ⟨by simp, by simp; omega, sector_length b i⟩
theorem write_ok {D : Disk} (h : D.Ok) {at_ : Nat} {b : List UInt8} (hh : at_ + nsec b ≤ D.dur.length) : (D.write at_ b).Ok := by
  have ht := tick_ok h
  refine ⟨ht.dur, ht.pos, ht.max, fun p hp => ?_, ht.left1, ht.left2⟩
  simp only [write, List.mem_append] at hp
  rcases hp with hp | hp
  · exact h.pend p hp
  · have := writesOf_mem hp
    refine ⟨?_, this.2.2⟩
    show p.1 < D.dur.length
    omega
theorem put_length (d : List (List UInt8)) (p : Nat × List UInt8) : (put d p).length = d.length := by simp [put]
theorem foldl_put_length (l : List (Nat × List UInt8)) (d : List (List UInt8)) : (l.foldl put d).length = d.length := by
  induction l generalizing d with
  | nil => rfl
  | cons p l ih => rw [List.foldl_cons, ih, put_length]
theorem foldl_put_mem {l : List (Nat × List UInt8)} {d : List (List UInt8)} (hd : ∀ s ∈ d, s.length = 64) (hl : ∀ p ∈ l, p.2.length = 64) : ∀ s ∈ l.foldl put d, s.length = 64 := by
  induction l generalizing d with
  | nil => exact hd
  | cons p l ih =>
    rw [List.foldl_cons]
    refine ih (fun s hs => ?_) (fun q hq => hl q (by simp [hq]))
    rcases List.mem_or_eq_of_mem_set hs with h | h
    · exact hd s h
    · rw [h]; exact hl p (by simp)
theorem sync_ok {D : Disk} (h : D.Ok) : D.sync.Ok := by
  have ht := tick_ok h
  refine ⟨foldl_put_mem h.dur (fun p hp => (h.pend p hp).2), ?_, ?_, fun p hp => by simp [sync] at hp, ht.left1, ht.left2⟩
  · simp only [sync, foldl_put_length]; exact h.pos
  · simp only [sync, foldl_put_length]; exact h.max
theorem kept_mem {D : Disk} {keep : List Int} {p : Nat × List UInt8} (h : p ∈ D.kept keep) : p ∈ D.pend := by
  unfold kept at h
  obtain ⟨x, hx, rfl⟩ := List.mem_map.1 h
  have := (List.mem_filter.1 hx).1
  obtain ⟨y, i⟩ := x
  exact (List.mem_zipIdx this).2.2 ▸ List.getElem_mem _
theorem crash_ok {D : Disk} (h : D.Ok) (keep : List Int) : (D.crash keep).Ok := by
  refine ⟨foldl_put_mem h.dur (fun p hp => (h.pend p (kept_mem hp)).2), ?_, ?_, fun p hp => by simp [crash] at hp, by simp [crash], by simp [crash]⟩
  · simp only [crash, foldl_put_length]; exact h.pos
  · simp only [crash, foldl_put_length]; exact h.max
end Disk
end Go.Pm
