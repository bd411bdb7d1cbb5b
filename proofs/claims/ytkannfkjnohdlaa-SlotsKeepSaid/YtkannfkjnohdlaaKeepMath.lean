/- SlotsKeep, as plain data: which slot counts after saves, failures and crashes. -/
import Derived.Test.YtkannfkjnohdlaaLawSlotsTurn
namespace Go.Proofs.Ytkannfkjnohdlaa
open Go.RowKit Go.Pm
/-- the octets of slot j -/
def slotB (d : List (List UInt8)) (n j : Nat) : List UInt8 := ((List.range n).map (fun k => d.getD (j * n + k) [])).flatten
theorem flat_drop (L : List (List UInt8)) (h : ∀ s ∈ L, s.length = 64) (a : Nat) : L.flatten.drop (a * 64) = (L.drop a).flatten := by
  induction a generalizing L with
  | zero => simp
  | succ a ih =>
    cases L with
    | nil => simp
    | cons s L =>
      have hs : s.length = 64 := h s (by simp)
      rw [List.flatten_cons, List.drop_succ_cons, ← ih L (fun x hx => h x (by simp [hx])), List.drop_append, List.drop_eq_nil_of_le (by omega), List.nil_append]
      congr 1
      omega
theorem flat_take (L : List (List UInt8)) (h : ∀ s ∈ L, s.length = 64) (a : Nat) : L.flatten.take (a * 64) = (L.take a).flatten := by
  induction a generalizing L with
  | zero => simp
  | succ a ih =>
    cases L with
    | nil => simp
    | cons s L =>
      have hs : s.length = 64 := h s (by simp)
      rw [List.flatten_cons, List.take_succ_cons, List.flatten_cons, ← ih L (fun x hx => h x (by simp [hx])), List.take_append, List.take_of_length_le (by omega)]
      congr 2
      omega
theorem flat_piece (L : List (List UInt8)) (h : ∀ s ∈ L, s.length = 64) (a m : Nat) : piece L.flatten (a * 64) (m * 64) = ((L.drop a).take m).flatten := by
  unfold piece
  rw [flat_drop L h, flat_take _ (fun s hs => h s (List.mem_of_mem_drop hs))]
theorem slot_view {D : Disk} (hok : D.Ok) (hp : D.pend = []) {n j : Nat} (hl : D.dur.length = 2 * n) (hj : j < 2) : slotOf (D.view D.pend 0 (2 * n)).flatten n j = slotB D.dur n j := by
  have hjn : j * n ≤ n := by rcases (show j = 0 ∨ j = 1 by omega) with h | h <;> rw [h] <;> omega
  unfold slotOf
  rw [flat_piece _ (fun s hs => ?_)]
  · unfold slotB
    congr 1
    apply List.ext_getElem
    · simp [Disk.view]; omega
    · intro i h1 h2
      simp [Disk.view, hp, Disk.over]
  · rw [hp] at hs
    simp only [Disk.view, Disk.over, List.foldl_nil, List.mem_map, List.mem_range, Nat.zero_add] at hs
    obtain ⟨k, hk, rfl⟩ := hs
    refine hok.dur _ ?_
    rw [List.getD_eq_getElem?_getD, List.getElem?_eq_getElem (by omega)]
    exact List.getElem_mem _
theorem slot_head (d : List (List UInt8)) (n j : Nat) (hn : 1 ≤ n) : slotB d n j = d.getD (j * n) [] ++ ((List.range (n - 1)).map (fun k => d.getD (j * n + 1 + k) [])).flatten := by
  obtain ⟨m, rfl⟩ : ∃ m, n = m + 1 := ⟨n - 1, by omega⟩
  unfold slotB
  rw [List.range_succ_eq_map, List.map_cons, List.flatten_cons, List.map_map]
  congr 2
  apply List.map_congr_left
  intro k _
  show d.getD (j * (m + 1) + (k + 1)) [] = d.getD (j * (m + 1) + 1 + k) []
  congr 1
  omega
theorem piece_head {hd rest : List UInt8} {i m : Nat} (h : i + m ≤ hd.length) : piece (hd ++ rest) i m = piece hd i m := by
  unfold piece
  rw [List.drop_append_of_le_length (by omega), List.take_append_of_le_length (by simp; omega)]
theorem piece_app {s x y z : List UInt8} {i m : Nat} (hs : s = x ++ (y ++ z)) (hi : x.length = i) (hm : y.length = m) : piece s i m = y := by
  subst hi hm
  rw [hs]
  unfold piece
  rw [List.drop_left, List.take_left]
theorem ckG_head {hd rest : List UInt8} (h : hd.length = 64) : ckG (hd ++ rest) = ckG hd := by
  unfold ckG
  rw [piece_head (by omega)]
/-- a header and its body are a checkpoint -/
theorem ck_made (g st : Nat) (l r : List UInt8) (h1 : 1 ≤ g) (h2 : g < 9223372036854775808) (h3 : st ≤ 1152921504606846975) (h4 : l.length ≤ 1048576) :
    CkOk (headOf g st l ++ (l ++ r)) (g % 2) ∧ ckG (headOf g st l ++ (l ++ r)) = g ∧ ckT (headOf g st l ++ (l ++ r)) = st ∧ ckB (headOf g st l ++ (l ++ r)) = l := by
  have e8 : (256 : Nat) ^ 8 = 18446744073709551616 := by decide
  have e4 : (256 : Nat) ^ 4 = 4294967296 := by decide
  have hg : ckG (headOf g st l ++ (l ++ r)) = g := by
    unfold ckG
    rw [piece_app (x := [83]) (y := beOf 8 g) (z := (beOf 8 st ++ (beOf 4 l.length ++ (beOf 4 (Crc.sum l) ++ (List.replicate 39 0 ++ (l ++ r)))))) (i := 1) (by simp only [headOf, List.append_assoc]) rfl (beOf_length _ _), numOf_be _ _ (by omega)]
  have ht : ckT (headOf g st l ++ (l ++ r)) = st := by
    unfold ckT
    rw [piece_app (x := [83] ++ beOf 8 g) (y := beOf 8 st) (z := (beOf 4 l.length ++ (beOf 4 (Crc.sum l) ++ (List.replicate 39 0 ++ (l ++ r))))) (by simp only [headOf, List.append_assoc]) (by rw [List.length_append, beOf_length]; rfl) (beOf_length _ _), numOf_be _ _ (by omega)]
  have hn : ckN (headOf g st l ++ (l ++ r)) = l.length := by
    unfold ckN
    rw [piece_app (x := [83] ++ beOf 8 g ++ beOf 8 st) (y := beOf 4 l.length) (z := (beOf 4 (Crc.sum l) ++ (List.replicate 39 0 ++ (l ++ r)))) (by simp only [headOf, List.append_assoc]) (by rw [List.length_append, List.length_append, beOf_length, beOf_length]; rfl) (beOf_length _ _), numOf_be _ _ (by omega)]
  have hb : ckB (headOf g st l ++ (l ++ r)) = l := by
    unfold ckB
    rw [hn, piece_app rfl (headOf_len _ _ _) rfl]
  have hs : numOf (piece (headOf g st l ++ (l ++ r)) 21 4) = Crc.sum l := by
    rw [piece_app (x := [83] ++ beOf 8 g ++ beOf 8 st ++ beOf 4 l.length) (y := beOf 4 (Crc.sum l)) (z := (List.replicate 39 0 ++ (l ++ r))) (by simp only [headOf, List.append_assoc]) (by rw [List.length_append, List.length_append, List.length_append, beOf_length, beOf_length, beOf_length]; rfl) (beOf_length _ _), numOf_be _ _ (by have := Crc.sum_lt l; omega)]
  refine ⟨⟨?_, fun j hj => ?_, by omega, by omega, by rw [hg], by omega, by omega, ?_, by rw [hb, hs]⟩, hg, ht, hb⟩
  · simp only [headOf, List.append_assoc]
    rfl
  · have e : headOf g st l ++ (l ++ r) = ([83] ++ beOf 8 g ++ beOf 8 st ++ beOf 4 l.length ++ beOf 4 (Crc.sum l)) ++ (List.replicate 39 0 ++ (l ++ r)) := by simp only [headOf, List.append_assoc]
    have hl : ([83] ++ beOf 8 g ++ beOf 8 st ++ beOf 4 l.length ++ beOf 4 (Crc.sum l)).length = 25 := by
      rw [List.length_append, List.length_append, List.length_append, List.length_append, beOf_length, beOf_length, beOf_length, beOf_length]; rfl
    rw [e, List.getElem?_append_right (by omega), hl, Nat.add_sub_cancel_left, List.getElem?_append_left (by rw [List.length_replicate]; exact hj), List.getElem?_replicate, if_pos hj]
  · rw [hn, List.length_append, headOf_len, List.length_append]; omega
/-- a text lies in its sectors -/
theorem text_sectors (m : Nat) (l : List UInt8) (f : Nat → List UInt8) (hm : Disk.nsec l ≤ m) (hf : ∀ k, k < Disk.nsec l → f k = Disk.sector l k) : ∃ r, ((List.range m).map f).flatten = l ++ r := by
  induction m generalizing l f with
  | zero =>
    have : l.length = 0 := by unfold Disk.nsec at hm; omega
    exact ⟨[], by rw [List.length_eq_zero_iff.1 this]; rfl⟩
  | succ m ih =>
    by_cases h0 : l.length = 0
    · exact ⟨_, by rw [List.length_eq_zero_iff.1 h0]; rfl⟩
    · have hf0 := hf 0 (nsec_pos h0)
      rw [List.range_succ_eq_map, List.map_cons, List.flatten_cons, List.map_map, hf0]
      unfold Disk.sector Disk.pad
      rw [Nat.mul_zero, List.drop_zero]
      by_cases h1 : l.length ≤ 64
      · rw [List.take_of_length_le h1, List.append_assoc]
        exact ⟨_, rfl⟩
      · have hn : Disk.nsec (l.drop 64) + 1 = Disk.nsec l := by unfold Disk.nsec; rw [List.length_drop]; omega
        obtain ⟨r, hr⟩ := ih (l.drop 64) (f ∘ Nat.succ) (by omega) (fun k hk => by
          show f (k + 1) = _
          rw [hf (k + 1) (by omega)]
          unfold Disk.sector
          rw [List.drop_drop]
          congr 3
          omega)
        refine ⟨r, ?_⟩
        rw [hr, List.length_take, Nat.min_eq_left (by omega), Nat.sub_self, List.replicate_zero, List.append_nil, ← List.append_assoc, List.take_append_drop]
/-- what the sectors say: g is the current generation -/
structure KHead (d : List (List UInt8)) (n g : Nat) (has : Bool) (st : Int) (b : List UInt8) : Prop where
  len : d.length = 2 * n
  s64 : ∀ s ∈ d, s.length = 64
  old : (d.getD (((g + 1) % 2) * n) [])[0]? ≠ some 83 ∨ ckG (d.getD (((g + 1) % 2) * n) []) < g
  none : has = false → g = 0 ∧ st = 0 ∧ b = [] ∧ (d.getD 0 [])[0]? ≠ some 83
  some : has = true → CkOk (slotB d n (g % 2)) (g % 2) ∧ ckG (slotB d n (g % 2)) = g ∧ (ckT (slotB d n (g % 2)) : Int) = st ∧ ckB (slotB d n (g % 2)) = b
theorem KHead.sec64 {d : List (List UInt8)} {n g : Nat} {has : Bool} {st : Int} {b : List UInt8} (h : KHead d n g has st b) {k : Nat} (hk : k < 2 * n) : (d.getD k []).length = 64 := by
  rw [List.getD_eq_getElem?_getD, List.getElem?_eq_getElem (by have := h.len; omega)]
  exact h.s64 _ (List.getElem_mem _)
theorem ck_hd {d : List (List UInt8)} {n j : Nat} (hn : 1 ≤ n) (h : (d.getD (j * n) []).length = 64) : (slotB d n j)[0]? = (d.getD (j * n) [])[0]? ∧ ckG (slotB d n j) = ckG (d.getD (j * n) []) := by
  rw [slot_head d n j hn, ckG_head h, List.getElem?_append_left (by omega)]
  exact ⟨rfl, rfl⟩
theorem half {j n : Nat} (hj : j < 2) (hn : 1 ≤ n) : j * n < 2 * n ∧ j * n ≤ n := by rcases (show j = 0 ∨ j = 1 by omega) with h | h <;> rw [h] <;> omega
/-- the other slot does not count -/
theorem KHead.other {d : List (List UInt8)} {n g : Nat} {has : Bool} {st : Int} {b : List UInt8} (h : KHead d n g has st b) (hn : 1 ≤ n) {j : Nat} (hj : j = (g + 1) % 2) (hk : CkOk (slotB d n j) j) : ckG (slotB d n j) < g := by
  have hh := ck_hd (d := d) (n := n) (j := j) hn (h.sec64 (half (by omega) hn).1)
  have ho := h.old
  rw [← hj] at ho
  rcases ho with ho | ho
  · exact absurd (hh.1.symm.trans hk.mark) ho
  · rw [hh.2]; exact ho
theorem KHead.cur {D : Disk} {n g : Nat} {has : Bool} {st : Int} {b : List UInt8} (h : KHead D.dur n g has st b) (hok : D.Ok) (hp : D.pend = []) (hn : 1 ≤ n) {c : Option (List UInt8)} (hc : CurI (D.view D.pend 0 (2 * n)).flatten n 2 c) :
    cG c = g ∧ (cT c : Int) = st ∧ cB c = b ∧ decide ((cG c : Int) > 0) = has := by
  have e0 := slot_view hok hp h.len (show 0 < 2 by omega)
  have e1 := slot_view hok hp h.len (show 1 < 2 by omega)
  have hh0 := ck_hd (d := D.dur) (n := n) (j := 0) hn (h.sec64 (half (by omega) hn).1)
  cases has with
  | false =>
    obtain ⟨rfl, rfl, rfl, h0⟩ := h.none rfl
    have n0 : ¬ CkOk (slotB D.dur n 0) 0 := fun hk => by
      have := hh0.1.symm.trans hk.mark
      rw [Nat.zero_mul] at this
      exact h0 this
    have n1 : ¬ CkOk (slotB D.dur n 1) 1 := fun hk => absurd (h.other hn rfl hk) (by omega)
    have : c = Option.none := by
      cases hc with
      | no hc _ =>
        cases hc with
        | no hc _ => cases hc; rfl
        | yes _ h1 _ => rw [e0] at h1; exact absurd h1 n0
      | yes _ h1 _ => rw [e1] at h1; exact absurd h1 n1
    subst this
    exact ⟨rfl, rfl, rfl, rfl⟩
  | true =>
    obtain ⟨h1, h2, h3, h4⟩ := h.some rfl
    have hg1 : 1 ≤ g := by have := h1.g1; omega
    have : c = Option.some (slotB D.dur n (g % 2)) := by
      rcases (show g % 2 = 0 ∨ g % 2 = 1 by omega) with hm | hm
      · rw [hm] at h1 h2 ⊢
        have ho : CkOk (slotB D.dur n 1) 1 → ckG (slotB D.dur n 1) < g := h.other hn (by omega)
        cases hc with
        | no hc _ =>
          cases hc with
          | no hc hno =>
            cases hc
            rw [e0] at hno
            exact absurd ⟨h1, by show ckG _ > 0; omega⟩ hno
          | yes _ _ _ => rw [e0]
        | @yes _ c' hc k1 k2 =>
          rw [e1] at k1 k2
          have := ho k1
          cases hc with
          | no hc hno =>
            cases hc
            rw [e0] at hno
            exact absurd ⟨h1, by show ckG _ > 0; omega⟩ hno
          | yes _ _ _ =>
            rw [e0] at k2
            have k3 : ckG (slotB D.dur n 1) > ckG (slotB D.dur n 0) := k2
            omega
      · rw [hm] at h1 h2 ⊢
        have ho : CkOk (slotB D.dur n 0) 0 → ckG (slotB D.dur n 0) < g := h.other hn (by omega)
        cases hc with
        | @no _ c' hc hno =>
          rw [e1] at hno
          refine absurd ⟨h1, ?_⟩ hno
          cases hc with
          | no hc _ => cases hc; show ckG _ > 0; omega
          | yes _ k1 _ =>
            rw [e0] at k1 ⊢
            have := ho k1
            show ckG _ > ckG _
            omega
        | yes _ _ _ => rw [e1]
    subst this
    refine ⟨h2, h3, h4, ?_⟩
    show decide ((ckG _ : Int) > 0) = true
    rw [h2]
    exact decide_eq_true (by omega)
/-- nothing that counts has been touched -/
theorem KHead.keep {d d' : List (List UInt8)} {n g : Nat} {has : Bool} {st : Int} {b : List UInt8} (h : KHead d n g has st b) (hl : d'.length = d.length) (h64 : ∀ s ∈ d', s.length = 64)
    (hs : ∀ k, (k < ((g + 1) % 2) * n + 1 ∨ ((g + 1) % 2) * n + n ≤ k) → d'.getD k [] = d.getD k []) : KHead d' n g has st b := by
  have hsl : slotB d' n (g % 2) = slotB d n (g % 2) := by
    unfold slotB
    congr 1
    apply List.map_congr_left
    intro k hk
    have hk := List.mem_range.1 hk
    apply hs
    rcases (show g % 2 = 0 ∨ g % 2 = 1 by omega) with hm | hm
    · have : (g + 1) % 2 = 1 := by omega
      rw [hm, this]; omega
    · have : (g + 1) % 2 = 0 := by omega
      rw [hm, this]; omega
  refine ⟨hl.trans h.len, h64, ?_, fun hh => ?_, fun hh => ?_⟩
  · rw [hs _ (by omega)]; exact h.old
  · obtain ⟨h1, h2, h3, h4⟩ := h.none hh
    refine ⟨h1, h2, h3, ?_⟩
    rw [hs 0 (.inl (by omega))]; exact h4
  · rw [hsl]; exact h.some hh
/-- a new checkpoint stands -/
theorem KHead.next {d d' : List (List UInt8)} {n g : Nat} {has : Bool} {st st' : Int} {b b' : List UInt8} (h : KHead d n g has st b) (hn : 1 ≤ n) (hl : d'.length = d.length) (h64 : ∀ s ∈ d', s.length = 64)
    (hs : d'.getD ((g % 2) * n) [] = d.getD ((g % 2) * n) []) (h1 : CkOk (slotB d' n ((g + 1) % 2)) ((g + 1) % 2)) (h2 : ckG (slotB d' n ((g + 1) % 2)) = g + 1) (h3 : (ckT (slotB d' n ((g + 1) % 2)) : Int) = st') (h4 : ckB (slotB d' n ((g + 1) % 2)) = b') :
    KHead d' n (g + 1) true st' b' := by
  refine ⟨hl.trans h.len, h64, ?_, fun hh => (by cases hh), fun _ => ⟨h1, h2, h3, h4⟩⟩
  have e : (g + 1 + 1) % 2 = g % 2 := by omega
  rw [e, hs]
  cases has with
  | false =>
    obtain ⟨rfl, _, _, h0⟩ := h.none rfl
    left
    rw [show 0 % 2 * n = 0 by simp]
    exact h0
  | true =>
    obtain ⟨_, k2, _, _⟩ := h.some rfl
    right
    rw [← (ck_hd (d := d) (n := n) (j := g % 2) hn (h.sec64 (half (by omega) hn).1)).2, k2]
    omega
end Go.Proofs.Ytkannfkjnohdlaa
