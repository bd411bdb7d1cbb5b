/- SlotsKeep, as plain data: saves, crashes. -/
import Derived.Test.YtkannfkjnohdlaaKeepMath
namespace Go.Proofs.Ytkannfkjnohdlaa
open Go.RowKit Go.Pm
theorem put_getD (l : List (Nat × List UInt8)) (d : List (List UInt8)) (k : Nat) (hl : ∀ p ∈ l, p.1 ≠ k) : (l.foldl Disk.put d).getD k [] = d.getD k [] := by
  rw [List.getD_eq_getElem?_getD, List.getD_eq_getElem?_getD, put_other l d k hl]
theorem set_getD (d : List (List UInt8)) (a k : Nat) (s : List UInt8) (h : a ≠ k) : (d.set a s).getD k [] = d.getD k [] := by
  rw [List.getD_eq_getElem?_getD, List.getD_eq_getElem?_getD, List.getElem?_set_ne h]
theorem set_getD' (d : List (List UInt8)) (a : Nat) (s : List UInt8) (h : a < d.length) : (d.set a s).getD a [] = s := by
  rw [List.getD_eq_getElem?_getD, List.getElem?_set_self h]
  rfl
theorem put_writes (a : Nat) (l : List UInt8) (m : Nat) (d : List (List UInt8)) (h : a + m ≤ d.length) (k : Nat) (hk : k < m) : ((Disk.writesOf a l m).foldl Disk.put d).getD (a + k) [] = Disk.sector l k := by
  induction m with
  | zero => omega
  | succ m ih =>
    have e : Disk.writesOf a l (m + 1) = Disk.writesOf a l m ++ [(a + m, Disk.sector l m)] := by
      unfold Disk.writesOf
      rw [List.range_succ, List.map_append]
      rfl
    rw [e, List.foldl_append]
    show (((Disk.writesOf a l m).foldl Disk.put d).set (a + m) (Disk.sector l m)).getD (a + k) [] = _
    by_cases hkm : k = m
    · subst hkm
      rw [set_getD' _ _ _ (by rw [Disk.foldl_put_length]; omega)]
    · rw [set_getD _ _ _ _ (by omega)]
      exact ih (by omega) (by omega)
theorem set64 {d : List (List UInt8)} (h : ∀ s ∈ d, s.length = 64) (a : Nat) {x : List UInt8} (hx : x.length = 64) : ∀ s ∈ d.set a x, s.length = 64 := fun s hs => by
  rcases List.mem_or_eq_of_mem_set hs with h1 | h1
  · exact h s h1
  · rw [h1]; exact hx
/-- the header goes on its body -/
theorem head_next {d : List (List UInt8)} {n g : Nat} {has : Bool} {st : Int} {b : List UInt8} (h : KHead d n g has st b) (hn : 1 ≤ n) (hg : g + 1 < 9223372036854775808) (st' : Nat) (h3 : st' ≤ 1152921504606846975) (l : List UInt8) (hl : Disk.nsec l ≤ n - 1) (h4 : l.length ≤ 1048576)
    (hb : ∀ k, k < Disk.nsec l → d.getD (((g + 1) % 2) * n + 1 + k) [] = Disk.sector l k) : KHead (d.set (((g + 1) % 2) * n) (headOf (g + 1) st' l)) n (g + 1) true (st' : Int) l := by
  have hat : ((g + 1) % 2) * n < d.length := by rw [h.len]; exact (half (by omega) hn).1
  have hsl : ∃ r, slotB (d.set (((g + 1) % 2) * n) (headOf (g + 1) st' l)) n ((g + 1) % 2) = headOf (g + 1) st' l ++ (l ++ r) := by
    rw [slot_head _ _ _ hn, set_getD' _ _ _ hat]
    obtain ⟨r, hr⟩ := text_sectors (n - 1) l (fun k => (d.set (((g + 1) % 2) * n) (headOf (g + 1) st' l)).getD ((g + 1) % 2 * n + 1 + k) []) hl (fun k hk => by
      show (d.set _ _).getD _ [] = _
      rw [set_getD _ _ _ _ (by omega)]
      exact hb k hk)
    exact ⟨r, by rw [hr]⟩
  obtain ⟨r, hr⟩ := hsl
  obtain ⟨c1, c2, c3, c4⟩ := ck_made (g + 1) st' l r (by omega) hg h3 h4
  rw [← hr] at c1 c2 c3 c4
  refine h.next hn (by simp) (set64 h.s64 _ (headOf_len _ _ _)) (set_getD _ _ _ _ ?_) c1 c2 (by rw [c3]) c4
  rcases (show g % 2 = 0 ∨ g % 2 = 1 by omega) with hm | hm
  · have : (g + 1) % 2 = 1 := by omega
    rw [hm, this]; omega
  · have : (g + 1) % 2 = 0 := by omega
    rw [hm, this]; omega
structure KState (D : Disk) (n g : Nat) (f has : Bool) (st : Int) (b : List UInt8) (ust : Int) (ub : List UInt8) : Prop where
  head : KHead D.dur n g has st b
  rest : f = false → D.pend = []
  fail : f = true → (∀ p ∈ D.pend, ((g + 1) % 2) * n + 1 ≤ p.1 ∧ p.1 < ((g + 1) % 2) * n + n) ∨ (∃ hd, D.pend = [(((g + 1) % 2) * n, hd)] ∧ KHead (D.dur.set (((g + 1) % 2) * n) hd) n (g + 1) true ust ub)
  plen : D.pend.length ≤ 100
theorem sector_whole {hd : List UInt8} (h : hd.length = 64) : Disk.sector hd 0 = hd := by
  unfold Disk.sector Disk.pad
  rw [Nat.mul_zero, List.drop_zero, List.take_of_length_le (by omega), h, Nat.sub_self, List.replicate_zero, List.append_nil]
theorem write_head {D : Disk} (hp : D.pend = []) (a : Nat) {hd : List UInt8} (h : hd.length = 64) : (D.write a hd).pend = [(a, hd)] := by
  have hs : Disk.nsec hd = 1 := by unfold Disk.nsec; rw [h]
  show D.pend ++ Disk.writesOf a hd (Disk.nsec hd) = _
  rw [hp, hs]
  show [(a + 0, Disk.sector hd 0)] = _
  rw [sector_whole h, Nat.add_zero]
theorem putHead_step {D : Disk} {n g : Nat} {has : Bool} {st : Int} {b : List UInt8} (h : KHead D.dur n g has st b) (hp : D.pend = []) (st' : Int) (l hd : List UInt8) (hh : hd.length = 64) (hx : KHead (D.dur.set (((g + 1) % 2) * n) hd) n (g + 1) true st' l) :
    ((putHead D (((g + 1) % 2) * n) hd).1 = 0 ∧ (putHead D (((g + 1) % 2) * n) hd).2.pend = [] ∧ KHead (putHead D (((g + 1) % 2) * n) hd).2.dur n (g + 1) true st' l) ∨
    ((putHead D (((g + 1) % 2) * n) hd).1 = 20 ∧ KState (putHead D (((g + 1) % 2) * n) hd).2 n g true has st b st' l) := by
  unfold putHead
  split
  · exact .inr ⟨rfl, h, fun _ => hp, fun _ => .inl (fun p hpp => by rw [hp] at hpp; cases hpp), by show D.pend.length ≤ 100; rw [hp]; decide⟩
  split
  · refine .inr ⟨rfl, h, fun hh => (by cases hh), fun _ => .inr ⟨hd, write_head hp _ hh, hx⟩, ?_⟩
    show (D.write _ hd).pend.length ≤ 100
    rw [write_head hp _ hh, List.length_singleton]
    omega
  · refine .inl ⟨rfl, rfl, ?_⟩
    show KHead ((D.write _ hd).pend.foldl Disk.put D.dur) _ _ _ _ _
    rw [write_head hp _ hh]
    exact hx
theorem putAll_step {D : Disk} {n g : Nat} {has : Bool} {st : Int} {b : List UInt8} (h : KHead D.dur n g has st b) (hp : D.pend = []) (hn : 1 ≤ n) (hn2 : n ≤ 12) (hg : g + 1 < 9223372036854775808) (st' : Nat) (h3 : st' ≤ 1152921504606846975) (l : List UInt8) (hl : Disk.nsec l ≤ n - 1) (h4 : l.length ≤ 1048576) :
    ((putAll' D (((g + 1) % 2) * n) l (headOf (g + 1) st' l)).1 = 0 ∧ (putAll' D (((g + 1) % 2) * n) l (headOf (g + 1) st' l)).2.pend = [] ∧ KHead (putAll' D (((g + 1) % 2) * n) l (headOf (g + 1) st' l)).2.dur n (g + 1) true st' l) ∨
    ((putAll' D (((g + 1) % 2) * n) l (headOf (g + 1) st' l)).1 = 20 ∧ KState (putAll' D (((g + 1) % 2) * n) l (headOf (g + 1) st' l)).2 n g true has st b st' l) := by
  have hat := half (j := (g + 1) % 2) (by omega) hn
  have hpw : (D.write (((g + 1) % 2) * n + 1) l).pend = Disk.writesOf (((g + 1) % 2) * n + 1) l (Disk.nsec l) := by
    show D.pend ++ _ = _
    rw [hp, List.nil_append]
  unfold putAll'
  split
  · next h0 =>
    refine putHead_step h hp _ _ _ (headOf_len _ _ _) (head_next h hn hg st' h3 l hl h4 (fun k hk => ?_))
    unfold Disk.nsec at hk
    omega
  split
  · exact .inr ⟨rfl, h, fun _ => hp, fun _ => .inl (fun p hpp => by rw [hp] at hpp; cases hpp), by show D.pend.length ≤ 100; rw [hp]; decide⟩
  split
  · refine .inr ⟨rfl, h, fun hh => (by cases hh), fun _ => .inl (fun p hpp => ?_), ?_⟩
    · rw [hpw] at hpp
      have := Disk.writesOf_mem hpp
      omega
    · rw [hpw]
      simp only [Disk.writesOf, List.length_map, List.length_range]
      omega
  · have hd : ((D.write (((g + 1) % 2) * n + 1) l).sync).dur = (Disk.writesOf (((g + 1) % 2) * n + 1) l (Disk.nsec l)).foldl Disk.put D.dur := by
      show (D.write (((g + 1) % 2) * n + 1) l).pend.foldl Disk.put D.dur = _
      rw [hpw]
    have hk : KHead ((D.write (((g + 1) % 2) * n + 1) l).sync).dur n g has st b := by
      rw [hd]
      refine h.keep (Disk.foldl_put_length _ _) (Disk.foldl_put_mem h.s64 (fun p hpp => (Disk.writesOf_mem hpp).2.2)) (fun k hk => put_getD _ _ _ (fun p hpp => ?_))
      have := Disk.writesOf_mem hpp
      omega
    refine putHead_step hk rfl _ _ _ (headOf_len _ _ _) (head_next hk hn hg st' h3 l hl h4 (fun k hk => ?_))
    rw [hd]
    exact put_writes _ _ _ _ (by rw [h.len]; rcases (show (g + 1) % 2 = 0 ∨ (g + 1) % 2 = 1 by omega) with hm | hm <;> rw [hm] <;> omega) _ hk
theorem KState.save {D : Disk} {n g : Nat} {f has : Bool} {st : Int} {b : List UInt8} {ust : Int} {ub : List UInt8} (h : KState D n g f has st b ust ub) (hn : 1 ≤ n) (hn2 : n ≤ 12) (hg : g + 1 < 9223372036854775808) (st' : Int) (l : List UInt8) :
    ((saveOf D 0 n g f st' l).err = 0 ∧ f = false ∧ (saveOf D 0 n g f st' l).failed = false ∧ (saveOf D 0 n g f st' l).gen = g + 1 ∧ KState (saveOf D 0 n g f st' l).disk n (g + 1) false true st' l ust ub) ∨
    ((saveOf D 0 n g f st' l).err = 20 ∧ (saveOf D 0 n g f st' l).failed = true ∧ (saveOf D 0 n g f st' l).gen = g ∧ ((f = true ∧ KState (saveOf D 0 n g f st' l).disk n g true has st b ust ub) ∨ (f = false ∧ KState (saveOf D 0 n g f st' l).disk n g true has st b st' l))) ∨
    ((saveOf D 0 n g f st' l).err ≠ 0 ∧ (saveOf D 0 n g f st' l).err ≠ 20 ∧ (saveOf D 0 n g f st' l).failed = f ∧ (saveOf D 0 n g f st' l).gen = g ∧ KState (saveOf D 0 n g f st' l).disk n g f has st b ust ub) := by
  cases f with
  | true =>
    have e : saveOf D 0 n g true st' l = ⟨20, g, true, D⟩ := by unfold saveOf; rw [if_pos rfl]
    rw [e]
    exact .inr (.inl ⟨rfl, rfl, rfl, .inl ⟨rfl, h⟩⟩)
  | false =>
    by_cases h1 : st' < 0 ∨ st' > 1152921504606846975
    · have e : saveOf D 0 n g false st' l = ⟨2, g, false, D⟩ := by unfold saveOf; rw [if_neg (by decide), if_pos h1]
      rw [e]
      exact .inr (.inr ⟨by show (2 : Int) ≠ 0; decide, by show (2 : Int) ≠ 20; decide, rfl, rfl, h⟩)
    by_cases h2 : l.length > roomOf n
    · have e : saveOf D 0 n g false st' l = ⟨22, g, false, D⟩ := by unfold saveOf; rw [if_neg (by decide), if_neg h1, if_pos h2]
      rw [e]
      exact .inr (.inr ⟨by show (22 : Int) ≠ 0; decide, by show (22 : Int) ≠ 20; decide, rfl, rfl, h⟩)
    obtain ⟨s, rfl⟩ : ∃ s : Nat, st' = (s : Int) := ⟨st'.toNat, by omega⟩
    have hrm := room_le n
    have hp := putAll_step h.head (h.rest rfl) hn hn2 hg s (by omega) l (nsec_le (by omega)) (by omega)
    unfold saveOf
    rw [if_neg (by decide), if_neg h1, if_neg h2, Int.toNat_natCast, Nat.zero_add]
    rcases hp with ⟨p1, p2, p3⟩ | ⟨p1, p2⟩
    · rw [if_neg (by rw [p1]; decide)]
      exact .inl ⟨rfl, rfl, rfl, rfl, p3, fun _ => p2, fun hh => (by cases hh), by show (putAll' _ _ _ _).2.pend.length ≤ 100; rw [p2]; decide⟩
    · rw [if_pos (by rw [p1]; decide)]
      exact .inr (.inl ⟨p1, rfl, rfl, .inr ⟨rfl, p2⟩⟩)
theorem KState.crash {D : Disk} {n g : Nat} {f has : Bool} {st : Int} {b : List UInt8} {ust : Int} {ub : List UInt8} (h : KState D n g f has st b ust ub) (hok : D.Ok) (ks : List Int) :
    KHead (D.crash ks).dur n g has st b ∨ (f = true ∧ KHead (D.crash ks).dur n (g + 1) true ust ub) := by
  have hself : D.kept ks = [] → KHead (D.crash ks).dur n g has st b := fun e => by
    show KHead ((D.kept ks).foldl Disk.put D.dur) n g has st b
    rw [e]
    exact h.head
  cases f with
  | false =>
    refine .inl (hself ?_)
    unfold Disk.kept
    rw [h.rest rfl]
    rfl
  | true =>
    rcases h.fail rfl with hb | ⟨hd, hp, hk⟩
    · left
      refine h.head.keep (Disk.foldl_put_length _ _) (Disk.foldl_put_mem h.head.s64 (fun p hp => (hok.pend p (Disk.kept_mem hp)).2)) (fun k hk => put_getD _ _ _ (fun p hp => ?_))
      have := hb p (Disk.kept_mem hp)
      omega
    · by_cases hc : ks.contains ((0 : Nat) : Int) = true
      · right
        refine ⟨rfl, ?_⟩
        have e : D.kept ks = [(((g + 1) % 2) * n, hd)] := by
          unfold Disk.kept
          rw [hp, List.zipIdx_cons, List.zipIdx_nil, List.filter_cons_of_pos (by exact hc)]
          rfl
        show KHead ((D.kept ks).foldl Disk.put D.dur) n (g + 1) true ust ub
        rw [e]
        exact hk
      · refine .inl (hself ?_)
        unfold Disk.kept
        rw [hp, List.zipIdx_cons, List.zipIdx_nil, List.filter_cons_of_neg (by exact hc)]
        rfl
theorem KState.fresh {D : Disk} {n g : Nat} {has : Bool} {st : Int} {b : List UInt8} (h : KHead D.dur n g has st b) (hp : D.pend = []) (ust : Int) (ub : List UInt8) : KState D n g false has st b ust ub :=
  ⟨h, fun _ => hp, fun hh => (by cases hh), by rw [hp]; decide⟩
theorem KState.limit {D : Disk} {n g : Nat} {f has : Bool} {st : Int} {b : List UInt8} {ust : Int} {ub : List UInt8} (h : KState D n g f has st b ust ub) (m : Int) : KState (D.limit m) n g f has st b ust ub := by
  have e1 : (D.limit m).dur = D.dur := by unfold Disk.limit; split <;> rfl
  have e2 : (D.limit m).pend = D.pend := by unfold Disk.limit; split <;> rfl
  exact ⟨by rw [e1]; exact h.head, fun hh => by rw [e2]; exact h.rest hh, fun hh => by rw [e1, e2]; exact h.fail hh, by rw [e2]; exact h.plen⟩
theorem khead_zero {n : Nat} (hn : 1 ≤ n) : KHead (Disk.zero (2 * n)).dur n 0 false 0 [] := by
  have hz : ∀ k, k < 2 * n → ((Disk.zero (2 * n)).dur.getD k [])[0]? ≠ some 83 := fun k hk => by
    show ((List.replicate (2 * n) (List.replicate 64 (0 : UInt8))).getD k [])[0]? ≠ _
    rw [List.getD_eq_getElem?_getD, List.getElem?_replicate, if_pos hk, Option.getD_some, List.getElem?_replicate, if_pos (by decide)]
    decide
  refine ⟨List.length_replicate, fun s hs => ?_, .inl (hz _ (half (by omega) hn).1), fun _ => ⟨rfl, rfl, rfl, hz 0 (by omega)⟩, fun hh => (by cases hh)⟩
  rw [(List.mem_replicate.1 hs).2, List.length_replicate]
end Go.Proofs.Ytkannfkjnohdlaa
