/- The reference's Seal, crc.Seal and crc.Open. -/
import Derived.Test.YtkannfkjnohdlaaCrcApart
namespace Go.Proofs.Ytkannfkjnohdlaa
open Go.RowKit Go.Pm

/-- the four bytes of a sum, the lowest first -/
def le4 (n : Nat) : List UInt8 := [UInt8.ofNat n, UInt8.ofNat (n / 256), UInt8.ofNat (n / 65536), UInt8.ofNat (n / 16777216)]
def sealed (l : List UInt8) : List UInt8 := l ++ le4 (Crc.sum l)
theorem sealed_length (l : List UInt8) : (sealed l).length = l.length + 4 := by simp [sealed, le4]

theorem sealed_cells (l : List UInt8) : (sealed l).map B8 = l.map B8 ++ [.int .u8 ((Crc.sum l : Int) % 256), .int .u8 ((Crc.sum l : Int) / 256 % 256), .int .u8 ((Crc.sum l : Int) / 65536 % 256), .int .u8 ((Crc.sum l : Int) / 16777216)] := by
  have := Crc.sum_lt l
  unfold sealed
  generalize Crc.sum l = s at *
  simp only [le4, List.map_append, List.map_cons, List.map_nil, B8, UInt8.toNat_ofNat', Nat.reducePow, List.append_cancel_left_eq, List.cons.injEq, Value.int.injEq, true_and, and_true]
  omega
theorem sealed_take (l : List UInt8) : ((sealed l).take (l.length + 0)).map B8 = l.map B8 ∧
    ∀ j, j < 4 → ((sealed l).take (l.length + (j + 1))).map B8 = ((sealed l).take (l.length + j)).map B8 ++ [.int .u8 ((Crc.sum l / 2 ^ (8 * j) : Nat) % 256 : Int)] := by
  constructor
  · simp [sealed]
  · intro j hj
    have h4 : ∀ i, (sealed l).take (l.length + i) = l ++ (le4 (Crc.sum l)).take i := by
      intro i; rw [sealed, List.take_append, List.take_of_length_le (by omega)]; simp
    rw [h4, h4]
    match j, hj with
    | 0, _ => simp [le4, B8, UInt8.toNat_ofNat']
    | 1, _ => simp [le4, B8, UInt8.toNat_ofNat']
    | 2, _ => simp [le4, B8, UInt8.toNat_ofNat']
    | 3, _ => simp [le4, B8, UInt8.toNat_ofNat']
theorem b8_ofNat (n : Nat) : Value.int .u8 ((n % 256 : Nat) : Int) = B8 (UInt8.ofNat n) := by simp [B8, UInt8.toNat_ofNat']

set_option maxHeartbeats 1000000 in
theorem refSeal (w : World) (a : Option Addr) (n cap : Nat) (l : List UInt8) (hn : l.length = n) (hok : SliceOk a n cap) (hm : n ≤ 1000000000) (hb : Bytes w (· < w.heap.size) a l) :
    Calls Try.prog 17 #[.slice a n cap] w fun e w' => ∃ v, e = .returned v ∧ w'.ownsRow w.heap.size 5 1 v (sealed l).length ((sealed l).map B8) ∧ Ext w w' := by
  subst hn
  have hokH := Lib.hid hok
  have hbH := Lib.hid hb
  have hs := Crc.sum_lt l
  have hown0 := Lib.hid (World.ownsRow_lit (base := w.heap.size) (e := 5) (size := 1) w #[] 0 (Nat.le_refl _) (by decide) (by decide))
  have hbA := Lib.hid (hb.alloc (.cells #[] 5))
  have hfin : Hid ((sealed l).map B8 = l.map B8 ++ [.int .u8 ((Crc.sum l : Int) % 256), .int .u8 ((Crc.sum l : Int) / 256 % 256), .int .u8 ((Crc.sum l : Int) / 65536 % 256), .int .u8 ((Crc.sum l : Int) / 16777216)]) := sealed_cells l
  have hlen := Lib.hid (sealed_length l)
  clear hok hb
  go_enter Try.func17, Try.ntmps17
  go_wp2_with fail
  refine (refSum _ _ _ _ _ l rfl (Nat.le_trans hokH.out.le hokH.out.max) hbH.out).mono ?_
  rintro e w' ⟨rfl, rfl⟩
  generalize Crc.sum l = s at *
  go_wp2_with (at_builtin; refine wpList_append_src _ rfl _ _ 24 rfl elemU8 w.heap.size rfl hown0.out rfl hokH.out (news := l.map B8) (by simp) hbA.out.src (oneCell_bytes _) (by unfold maxLen; omega) (by omega) (by simp) ?_)
  intro v w2 hown2 hgrow
  have hext2 : Ext w w2 := ((Below.refl _ _).alloc (Nat.le_refl _) _).grown hgrow (by simp) (fun k hk => by simp [Value.ownBlock] at hk; omega)
  have hown2 := Lib.hid hown2
  clear hgrow
  have hown3 := Lib.hid (hown2.out.alloc (.cells #[.int .u8 ((s : Int) % 256), .int .u8 ((s : Int) / 256 % 256), .int .u8 ((s : Int) / 65536 % 256), .int .u8 ((s : Int) / 16777216)] 5))
  have hsrc := Lib.hid (src_new w2 [.int .u8 ((s : Int) % 256), .int .u8 ((s : Int) / 256 % 256), .int .u8 ((s : Int) / 65536 % 256), .int .u8 ((s : Int) / 16777216)] 5 (0, 0))
  go_wp2_with (at_builtin; refine wpList_append_src _ rfl _ _ 24 rfl elemU8 w.heap.size rfl hown3.out rfl ⟨Nat.le_refl _, by decide, fun h => by cases h⟩ (by rfl) hsrc.out (by simp [Value.oneCell']) (by unfold maxLen; omega) (by omega) (by have := hext2.size; simp; omega) ?_)
  intro v' w3 hown4 hgrow
  have hext3 : Ext w w3 := (hext2.alloc hext2.size _).grown hgrow (by have := hext2.size; simp; omega) (fun k hk => (hown2.out.lt k hk).1)
  have hown4 := Lib.hid hown4
  clear hgrow
  go_wp2_with fail
  go_ret
  refine ⟨v', rfl, ?_, hext3⟩
  rw [hlen.out, hfin.out]
  exact hown4.out

set_option maxHeartbeats 1000000 in
theorem crcSeal (w : World) (a : Option Addr) (n cap : Nat) (l : List UInt8) (hn : l.length = n) (hok : SliceOk a n cap) (hm : n ≤ 1000000000) (hb : Bytes w (· < w.heap.size) a l) :
    Calls Try.prog 19 #[.slice a n cap] w fun e w' => ∃ v, e = .returned v ∧ w'.ownsRow w.heap.size 5 1 v (sealed l).length ((sealed l).map B8) ∧ Ext w w' := by
  subst hn
  have hokH := Lib.hid hok
  have hbH := Lib.hid hb
  have hs := Crc.sum_lt l
  obtain ⟨i0, hi, hz0, hz1, hz2⟩ := elemU8.hi
  have hi' := Lib.hid hi
  have hz0' := Lib.hid hz0
  have hz1' := Lib.hid hz1
  have hz2' := Lib.hid hz2
  clear hok hb hi hz0 hz1 hz2
  go_enter Try.func19, Try.ntmps19
  go_wp2_with (at_make; refine wpList_make_own _ rfl _ _ 24 rfl w.heap.size 5 i0 (.int .u8 0) 1 Try.underlying24 hi'.out hz0'.out hz1'.out .i64 .i64 _ (l.length + 4) rfl rfl (by omega) (by rw [hz2'.out]; omega) (by unfold maxLen; omega) (Nat.le_refl _) ?_)
  intro w1 hown1 hgrow1
  have hext1 : Ext w w1 := (Below.refl _ _).grown hgrow1 (Nat.le_refl _) (fun k hk => by cases hk)
  have hb1 := Lib.hid (hbH.out.ext hext1)
  have hown1 := Lib.hid hown1
  clear hgrow1
  go_wp2_with (at_builtin; refine wpList_append_src _ rfl _ _ 24 rfl elemU8 w.heap.size rfl hown1.out rfl hokH.out (news := l.map B8) (by simp) hb1.out.src (oneCell_bytes _) (by unfold maxLen; omega) (by omega) hext1.size ?_)
  intro v w2 hown2 hgrow2
  have hext2 : Ext w w2 := hext1.grown hgrow2 hext1.size (fun k hk => (hown1.out.lt k hk).1)
  have hb2 := Lib.hid (hbH.out.ext hext2)
  have hown2 := Lib.hid hown2
  clear hgrow2 hown1
  go_wp2_with fail
  have hb3 := hb2.out.alloc (.cells #[.slice a l.length cap] 24)
  refine (crcSum1 _ _ _ _ _ l (by simp [go_sem]) _ hb3 rfl hokH.out).mono ?_
  rintro e w' ⟨rfl, rfl⟩
  have hown3 := hown2.out.alloc (.cells #[.slice a l.length cap] 24)
  have hext3 : Ext w (w2.alloc (.cells #[.slice a l.length cap] 24)) := hext2.alloc hext2.size _
  clear hb3 hown2 hb2 hb1
  have hcells := Lib.hid (sealed_take l)
  have hlen := Lib.hid (sealed_length l)
  generalize hs' : Crc.sum l = s at *
  have hsH := Lib.hid hs'
  clear hs'
  generalize w2.alloc (.cells #[.slice a l.length cap] 24) = w3 at *
  have hown3 := Lib.hid hown3
  go_wp2_with fail
  go_loopw [3, 16] (fun v i wr => ∃ j : Nat, j ≤ 4 ∧ i = .int .i64 j ∧ wr.ownsRow w.heap.size 5 1 v (l.length + j) (((sealed l).take (l.length + j)).map B8) ∧ Ext w wr) (fun _ i _ => 4 - (intOf i).toNat)
  case atStart => exact ⟨0, by omega, rfl, by rw [(hcells.out).1]; exact hown3.out, hext3⟩
  case round =>
    obtain ⟨j, hj, rfl, hown, hbr⟩ := hrel
    by_cases hj4 : j < 4
    · have hnx := Lib.hid ((hcells.out).2 j hj4)
      have hown := Lib.hid hown
      have hj0 : j = 0 ∨ j = 1 ∨ j = 2 ∨ j = 3 := by omega
      rcases hj0 with rfl | rfl | rfl | rfl
      · go_wp2_with (at_builtin; refine wpList_append_src _ rfl _ _ 24 rfl elemU8 w.heap.size rfl (hown.out.alloc _) rfl ⟨Nat.le_refl _, by decide, fun h => by cases h⟩ (by rfl) (src_new wr [_] 5 (0, 0)) (by simp [Value.oneCell']) (by unfold maxLen; omega) (by omega) (by have := hbr.size; simp; omega) ?_)
        intro v' w4 hown4 hgrow
        have hext4 : Ext w w4 := (hbr.alloc hbr.size _).grown hgrow (by have := hbr.size; simp; omega) (fun k hk => (hown.out.lt k hk).1)
        have hrel4 : Hid (w4.ownsRow w.heap.size 5 1 v' (l.length + (0 + 1)) (((sealed l).take (l.length + (0 + 1))).map B8)) := by
          show w4.ownsRow _ _ _ _ _ _
          rw [hnx.out, show (((s / 2 ^ (8 * 0) : Nat) : Int) % 256) = (s : Int) % 256 by omega]
          rw [List.map_take]
          exact hown4
        clear hgrow hown4
        go_wp2_with fail
        go_roundw
        case rel => exact ⟨0 + 1, by omega, by go_num, hrel4.out, hext4⟩
        case measure => simp [intOf]
      · go_wp2_with (at_builtin; refine wpList_append_src _ rfl _ _ 24 rfl elemU8 w.heap.size rfl (hown.out.alloc _) rfl ⟨Nat.le_refl _, by decide, fun h => by cases h⟩ (by rfl) (src_new wr [_] 5 (0, 0)) (by simp [Value.oneCell']) (by unfold maxLen; omega) (by omega) (by have := hbr.size; simp; omega) ?_)
        intro v' w4 hown4 hgrow
        have hext4 : Ext w w4 := (hbr.alloc hbr.size _).grown hgrow (by have := hbr.size; simp; omega) (fun k hk => (hown.out.lt k hk).1)
        have hrel4 : Hid (w4.ownsRow w.heap.size 5 1 v' (l.length + (1 + 1)) (((sealed l).take (l.length + (1 + 1))).map B8)) := by
          show w4.ownsRow _ _ _ _ _ _
          rw [hnx.out, show (((s / 2 ^ (8 * 1) : Nat) : Int) % 256) = (s : Int) / 256 % 256 by omega]
          rw [List.map_take]
          exact hown4
        clear hgrow hown4
        go_wp2_with fail
        go_roundw
        case rel => exact ⟨1 + 1, by omega, by go_num, hrel4.out, hext4⟩
        case measure => simp [intOf]
      · go_wp2_with (at_builtin; refine wpList_append_src _ rfl _ _ 24 rfl elemU8 w.heap.size rfl (hown.out.alloc _) rfl ⟨Nat.le_refl _, by decide, fun h => by cases h⟩ (by rfl) (src_new wr [_] 5 (0, 0)) (by simp [Value.oneCell']) (by unfold maxLen; omega) (by omega) (by have := hbr.size; simp; omega) ?_)
        intro v' w4 hown4 hgrow
        have hext4 : Ext w w4 := (hbr.alloc hbr.size _).grown hgrow (by have := hbr.size; simp; omega) (fun k hk => (hown.out.lt k hk).1)
        have hrel4 : Hid (w4.ownsRow w.heap.size 5 1 v' (l.length + (2 + 1)) (((sealed l).take (l.length + (2 + 1))).map B8)) := by
          show w4.ownsRow _ _ _ _ _ _
          rw [hnx.out, show (((s / 2 ^ (8 * 2) : Nat) : Int) % 256) = (s : Int) / 65536 % 256 by omega]
          rw [List.map_take]
          exact hown4
        clear hgrow hown4
        go_wp2_with fail
        go_roundw
        case rel => exact ⟨2 + 1, by omega, by go_num, hrel4.out, hext4⟩
        case measure => simp [intOf]
      · go_wp2_with (at_builtin; refine wpList_append_src _ rfl _ _ 24 rfl elemU8 w.heap.size rfl (hown.out.alloc _) rfl ⟨Nat.le_refl _, by decide, fun h => by cases h⟩ (by rfl) (src_new wr [_] 5 (0, 0)) (by simp [Value.oneCell']) (by unfold maxLen; omega) (by omega) (by have := hbr.size; simp; omega) ?_)
        intro v' w4 hown4 hgrow
        have hext4 : Ext w w4 := (hbr.alloc hbr.size _).grown hgrow (by have := hbr.size; simp; omega) (fun k hk => (hown.out.lt k hk).1)
        have hrel4 : Hid (w4.ownsRow w.heap.size 5 1 v' (l.length + (3 + 1)) (((sealed l).take (l.length + (3 + 1))).map B8)) := by
          show w4.ownsRow _ _ _ _ _ _
          rw [hnx.out, show (((s / 2 ^ (8 * 3) : Nat) : Int) % 256) = (s : Int) / 16777216 by omega]
          rw [List.map_take]
          exact hown4
        clear hgrow hown4
        go_wp2_with fail
        go_roundw
        case rel => exact ⟨3 + 1, by omega, by go_num, hrel4.out, hext4⟩
        case measure => simp [intOf]
    · obtain rfl : j = 4 := by omega
      rw [List.take_of_length_le (by rw [hlen.out]; omega)] at hown
      have hown := Lib.hid hown
      go_wp2_with fail
      go_ret
      exact ⟨_, rfl, by rw [hlen.out]; exact hown.out, hbr⟩

/-- the word that four bytes stand for -/
theorem word_lt4 (a b c d : UInt8) : Crc.word a b c d < 4294967296 := Crc.word_lt a b c d

/-- what j of the four bytes stand for -/
def pw (b0 b1 b2 b3 : UInt8) : Nat → Nat
  | 0 => 0
  | 1 => b0.toNat
  | 2 => b0.toNat + b1.toNat * 256
  | 3 => b0.toNat + b1.toNat * 256 + b2.toNat * 65536
  | _ => b0.toNat + b1.toNat * 256 + b2.toNat * 65536 + b3.toNat * 16777216
theorem pw_lt (b0 b1 b2 b3 : UInt8) (j : Nat) : pw b0 b1 b2 b3 j < 4294967296 := by
  have := b0.toNat_lt; have := b1.toNat_lt; have := b2.toNat_lt; have := b3.toNat_lt
  unfold pw; split <;> omega

theorem or_join (i x y : Nat) (hy : y < 2 ^ i) (h : y + x * 2 ^ i < 4294967296) : bits .or .u32 (y : Int) ((x * 2 ^ i : Nat) : Int) = ((y + x * 2 ^ i : Nat) : Int) := by
  rw [u32_or_nat y (x * 2 ^ i) (by omega) (by omega), Nat.or_comm, nat_join i _ _ (Nat.mul_mod_left _ _) hy, Nat.add_comm]
theorem pw_or (b0 b1 b2 b3 : UInt8) :
    bits .or .u32 (pw b0 b1 b2 b3 0 : Int) (b0.toNat : Int) = (pw b0 b1 b2 b3 1 : Int) ∧ bits .or .u32 (pw b0 b1 b2 b3 1 : Int) ((b1.toNat : Int) * 256) = (pw b0 b1 b2 b3 2 : Int) ∧
    bits .or .u32 (pw b0 b1 b2 b3 2 : Int) ((b2.toNat : Int) * 65536) = (pw b0 b1 b2 b3 3 : Int) ∧ bits .or .u32 (pw b0 b1 b2 b3 3 : Int) ((b3.toNat : Int) * 16777216) = (pw b0 b1 b2 b3 4 : Int) := by
  have := b0.toNat_lt; have := b1.toNat_lt; have := b2.toNat_lt; have := b3.toNat_lt
  have h0 := or_join 0 b0.toNat 0 (by omega) (by omega)
  have h1 := or_join 8 b1.toNat b0.toNat (by omega) (by omega)
  have h2 := or_join 16 b2.toNat (b0.toNat + b1.toNat * 256) (by omega) (by omega)
  have h3 := or_join 24 b3.toNat (b0.toNat + b1.toNat * 256 + b2.toNat * 65536) (by omega) (by omega)
  refine ⟨?_, h1, h2, h3⟩
  simpa [pw] using h0
theorem pw_word (b0 b1 b2 b3 : UInt8) : pw b0 b1 b2 b3 4 = Crc.word b0 b1 b2 b3 := by rw [Crc.word_eq]; rfl

/-- a text is sealed if its last four bytes are the sum of the others -/
def opens (b : List UInt8) : Bool := decide (4 ≤ b.length) && (sealed (b.take (b.length - 4)) == b)

set_option maxHeartbeats 1000000 in
theorem crcOpenShort (w : World) (a : Option Addr) (n cap : Nat) (hm : n < 4) :
    Calls Try.prog 18 #[.slice a n cap] w fun e w' => e = .returned (.tuple #[.slice none 0 0, .bool false]) ∧ w = w' := by
  go_enter Try.func18, Try.ntmps18
  go_wp2_with fail
  go_ret2
  exact ⟨rfl, rfl⟩

/-- what Open answers -/
def OpenPost (w : World) (m : List UInt8) (p : Nat) (e : Ending) (w' : World) : Prop := Ext w w' ∧
  if Crc.sum m = p then ∃ v, e = .returned (.tuple #[v, .bool true]) ∧ w'.ownsRow w.heap.size 5 1 v m.length (m.map B8) else e = .returned (.tuple #[.slice none 0 0, .bool false])

set_option maxHeartbeats 1000000 in
theorem crcOpen (w : World) (a : Option Addr) (n cap : Nat) (l m : List UInt8) (b0 b1 b2 b3 : UInt8) (hl : l = m ++ [b0, b1, b2, b3]) (hn : l.length = n) (hok : SliceOk a n cap) (hm : n ≤ 1000000000) (hb : Bytes w (· < w.heap.size) a l) :
    Calls Try.prog 18 #[.slice a n cap] w (OpenPost w m (Crc.word b0 b1 b2 b3)) := by
  have hn' : n = m.length + 4 := by rw [← hn, hl]; simp
  obtain ⟨bb, off, rfl, -, -⟩ := hb 0 (by omega)
  have hcell : ∀ i (h : i < 4), w.cell? ⟨bb, off + (m.length + i), none⟩ = some (B8 ([b0, b1, b2, b3][i])) := by
    intro i hi
    obtain ⟨b', off', h1, _, h3⟩ := hb (m.length + i) (by omega)
    simp only [Option.some.injEq, Addr.mk.injEq, and_true] at h1
    obtain ⟨rfl, rfl⟩ := h1
    rw [h3]
    subst hl
    rw [List.getElem_append_right (by omega)]
    simp
  have hbm : Bytes w (· < w.heap.size) (some ⟨bb, off, none⟩) m := by
    intro i hi
    obtain ⟨b', off', h1, h2, h3⟩ := hb i (by omega)
    refine ⟨b', off', h1, h2, ?_⟩
    rw [h3]
    subst hl
    rw [List.getElem_append_left hi]
  obtain ⟨hk1, hk2, _⟩ := hok
  unfold maxLen at hk2
  subst hn'
  have hc0 : w.cell? ⟨bb, off + m.length, none⟩ = some (B8 b0) := hcell 0 (by decide)
  have hc1 : w.cell? ⟨bb, off + (m.length + 1), none⟩ = some (B8 b1) := hcell 1 (by decide)
  have hc2 : w.cell? ⟨bb, off + (m.length + 2), none⟩ = some (B8 b2) := hcell 2 (by decide)
  have hc3 : w.cell? ⟨bb, off + (m.length + 3), none⟩ = some (B8 b3) := hcell 3 (by decide)
  have hbmH := Lib.hid hbm
  clear hb hl hn hcell hbm
  have hx0 := b0.toNat_lt
  have hx1 := b1.toNat_lt
  have hx2 := b2.toNat_lt
  have hx3 := b3.toNat_lt
  go_enter Try.func18, Try.ntmps18
  go_wp2_with fail
  go_loop [5, 12] (fun s i => ∃ j : Nat, j ≤ 4 ∧ i = .int .i64 j ∧ s = .int .u32 (pw b0 b1 b2 b3 j : Int)) (fun _ i => 4 - (intOf i).toNat)
  case atStart => exact ⟨0, by omega, rfl, rfl⟩
  case round =>
    obtain ⟨j, hj, rfl, rfl⟩ := hrel
    by_cases hj4 : j < 4
    · have hj0 : j = 0 ∨ j = 1 ∨ j = 2 ∨ j = 3 := by omega
      rcases hj0 with rfl | rfl | rfl | rfl
      · have hor := Lib.hid (pw_or b0 b1 b2 b3).1
        generalize pw b0 b1 b2 b3 0 = p at *
        go_wp2_with fail
        go_round
        case rel => exact ⟨1, by omega, rfl, congrArg (Value.int .u32) hor.out⟩
        case measure => simp [intOf]
      · have hor := Lib.hid (pw_or b0 b1 b2 b3).2.1
        generalize pw b0 b1 b2 b3 1 = p at *
        go_wp2_with fail
        go_round
        case rel => exact ⟨2, by omega, rfl, congrArg (Value.int .u32) hor.out⟩
        case measure => simp [intOf]
      · have hor := Lib.hid (pw_or b0 b1 b2 b3).2.2.1
        generalize pw b0 b1 b2 b3 2 = p at *
        go_wp2_with fail
        go_round
        case rel => exact ⟨3, by omega, rfl, congrArg (Value.int .u32) hor.out⟩
        case measure => simp [intOf]
      · have hor := Lib.hid (pw_or b0 b1 b2 b3).2.2.2
        generalize pw b0 b1 b2 b3 3 = p at *
        go_wp2_with fail
        go_round
        case rel => exact ⟨4, by omega, rfl, congrArg (Value.int .u32) hor.out⟩
        case measure => simp [intOf]
    · obtain rfl : j = 4 := by omega
      have hw4 := pw_word b0 b1 b2 b3
      have hp := pw_lt b0 b1 b2 b3 4
      rw [hw4] at hp ⊢
      clear hw4
      generalize Crc.word b0 b1 b2 b3 = p at *
      go_wp2_with fail
      have hb1 := hbmH.out.alloc (.cells #[.slice (some ⟨bb, off, none⟩) m.length cap] 24)
      have hokm := Lib.hid (show SliceOk (some ⟨bb, off, none⟩) m.length cap from ⟨by omega, by unfold maxLen; omega, fun h => by cases h⟩)
      refine (crcSum1 _ _ m.length cap _ m (by simp [go_sem]) _ hb1 rfl hokm.out).mono ?_
      rintro e w' ⟨rfl, rfl⟩
      have hext : Ext w (w.alloc (.cells #[.slice (some ⟨bb, off, none⟩) m.length cap] 24)) := (Below.refl _ _).alloc (Nat.le_refl _) _
      have hsl := Crc.sum_lt m
      have hb1 := Lib.hid hb1
      by_cases hsp : Crc.sum m = p
      · have h1 : ((Crc.sum m : Int) != (p : Int)) = false := by simp [hsp]
        have hspH := Lib.hid hsp
        clear hsp
        go_wp2_with (at_builtin; refine wpList_append_src _ rfl _ _ 24 rfl elemU8 w.heap.size rfl (World.ownsRow_nil _ _ _ _) rfl hokm.out (news := m.map B8) (by simp) hb1.out.src (oneCell_bytes _) (by unfold maxLen; omega) (by omega) (by simp) ?_)
        intro v w3 hown hgrow
        have hext3 : Ext w w3 := hext.grown hgrow (by simp) (fun k hk => by cases hk)
        have hown := Lib.hid hown
        clear hgrow
        go_wp2_with fail
        go_ret2
        refine ⟨hext3, ?_⟩
        rw [if_pos hspH.out]
        exact ⟨v, rfl, hown.out⟩
      · have h1 : ((Crc.sum m : Int) != (p : Int)) = true := by simp; omega
        have hspH := Lib.hid hsp
        clear hsp
        go_wp2_with fail
        go_ret2
        refine ⟨hext, ?_⟩
        rw [if_neg hspH.out]
        rfl
end Go.Proofs.Ytkannfkjnohdlaa
