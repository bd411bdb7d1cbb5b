/- crc.Sum and the reference's Sum compute Crc.sum. -/
import Derived.Test.YtkannfkjnohdlaaRows
import Derived.Test.YtkannfkjnohdlaaLaw
import Derived.Test.YtkannfkjnohdlaaCrcMath
import Derived.Deep.LoopGhost
import Derived.Lib.Hide
import Derived.Lib.SlBytesConst
namespace Go.Proofs.Ytkannfkjnohdlaa
open Go.RowKit Go.Pm

theorem xor32 {a b : Nat} (ha : a < 4294967296) (hb : b < 4294967296) : Value.int .u32 (bits .xor .u32 (a : Int) (b : Int)) = .int .u32 ((a ^^^ b : Nat) : Int) := by rw [u32_xor_nat a b ha hb]
theorem bstep_odd {x : Nat} (hx : x < 4294967296) (h : x % 2 = 1) : Value.int .u32 (bits .xor .u32 ((x : Int) / 2) 3988292384) = .int .u32 (Crc.bstep x : Int) := by
  have := u32_xor_nat (x / 2) 3988292384 (by omega) (by omega)
  unfold Crc.bstep
  rw [if_pos h, ← this]; rfl
theorem bstep_even {x : Nat} (h : ¬ x % 2 = 1) : Value.int .u32 ((x : Int) / 2) = .int .u32 (Crc.bstep x : Int) := by
  unfold Crc.bstep
  rw [if_neg h]; rfl

theorem and1 (z : Nat) (h : z < 4294967296) : bits .and .u32 (z : Int) 1 = ((z % 2 : Nat) : Int) := by
  have := u32_and_nat z 1 h (by omega)
  rw [nat_mask1] at this
  exact this

set_option maxHeartbeats 1000000 in
theorem refSum (w : World) (S : Nat → Prop) (a : Option Addr) (n cap : Nat) (l : List UInt8) (hn : l.length = n) (hm : l.length ≤ maxLen) (hb : Bytes w S a l) :
    Calls Try.prog 16 #[.slice a n cap] w fun e w' => e = .returned (.int .u32 (Crc.sum l)) ∧ w = w' := by
  subst hn
  unfold maxLen at hm
  have hb' := Lib.hid hb
  clear hb
  go_enter Try.func16, Try.ntmps16
  go_wp2
  go_loop [3, 4] (fun r i => ∃ (k : Nat), k ≤ l.length ∧ i = .int .i64 k ∧ r = .int .u32 (Crc.reg (l.take k) 4294967295)) (fun _ i => l.length - (intOf i).toNat)
  case atStart => exact ⟨0, Nat.zero_le _, rfl, rfl⟩
  case round =>
    obtain ⟨k, hk, rfl, rfl⟩ := hrel
    by_cases hlt : k < l.length
    · obtain ⟨b, off, ha, _, hck⟩ := hb'.out k hlt
      subst ha
      have hs := Lib.hid (Crc.reg_take_succ l 4294967295 k hlt)
      have hx := Crc.reg_lt (r := 4294967295) (l.take k) (by omega)
      generalize Crc.reg (l.take k) 4294967295 = x at *
      have hcb := Crc.byte_lt l[k]
      generalize l[k] = c at *
      go_wp2
      rw [xor32 hx hcb]
      have hy : x ^^^ c.toNat < 4294967296 := Crc.xor_lt hx hcb
      have hs2 : Hid (Crc.reg (l.take (k+1)) 4294967295 = Crc.itn 8 (x ^^^ c.toNat)) := hs
      clear hs
      generalize x ^^^ c.toNat = y at *
      go_loop [3, 5] (fun r i => ∃ (j : Nat), j ≤ 8 ∧ i = .int .i64 j ∧ r = .int .u32 (Crc.itn j y)) (fun _ i => 8 - (intOf i).toNat)
      case atStart => exact ⟨0, Nat.zero_le _, rfl, rfl⟩
      case round =>
        obtain ⟨j, hj, rfl, rfl⟩ := hrel
        have hz := Crc.itn_lt j hy
        have hs3 := Lib.hid (Crc.itn_succ j y)
        by_cases hj8 : j < 8
        · generalize Crc.itn j y = z at *
          by_cases hodd : z % 2 = 1
          · have ho : ((z : Int) % 2 == 1) = true := by simp; omega
            have hb := bstep_odd hz hodd
            rw [← hs3.out] at hb
            have hb2 := Lib.hid hb
            clear hb
            go_wp2
            go_round
            case rel => exact ⟨j + 1, by omega, by go_num, hb2.out⟩
            case measure => simp [intOf]; omega
          · have ho : ((z : Int) % 2 == 1) = false := by simp; omega
            have hb := bstep_even hodd
            rw [← hs3.out] at hb
            have hb2 := Lib.hid hb
            clear hb
            go_wp2
            go_round
            case rel => exact ⟨j + 1, by omega, by go_num, hb2.out⟩
            case measure => simp [intOf]; omega
        · obtain rfl : j = 8 := by omega
          rw [← hs2.out]
          go_wp2
          go_round
          case rel => exact ⟨k + 1, by omega, by go_num, rfl⟩
          case measure => simp [intOf]; omega
    · rw [List.take_of_length_le (by omega)]
      have hx := Crc.reg_lt (r := 4294967295) l (by omega)
      have hf := Lib.hid (xor32 hx (b := 4294967295) (by omega))
      have hg : Hid (Crc.reg l 4294967295 ^^^ 4294967295 = Crc.sum l) := rfl
      generalize Crc.reg l 4294967295 = x at *
      go_wp2
      go_ret
      exact ⟨by rw [← hg.out]; exact congrArg Ending.returned hf.out, rfl⟩

theorem not32 {x : Nat} (h : x < 4294967296) : Value.int .u32 (bits .xor .u32 IntKind.u32.max (x : Int)) = .int .u32 ((x ^^^ 4294967295 : Nat) : Int) := by
  have := u32_xor_nat 4294967295 x (by omega) h
  rw [Nat.xor_comm] at this
  rw [← this]; rfl

set_option maxHeartbeats 2000000 in
theorem crcSum (w : World) (S : Nat → Prop) (a : Option Addr) (n cap : Nat) (ls : List (List UInt8)) (hn : ls.length = n) (hm : ls.length ≤ maxLen) (hb : Rows8 w S a ls) :
    Calls Try.prog 15 #[.slice a n cap] w fun e w' => e = .returned (.int .u32 (Crc.sum ls.flatten)) ∧ w = w' := by
  subst hn
  unfold maxLen at hm
  have hb' := Lib.hid hb
  clear hb
  go_enter Try.func15, Try.ntmps15
  go_wp2
  go_loop [3, 11] (fun r i => ∃ (k : Nat), k ≤ ls.length ∧ i = .int .i64 k ∧ r = .int .u32 (Crc.reg (ls.take k).flatten 4294967295)) (fun _ i => ls.length - (intOf i).toNat)
  case atStart => exact ⟨0, Nat.zero_le _, rfl, rfl⟩
  case round =>
    obtain ⟨n, hn, rfl, rfl⟩ := hrel
    by_cases hnlt : n < ls.length
    · obtain ⟨b, off, a', c', ha, _, hcn, ⟨hc1, hc2, _⟩, hbn⟩ := hb'.out n hnlt
      subst ha
      have hsn := Lib.hid (Crc.reg_flat_succ ls 4294967295 n hnlt)
      have hx0 := Crc.reg_lt (r := 4294967295) (ls.take n).flatten (by omega)
      generalize Crc.reg (ls.take n).flatten 4294967295 = x0 at *
      unfold maxLen at hc2
      have hb2 := Lib.hid hbn
      clear hbn hb'
      generalize ls[n] = l at *
      go_wp2
      go_loop [3, 17] (fun r i => ∃ (k : Nat), k ≤ l.length ∧ i = .int .i64 k ∧ r = .int .u32 (Crc.reg (l.take k) x0)) (fun _ i => l.length - (intOf i).toNat)
      case atStart => exact ⟨0, Nat.zero_le _, rfl, rfl⟩
      case round =>
        obtain ⟨k, hk, rfl, rfl⟩ := hrel
        by_cases hlt : k < l.length
        · obtain ⟨b2, off2, ha2, _, hck⟩ := hb2.out k hlt
          subst ha2
          have hs := Lib.hid (Crc.reg_take_succ l x0 k hlt)
          have hx := Crc.reg_lt (l.take k) hx0
          generalize Crc.reg (l.take k) x0 = x at *
          have hcb := Crc.byte_lt l[k]
          generalize l[k] = c at *
          go_wp2
          rw [xor32 hx hcb]
          have hy : x ^^^ c.toNat < 4294967296 := Crc.xor_lt hx hcb
          have hs2 : Hid (Crc.reg (l.take (k+1)) x0 = Crc.itn 8 (x ^^^ c.toNat)) := hs
          clear hs
          generalize x ^^^ c.toNat = y at *
          go_loop [3, 25] (fun r i => ∃ (j : Nat), j ≤ 8 ∧ i = .int .i64 j ∧ r = .int .u32 (Crc.itn j y)) (fun _ i => 8 - (intOf i).toNat)
          case atStart => exact ⟨0, Nat.zero_le _, rfl, rfl⟩
          case round =>
            obtain ⟨j, hj, rfl, rfl⟩ := hrel
            have hz := Crc.itn_lt j hy
            have hs3 := Lib.hid (Crc.itn_succ j y)
            by_cases hj8 : j < 8
            · generalize Crc.itn j y = z at *
              have hand := and1 z hz
              by_cases hodd : z % 2 = 1
              · rw [hodd] at hand
                have hb := bstep_odd hz hodd
                rw [← hs3.out] at hb
                have hb2 := Lib.hid hb
                clear hb hodd
                go_wp2
                go_round
                case rel => exact ⟨j + 1, by omega, by go_num, hb2.out⟩
                case measure => simp [intOf]; omega
              · rw [show z % 2 = 0 by omega] at hand
                have hb := bstep_even hodd
                rw [← hs3.out] at hb
                have hb2 := Lib.hid hb
                clear hb hodd
                go_wp2
                go_round
                case rel => exact ⟨j + 1, by omega, by go_num, hb2.out⟩
                case measure => simp [intOf]; omega
            · obtain rfl : j = 8 := by omega
              rw [← hs2.out]
              go_wp2
              go_round
              case rel => exact ⟨k + 1, by omega, by go_num, rfl⟩
              case measure => simp [intOf]; omega
        · rw [List.take_of_length_le (by omega), ← hsn.out]
          go_wp2
          go_round
          case rel => exact ⟨n + 1, by omega, by go_num, rfl⟩
          case measure => simp [intOf]; omega
    · rw [List.take_of_length_le (by omega)]
      have hx := Crc.reg_lt (r := 4294967295) ls.flatten (by omega)
      have hf := Lib.hid (not32 hx)
      have hg : Hid (Crc.reg ls.flatten 4294967295 ^^^ 4294967295 = Crc.sum ls.flatten) := rfl
      generalize Crc.reg ls.flatten 4294967295 = x at *
      go_wp2
      go_ret
      exact ⟨by rw [← hg.out]; exact congrArg Ending.returned hf.out, rfl⟩

/-- Sum of one text, as a call with one argument stands -/
theorem crcSum1 (w : World) (b n c : Nat) (a : Option Addr) (l : List UInt8) (hc : w.cell? ⟨b, 0, none⟩ = some (.slice a n c)) (S : Nat → Prop) (hb : Bytes w S a l) (hn : n = l.length) (h1 : SliceOk a n c) :
    Calls Try.prog 15 #[.slice (some ⟨b, 0, none⟩) 1 1] w fun e w' => e = .returned (.int .u32 (Crc.sum l)) ∧ w = w' := by
  subst hn
  have := crcSum w (fun _ => True) (some ⟨b, 0, none⟩) 1 1 [l] rfl (by simp [maxLen]) (rows8_one trivial hc (hb.mono (fun _ _ => trivial)) rfl h1)
  simpa using this
theorem crcSum0 (w : World) : Calls Try.prog 15 #[.slice none 0 0] w fun e w' => e = .returned (.int .u32 0) ∧ w = w' := by
  have := crcSum w (fun _ => True) none 0 0 [] rfl (by decide) (rows8_nil _ _ _)
  have h0 : Crc.sum [] = 0 := by decide +kernel
  simpa [h0] using this

def nine : List UInt8 := [49, 50, 51, 52, 53, 54, 55, 56, 57]
theorem nine_sum : Crc.sum nine = 3421780262 := by decide +kernel

set_option maxHeartbeats 1000000 in
theorem crcAwake (w : World) : Calls Try.prog 14 #[] w fun e w' => e = .returned (.bool true) ∧ Below w.heap.size w w' := by
  have kc := fun (w : World) (C : Array Value) (n c : Nat) => Lib.run_convert_bytes_const (P := Try.prog) w 24 5 C n c Try.underlying24 Try.underlying5
  go_enter Try.func14, Try.ntmps14
  go_wp2_with fail
  have hb : Bytes (w.alloc (.cells #[.int .u8 49, .int .u8 50, .int .u8 51, .int .u8 52, .int .u8 53, .int .u8 54, .int .u8 55, .int .u8 56, .int .u8 57] 5 (9, 10))) _ _ nine :=
    bytes_new 5 (9, 10) rfl
  have hb2 := hb.alloc (.cells #[.slice (some ⟨w.heap.size, 0, none⟩) 9 9] 24)
  refine (crcSum1 _ _ 9 9 _ nine (by simp [go_sem]) _ hb2 rfl ⟨by decide, by decide, fun h => by cases h⟩).mono ?_
  rintro e w' ⟨rfl, rfl⟩
  simp only [nine_sum]
  clear hb hb2
  go_wp2_with fail
  refine (crcSum0 _).mono ?_
  rintro e w' ⟨rfl, rfl⟩
  go_wp2_with fail
  go_ret
  refine ⟨rfl, ?_⟩
  exact ((Below.refl _ _).alloc (Nat.le_refl _) _).alloc (by simp) _
end Go.Proofs.Ytkannfkjnohdlaa
