/- Decimal forms: what is parsed of what is printed. No program in it. -/
import Derived.Lib.ItoaNum
import Derived.Lib.AtoiAll
import Derived.Lib.ParseIntBTie
namespace Go.Pm
open Go.Lib
theorem parseUint10_append {r : List UInt8} : ∀ (l : List UInt8) (a b : Nat), parseUint10 a l = .ok b → parseUint10 a (l ++ r) = parseUint10 b r
  | [], a, b, h => by
    simp only [parseUint10, NumEnd.ok.injEq] at h
    subst h; rfl
  | c :: l, a, b, h => by
    simp only [parseUint10] at h
    simp only [List.cons_append, parseUint10]
    split at h
    · rename_i h1
      rw [if_pos h1]
      split at h
      · cases h
      · rename_i h2
        rw [if_neg h2]
        split at h
        · cases h
        · rename_i h3
          rw [if_neg h3]
          exact parseUint10_append l _ b h
    · cases h
theorem dig_toNat {d : Nat} (h : d < 10) : (UInt8.ofNat (48 + d)).toNat = 48 + d := by
  rw [UInt8.toNat_ofNat']
  exact Nat.mod_eq_of_lt (by omega)
theorem parse_dec (u : Nat) (h : u < 18446744073709551616) : parseUint10 0 (decDigits u) = .ok u := by
  induction u using Nat.strongRecOn with
  | _ u ih =>
    rw [decDigits]
    split
    · rename_i h1
      simp only [parseUint10, dig_toNat h1]
      rw [if_pos (by omega), if_neg (by omega), if_neg (by omega)]
      congr 1
      omega
    · rename_i h1
      rw [parseUint10_append _ 0 (u / 10) (ih (u / 10) (by omega) (by omega))]
      have hd : u % 10 < 10 := Nat.mod_lt _ (by omega)
      simp only [parseUint10, dig_toNat hd]
      rw [if_pos (by omega), if_neg (by omega), if_neg (by omega)]
      congr 1
      omega
theorem dec_bytes (u : Nat) : ∀ c ∈ decDigits u, 48 ≤ c.toNat ∧ c.toNat ≤ 57 := by
  induction u using Nat.strongRecOn with
  | _ u ih =>
    intro c hc
    rw [decDigits] at hc
    split at hc
    · rename_i h1
      simp only [List.mem_singleton] at hc
      subst hc
      rw [dig_toNat h1]; omega
    · rename_i h1
      rcases List.mem_append.1 hc with hc | hc
      · exact ih (u / 10) (by omega) c hc
      · simp only [List.mem_singleton] at hc
        subst hc
        rw [dig_toNat (Nat.mod_lt _ (by omega))]; omega
theorem dec_ne (u : Nat) : decDigits u ≠ [] := by
  rw [decDigits]
  split <;> simp
theorem parseMag_dec (u : Nat) (h : u < 18446744073709551616) : parseMag (decDigits u) = .ok u := by
  unfold parseMag
  rw [if_neg (dec_ne u), parse_dec u h]
theorem parse_itoa (n : Int) (h0 : -9223372036854775808 ≤ n) (h1 : n ≤ 9223372036854775807) : parseIntB 64 (itoa n) = .ok n := by
  rw [parseIntB_64]
  unfold itoa
  split
  · rename_i hn
    have h45 : (45 : UInt8).toNat = 45 := rfl
    simp only [atoiAll, h45]
    rw [if_pos (by simp), parseMag_dec _ (by omega)]
    simp only [not_true_eq_false, false_and, if_false, true_and, if_true]
    rw [if_neg (by omega)]
    congr 1
    omega
  · rename_i hn
    have hm := parseMag_dec n.toNat (by omega)
    have hb := dec_bytes n.toNat
    cases hl : decDigits n.toNat with
    | nil => exact absurd hl (dec_ne _)
    | cons c r =>
      rw [hl] at hm hb
      have hc := hb c (by simp)
      have h43 : ¬ c.toNat = 43 := by omega
      have h45 : ¬ c.toNat = 45 := by omega
      simp only [atoiAll, h43, h45, or_self, if_false, hm, not_false_eq_true, true_and, false_and]
      rw [if_neg (by omega)]
      congr 1
      omega
theorem nDigits_le : ∀ (k u : Nat), u < 10 ^ (k + 1) → nDigits u ≤ k + 1
  | 0, u, h => by rw [nDigits_small (by simpa using h)]; exact Nat.le_refl _
  | k + 1, u, h => by
    by_cases hu : u < 10
    · rw [nDigits_small hu]; omega
    · rw [nDigits_big hu]
      have := nDigits_le k (u / 10) (by rw [Nat.pow_succ] at h; omega)
      omega
theorem itoa_length (n : Int) (h0 : -9223372036854775808 ≤ n) (h1 : n ≤ 9223372036854775807) : 1 ≤ (itoa n).length ∧ (itoa n).length ≤ 20 := by
  have hp : (10 : Nat) ^ 19 = 10000000000000000000 := by decide
  unfold itoa
  split
  · have := nDigits_le 18 n.natAbs (by rw [hp]; omega)
    simp only [List.length_cons, decDigits_length]; omega
  · have := nDigits_le 18 n.toNat (by rw [hp]; omega)
    have := nDigits_pos n.toNat
    rw [decDigits_length]; omega
end Go.Pm
