/- Slots, as plain data. -/
import Derived.Test.YtkannfkjnohdlaaNum
import Derived.Test.YtkannfkjnohdlaaCrcMath
namespace Go.Pm
def piece (s : List UInt8) (i n : Nat) : List UInt8 := (s.drop i).take n
def maxStamp : Nat := 1152921504606846975
def ckG (s : List UInt8) : Nat := numOf (piece s 1 8)
def ckT (s : List UInt8) : Nat := numOf (piece s 9 8)
def ckN (s : List UInt8) : Nat := numOf (piece s 17 4)
def ckB (s : List UInt8) : List UInt8 := piece s 64 (ckN s)
/-- slot i of these octets has a checkpoint -/
structure CkOk (s : List UInt8) (i : Nat) : Prop where
  mark : s[0]? = some 83
  zeros : ∀ j, j < 39 → s[25 + j]? = some 0
  g1 : 1 ≤ ckG s
  g2 : ckG s < 9223372036854775808
  turn : ckG s % 2 = i
  stamp : ckT s ≤ 1152921504606846975
  n1 : ckN s ≤ 1048576
  n2 : ckN s + 64 ≤ s.length
  sum : Crc.sum (ckB s) = numOf (piece s 21 4)
theorem piece_length {s : List UInt8} {i n : Nat} (h : i + n ≤ s.length) : (piece s i n).length = n := by simp [piece]; omega
theorem piece_get {s : List UInt8} {i n j : Nat} (h : j < n) : (piece s i n)[j]? = s[i + j]? := by simp [piece, List.getElem?_take_of_lt h]
theorem num8 (s : List UInt8) (i : Nat) : numOf (piece s i 8) < 18446744073709551616 := by
  have h1 := numOf_lt (piece s i 8)
  have h2 : 256 ^ (piece s i 8).length ≤ 256 ^ 8 := Nat.pow_le_pow_right (by decide) (by simp [piece]; omega)
  have h3 : (256 : Nat) ^ 8 = 18446744073709551616 := by decide
  omega
theorem num4 (s : List UInt8) (i : Nat) : numOf (piece s i 4) < 4294967296 := by
  have h1 := numOf_lt (piece s i 4)
  have h2 : 256 ^ (piece s i 4).length ≤ 256 ^ 4 := Nat.pow_le_pow_right (by decide) (by simp [piece]; omega)
  have h3 : (256 : Nat) ^ 4 = 4294967296 := by decide
  omega
end Go.Pm
