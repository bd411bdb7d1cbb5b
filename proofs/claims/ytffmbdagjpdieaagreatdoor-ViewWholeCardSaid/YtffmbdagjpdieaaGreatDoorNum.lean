/- Numbers in octets, the most significant first. -/
import Derived.Test.YtffmbdagjpdieaaGreatDoorStageSl
namespace Go.Pm
open Go.RowKit

def numOf (l : List UInt8) : Nat := l.foldl (fun n c => n * 256 + c.toNat) 0
def beOf (m n : Nat) : List UInt8 := (List.range m).map (fun j => UInt8.ofNat (n / 256 ^ (m - 1 - j)))
theorem snocInd {α : Type} {p : List α → Prop} (h0 : p []) (h1 : ∀ l c, p l → p (l ++ [c])) (l : List α) : p l := by
  have key : ∀ n (l : List α), l.length = n → p l := by
    intro n
    induction n with
    | zero => intro l hl; rw [List.eq_nil_of_length_eq_zero hl]; exact h0
    | succ n ih =>
      intro l hl
      have hne : l ≠ [] := fun e => by subst e; simp at hl
      rw [← List.dropLast_concat_getLast hne]
      exact h1 _ _ (ih _ (by simp [hl]))
  exact key _ l rfl
theorem numOf_snoc (l : List UInt8) (c : UInt8) : numOf (l ++ [c]) = numOf l * 256 + c.toNat := by simp [numOf]
theorem numOf_lt (l : List UInt8) : numOf l < 256 ^ l.length := by
  refine snocInd (p := fun l => numOf l < 256 ^ l.length) (by decide) (fun l c ih => ?_) l
  show numOf (l ++ [c]) < 256 ^ (l ++ [c]).length
  rw [numOf_snoc, List.length_append, List.length_singleton, Nat.pow_succ]
  have := c.toNat_lt
  have ih : numOf l < 256 ^ l.length := ih
  omega
theorem beOf_length (m n : Nat) : (beOf m n).length = m := by simp [beOf]
theorem beOf_succ (m n : Nat) : beOf (m + 1) n = beOf m (n / 256) ++ [UInt8.ofNat n] := by
  unfold beOf
  rw [List.range_succ, List.map_append]
  congr 1
  · apply List.map_congr_left
    intro j hj
    have hj := List.mem_range.1 hj
    rw [Nat.div_div_eq_div_mul, show m + 1 - 1 - j = (m - 1 - j) + 1 by omega, Nat.pow_succ, Nat.mul_comm]
  · simp
theorem numOf_be (m n : Nat) (h : n < 256 ^ m) : numOf (beOf m n) = n := by
  induction m generalizing n with
  | zero => simp at h; subst h; rfl
  | succ m ih =>
    rw [beOf_succ, numOf_snoc, ih (n / 256) (by rw [Nat.pow_succ] at h; omega), UInt8.toNat_ofNat']
    omega
theorem be_numOf (l : List UInt8) : beOf l.length (numOf l) = l := by
  refine snocInd (p := fun l => beOf l.length (numOf l) = l) rfl (fun l c ih => ?_) l
  show beOf (l ++ [c]).length (numOf (l ++ [c])) = l ++ [c]
  have ih : beOf l.length (numOf l) = l := ih
  rw [List.length_append, List.length_singleton, beOf_succ, numOf_snoc]
  have hc := c.toNat_lt
  rw [show (numOf l * 256 + c.toNat) / 256 = numOf l by omega, ih]
  congr 2
  apply UInt8.toNat_inj.1
  rw [UInt8.toNat_ofNat']
  omega
/-- n<<8 | c -/
theorem or_byte {P : Program} {w : World} (m c : Nat) (hm : m < 72057594037927936) (hc : c < 256) : (Op.intBits .or .u64 ((m * 256 : Nat) : Int) (c : Int)).run P w = .ok (.int .u64 ((m * 256 + c : Nat) : Int)) w := by
  have e : (BitVec.ofInt 64 ((m * 256 : Nat) : Int) ||| BitVec.ofInt 64 (c : Int)).toNat = m * 256 + c := by
    rw [BitVec.toNat_or, BitVec.ofInt_natCast, BitVec.ofInt_natCast, BitVec.toNat_ofNat, BitVec.toNat_ofNat, Nat.mod_eq_of_lt (by omega), Nat.mod_eq_of_lt (by omega)]
    have := Nat.two_pow_add_eq_or_of_lt (i := 8) (b := c) (by omega) m
    rw [show (2 : Nat) ^ 8 * m = m * 256 by omega] at this
    omega
  have e2 : (Op.intBits .or .u64 ((m * 256 : Nat) : Int) (c : Int)).run P w = .ok (.int .u64 (IntKind.u64.wrap ((BitVec.ofInt 64 ((m * 256 : Nat) : Int) ||| BitVec.ofInt 64 (c : Int)).toNat : Int))) w := rfl
  rw [e2, e, u64_in (by omega)]
theorem shl8 (m : Nat) (h : m < 72057594037927936) : IntKind.u64.wrap ((m : Int) * 2 ^ (min (8 : Int).toNat IntKind.u64.bits)) = ((m * 256 : Nat) : Int) := by
  have : (2 : Int) ^ (min (8 : Int).toNat IntKind.u64.bits) = 256 := by decide
  rw [this, u64_in (by omega)]
  omega
theorem shr8 (m : Nat) : ((m : Int)).fdiv (2 ^ (min (8 : Int).toNat IntKind.u64.bits)) = ((m / 256 : Nat) : Int) := by
  have : (2 : Int) ^ (min (8 : Int).toNat IntKind.u64.bits) = 256 := by decide
  rw [this, Int.fdiv_eq_ediv_of_nonneg _ (by decide)]
  omega
theorem u8_of (m : Nat) : IntKind.u8.wrap (m : Int) = ((UInt8.ofNat m).toNat : Int) := by
  have : IntKind.wrap .u8 (m : Int) = (m : Int) % 256 := by simp [IntKind.wrap, IntKind.signed, IntKind.bits]
  rw [this, UInt8.toNat_ofNat']
  omega
end Go.Pm
