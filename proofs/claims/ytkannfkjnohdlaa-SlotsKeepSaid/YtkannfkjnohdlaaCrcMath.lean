/- The CRC-32 register on plain natural numbers, and its laws. -/
namespace Crc
def bstep (r : Nat) : Nat := if r % 2 = 1 then (r / 2) ^^^ 3988292384 else r / 2
def itn : Nat → Nat → Nat
  | 0, r => r
  | n + 1, r => bstep (itn n r)
def upd (r : Nat) (c : UInt8) : Nat := itn 8 (r ^^^ c.toNat)
def reg (l : List UInt8) (r : Nat) : Nat := l.foldl upd r
def sum (l : List UInt8) : Nat := reg l 4294967295 ^^^ 4294967295

theorem xor_lt {a b : Nat} (ha : a < 4294967296) (hb : b < 4294967296) : a ^^^ b < 4294967296 :=
  Nat.xor_lt_two_pow (n := 32) ha hb
theorem bstep_lt {r : Nat} (h : r < 4294967296) : bstep r < 4294967296 := by
  unfold bstep; split
  · exact xor_lt (by omega) (by omega)
  · omega
theorem itn_lt {r : Nat} (n : Nat) (h : r < 4294967296) : itn n r < 4294967296 := by
  induction n with
  | zero => exact h
  | succ n ih => exact bstep_lt ih
theorem byte_lt (c : UInt8) : c.toNat < 4294967296 := by have := c.toNat_lt; omega
theorem upd_lt {r : Nat} (c : UInt8) (h : r < 4294967296) : upd r c < 4294967296 := itn_lt 8 (xor_lt h (byte_lt c))
theorem reg_lt {r : Nat} (l : List UInt8) (h : r < 4294967296) : reg l r < 4294967296 := by
  unfold reg
  induction l generalizing r with
  | nil => exact h
  | cons c l ih => exact ih (upd_lt c h)
theorem sum_lt (l : List UInt8) : sum l < 4294967296 := xor_lt (reg_lt l (by omega)) (by omega)
theorem reg_append (l m : List UInt8) (r : Nat) : reg (l ++ m) r = reg m (reg l r) := by simp [reg]
theorem reg_take_succ (l : List UInt8) (r k : Nat) (h : k < l.length) : reg (l.take (k + 1)) r = upd (reg (l.take k) r) l[k] := by
  rw [List.take_succ_eq_append_getElem h, reg_append]; rfl
theorem reg_flat_succ (ls : List (List UInt8)) (r k : Nat) (h : k < ls.length) : reg (ls.take (k + 1)).flatten r = reg ls[k] (reg (ls.take k).flatten r) := by
  rw [List.take_succ_eq_append_getElem h, List.flatten_append, reg_append]; simp
theorem itn_succ (n r : Nat) : itn (n + 1) r = bstep (itn n r) := rfl

/- linear -/
theorem bstep_xor (a b : Nat) : bstep (a ^^^ b) = bstep a ^^^ bstep b := by
  have hd : (a ^^^ b) / 2 = a / 2 ^^^ b / 2 := by
    have := Nat.shiftRight_xor_distrib (a := a) (b := b) (i := 1)
    simpa [Nat.shiftRight_eq_div_pow] using this
  have hm : (a ^^^ b) % 2 = (a % 2 + b % 2) % 2 := by
    have := Nat.xor_mod_two_eq_one (a := a) (b := b)
    omega
  unfold bstep
  rw [hd, hm]
  rcases Nat.mod_two_eq_zero_or_one a with ha | ha <;> rcases Nat.mod_two_eq_zero_or_one b with hb | hb <;> simp [ha, hb]
  · ac_rfl
  · ac_rfl
  · rw [show (a / 2 ^^^ 3988292384 ^^^ (b / 2 ^^^ 3988292384)) = (a / 2 ^^^ b / 2) ^^^ (3988292384 ^^^ 3988292384) by ac_rfl]; simp
theorem itn_xor (n a b : Nat) : itn n (a ^^^ b) = itn n a ^^^ itn n b := by
  induction n with
  | zero => rfl
  | succ n ih => simp only [itn_succ, ih, bstep_xor]
theorem bstep_zero {r : Nat} (h : r < 4294967296) (h0 : bstep r = 0) : r = 0 := by
  unfold bstep at h0
  split at h0
  · rename_i h1
    have hx : r / 2 = 3988292384 := by
      have := congrArg (· ^^^ 3988292384) h0
      simpa [Nat.xor_assoc] using this
    omega
  · omega
theorem itn_zero {r : Nat} (n : Nat) (h : r < 4294967296) (h0 : itn n r = 0) : r = 0 := by
  induction n with
  | zero => exact h0
  | succ n ih => exact ih (bstep_zero (itn_lt n h) h0)
theorem xor_eq_zero {a b : Nat} (h : a ^^^ b = 0) : a = b := by
  have := congrArg (· ^^^ b) h
  simpa [Nat.xor_assoc] using this
theorem itn_inj {a b : Nat} (n : Nat) (ha : a < 4294967296) (hb : b < 4294967296) (h : itn n a = itn n b) : a = b := by
  have := itn_xor n a b
  rw [h, Nat.xor_self] at this
  exact xor_eq_zero (itn_zero n (xor_lt ha hb) this)
theorem itn_add (m n r : Nat) : itn (m + n) r = itn n (itn m r) := by
  induction n with
  | zero => rfl
  | succ n ih => rw [← Nat.add_assoc, itn_succ, ih, itn_succ]
theorem itn_shift (n r : Nat) : itn n (r * 2 ^ n) = r := by
  induction n generalizing r with
  | zero => simp [itn]
  | succ n ih =>
    rw [itn_succ, Nat.pow_succ, show r * (2 ^ n * 2) = (r * 2) * 2 ^ n by rw [Nat.mul_comm (2 ^ n), Nat.mul_assoc], ih]
    unfold bstep
    have : r * 2 % 2 = 0 := by omega
    simp [this]
/-- four bytes are read as one word -/
def word (a b c d : UInt8) : Nat := a.toNat ^^^ (b.toNat * 2 ^ 8) ^^^ (c.toNat * 2 ^ 16) ^^^ (d.toNat * 2 ^ 24)
theorem reg4 (a b c d : UInt8) (r : Nat) : reg [a, b, c, d] r = itn 32 (r ^^^ word a b c d) := by
  simp only [reg, List.foldl_cons, List.foldl_nil, upd]
  unfold word
  have h1 : itn 32 (d.toNat * 2 ^ 24) = itn 8 d.toNat := by rw [show 32 = 24 + 8 from rfl, itn_add, itn_shift]
  have h2 : itn 32 (c.toNat * 2 ^ 16) = itn 16 c.toNat := by rw [show 32 = 16 + 16 from rfl, itn_add, itn_shift]
  have h3 : itn 32 (b.toNat * 2 ^ 8) = itn 24 b.toNat := by rw [show 32 = 8 + 24 from rfl, itn_add, itn_shift]
  have g2 : ∀ x, itn 8 (itn 8 x) = itn 16 x := fun x => (itn_add 8 8 x).symm
  have g3 : ∀ x, itn 8 (itn 16 x) = itn 24 x := fun x => (itn_add 16 8 x).symm
  have g4 : ∀ x, itn 8 (itn 24 x) = itn 32 x := fun x => (itn_add 24 8 x).symm
  rw [itn_xor 32, itn_xor 32, itn_xor 32, itn_xor 32, h1, h2, h3]
  rw [itn_xor 8 _ d.toNat, itn_xor 8 _ c.toNat, itn_xor 8 _ b.toNat, itn_xor 8 _ a.toNat]
  rw [itn_xor 8 (itn 8 r), g2, g2, itn_xor 8 _ (itn 8 b.toNat), itn_xor 8 (itn 16 r), g3, g3, g2, itn_xor 8 _ (itn 8 c.toNat), itn_xor 8 _ (itn 16 b.toNat), itn_xor 8 (itn 24 r), g4, g4, g3, g2]
  simp only [Nat.xor_assoc]
theorem word_lt (a b c d : UInt8) : word a b c d < 4294967296 := by
  have := a.toNat_lt; have := b.toNat_lt; have := c.toNat_lt; have := d.toNat_lt
  unfold word
  exact xor_lt (xor_lt (xor_lt (by omega) (by omega)) (by omega)) (by omega)
theorem word_eq (a b c d : UInt8) : word a b c d = a.toNat + b.toNat * 2 ^ 8 + c.toNat * 2 ^ 16 + d.toNat * 2 ^ 24 := by
  have h : ∀ (x y i : Nat), x < 2 ^ i → x ^^^ (y * 2 ^ i) = x + y * 2 ^ i := by
    intro x y i hx
    rw [Nat.add_comm, Nat.mul_comm, Nat.xor_comm]
    rw [Nat.two_pow_add_eq_or_of_lt hx]
    apply Nat.eq_of_testBit_eq
    intro j
    simp only [Nat.testBit_xor, Nat.testBit_or, Nat.testBit_two_pow_mul]
    by_cases hj : i ≤ j
    · have : x.testBit j = false := Nat.testBit_lt_two_pow (Nat.lt_of_lt_of_le hx (Nat.pow_le_pow_right (by omega) hj))
      simp [this]
    · simp [hj]
  have := a.toNat_lt; have := b.toNat_lt; have := c.toNat_lt; have := d.toNat_lt
  unfold word
  rw [h _ _ 8 (by omega), h _ _ 16 (by omega), h _ _ 24 (by omega)]
theorem word_inj {a b c d a' b' c' d' : UInt8} (h : word a b c d = word a' b' c' d') : a = a' ∧ b = b' ∧ c = c' ∧ d = d' := by
  rw [word_eq, word_eq] at h
  have := a.toNat_lt; have := b.toNat_lt; have := c.toNat_lt; have := d.toNat_lt
  have := a'.toNat_lt; have := b'.toNat_lt; have := c'.toNat_lt; have := d'.toNat_lt
  refine ⟨UInt8.toNat_inj.1 ?_, UInt8.toNat_inj.1 ?_, UInt8.toNat_inj.1 ?_, UInt8.toNat_inj.1 ?_⟩ <;> omega
theorem upd_inj {r s : Nat} (c : UInt8) (hr : r < 4294967296) (hs : s < 4294967296) (h : upd r c = upd s c) : r = s := by
  have := itn_inj 8 (xor_lt hr (byte_lt c)) (xor_lt hs (byte_lt c)) h
  have := congrArg (· ^^^ c.toNat) this
  simpa [Nat.xor_assoc] using this
theorem reg_inj {r s : Nat} (l : List UInt8) (hr : r < 4294967296) (hs : s < 4294967296) (h : reg l r = reg l s) : r = s := by
  induction l generalizing r s with
  | nil => exact h
  | cons c l ih => exact upd_inj c hr hs (ih (upd_lt c hr) (upd_lt c hs) h)
/-- texts that are alike but for four bytes, one behind the other: their sums are alike only if the texts are -/
theorem sum_apart (p q : List UInt8) (a b c d a' b' c' d' : UInt8) (h : sum (p ++ [a, b, c, d] ++ q) = sum (p ++ [a', b', c', d'] ++ q)) :
    a = a' ∧ b = b' ∧ c = c' ∧ d = d' := by
  unfold sum at h
  have h1 : reg (p ++ [a, b, c, d] ++ q) 4294967295 = reg (p ++ [a', b', c', d'] ++ q) 4294967295 := by
    have := congrArg (· ^^^ 4294967295) h
    simpa [Nat.xor_assoc] using this
  rw [reg_append, reg_append, reg_append, reg_append] at h1
  have hp : reg p 4294967295 < 4294967296 := reg_lt p (by omega)
  have h2 := reg_inj q (reg_lt _ hp) (reg_lt _ hp) h1
  rw [reg4, reg4] at h2
  have h3 := itn_inj 32 (xor_lt hp (word_lt _ _ _ _)) (xor_lt hp (word_lt _ _ _ _)) h2
  have h4 := congrArg (reg p 4294967295 ^^^ ·) h3
  simp only [← Nat.xor_assoc, Nat.xor_self, Nat.zero_xor] at h4
  exact word_inj h4
end Crc
