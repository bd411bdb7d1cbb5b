/- CstrMany: whatever the texts, the law is true. -/
import Derived.Test.YtefceikenghbbaaGreatDoorCstrManyRunA
import Derived.Test.YtefceikenghbbaaGreatDoorCstrManyRunB
import Derived.Test.YtefceikenghbbaaGreatDoorCstrManyRunC
import Derived.Test.YtefceikenghbbaaGreatDoorCstrManyRunD
import Derived.Test.YtefceikenghbbaaGreatDoorCstrManyRunE
import Derived.Test.YtefceikenghbbaaGreatDoorCstrManyRunF
import Derived.Deep.LoopGhost
namespace Go.Proofs.YtefceikenghbbaaGreatDoor
open Go.Eng Go.Pm Go.RowKit
theorem cstrManyMain (W : World) (a : Option Addr) (cap : Nat) (l : List (List UInt8)) (hok : SliceOk a l.length cap) (hsrc : Src W a (l.map strV)) (hmax : ∀ s ∈ l, s.length ≤ maxLen) :
    Calls Tryz.prog 3 #[.slice a l.length cap] W fun e W' => e = .returned (.bool true) ∧ Ext W W' := by
  have hfol : Tryz.prog.follows .rangeFuncRecover = true := by kernel_rfl
  have hmix : Tryz.prog.follows .mixedOrders = true := by kernel_rfl
  have hm : maxLen = 9223372036854775807 := by decide
  have hmax' : ∀ s ∈ l, s.length ≤ 9223372036854775808 := fun s hs => by have := hmax s hs; omega
  have hl63 : l.length ≤ 9223372036854775808 := by have := hok.le; have := hok.max; omega
  cases a with
  | none =>
    have hc := hok.nil rfl
    have hn : l.length = 0 := by have := hok.le; omega
    rw [hc, hn]
    exact nil_calls hfol hmix (by simp [concL, conc]) cstrManyNil
  | some a =>
    obtain ⟨b, off, sp⟩ := a
    by_cases h0 : l.length = 0
    · exact row_calls hfol hmix cstrManyAw hsrc hmax' hl63 (k := 0) (c := 0) (hi := 0) (long := 100) (short := 1000) (.inl ⟨by rw [h0]; rfl, h0.symm⟩) (by omega) (by omega) (fun j hj => by omega) (.inl rfl) (rest := []) (restVals := []) (fun _ => rfl) cstrManyR0
    · obtain ⟨b', off', e1, -⟩ := hsrc 0 (by simp; omega)
      cases e1
      by_cases hbig : 20 < l.length
      · exact row_calls hfol hmix cstrManyAw hsrc hmax' hl63 (lenV := .q .i64 21 [100]) (k := 0) (c := 21) (hi := 9223372036854775808) (long := 100) (short := 1000) (.inr ⟨rfl, by omega, by omega⟩) (Nat.zero_le _) (Nat.zero_le _) (fun j hj => absurd hj (Nat.not_lt_zero j)) (.inl rfl) (rest := []) (restVals := []) (fun _ => rfl) cstrManyBig
      · rcases first_long l 1000 with hs | ⟨i, hi, hl, hs⟩
        · have key : ∀ (n : Nat) (z : Int), z = (n : Int) → l.length = n → saysTrue ((evF (rowPr Tryz.prog 4 (.i .i64 z) n 0 100 1000) 100000).call 3 [.wl 0] st0) = true → Calls Tryz.prog 3 #[.slice (some ⟨b, off, none⟩) l.length cap] W fun e W' => e = .returned (.bool true) ∧ Ext W W' := fun n z hz hn hr => by
            exact row_calls hfol hmix cstrManyAw hsrc hmax' hl63 (k := n) (c := n) (hi := 0) (long := 100) (short := 1000) (.inl ⟨by rw [hz, hn], hn.symm⟩) (by omega) (by omega) (fun j hj _ => hs j (by omega)) (.inl rfl) (rest := []) (restVals := []) (fun _ => rfl) hr
          have hcases : l.length = 1 ∨ l.length = 2 ∨ l.length = 3 ∨ l.length = 4 ∨ l.length = 5 ∨ l.length = 6 ∨ l.length = 7 ∨ l.length = 8 ∨ l.length = 9 ∨ l.length = 10 ∨ l.length = 11 ∨ l.length = 12 ∨ l.length = 13 ∨ l.length = 14 ∨ l.length = 15 ∨ l.length = 16 ∨ l.length = 17 ∨ l.length = 18 ∨ l.length = 19 ∨ l.length = 20 := by omega
          rcases hcases with h | h | h | h | h | h | h | h | h | h | h | h | h | h | h | h | h | h | h | h
          · exact key 1 1 rfl h cstrManyR1
          · exact key 2 2 rfl h cstrManyR2
          · exact key 3 3 rfl h cstrManyR3
          · exact key 4 4 rfl h cstrManyR4
          · exact key 5 5 rfl h cstrManyR5
          · exact key 6 6 rfl h cstrManyR6
          · exact key 7 7 rfl h cstrManyR7
          · exact key 8 8 rfl h cstrManyR8
          · exact key 9 9 rfl h cstrManyR9
          · exact key 10 10 rfl h cstrManyR10
          · exact key 11 11 rfl h cstrManyR11
          · exact key 12 12 rfl h cstrManyR12
          · exact key 13 13 rfl h cstrManyR13
          · exact key 14 14 rfl h cstrManyR14
          · exact key 15 15 rfl h cstrManyR15
          · exact key 16 16 rfl h cstrManyR16
          · exact key 17 17 rfl h cstrManyR17
          · exact key 18 18 rfl h cstrManyR18
          · exact key 19 19 rfl h cstrManyR19
          · exact key 20 20 rfl h cstrManyR20
        · have key : ∀ (m k hi' : Nat) (z : Int), k = m + 1 → z = (k : Int) → hi' = 20 - m - 1 → i = m → saysTrue ((evF (rowPr Tryz.prog 4 (.q .i64 z [100]) k hi' m 1000) 100000).call 3 [.wl 0] st0) = true → Calls Tryz.prog 3 #[.slice (some ⟨b, off, none⟩) l.length cap] W fun e W' => e = .returned (.bool true) ∧ Ext W W' := fun m k hi' z hk hz hhi hm2 hr => by
            subst hm2
            exact row_calls hfol hmix cstrManyAw hsrc hmax' hl63 (k := k) (c := k) (hi := hi') (long := i) (short := 1000) (.inr ⟨by rw [hz], by omega, by omega⟩) (by omega) (by omega) (fun j hj hne => hs j (by omega)) (.inr ⟨by omega, hl⟩) (rest := []) (restVals := []) (fun _ => rfl) hr
          have hcases : i = 0 ∨ i = 1 ∨ i = 2 ∨ i = 3 ∨ i = 4 ∨ i = 5 ∨ i = 6 ∨ i = 7 ∨ i = 8 ∨ i = 9 ∨ i = 10 ∨ i = 11 ∨ i = 12 ∨ i = 13 ∨ i = 14 ∨ i = 15 ∨ i = 16 ∨ i = 17 ∨ i = 18 ∨ i = 19 := by omega
          rcases hcases with h | h | h | h | h | h | h | h | h | h | h | h | h | h | h | h | h | h | h | h
          · exact key 0 1 19 1 rfl rfl rfl h cstrManyL0
          · exact key 1 2 18 2 rfl rfl rfl h cstrManyL1
          · exact key 2 3 17 3 rfl rfl rfl h cstrManyL2
          · exact key 3 4 16 4 rfl rfl rfl h cstrManyL3
          · exact key 4 5 15 5 rfl rfl rfl h cstrManyL4
          · exact key 5 6 14 6 rfl rfl rfl h cstrManyL5
          · exact key 6 7 13 7 rfl rfl rfl h cstrManyL6
          · exact key 7 8 12 8 rfl rfl rfl h cstrManyL7
          · exact key 8 9 11 9 rfl rfl rfl h cstrManyL8
          · exact key 9 10 10 10 rfl rfl rfl h cstrManyL9
          · exact key 10 11 9 11 rfl rfl rfl h cstrManyL10
          · exact key 11 12 8 12 rfl rfl rfl h cstrManyL11
          · exact key 12 13 7 13 rfl rfl rfl h cstrManyL12
          · exact key 13 14 6 14 rfl rfl rfl h cstrManyL13
          · exact key 14 15 5 15 rfl rfl rfl h cstrManyL14
          · exact key 15 16 4 16 rfl rfl rfl h cstrManyL15
          · exact key 16 17 3 17 rfl rfl rfl h cstrManyL16
          · exact key 17 18 2 18 rfl rfl rfl h cstrManyL17
          · exact key 18 19 1 19 rfl rfl rfl h cstrManyL18
          · exact key 19 20 0 20 rfl rfl rfl h cstrManyL19
end Go.Proofs.YtefceikenghbbaaGreatDoor
