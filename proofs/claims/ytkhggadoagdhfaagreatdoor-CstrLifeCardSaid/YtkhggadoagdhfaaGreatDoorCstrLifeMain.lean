/- CstrLife: whatever the two numbers, the law is true. -/
import Derived.Test.YtkhggadoagdhfaaGreatDoorLifeAt
import Derived.Test.YtkhggadoagdhfaaGreatDoorLifeRun
import Derived.Test.YtkhggadoagdhfaaGreatDoorTabOf
namespace Go.Proofs.YtkhggadoagdhfaaGreatDoor
open Go.Eng Go.Pm Go.RowKit
theorem cstrLifeMain (W : World) (c n : Int) (hc : -9223372036854775808 ≤ c ∧ c ≤ 9223372036854775807) (hn : -9223372036854775808 ≤ n ∧ n ≤ 9223372036854775807) (ht : Lib.TabIs Tryz.prog W "internal/strconv.uint64pow10" .u64 Lib.pow10Tab) :
    Calls Tryz.prog 4 #[.int .i64 c, .int .i64 n] W fun e W' => e = .returned (.bool true) ∧ Ext W W' := by
  have t1 := tmod_bounds c
  have t2 := tmod_bounds n
  have t3 := tmod_bounds (1 + (c.tmod 1000 + 999))
  have t4 := tmod_bounds (1 + (n.tmod 1000 + 999))
  have e0 : -9223372036854775808 + ((lifeLen c n 0 : Nat) : Int) = c := by simp only [lifeLen]; omega
  have e1 : -9223372036854775808 + ((lifeLen c n 1 : Nat) : Int) = n := by simp only [lifeLen]; omega
  have e2 : ((lifeLen c n 2 : Nat) : Int) = c.tmod 1000 + 999 := by simp only [lifeLen]; omega
  have e3 : ((lifeLen c n 3 : Nat) : Int) = n.tmod 1000 + 999 := by simp only [lifeLen]; omega
  by_cases h : (1 + (c.tmod 1000 + 999)).tmod 1000 = 0
  · refine life_calls hc hn ht (fun g v o => lifeZ_ok ?_ ?_ ?_ ?_ ?_ ?_) lifeRunZ
    · rw [lifeAt_len (by decide), lifeAt_len (by decide), e0, e2]
    · rw [lifeAt_len (by decide), lifeAt_len (by decide), e1, e3]
    · rw [lifeAt_len (by decide), e2]; exact h
    · rw [lifeAt_len (by decide), lifeAt_len (by decide), e3]; simp only [lifeLen]; omega
    · rw [lifeAt_len (by decide), lifeAt_len (by decide)]; simp only [lifeLen]; omega
    · rw [lifeAt_len (by decide)]; simp only [lifeLen]; omega
  · refine life_calls hc hn ht (fun g v o => lifeA_ok ?_ ?_ ?_ ?_ ?_ ?_ ?_) lifeRunA
    · rw [lifeAt_len (by decide), lifeAt_len (by decide), e0, e2]
    · rw [lifeAt_len (by decide), lifeAt_len (by decide), e1, e3]
    · rw [lifeAt_len (by decide), lifeAt_len (by decide), e2]; simp only [lifeLen]; omega
    · rw [lifeAt_len (by decide), lifeAt_len (by decide), e3]; simp only [lifeLen]; omega
    · rw [lifeAt_len (by decide), lifeAt_len (by decide)]; simp only [lifeLen]; omega
    · rw [lifeAt_len (by decide)]; simp only [lifeLen]; omega
    · rw [lifeAt_len (by decide)]; simp only [lifeLen]; omega
end Go.Proofs.YtkhggadoagdhfaaGreatDoor
