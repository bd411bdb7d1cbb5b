/- CstrCounts: whatever the two numbers, the law is true. -/
import Derived.Test.YtkhggadoagdhfaaGreatDoorCntAt
import Derived.Test.YtkhggadoagdhfaaGreatDoorCntRunA
import Derived.Test.YtkhggadoagdhfaaGreatDoorCntRunB
import Derived.Test.YtkhggadoagdhfaaGreatDoorCntRunC
import Derived.Test.YtkhggadoagdhfaaGreatDoorCntRunD
import Derived.Test.YtkhggadoagdhfaaGreatDoorTabOf
namespace Go.Proofs.YtkhggadoagdhfaaGreatDoor
open Go.Eng Go.Pm Go.RowKit
theorem cstrCountsMain (W : World) (a b : Int) (ha : -9223372036854775808 ≤ a ∧ a ≤ 9223372036854775807) (hb : -9223372036854775808 ≤ b ∧ b ≤ 9223372036854775807) (ht : Lib.TabIs Tryz.prog W "internal/strconv.uint64pow10" .u64 Lib.pow10Tab) :
    Calls Tryz.prog 3 #[.int .i64 a, .int .i64 b] W fun e W' => e = .returned (.bool true) ∧ Ext W W' := by
  have h0 : ∀ g v o, ((cntAt a b g v o 0).length : Int) = a + 9223372036854775808 := fun g v o => (cnt_txt ha hb).h0
  have h1 : ∀ g v o, ((cntAt a b g v o 1).length : Int) = b + 9223372036854775808 := fun g v o => (cnt_txt ha hb).h1
  have h3 : ∀ g v o, ((cntAt a b g v o 3).length : Int) = 9223372036854775808 - (b.natAbs : Int) := fun g v o => by rw [cntAt_len (by decide)]; simp only [cntLen]; omega
  have h4 : ∀ g v o, ((cntAt a b g v o 4).length : Int) = (b.natAbs : Int) := fun g v o => by rw [cntAt_len (by decide)]; simp only [cntLen]
  by_cases hin : -9223372036854775808 ≤ a + b ∧ a + b ≤ 9223372036854775807
  · have h2 : ∀ g v o, ((cntAt a b g v o 2).length : Int) = a + b + 9223372036854775808 := fun g v o => by
      have := (cnt_txt ha hb (g := g) (v := v) (o := o)).h2
      rw [fitOr_eq hin] at this
      exact this
    have hs : (false = false → I64 (a + b)) := fun _ => hin
    have ho : (false = true → ¬ I64 (a + b)) := fun h => by cases h
    by_cases hin2 : -9223372036854775808 ≤ a + b + b ∧ a + b + b ≤ 9223372036854775807
    · have h5 : ∀ g v o, ((cntAt a b g v o 5).length : Int) = a + b + b + 9223372036854775808 := fun g v o => by
        rw [cntAt_len (by decide)]; simp only [cntLen]; rw [fitOr_eq hin2]; omega
      rcases Int.lt_trichotomy b 0 with hb0 | hb0 | hb0
      · exact cnt_calls ha hb ho hs ht (fun g v o => cntNn_ok ha hb (h0 g v o) (h1 g v o) (h3 g v o) (h4 g v o) hin (h2 g v o) hin2 (h5 g v o) hb0) cntRunNn
      · exact cnt_calls ha hb ho hs ht (fun g v o => cntZ_ok ha hb (h0 g v o) (h1 g v o) (h3 g v o) (h4 g v o) hin (h2 g v o) hin2 (h5 g v o) hb0) cntRunZ
      · exact cnt_calls ha hb ho hs ht (fun g v o => cntPn_ok ha hb (h0 g v o) (h1 g v o) (h3 g v o) (h4 g v o) hin (h2 g v o) hin2 (h5 g v o) hb0) cntRunPn
    · rcases Int.lt_trichotomy b 0 with hb0 | hb0 | hb0
      · exact cnt_calls ha hb ho hs ht (fun g v o => cntNp_ok ha hb (h0 g v o) (h1 g v o) (h3 g v o) (h4 g v o) hin (h2 g v o) hin2 hb0) cntRunNp
      · omega
      · exact cnt_calls ha hb ho hs ht (fun g v o => cntPp_ok ha hb (h0 g v o) (h1 g v o) (h3 g v o) (h4 g v o) hin (h2 g v o) hin2 hb0) cntRunPp
  · have hs : (true = false → I64 (a + b)) := fun h => by cases h
    have ho : (true = true → ¬ I64 (a + b)) := fun _ => hin
    rcases Int.lt_trichotomy b 0 with hb0 | hb0 | hb0
    · exact cnt_calls ha hb ho hs ht (fun g v o => cntNo_ok ha hb (h0 g v o) (h1 g v o) (h3 g v o) (h4 g v o) hin hb0) cntRunNo
    · omega
    · exact cnt_calls ha hb ho hs ht (fun g v o => cntPo_ok ha hb (h0 g v o) (h1 g v o) (h3 g v o) (h4 g v o) hin hb0) cntRunPo
end Go.Proofs.YtkhggadoagdhfaaGreatDoor
