/- Runs of CstrMany: 1-7 texts. -/
import Derived.Test.YtefceikenghbbaaGreatDoorRows
import Derived.Test.YtefceikenghbbaaGreatDoorEngG
import Derived.Deep.LoopGhost
namespace Go.Proofs.YtefceikenghbbaaGreatDoor
open Go.Eng Go.Pm Go.RowKit
theorem cstrManyR1 : saysTrue ((evF (rowPr Tryz.prog 4 (.i .i64 1) 1 0 100 1000) 100000).call 3 [.wl 0] st0) = true := by kernel_rfl
theorem cstrManyR2 : saysTrue ((evF (rowPr Tryz.prog 4 (.i .i64 2) 2 0 100 1000) 100000).call 3 [.wl 0] st0) = true := by kernel_rfl
theorem cstrManyR3 : saysTrue ((evF (rowPr Tryz.prog 4 (.i .i64 3) 3 0 100 1000) 100000).call 3 [.wl 0] st0) = true := by kernel_rfl
theorem cstrManyR4 : saysTrue ((evF (rowPr Tryz.prog 4 (.i .i64 4) 4 0 100 1000) 100000).call 3 [.wl 0] st0) = true := by kernel_rfl
theorem cstrManyR5 : saysTrue ((evF (rowPr Tryz.prog 4 (.i .i64 5) 5 0 100 1000) 100000).call 3 [.wl 0] st0) = true := by kernel_rfl
theorem cstrManyR6 : saysTrue ((evF (rowPr Tryz.prog 4 (.i .i64 6) 6 0 100 1000) 100000).call 3 [.wl 0] st0) = true := by kernel_rfl
theorem cstrManyR7 : saysTrue ((evF (rowPr Tryz.prog 4 (.i .i64 7) 7 0 100 1000) 100000).call 3 [.wl 0] st0) = true := by kernel_rfl
end Go.Proofs.YtefceikenghbbaaGreatDoor
