/- Runs of CstrMany: 8-11 texts. -/
import Derived.Test.YtefceikenghbbaaGreatDoorRows
import Derived.Test.YtefceikenghbbaaGreatDoorEngG
import Derived.Deep.LoopGhost
namespace Go.Proofs.YtefceikenghbbaaGreatDoor
open Go.Eng Go.Pm Go.RowKit
theorem cstrManyR8 : saysTrue ((evF (rowPr Tryz.prog 4 (.i .i64 8) 8 0 100 1000) 100000).call 3 [.wl 0] st0) = true := by kernel_rfl
theorem cstrManyR9 : saysTrue ((evF (rowPr Tryz.prog 4 (.i .i64 9) 9 0 100 1000) 100000).call 3 [.wl 0] st0) = true := by kernel_rfl
theorem cstrManyR10 : saysTrue ((evF (rowPr Tryz.prog 4 (.i .i64 10) 10 0 100 1000) 100000).call 3 [.wl 0] st0) = true := by kernel_rfl
theorem cstrManyR11 : saysTrue ((evF (rowPr Tryz.prog 4 (.i .i64 11) 11 0 100 1000) 100000).call 3 [.wl 0] st0) = true := by kernel_rfl
end Go.Proofs.YtefceikenghbbaaGreatDoor
