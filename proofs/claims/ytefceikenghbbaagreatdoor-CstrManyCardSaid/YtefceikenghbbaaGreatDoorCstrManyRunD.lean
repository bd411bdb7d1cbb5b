/- Runs of CstrMany: 12-14 texts. -/
import Derived.Test.YtefceikenghbbaaGreatDoorRows
import Derived.Test.YtefceikenghbbaaGreatDoorEngG
import Derived.Deep.LoopGhost
namespace Go.Proofs.YtefceikenghbbaaGreatDoor
open Go.Eng Go.Pm Go.RowKit
theorem cstrManyR12 : saysTrue ((evF (rowPr Tryz.prog 4 (.i .i64 12) 12 0 100 1000) 100000).call 3 [.wl 0] st0) = true := by kernel_rfl
theorem cstrManyR13 : saysTrue ((evF (rowPr Tryz.prog 4 (.i .i64 13) 13 0 100 1000) 100000).call 3 [.wl 0] st0) = true := by kernel_rfl
theorem cstrManyR14 : saysTrue ((evF (rowPr Tryz.prog 4 (.i .i64 14) 14 0 100 1000) 100000).call 3 [.wl 0] st0) = true := by kernel_rfl
end Go.Proofs.YtefceikenghbbaaGreatDoor
