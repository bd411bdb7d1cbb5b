/- Runs of CstrMany: 15-17 texts. -/
import Derived.Test.YtefceikenghbbaaGreatDoorRows
import Derived.Test.YtefceikenghbbaaGreatDoorEngG
import Derived.Deep.LoopGhost
namespace Go.Proofs.YtefceikenghbbaaGreatDoor
open Go.Eng Go.Pm Go.RowKit
theorem cstrManyR15 : saysTrue ((evF (rowPr Tryz.prog 4 (.i .i64 15) 15 0 100 1000) 100000).call 3 [.wl 0] st0) = true := by kernel_rfl
theorem cstrManyR16 : saysTrue ((evF (rowPr Tryz.prog 4 (.i .i64 16) 16 0 100 1000) 100000).call 3 [.wl 0] st0) = true := by kernel_rfl
theorem cstrManyR17 : saysTrue ((evF (rowPr Tryz.prog 4 (.i .i64 17) 17 0 100 1000) 100000).call 3 [.wl 0] st0) = true := by kernel_rfl
end Go.Proofs.YtefceikenghbbaaGreatDoor
