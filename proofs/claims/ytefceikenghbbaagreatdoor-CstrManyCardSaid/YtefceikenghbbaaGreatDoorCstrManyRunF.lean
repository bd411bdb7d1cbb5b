/- Runs of CstrMany: 18-20 texts. -/
import Derived.Test.YtefceikenghbbaaGreatDoorRows
import Derived.Test.YtefceikenghbbaaGreatDoorEngG
import Derived.Deep.LoopGhost
namespace Go.Proofs.YtefceikenghbbaaGreatDoor
open Go.Eng Go.Pm Go.RowKit
theorem cstrManyR18 : saysTrue ((evF (rowPr Tryz.prog 4 (.i .i64 18) 18 0 100 1000) 100000).call 3 [.wl 0] st0) = true := by kernel_rfl
theorem cstrManyR19 : saysTrue ((evF (rowPr Tryz.prog 4 (.i .i64 19) 19 0 100 1000) 100000).call 3 [.wl 0] st0) = true := by kernel_rfl
theorem cstrManyR20 : saysTrue ((evF (rowPr Tryz.prog 4 (.i .i64 20) 20 0 100 1000) 100000).call 3 [.wl 0] st0) = true := by kernel_rfl
end Go.Proofs.YtefceikenghbbaaGreatDoor
