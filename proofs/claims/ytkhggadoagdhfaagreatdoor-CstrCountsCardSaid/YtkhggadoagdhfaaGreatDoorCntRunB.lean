/- CstrCounts: runs. -/
import Derived.Test.YtkhggadoagdhfaaGreatDoorCntW
import Derived.Test.YtkhggadoagdhfaaGreatDoorRows
import Derived.Deep.LoopGhost
namespace Go.Proofs.YtkhggadoagdhfaaGreatDoor
open Go.Eng Go.Pm Go.RowKit
theorem cntRunPp : saysTrue ((evF (cntPr false cntPp) 100000).call 3 [qn (-9223372036854775808) [0], qn (-9223372036854775808) [1]] st0) = true := by kernel_rfl
theorem cntRunNo : saysTrue ((evF (cntPr true cntNo) 100000).call 3 [qn (-9223372036854775808) [0], qn (-9223372036854775808) [1]] st0) = true := by kernel_rfl
end Go.Proofs.YtkhggadoagdhfaaGreatDoor
