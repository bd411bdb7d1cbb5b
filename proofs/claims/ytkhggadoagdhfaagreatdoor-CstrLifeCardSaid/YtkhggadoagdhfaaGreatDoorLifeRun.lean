/- CstrLife: the run. -/
import Derived.Test.YtkhggadoagdhfaaGreatDoorLifeW
import Derived.Test.YtkhggadoagdhfaaGreatDoorRows
import Derived.Deep.LoopGhost
namespace Go.Proofs.YtkhggadoagdhfaaGreatDoor
open Go.Eng Go.Pm Go.RowKit
theorem lifeRunA : saysTrue ((evF (lifePr lifeA) 100000).call 4 [qn (-9223372036854775808) [0], qn (-9223372036854775808) [1]] st0) = true := by kernel_rfl
theorem lifeRunZ : saysTrue ((evF (lifePr lifeZ) 100000).call 4 [qn (-9223372036854775808) [0], qn (-9223372036854775808) [1]] st0) = true := by kernel_rfl
end Go.Proofs.YtkhggadoagdhfaaGreatDoor
