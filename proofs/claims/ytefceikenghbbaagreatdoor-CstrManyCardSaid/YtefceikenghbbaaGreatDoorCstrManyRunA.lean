/- Runs of CstrMany: its example, no texts, too many, a long one. -/
import Derived.Test.YtefceikenghbbaaGreatDoorRows
import Derived.Test.YtefceikenghbbaaGreatDoorEngG
import Derived.Deep.LoopGhost
namespace Go.Proofs.YtefceikenghbbaaGreatDoor
open Go.Eng Go.Pm Go.RowKit
theorem cstrManyAw : saysTrue ((evF (freePr Tryz.prog) 100000).call 4 [] st0) = true := by kernel_rfl
theorem cstrManyNil : saysTrue ((evF (plainPr Tryz.prog) 100000).call 3 [.sl none 0 (.k 0)] st0) = true := by kernel_rfl
theorem cstrManyR0 : saysTrue ((evF (rowPr Tryz.prog 4 (.i .i64 0) 0 0 100 1000) 100000).call 3 [.wl 0] st0) = true := by kernel_rfl
theorem cstrManyBig : saysTrue ((evF (rowPr Tryz.prog 4 (.q .i64 21 [100]) 0 9223372036854775808 100 1000) 100000).call 3 [.wl 0] st0) = true := by kernel_rfl
theorem cstrManyL0 : saysTrue ((evF (rowPr Tryz.prog 4 (.q .i64 1 [100]) 1 19 0 1000) 100000).call 3 [.wl 0] st0) = true := by kernel_rfl
theorem cstrManyL1 : saysTrue ((evF (rowPr Tryz.prog 4 (.q .i64 2 [100]) 2 18 1 1000) 100000).call 3 [.wl 0] st0) = true := by kernel_rfl
theorem cstrManyL2 : saysTrue ((evF (rowPr Tryz.prog 4 (.q .i64 3 [100]) 3 17 2 1000) 100000).call 3 [.wl 0] st0) = true := by kernel_rfl
theorem cstrManyL3 : saysTrue ((evF (rowPr Tryz.prog 4 (.q .i64 4 [100]) 4 16 3 1000) 100000).call 3 [.wl 0] st0) = true := by kernel_rfl
theorem cstrManyL4 : saysTrue ((evF (rowPr Tryz.prog 4 (.q .i64 5 [100]) 5 15 4 1000) 100000).call 3 [.wl 0] st0) = true := by kernel_rfl
theorem cstrManyL5 : saysTrue ((evF (rowPr Tryz.prog 4 (.q .i64 6 [100]) 6 14 5 1000) 100000).call 3 [.wl 0] st0) = true := by kernel_rfl
theorem cstrManyL6 : saysTrue ((evF (rowPr Tryz.prog 4 (.q .i64 7 [100]) 7 13 6 1000) 100000).call 3 [.wl 0] st0) = true := by kernel_rfl
theorem cstrManyL7 : saysTrue ((evF (rowPr Tryz.prog 4 (.q .i64 8 [100]) 8 12 7 1000) 100000).call 3 [.wl 0] st0) = true := by kernel_rfl
theorem cstrManyL8 : saysTrue ((evF (rowPr Tryz.prog 4 (.q .i64 9 [100]) 9 11 8 1000) 100000).call 3 [.wl 0] st0) = true := by kernel_rfl
theorem cstrManyL9 : saysTrue ((evF (rowPr Tryz.prog 4 (.q .i64 10 [100]) 10 10 9 1000) 100000).call 3 [.wl 0] st0) = true := by kernel_rfl
theorem cstrManyL10 : saysTrue ((evF (rowPr Tryz.prog 4 (.q .i64 11 [100]) 11 9 10 1000) 100000).call 3 [.wl 0] st0) = true := by kernel_rfl
theorem cstrManyL11 : saysTrue ((evF (rowPr Tryz.prog 4 (.q .i64 12 [100]) 12 8 11 1000) 100000).call 3 [.wl 0] st0) = true := by kernel_rfl
theorem cstrManyL12 : saysTrue ((evF (rowPr Tryz.prog 4 (.q .i64 13 [100]) 13 7 12 1000) 100000).call 3 [.wl 0] st0) = true := by kernel_rfl
theorem cstrManyL13 : saysTrue ((evF (rowPr Tryz.prog 4 (.q .i64 14 [100]) 14 6 13 1000) 100000).call 3 [.wl 0] st0) = true := by kernel_rfl
theorem cstrManyL14 : saysTrue ((evF (rowPr Tryz.prog 4 (.q .i64 15 [100]) 15 5 14 1000) 100000).call 3 [.wl 0] st0) = true := by kernel_rfl
theorem cstrManyL15 : saysTrue ((evF (rowPr Tryz.prog 4 (.q .i64 16 [100]) 16 4 15 1000) 100000).call 3 [.wl 0] st0) = true := by kernel_rfl
theorem cstrManyL16 : saysTrue ((evF (rowPr Tryz.prog 4 (.q .i64 17 [100]) 17 3 16 1000) 100000).call 3 [.wl 0] st0) = true := by kernel_rfl
theorem cstrManyL17 : saysTrue ((evF (rowPr Tryz.prog 4 (.q .i64 18 [100]) 18 2 17 1000) 100000).call 3 [.wl 0] st0) = true := by kernel_rfl
theorem cstrManyL18 : saysTrue ((evF (rowPr Tryz.prog 4 (.q .i64 19 [100]) 19 1 18 1000) 100000).call 3 [.wl 0] st0) = true := by kernel_rfl
theorem cstrManyL19 : saysTrue ((evF (rowPr Tryz.prog 4 (.q .i64 20 [100]) 20 0 19 1000) 100000).call 3 [.wl 0] st0) = true := by kernel_rfl
end Go.Proofs.YtefceikenghbbaaGreatDoor
