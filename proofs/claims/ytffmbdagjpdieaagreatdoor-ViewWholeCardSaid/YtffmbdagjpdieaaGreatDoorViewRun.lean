/- ViewWhole: the runs. -/
import Derived.Test.YtffmbdagjpdieaaGreatDoorViewW
import Derived.Test.YtffmbdagjpdieaaGreatDoorRows
import Derived.Deep.LoopGhost
namespace Go.Proofs.YtffmbdagjpdieaaGreatDoor
open Go.Eng Go.Pm Go.RowKit
theorem vwRunA : gaveP ((evF (vwPr vwA) 100000).call 5 vwArgs (rowSt vwRow 9)) [3, 4] [3, 4] = true := by kernel_rfl
theorem vwRunB : gaveP ((evF (vwPr vwB) 100000).call 5 vwArgs (rowSt vwRow 9)) [3, 4] [] = true := by kernel_rfl
theorem vwRunC : gaveP ((evF (vwPr vwC) 100000).call 5 vwArgs (rowSt vwRow 9)) [3, 6] [] = true := by kernel_rfl
theorem vwAwake : saysTrue ((evF (freePr Tryz.prog) 100000).call 4 [] st0) = true := by kernel_rfl
theorem awakeCalls (W : World) : Calls Tryz.prog 4 #[] W fun e W' => e = .returned (.bool true) ∧ Ext W W' :=
  run_calls (α := plainAt) (pr := freePr Tryz.prog) ⟨fun j => ⟨Nat.zero_le _, Nat.zero_le _⟩, fun j n cs hw => (by cases hw), fun g n cs hw => (by cases hw), fun op a b r h => (by cases h)⟩ (prOk _ _ _ _) (fun _ _ _ _ _ e => (stay_no e).elim) (fun _ _ _ _ _ e => (stay_no e).elim) (by kernel_rfl) (by kernel_rfl) vwAwake (vals := []) (by simp [concL]) (fun j i v hv => by simp [plainAt] at hv)
end Go.Proofs.YtffmbdagjpdieaaGreatDoor
