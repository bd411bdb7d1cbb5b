/- An operation whose guard's operation was itself not wanted. -/
import Derived.Test.YtkhggadoagdhfaaGreatDoorOps5
namespace Go.Pm
open Go.RowKit
section
variable {o : Oper} {a : Act}
theorem wanted_undef {ops : Array Oper} {j d : Nat} {b : Bool} (hgd : o.guard = some (j, b)) (hd : (ops[j]?).bind (·.dst) = some d) (h : a.tmps.getD d undef = undef) : Region.wanted o (yielded ops a.tmps) = false := by
  have hy : yielded ops a.tmps j = none := by
    unfold yielded
    rw [hd]
    simp only [Option.bind_some]
    rw [Array.getD_eq_getD_getElem?] at h
    cases h2 : a.tmps[d]? with
    | none => rfl
    | some x => rw [h2] at h; simp only [Option.getD_some] at h; rw [h]; rfl
  unfold Region.wanted
  rw [hgd]
  simp [hy]
end
end Go.Pm
