/- Arguments of laws: ints in slices. -/
import Derived.Test.YtkannfkjnohdlaaDiskApi
import Derived.Test.YtkannfkjnohdlaaCrcApart
namespace Go.Proofs.Ytkannfkjnohdlaa
open Go.RowKit Go.Pm
theorem rep_ints {w : World} {S : Nat → Prop} {cs : List Value} {l : List Int} (h : Rep w S (.slice (.int .i64)) cs l) :
    ∃ a cap, cs = [.slice a l.length cap] ∧ SliceOk a l.length cap ∧ Src w a (l.map intV) ∧ ∀ k ∈ l, -9223372036854775808 ≤ k ∧ k ≤ 9223372036854775807 := by
  obtain ⟨a, cap, h1, h2, h4⟩ := h
  refine ⟨a, cap, h1, h2, fun i hi => ?_, fun k hk => ?_⟩
  · obtain ⟨b, off, xs, e1, e2, e3, e4, e5, e6⟩ := h4 i (by simpa using hi)
    refine ⟨b, off, e1, ?_⟩
    have := e4 0 (by rw [e3]; decide)
    simp only [e5, List.getElem_cons_zero, Ty.size, Nat.mul_one, Nat.add_zero] at this
    rw [this]
    simp [intV, encInt]
  · obtain ⟨i, hi, rfl⟩ := List.getElem_of_mem hk
    obtain ⟨b, off, xs, e1, e2, e3, e4, e5, e6⟩ := h4 i hi
    exact bounds_i64 e6
end Go.Proofs.Ytkannfkjnohdlaa
