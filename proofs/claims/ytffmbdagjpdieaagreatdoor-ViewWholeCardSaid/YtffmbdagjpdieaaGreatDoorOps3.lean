/- More operations: arrays, pieces. -/
import Derived.Test.YtffmbdagjpdieaaGreatDoorMonoSl
namespace Go.Pm
open Go.RowKit
section
variable {P : Program} {w : World} {t e : TypeId}
theorem run_idxA {b off k n size : Nat} (ht : P.underlying t = some (.array n e)) (hs : ∀ w, (sizeOf e).run P w = .ok size w) (hk : k < n) :
    (Instr.indexAt t (.pointer (some ⟨b, off, none⟩)) (.int .i64 (k : Int))).run P w = .ok (.pointer (some ⟨b, off + k * size, none⟩)) w := by
  simp [Instr.indexAt, run_underlying ht, Instr.sureAddr, asIntOf, hs, hk, addr_add]
theorem run_idxA1 {b off k n : Nat} (ht : P.underlying t = some (.array n e)) (hs : ∀ w, (sizeOf e).run P w = .ok 1 w) (hk : k < n) :
    (Instr.indexAt t (.pointer (some ⟨b, off, none⟩)) (.int .i64 (k : Int))).run P w = .ok (.pointer (some ⟨b, off + k, none⟩)) w := by
  have := run_idxA (w := w) (b := b) (off := off) ht hs hk
  rwa [Nat.mul_one] at this
/-- s[l:h] -/
theorem run_lohi1 {g off n c l h : Nat} (ht : P.underlying t = some (.slice (P.elem t))) (hs : ∀ w, (sizeOf (P.elem t)).run P w = .ok 1 w) (h1 : l ≤ h) (h2 : h ≤ c) (h3 : l < c) :
    (Instr.sliceAt t (.slice (some ⟨g, off, none⟩) n c) (some (.int .i64 (l : Int))) (some (.int .i64 (h : Int))) none).run P w = .ok (.slice (some ⟨g, off + l, none⟩) (h - l) (c - l)) w := by
  rw [run_sliceAt_slice w t _ _ _ _ ht, run_slice_lh w t _ n c ht .i64 .i64 l h (by omega) (by omega) (by omega), hs]
  simp only [Result.andThen, sliced, Int.toNat_natCast, Option.map_some, addr_add, show ¬ c = l by omega, if_false, Nat.mul_one]
end
end Go.Pm
