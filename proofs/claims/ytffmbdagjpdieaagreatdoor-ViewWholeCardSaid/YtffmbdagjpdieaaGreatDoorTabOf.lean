/- The powers of ten, out of what the row's condition lays. -/
import Derived.Test.YtffmbdagjpdieaaGreatDoorRows
import Derived.Lib.LaidTab
import Derived.LaidSub
import Derived.Lib.ItoaNum
import Derived.Deep.LoopGhost
namespace Go.Proofs.YtffmbdagjpdieaaGreatDoor
open Go
theorem tabOf {W : World} {l : List (String × DataW Unit)} (hl : l.filter (fun x => x.1 == "internal/strconv.uint64pow10") = [("internal/strconv.uint64pow10", Lib.tabData .u64 Lib.pow10Tab)]) (hL : laidMetH Tryz.prog l W) : Lib.TabIs Tryz.prog W "internal/strconv.uint64pow10" .u64 Lib.pow10Tab := by
  have h := hL.filter (fun x => x.1 == "internal/strconv.uint64pow10")
  rw [hl] at h
  have h2 := (laidMetH_iff.1 h).1
  have e : ([("internal/strconv.uint64pow10", (Lib.tabData .u64 Lib.pow10Tab : DataW Unit))].filter fun x => x.2.handleName?.isNone) = [("internal/strconv.uint64pow10", Lib.tabData .u64 Lib.pow10Tab)] := by kernel_rfl
  rw [e] at h2
  exact Lib.tabIs_of_head (g := 2) (t := 148) (e := 126) (n := 20) (by kernel_rfl) (by kernel_rfl) Tryz.underlying148 Tryz.underlying126 (by kernel_rfl) (by kernel_rfl) h2
theorem tabOf_list : [("math/bits.deBruijn32tab", Rows.laid_math_bits_deBruijn32tab), ("math/bits.deBruijn64tab", Rows.laid_math_bits_deBruijn64tab), ("internal/strconv.uint64pow10", Rows.laid_internal_strconv_uint64pow10), ("strconv.ErrRange", Rows.laid_strconv_ErrRange), ("strconv.ErrSyntax", (Rows.laid_strconv_ErrSyntax : DataW Unit))].filter (fun x => x.1 == "internal/strconv.uint64pow10") = [("internal/strconv.uint64pow10", Lib.tabData .u64 Lib.pow10Tab)] := by kernel_rfl
end Go.Proofs.YtffmbdagjpdieaaGreatDoor
