/-
  No cell of these rows narrows 'for every input' (looked for: loops, veiled, ifaces, maps, wideKeys, modest, calm, conditions, laid).
  DERIVED. THE GIVEN ROWS OF THIS SEAT. 3 by the template 'for every input the law returns true; each argument reads behind the call as it read before'; 0 by the template 'total and deterministic' (their statements: YtffmbdagjpdieaaTotals.lean).
  GIVEN WITH THE SEED: the statements are not yours to turn. If you find one false, say at which input.
  Laid BY PROGRAM, IN A SANDBOX (cutbox-rows.mjs): the forced cells as the released guide's own fill.sh prints them over the translation cfad8f5c6ce45ee9… (all of the seat's roots in one cut). By AI agents, Wed Nov 11 2026. No macro, syntax, notation, axiom, sorry.
-/
import Derived.Test.YtffmbdagjpdieaaChecked
import GoSem.Claim
import GoSem.ClaimJoined
import GoSem.ClaimMapViews
import Derived.JoinedTies
import Derived.KernelRfl
namespace Go.Proofs.Ytffmbdagjpdieaa
/- THE CELL 'sum', in the pinned program and in every row, IS THE sha256 OF THE DUMP (.gsa) THAT YtffmbdagjpdieaaProg.lean LOADS. Nothing in Lean hashes anything: it is a label: what it is worth is what the hold of that sum in a sandbox is worth. -/
noncomputable def Try.pinned : Pinned := { name := "ytffmbdagjpdieaa", sum := "cfad8f5c6ce45ee9b18d92013b03bffef80a84b20a483b0473977bb46a4d8b95", checked := Try.checked }
namespace Rows
def none {H : Type} : Left H := { results := [], args := [] }

/-- 'pentimentolaw17.StoreStamps': WHATEVER THE INPUT: true; the input reads as it did. -/
def storeStampsSpec : ChangeSpec := { name := "storeStamps", fn := fun _ => fun
  | [d] => { results := [.lit (.bool true)], args := [d] }
  | _ => none }
def storeStampsRow : OpenClaim := { program := "ytffmbdagjpdieaa", sum := "cfad8f5c6ce45ee9b18d92013b03bffef80a84b20a483b0473977bb46a4d8b95", func := "pentimento/pentimentolaw17.StoreStamps", spec := "storeStamps", inPlace := ["slices.overlaps[pentimento/index.entry]", "slices.overlaps[[]pentimento/index.entry]"], unfollowed := true, recurses := true, apart := false }
def StoreStampsSaid : Prop := storeStampsRow.holds Try.pinned (OpenSpec.ofChange storeStampsSpec)

/-- ITS FALSE NEIGHBOUR: 'it returns false'. Refute it at one input. -/
def storeStampsWrong : ChangeSpec := { name := "storeStamps", fn := fun _ => fun
  | [d] => { results := [.lit (.bool false)], args := [d] }
  | _ => none }
def StoreStampsWrongFalsely : Prop := storeStampsRow.holds Try.pinned (OpenSpec.ofChange storeStampsWrong)

/-- 'pentimentolaw17.StoreOld': WHATEVER THE INPUT: true; the input reads as it did. -/
def storeOldSpec : ChangeSpec := { name := "storeOld", fn := fun _ => fun
  | [d1, d2, d3] => { results := [.lit (.bool true)], args := [d1, d2, d3] }
  | _ => none }
def storeOldRow : OpenClaim := { program := "ytffmbdagjpdieaa", sum := "cfad8f5c6ce45ee9b18d92013b03bffef80a84b20a483b0473977bb46a4d8b95", func := "pentimento/pentimentolaw17.StoreOld", spec := "storeOld", inPlace := ["slices.overlaps[pentimento/index.entry]", "slices.overlaps[[]pentimento/index.entry]"], unfollowed := true, recurses := true, apart := false }
def StoreOldSaid : Prop := storeOldRow.holds Try.pinned (OpenSpec.ofChange storeOldSpec)

/-- ITS FALSE NEIGHBOUR: 'it returns false'. Refute it at one input. -/
def storeOldWrong : ChangeSpec := { name := "storeOld", fn := fun _ => fun
  | [d1, d2, d3] => { results := [.lit (.bool false)], args := [d1, d2, d3] }
  | _ => none }
def StoreOldWrongFalsely : Prop := storeOldRow.holds Try.pinned (OpenSpec.ofChange storeOldWrong)

/-- 'pentimentolaw17.StorePrunes': WHATEVER THE INPUT: true; the input reads as it did. -/
def storePrunesSpec : ChangeSpec := { name := "storePrunes", fn := fun _ => fun
  | [d1, d2, d3] => { results := [.lit (.bool true)], args := [d1, d2, d3] }
  | _ => none }
def storePrunesRow : OpenClaim := { program := "ytffmbdagjpdieaa", sum := "cfad8f5c6ce45ee9b18d92013b03bffef80a84b20a483b0473977bb46a4d8b95", func := "pentimento/pentimentolaw17.StorePrunes", spec := "storePrunes", inPlace := ["slices.overlaps[pentimento/index.entry]", "slices.overlaps[[]pentimento/index.entry]"], unfollowed := true, recurses := true, apart := false }
def StorePrunesSaid : Prop := storePrunesRow.holds Try.pinned (OpenSpec.ofChange storePrunesSpec)

/-- ITS FALSE NEIGHBOUR: 'it returns false'. Refute it at one input. -/
def storePrunesWrong : ChangeSpec := { name := "storePrunes", fn := fun _ => fun
  | [d1, d2, d3] => { results := [.lit (.bool false)], args := [d1, d2, d3] }
  | _ => none }
def StorePrunesWrongFalsely : Prop := storePrunesRow.holds Try.pinned (OpenSpec.ofChange storePrunesWrong)

/- THE SECOND FORM. 'bulk': how many values and letters a reading holds, each counted each time it is reached (what is shared counts as often as it is met; a slice's spare places count too). A statement '..UptoSaid' is the law's where the arguments, and the package variables that the reading takes, are together of bulk at most 1048576: NARROWER than '..Said'. Prove '..Said' where nothing that the law and all that it calls make is longer than what came in: it says more and counts as full. Else prove '..UptoSaid'. A law counts once. -/
mutual
def uptoBulk {H : Type} : DataW H → Nat
  | .lit (.string bytes) => bytes.length + 1
  | .lit _ => 1
  | .nil => 1
  | .ptr d => uptoBulk d + 1
  | .slice elems spare => uptoBulkAll elems + uptoBulkAll spare + 1
  | .agg parts => uptoBulkAll parts + 1
  | .iface _ d => uptoBulk d + 1
  | .map entries => uptoBulkEntries entries + 1
  | .held _ => 1
def uptoBulkAll {H : Type} : List (DataW H) → Nat
  | [] => 0
  | d :: r => uptoBulk d + uptoBulkAll r
def uptoBulkEntries {H : Type} : List (Lit × DataW H) → Nat
  | [] => 0
  | x :: r => uptoBulkEntry x + uptoBulkEntries r
def uptoBulkEntry {H : Type} : Lit × DataW H → Nat
  | (.string bytes, d) => bytes.length + uptoBulk d + 1
  | (_, d) => uptoBulk d + 1
 end
def uptoSmall : (H : Type) → List (DataW H) → Bool := fun _ ds => decide (uptoBulkAll ds ≤ 1048576)
def OpenSpec.upto (s : _root_.Go.ChangeSpec) : _root_.Go.OpenSpec := { _root_.Go.OpenSpec.ofChange s with cond := some uptoSmall }

/-- 'pentimentolaw17.StoreStamps', WHERE WHAT IT READS IS OF BULK AT MOST 1048576: true; the input reads as it did. -/
def storeStampsUptoRow : OpenClaim := { program := "ytffmbdagjpdieaa", sum := "cfad8f5c6ce45ee9b18d92013b03bffef80a84b20a483b0473977bb46a4d8b95", func := "pentimento/pentimentolaw17.StoreStamps", spec := "storeStamps", inPlace := ["slices.overlaps[pentimento/index.entry]", "slices.overlaps[[]pentimento/index.entry]"], unfollowed := true, recurses := true, apart := false, narrowed := true }
def StoreStampsUptoSaid : Prop := storeStampsUptoRow.holds Try.pinned (OpenSpec.upto storeStampsSpec)

/-- 'pentimentolaw17.StoreOld', WHERE WHAT IT READS IS OF BULK AT MOST 1048576: true; the input reads as it did. -/
def storeOldUptoRow : OpenClaim := { program := "ytffmbdagjpdieaa", sum := "cfad8f5c6ce45ee9b18d92013b03bffef80a84b20a483b0473977bb46a4d8b95", func := "pentimento/pentimentolaw17.StoreOld", spec := "storeOld", inPlace := ["slices.overlaps[pentimento/index.entry]", "slices.overlaps[[]pentimento/index.entry]"], unfollowed := true, recurses := true, apart := false, narrowed := true }
def StoreOldUptoSaid : Prop := storeOldUptoRow.holds Try.pinned (OpenSpec.upto storeOldSpec)

/-- 'pentimentolaw17.StorePrunes', WHERE WHAT IT READS IS OF BULK AT MOST 1048576: true; the input reads as it did. -/
def storePrunesUptoRow : OpenClaim := { program := "ytffmbdagjpdieaa", sum := "cfad8f5c6ce45ee9b18d92013b03bffef80a84b20a483b0473977bb46a4d8b95", func := "pentimento/pentimentolaw17.StorePrunes", spec := "storePrunes", inPlace := ["slices.overlaps[pentimento/index.entry]", "slices.overlaps[[]pentimento/index.entry]"], unfollowed := true, recurses := true, apart := false, narrowed := true }
def StorePrunesUptoSaid : Prop := storePrunesUptoRow.holds Try.pinned (OpenSpec.upto storePrunesSpec)

end Rows
end Go.Proofs.Ytffmbdagjpdieaa
