/-
  DERIVED. GIVEN WITH THE SEED: THE CARDS: each row of YtffmbdagjpdieaaGreatDoorRows.lean that lists a variable, with what it lists TIED to the program's text (the seventh form; the later family's looks); each row that meets fmt, with fmt's text TOLD by the authors' own Lean function (tested against real Go, not proved from fmt's source: count such statements apart). THE CARD IS WHAT COUNTS. Prove the row's statement (the work); the ties are given (YtffmbdagjpdieaaGreatDoorTie.lean); close each card by the builder's one call (the guide's Derived/Test/ToyasCard.lean, 'card_holds'). Laid BY PROGRAM, IN A SANDBOX (cutbox-door.mjs). By AI agents, Wed Nov 11 2026. No macro, syntax, notation, axiom, sorry.
-/
import Derived.Test.YtffmbdagjpdieaaGreatDoorRows
import GoSem.ClaimSeven
namespace Go.Proofs.YtffmbdagjpdieaaGreatDoor
namespace Rows

/-- THE TIED CARD OF 'pentimentolaw20.ViewWhole'. -/
def viewWholeCard : Claim7 := { stood := { row := viewWholeRow, standIns := [], harness := (true, "4218060dc4c8b19336cd0d8db0ee0a96d109a26e77530c8598075f983cb20d68"), looks := true }, kinds := [], alts := [], laidByText := true, laidKinds := [.data, .data, .data, .sentinel, .sentinel], laidTests := true, laidLooks := .later }
def ViewWholeCardSaid : Prop := Claim7.holds Tryz.pinned (.plain (OpenSpec.ofChange viewWholeSpec)) viewWholeCard

/-- THE SECOND FORM's CARD OF 'pentimentolaw20.ViewWhole'. -/
def viewWholeUptoCard : Claim7 := { stood := { row := viewWholeUptoRow, standIns := [], harness := (true, "4218060dc4c8b19336cd0d8db0ee0a96d109a26e77530c8598075f983cb20d68"), looks := true }, kinds := [], alts := [], laidByText := true, laidKinds := [.data, .data, .data, .sentinel, .sentinel], laidTests := true, laidLooks := .later }
def ViewWholeUptoCardSaid : Prop := Claim7.holds Tryz.pinned (.plain (OpenSpec.upto viewWholeSpec)) viewWholeUptoCard
end Rows
end Go.Proofs.YtffmbdagjpdieaaGreatDoor
