/-
  DERIVED. GIVEN WITH THE SEED: THE CARDS: each row of YtefceikenghbbaaGreatDoorRows.lean that lists a variable, with what it lists TIED to the program's text (the seventh form; the later family's looks); each row that meets fmt, with fmt's text TOLD by the authors' own Lean function (tested against real Go, not proved from fmt's source: count such statements apart). THE CARD IS WHAT COUNTS. Prove the row's statement (the work); the ties are given (YtefceikenghbbaaGreatDoorTie.lean); close each card by the builder's one call (the guide's Derived/Test/ToyasCard.lean, 'card_holds'). Laid BY PROGRAM, IN A SANDBOX (cutbox-door.mjs). By AI agents, Wed Nov 11 2026. No macro, syntax, notation, axiom, sorry.
-/
import Derived.Test.YtefceikenghbbaaGreatDoorRows
import GoSem.ClaimSeven
namespace Go.Proofs.YtefceikenghbbaaGreatDoor
namespace Rows

/-- THE TIED CARD OF 'pentimentolaw21.CstrMany'. -/
def cstrManyCard : Claim7 := { stood := { row := cstrManyRow, standIns := [], harness := (true, "65b44520b8910d73539813d74696ad0649c184211fb2b82ae79693822c10e15c"), looks := true }, kinds := [], alts := [], laidByText := true, laidKinds := [.data, .data, .data, .sentinel, .sentinel], laidTests := true, laidLooks := .later }
def CstrManyCardSaid : Prop := Claim7.holds Tryz.pinned (.plain (OpenSpec.ofChange cstrManySpec)) cstrManyCard

/-- THE SECOND FORM's CARD OF 'pentimentolaw21.CstrMany'. -/
def cstrManyUptoCard : Claim7 := { stood := { row := cstrManyUptoRow, standIns := [], harness := (true, "65b44520b8910d73539813d74696ad0649c184211fb2b82ae79693822c10e15c"), looks := true }, kinds := [], alts := [], laidByText := true, laidKinds := [.data, .data, .data, .sentinel, .sentinel], laidTests := true, laidLooks := .later }
def CstrManyUptoCardSaid : Prop := Claim7.holds Tryz.pinned (.plain (OpenSpec.upto cstrManySpec)) cstrManyUptoCard
end Rows
end Go.Proofs.YtefceikenghbbaaGreatDoor
