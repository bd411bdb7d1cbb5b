/-
  DERIVED. GIVEN WITH THE SEED: THE CARDS: each row of YtmpackidbgfoiaaGreatDoorRows.lean that lists a variable, with what it lists TIED to the program's text (the seventh form; the later family's looks); each row that meets fmt, with fmt's text TOLD by the authors' own Lean function (tested against real Go, not proved from fmt's source: count such statements apart). THE CARD IS WHAT COUNTS. Prove the row's statement (the work); the ties are given (YtmpackidbgfoiaaGreatDoorTie.lean); close each card by the builder's one call (the guide's Derived/Test/ToyasCard.lean, 'card_holds'). Laid BY PROGRAM, IN A SANDBOX (cutbox-door.mjs). By AI agents, Wed Nov 11 2026. No macro, syntax, notation, axiom, sorry.
-/
import Derived.Test.YtmpackidbgfoiaaGreatDoorRows
import GoSem.ClaimSeven
namespace Go.Proofs.YtmpackidbgfoiaaGreatDoor
namespace Rows

/-- THE TIED CARD OF 'pentimentolaw21.CstrFaults'. -/
def cstrFaultsCard : Claim7 := { stood := { row := cstrFaultsRow, standIns := [], harness := (true, "4d0b5330fc47c1890070501044b3425fd1a5f5fced2e248d430e2b80321e19f3"), looks := true }, kinds := [], alts := [], laidByText := true, laidKinds := [.data, .data, .data, .sentinel, .sentinel], laidTests := true, laidLooks := .later }
def CstrFaultsCardSaid : Prop := Claim7.holds Tryz.pinned (.plain (OpenSpec.ofChange cstrFaultsSpec)) cstrFaultsCard

/-- THE SECOND FORM's CARD OF 'pentimentolaw21.CstrFaults'. -/
def cstrFaultsUptoCard : Claim7 := { stood := { row := cstrFaultsUptoRow, standIns := [], harness := (true, "4d0b5330fc47c1890070501044b3425fd1a5f5fced2e248d430e2b80321e19f3"), looks := true }, kinds := [], alts := [], laidByText := true, laidKinds := [.data, .data, .data, .sentinel, .sentinel], laidTests := true, laidLooks := .later }
def CstrFaultsUptoCardSaid : Prop := Claim7.holds Tryz.pinned (.plain (OpenSpec.upto cstrFaultsSpec)) cstrFaultsUptoCard
end Rows
end Go.Proofs.YtmpackidbgfoiaaGreatDoor
