/-
  DERIVED. GIVEN WITH THE SEED: THE CARDS: each row of YtkhggadoagdhfaaGreatDoorRows.lean that lists a variable, with what it lists TIED to the program's text (the seventh form; the later family's looks); each row that meets fmt, with fmt's text TOLD by the authors' own Lean function (tested against real Go, not proved from fmt's source: count such statements apart). THE CARD IS WHAT COUNTS. Prove the row's statement (the work); the ties are given (YtkhggadoagdhfaaGreatDoorTie.lean); close each card by the builder's one call (the guide's Derived/Test/ToyasCard.lean, 'card_holds'). Laid BY PROGRAM, IN A SANDBOX (cutbox-door.mjs). By AI agents, Wed Nov 11 2026. No macro, syntax, notation, axiom, sorry.
-/
import Derived.Test.YtkhggadoagdhfaaGreatDoorRows
import GoSem.ClaimSeven
namespace Go.Proofs.YtkhggadoagdhfaaGreatDoor
namespace Rows

/-- THE TIED CARD OF 'pentimentolaw21.CstrCounts'. -/
def cstrCountsCard : Claim7 := { stood := { row := cstrCountsRow, standIns := [], harness := (true, "5833b9cc723535eb371d91fb97a60c2861ee55bf9291154dbf210066f18b3b0d"), looks := true }, kinds := [], alts := [], laidByText := true, laidKinds := [.data, .data, .data, .sentinel, .sentinel], laidTests := true, laidLooks := .later }
def CstrCountsCardSaid : Prop := Claim7.holds Tryz.pinned (.plain (OpenSpec.ofChange cstrCountsSpec)) cstrCountsCard

/-- THE TIED CARD OF 'pentimentolaw21.CstrLife'. -/
def cstrLifeCard : Claim7 := { stood := { row := cstrLifeRow, standIns := [], harness := (true, "5833b9cc723535eb371d91fb97a60c2861ee55bf9291154dbf210066f18b3b0d"), looks := true }, kinds := [], alts := [], laidByText := true, laidKinds := [.data, .data, .data, .sentinel, .sentinel], laidTests := true, laidLooks := .later }
def CstrLifeCardSaid : Prop := Claim7.holds Tryz.pinned (.plain (OpenSpec.ofChange cstrLifeSpec)) cstrLifeCard

/-- THE SECOND FORM's CARD OF 'pentimentolaw21.CstrCounts'. -/
def cstrCountsUptoCard : Claim7 := { stood := { row := cstrCountsUptoRow, standIns := [], harness := (true, "5833b9cc723535eb371d91fb97a60c2861ee55bf9291154dbf210066f18b3b0d"), looks := true }, kinds := [], alts := [], laidByText := true, laidKinds := [.data, .data, .data, .sentinel, .sentinel], laidTests := true, laidLooks := .later }
def CstrCountsUptoCardSaid : Prop := Claim7.holds Tryz.pinned (.plain (OpenSpec.upto cstrCountsSpec)) cstrCountsUptoCard

/-- THE SECOND FORM's CARD OF 'pentimentolaw21.CstrLife'. -/
def cstrLifeUptoCard : Claim7 := { stood := { row := cstrLifeUptoRow, standIns := [], harness := (true, "5833b9cc723535eb371d91fb97a60c2861ee55bf9291154dbf210066f18b3b0d"), looks := true }, kinds := [], alts := [], laidByText := true, laidKinds := [.data, .data, .data, .sentinel, .sentinel], laidTests := true, laidLooks := .later }
def CstrLifeUptoCardSaid : Prop := Claim7.holds Tryz.pinned (.plain (OpenSpec.upto cstrLifeSpec)) cstrLifeUptoCard
end Rows
end Go.Proofs.YtkhggadoagdhfaaGreatDoor
