/-
  DERIVED. GIVEN WITH THE SEED: THE CARDS: each row of YtoljdfjnannakaaGreatDoorRows.lean that lists a variable, with what it lists TIED to the program's text (the seventh form; the later family's looks); each row that meets fmt, with fmt's text TOLD by the authors' own Lean function (tested against real Go, not proved from fmt's source: count such statements apart). THE CARD IS WHAT COUNTS. Prove the row's statement (the work); the ties are given (YtoljdfjnannakaaGreatDoorTie.lean); close each card by the builder's one call (the guide's Derived/Test/ToyasCard.lean, 'card_holds'). Laid BY PROGRAM, IN A SANDBOX (cutbox-door.mjs). By AI agents, Wed Nov 11 2026. No macro, syntax, notation, axiom, sorry.
-/
import Derived.Test.YtoljdfjnannakaaGreatDoorRows
import GoSem.ClaimSeven
namespace Go.Proofs.YtoljdfjnannakaaGreatDoor
namespace Rows

/-- THE TIED CARD OF 'pentimentolaw24.CsetMoves'. -/
def csetMovesCard : Claim7 := { stood := { row := csetMovesRow, standIns := [], harness := (true, "a11841435803f8cbbf2a1422efab7ead578b9dc3b3a1c63778305c0e7269ffad"), looks := true }, kinds := [], alts := [], laidByText := true, laidKinds := [.data, .data, .data, .sentinel, .sentinel], laidTests := true, laidLooks := .later }
def CsetMovesCardSaid : Prop := Claim7.holds Tryz.pinned (.plain (OpenSpec.ofChange csetMovesSpec)) csetMovesCard

/-- THE TIED CARD OF 'pentimentolaw24.CsetNames'. -/
def csetNamesCard : Claim7 := { stood := { row := csetNamesRow, standIns := [], harness := (true, "a11841435803f8cbbf2a1422efab7ead578b9dc3b3a1c63778305c0e7269ffad"), looks := true }, kinds := [], alts := [], laidByText := true, laidKinds := [.data, .data, .data, .sentinel, .sentinel], laidTests := true, laidLooks := .later }
def CsetNamesCardSaid : Prop := Claim7.holds Tryz.pinned (.plain (OpenSpec.ofChange csetNamesSpec)) csetNamesCard

/-- THE TIED CARD OF 'pentimentolaw24.CsetFaults'. -/
def csetFaultsCard : Claim7 := { stood := { row := csetFaultsRow, standIns := [], harness := (true, "a11841435803f8cbbf2a1422efab7ead578b9dc3b3a1c63778305c0e7269ffad"), looks := true }, kinds := [], alts := [], laidByText := true, laidKinds := [.data, .data, .data, .sentinel, .sentinel], laidTests := true, laidLooks := .later }
def CsetFaultsCardSaid : Prop := Claim7.holds Tryz.pinned (.plain (OpenSpec.ofChange csetFaultsSpec)) csetFaultsCard

/-- THE SECOND FORM's CARD OF 'pentimentolaw24.CsetMoves'. -/
def csetMovesUptoCard : Claim7 := { stood := { row := csetMovesUptoRow, standIns := [], harness := (true, "a11841435803f8cbbf2a1422efab7ead578b9dc3b3a1c63778305c0e7269ffad"), looks := true }, kinds := [], alts := [], laidByText := true, laidKinds := [.data, .data, .data, .sentinel, .sentinel], laidTests := true, laidLooks := .later }
def CsetMovesUptoCardSaid : Prop := Claim7.holds Tryz.pinned (.plain (OpenSpec.upto csetMovesSpec)) csetMovesUptoCard

/-- THE SECOND FORM's CARD OF 'pentimentolaw24.CsetNames'. -/
def csetNamesUptoCard : Claim7 := { stood := { row := csetNamesUptoRow, standIns := [], harness := (true, "a11841435803f8cbbf2a1422efab7ead578b9dc3b3a1c63778305c0e7269ffad"), looks := true }, kinds := [], alts := [], laidByText := true, laidKinds := [.data, .data, .data, .sentinel, .sentinel], laidTests := true, laidLooks := .later }
def CsetNamesUptoCardSaid : Prop := Claim7.holds Tryz.pinned (.plain (OpenSpec.upto csetNamesSpec)) csetNamesUptoCard

/-- THE SECOND FORM's CARD OF 'pentimentolaw24.CsetFaults'. -/
def csetFaultsUptoCard : Claim7 := { stood := { row := csetFaultsUptoRow, standIns := [], harness := (true, "a11841435803f8cbbf2a1422efab7ead578b9dc3b3a1c63778305c0e7269ffad"), looks := true }, kinds := [], alts := [], laidByText := true, laidKinds := [.data, .data, .data, .sentinel, .sentinel], laidTests := true, laidLooks := .later }
def CsetFaultsUptoCardSaid : Prop := Claim7.holds Tryz.pinned (.plain (OpenSpec.upto csetFaultsSpec)) csetFaultsUptoCard
end Rows
end Go.Proofs.YtoljdfjnannakaaGreatDoor
