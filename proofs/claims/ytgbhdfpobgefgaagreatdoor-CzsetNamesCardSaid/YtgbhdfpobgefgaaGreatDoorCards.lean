/-
  DERIVED. GIVEN WITH THE SEED: THE CARDS: each row of YtgbhdfpobgefgaaGreatDoorRows.lean that lists a variable, with what it lists TIED to the program's text (the seventh form; the later family's looks); each row that meets fmt, with fmt's text TOLD by the authors' own Lean function (tested against real Go, not proved from fmt's source: count such statements apart). THE CARD IS WHAT COUNTS. Prove the row's statement (the work); the ties are given (YtgbhdfpobgefgaaGreatDoorTie.lean); close each card by the builder's one call (the guide's Derived/Test/ToyasCard.lean, 'card_holds'). Laid BY PROGRAM, IN A SANDBOX (cutbox-door.mjs). By AI agents, Wed Nov 11 2026. No macro, syntax, notation, axiom, sorry.
-/
import Derived.Test.YtgbhdfpobgefgaaGreatDoorRows
import GoSem.ClaimSeven
namespace Go.Proofs.YtgbhdfpobgefgaaGreatDoor
namespace Rows

/-- THE TIED CARD OF 'pentimentolaw25.CzsetRanks'. -/
def czsetRanksCard : Claim7 := { stood := { row := czsetRanksRow, standIns := [], harness := (true, "a6f74aa9b2a2d89a712104ad5a156bcbe2c3f2b276097d9c383e740f1db65167"), looks := true }, kinds := [], alts := [], laidByText := true, laidKinds := [.data, .data, .data, .sentinel, .sentinel], laidTests := true, laidLooks := .later }
def CzsetRanksCardSaid : Prop := Claim7.holds Tryz.pinned (.plain (OpenSpec.ofChange czsetRanksSpec)) czsetRanksCard

/-- THE TIED CARD OF 'pentimentolaw25.CzsetNames'. -/
def czsetNamesCard : Claim7 := { stood := { row := czsetNamesRow, standIns := [], harness := (true, "a6f74aa9b2a2d89a712104ad5a156bcbe2c3f2b276097d9c383e740f1db65167"), looks := true }, kinds := [], alts := [], laidByText := true, laidKinds := [.data, .data, .data, .sentinel, .sentinel], laidTests := true, laidLooks := .later }
def CzsetNamesCardSaid : Prop := Claim7.holds Tryz.pinned (.plain (OpenSpec.ofChange czsetNamesSpec)) czsetNamesCard

/-- THE TIED CARD OF 'pentimentolaw25.CzsetFaults'. -/
def czsetFaultsCard : Claim7 := { stood := { row := czsetFaultsRow, standIns := [], harness := (true, "a6f74aa9b2a2d89a712104ad5a156bcbe2c3f2b276097d9c383e740f1db65167"), looks := true }, kinds := [], alts := [], laidByText := true, laidKinds := [.data, .data, .data, .sentinel, .sentinel], laidTests := true, laidLooks := .later }
def CzsetFaultsCardSaid : Prop := Claim7.holds Tryz.pinned (.plain (OpenSpec.ofChange czsetFaultsSpec)) czsetFaultsCard

/-- THE SECOND FORM's CARD OF 'pentimentolaw25.CzsetRanks'. -/
def czsetRanksUptoCard : Claim7 := { stood := { row := czsetRanksUptoRow, standIns := [], harness := (true, "a6f74aa9b2a2d89a712104ad5a156bcbe2c3f2b276097d9c383e740f1db65167"), looks := true }, kinds := [], alts := [], laidByText := true, laidKinds := [.data, .data, .data, .sentinel, .sentinel], laidTests := true, laidLooks := .later }
def CzsetRanksUptoCardSaid : Prop := Claim7.holds Tryz.pinned (.plain (OpenSpec.upto czsetRanksSpec)) czsetRanksUptoCard

/-- THE SECOND FORM's CARD OF 'pentimentolaw25.CzsetNames'. -/
def czsetNamesUptoCard : Claim7 := { stood := { row := czsetNamesUptoRow, standIns := [], harness := (true, "a6f74aa9b2a2d89a712104ad5a156bcbe2c3f2b276097d9c383e740f1db65167"), looks := true }, kinds := [], alts := [], laidByText := true, laidKinds := [.data, .data, .data, .sentinel, .sentinel], laidTests := true, laidLooks := .later }
def CzsetNamesUptoCardSaid : Prop := Claim7.holds Tryz.pinned (.plain (OpenSpec.upto czsetNamesSpec)) czsetNamesUptoCard

/-- THE SECOND FORM's CARD OF 'pentimentolaw25.CzsetFaults'. -/
def czsetFaultsUptoCard : Claim7 := { stood := { row := czsetFaultsUptoRow, standIns := [], harness := (true, "a6f74aa9b2a2d89a712104ad5a156bcbe2c3f2b276097d9c383e740f1db65167"), looks := true }, kinds := [], alts := [], laidByText := true, laidKinds := [.data, .data, .data, .sentinel, .sentinel], laidTests := true, laidLooks := .later }
def CzsetFaultsUptoCardSaid : Prop := Claim7.holds Tryz.pinned (.plain (OpenSpec.upto czsetFaultsSpec)) czsetFaultsUptoCard
end Rows
end Go.Proofs.YtgbhdfpobgefgaaGreatDoor
