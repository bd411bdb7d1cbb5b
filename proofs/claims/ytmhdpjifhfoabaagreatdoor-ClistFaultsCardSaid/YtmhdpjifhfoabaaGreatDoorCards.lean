/-
  DERIVED. GIVEN WITH THE SEED: THE CARDS: each row of YtmhdpjifhfoabaaGreatDoorRows.lean that lists a variable, with what it lists TIED to the program's text (the seventh form; the later family's looks); each row that meets fmt, with fmt's text TOLD by the authors' own Lean function (tested against real Go, not proved from fmt's source: count such statements apart). THE CARD IS WHAT COUNTS. Prove the row's statement (the work); the ties are given (YtmhdpjifhfoabaaGreatDoorTie.lean); close each card by the builder's one call (the guide's Derived/Test/ToyasCard.lean, 'card_holds'). Laid BY PROGRAM, IN A SANDBOX (cutbox-door.mjs). By AI agents, Wed Nov 11 2026. No macro, syntax, notation, axiom, sorry.
-/
import Derived.Test.YtmhdpjifhfoabaaGreatDoorRows
import GoSem.ClaimSeven
namespace Go.Proofs.YtmhdpjifhfoabaaGreatDoor
namespace Rows

/-- THE TIED CARD OF 'pentimentolaw23.ClistRing'. -/
def clistRingCard : Claim7 := { stood := { row := clistRingRow, standIns := [], harness := (true, "857d6df4644a2cac7c86789e1ccb3bb04918412fb53365b4f824e596b5996805"), looks := true }, kinds := [], alts := [], laidByText := true, laidKinds := [.data, .data, .data, .sentinel, .sentinel], laidTests := true, laidLooks := .later }
def ClistRingCardSaid : Prop := Claim7.holds Tryz.pinned (.plain (OpenSpec.ofChange clistRingSpec)) clistRingCard

/-- THE TIED CARD OF 'pentimentolaw23.ClistNames'. -/
def clistNamesCard : Claim7 := { stood := { row := clistNamesRow, standIns := [], harness := (true, "857d6df4644a2cac7c86789e1ccb3bb04918412fb53365b4f824e596b5996805"), looks := true }, kinds := [], alts := [], laidByText := true, laidKinds := [.data, .data, .data, .sentinel, .sentinel], laidTests := true, laidLooks := .later }
def ClistNamesCardSaid : Prop := Claim7.holds Tryz.pinned (.plain (OpenSpec.ofChange clistNamesSpec)) clistNamesCard

/-- THE TIED CARD OF 'pentimentolaw23.ClistFaults'. -/
def clistFaultsCard : Claim7 := { stood := { row := clistFaultsRow, standIns := [], harness := (true, "857d6df4644a2cac7c86789e1ccb3bb04918412fb53365b4f824e596b5996805"), looks := true }, kinds := [], alts := [], laidByText := true, laidKinds := [.data, .data, .data, .sentinel, .sentinel], laidTests := true, laidLooks := .later }
def ClistFaultsCardSaid : Prop := Claim7.holds Tryz.pinned (.plain (OpenSpec.ofChange clistFaultsSpec)) clistFaultsCard

/-- THE SECOND FORM's CARD OF 'pentimentolaw23.ClistRing'. -/
def clistRingUptoCard : Claim7 := { stood := { row := clistRingUptoRow, standIns := [], harness := (true, "857d6df4644a2cac7c86789e1ccb3bb04918412fb53365b4f824e596b5996805"), looks := true }, kinds := [], alts := [], laidByText := true, laidKinds := [.data, .data, .data, .sentinel, .sentinel], laidTests := true, laidLooks := .later }
def ClistRingUptoCardSaid : Prop := Claim7.holds Tryz.pinned (.plain (OpenSpec.upto clistRingSpec)) clistRingUptoCard

/-- THE SECOND FORM's CARD OF 'pentimentolaw23.ClistNames'. -/
def clistNamesUptoCard : Claim7 := { stood := { row := clistNamesUptoRow, standIns := [], harness := (true, "857d6df4644a2cac7c86789e1ccb3bb04918412fb53365b4f824e596b5996805"), looks := true }, kinds := [], alts := [], laidByText := true, laidKinds := [.data, .data, .data, .sentinel, .sentinel], laidTests := true, laidLooks := .later }
def ClistNamesUptoCardSaid : Prop := Claim7.holds Tryz.pinned (.plain (OpenSpec.upto clistNamesSpec)) clistNamesUptoCard

/-- THE SECOND FORM's CARD OF 'pentimentolaw23.ClistFaults'. -/
def clistFaultsUptoCard : Claim7 := { stood := { row := clistFaultsUptoRow, standIns := [], harness := (true, "857d6df4644a2cac7c86789e1ccb3bb04918412fb53365b4f824e596b5996805"), looks := true }, kinds := [], alts := [], laidByText := true, laidKinds := [.data, .data, .data, .sentinel, .sentinel], laidTests := true, laidLooks := .later }
def ClistFaultsUptoCardSaid : Prop := Claim7.holds Tryz.pinned (.plain (OpenSpec.upto clistFaultsSpec)) clistFaultsUptoCard
end Rows
end Go.Proofs.YtmhdpjifhfoabaaGreatDoor
