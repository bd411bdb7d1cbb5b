/-
  DERIVED. GIVEN WITH THE SEED: THE CARDS: each row of YtffnhfkkochnhaaGreatDoorRows.lean that lists a variable, with what it lists TIED to the program's text (the seventh form; the later family's looks); each row that meets fmt, with fmt's text TOLD by the authors' own Lean function (tested against real Go, not proved from fmt's source: count such statements apart). THE CARD IS WHAT COUNTS. Prove the row's statement (the work); the ties are given (YtffnhfkkochnhaaGreatDoorTie.lean); close each card by the builder's one call (the guide's Derived/Test/ToyasCard.lean, 'card_holds'). Laid BY PROGRAM, IN A SANDBOX (cutbox-door.mjs). By AI agents, Wed Nov 11 2026. No macro, syntax, notation, axiom, sorry.
-/
import Derived.Test.YtffnhfkkochnhaaGreatDoorRows
import GoSem.ClaimSeven
namespace Go.Proofs.YtffnhfkkochnhaaGreatDoor
namespace Rows

/-- THE TIED CARD OF 'pentimentolaw22.ChashBack'. -/
def chashBackCard : Claim7 := { stood := { row := chashBackRow, standIns := [], harness := (true, "b092f6d9aa521c2c8bdc3c07d904c8c71ade0c7a5e6f943431f89f65955e07f3"), looks := true }, kinds := [], alts := [], laidByText := true, laidKinds := [.data, .data, .data, .sentinel, .sentinel], laidTests := true, laidLooks := .later }
def ChashBackCardSaid : Prop := Claim7.holds Tryz.pinned (.plain (OpenSpec.ofChange chashBackSpec)) chashBackCard

/-- THE TIED CARD OF 'pentimentolaw22.ChashNames'. -/
def chashNamesCard : Claim7 := { stood := { row := chashNamesRow, standIns := [], harness := (true, "b092f6d9aa521c2c8bdc3c07d904c8c71ade0c7a5e6f943431f89f65955e07f3"), looks := true }, kinds := [], alts := [], laidByText := true, laidKinds := [.data, .data, .data, .sentinel, .sentinel], laidTests := true, laidLooks := .later }
def ChashNamesCardSaid : Prop := Claim7.holds Tryz.pinned (.plain (OpenSpec.ofChange chashNamesSpec)) chashNamesCard

/-- THE TIED CARD OF 'pentimentolaw22.ChashFaults'. -/
def chashFaultsCard : Claim7 := { stood := { row := chashFaultsRow, standIns := [], harness := (true, "b092f6d9aa521c2c8bdc3c07d904c8c71ade0c7a5e6f943431f89f65955e07f3"), looks := true }, kinds := [], alts := [], laidByText := true, laidKinds := [.data, .data, .data, .sentinel, .sentinel], laidTests := true, laidLooks := .later }
def ChashFaultsCardSaid : Prop := Claim7.holds Tryz.pinned (.plain (OpenSpec.ofChange chashFaultsSpec)) chashFaultsCard

/-- THE SECOND FORM's CARD OF 'pentimentolaw22.ChashBack'. -/
def chashBackUptoCard : Claim7 := { stood := { row := chashBackUptoRow, standIns := [], harness := (true, "b092f6d9aa521c2c8bdc3c07d904c8c71ade0c7a5e6f943431f89f65955e07f3"), looks := true }, kinds := [], alts := [], laidByText := true, laidKinds := [.data, .data, .data, .sentinel, .sentinel], laidTests := true, laidLooks := .later }
def ChashBackUptoCardSaid : Prop := Claim7.holds Tryz.pinned (.plain (OpenSpec.upto chashBackSpec)) chashBackUptoCard

/-- THE SECOND FORM's CARD OF 'pentimentolaw22.ChashNames'. -/
def chashNamesUptoCard : Claim7 := { stood := { row := chashNamesUptoRow, standIns := [], harness := (true, "b092f6d9aa521c2c8bdc3c07d904c8c71ade0c7a5e6f943431f89f65955e07f3"), looks := true }, kinds := [], alts := [], laidByText := true, laidKinds := [.data, .data, .data, .sentinel, .sentinel], laidTests := true, laidLooks := .later }
def ChashNamesUptoCardSaid : Prop := Claim7.holds Tryz.pinned (.plain (OpenSpec.upto chashNamesSpec)) chashNamesUptoCard

/-- THE SECOND FORM's CARD OF 'pentimentolaw22.ChashFaults'. -/
def chashFaultsUptoCard : Claim7 := { stood := { row := chashFaultsUptoRow, standIns := [], harness := (true, "b092f6d9aa521c2c8bdc3c07d904c8c71ade0c7a5e6f943431f89f65955e07f3"), looks := true }, kinds := [], alts := [], laidByText := true, laidKinds := [.data, .data, .data, .sentinel, .sentinel], laidTests := true, laidLooks := .later }
def ChashFaultsUptoCardSaid : Prop := Claim7.holds Tryz.pinned (.plain (OpenSpec.upto chashFaultsSpec)) chashFaultsUptoCard
end Rows
end Go.Proofs.YtffnhfkkochnhaaGreatDoor
