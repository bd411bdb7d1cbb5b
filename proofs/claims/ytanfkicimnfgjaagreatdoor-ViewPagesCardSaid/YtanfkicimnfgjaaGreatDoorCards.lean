/-
  DERIVED. GIVEN WITH THE SEED: THE CARDS: each row of YtanfkicimnfgjaaGreatDoorRows.lean that lists a variable, with what it lists TIED to the program's text (the seventh form; the later family's looks); each row that meets fmt, with fmt's text TOLD by the authors' own Lean function (tested against real Go, not proved from fmt's source: count such statements apart). THE CARD IS WHAT COUNTS. Prove the row's statement (the work); the ties are given (YtanfkicimnfgjaaGreatDoorTie.lean); close each card by the builder's one call (the guide's Derived/Test/ToyasCard.lean, 'card_holds'). Laid BY PROGRAM, IN A SANDBOX (cutbox-door.mjs). By AI agents, Wed Nov 11 2026. No macro, syntax, notation, axiom, sorry.
-/
import Derived.Test.YtanfkicimnfgjaaGreatDoorRows
import GoSem.ClaimSeven
namespace Go.Proofs.YtanfkicimnfgjaaGreatDoor
namespace Rows

/-- THE TIED CARD OF 'pentimentolaw20.ViewPages'. -/
def viewPagesCard : Claim7 := { stood := { row := viewPagesRow, standIns := [], harness := (true, "2c34527c54638f88219cf2c85bf04353cbda7f548ede4e86ba3315dc97465cea"), looks := true }, kinds := [], alts := [], laidByText := true, laidKinds := [.data, .data, .data, .sentinel, .sentinel], laidTests := true, laidLooks := .later }
def ViewPagesCardSaid : Prop := Claim7.holds Tryz.pinned (.plain (OpenSpec.ofChange viewPagesSpec)) viewPagesCard

/-- THE SECOND FORM's CARD OF 'pentimentolaw20.ViewPages'. -/
def viewPagesUptoCard : Claim7 := { stood := { row := viewPagesUptoRow, standIns := [], harness := (true, "2c34527c54638f88219cf2c85bf04353cbda7f548ede4e86ba3315dc97465cea"), looks := true }, kinds := [], alts := [], laidByText := true, laidKinds := [.data, .data, .data, .sentinel, .sentinel], laidTests := true, laidLooks := .later }
def ViewPagesUptoCardSaid : Prop := Claim7.holds Tryz.pinned (.plain (OpenSpec.upto viewPagesSpec)) viewPagesUptoCard
end Rows
end Go.Proofs.YtanfkicimnfgjaaGreatDoor
