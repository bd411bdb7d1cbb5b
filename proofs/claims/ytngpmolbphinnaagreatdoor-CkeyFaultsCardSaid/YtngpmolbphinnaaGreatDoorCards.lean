/-
  DERIVED. GIVEN WITH THE SEED: THE CARDS: each row of YtngpmolbphinnaaGreatDoorRows.lean that lists a variable, with what it lists TIED to the program's text (the seventh form; the later family's looks); each row that meets fmt, with fmt's text TOLD by the authors' own Lean function (tested against real Go, not proved from fmt's source: count such statements apart). THE CARD IS WHAT COUNTS. Prove the row's statement (the work); the ties are given (YtngpmolbphinnaaGreatDoorTie.lean); close each card by the builder's one call (the guide's Derived/Test/ToyasCard.lean, 'card_holds'). Laid BY PROGRAM, IN A SANDBOX (cutbox-door.mjs). By AI agents, Wed Nov 11 2026. No macro, syntax, notation, axiom, sorry.
-/
import Derived.Test.YtngpmolbphinnaaGreatDoorRows
import GoSem.ClaimSeven
namespace Go.Proofs.YtngpmolbphinnaaGreatDoor
namespace Rows

/-- THE TIED CARD OF 'pentimentolaw26.CkeyScans'. -/
def ckeyScansCard : Claim7 := { stood := { row := ckeyScansRow, standIns := [], harness := (true, "535e0ede9a21802ba97f39e6d66b1f0edbfb85a1e48a55f1d68270ae0cf43d94"), looks := true }, kinds := [], alts := [], laidByText := true, laidKinds := [.data, .data, .data, .sentinel, .sentinel], laidTests := true, laidLooks := .later }
def CkeyScansCardSaid : Prop := Claim7.holds Tryz.pinned (.plain (OpenSpec.ofChange ckeyScansSpec)) ckeyScansCard

/-- THE TIED CARD OF 'pentimentolaw26.CkeyBack'. -/
def ckeyBackCard : Claim7 := { stood := { row := ckeyBackRow, standIns := [], harness := (true, "535e0ede9a21802ba97f39e6d66b1f0edbfb85a1e48a55f1d68270ae0cf43d94"), looks := true }, kinds := [], alts := [], laidByText := true, laidKinds := [.data, .data, .data, .sentinel, .sentinel], laidTests := true, laidLooks := .later }
def CkeyBackCardSaid : Prop := Claim7.holds Tryz.pinned (.plain (OpenSpec.ofChange ckeyBackSpec)) ckeyBackCard

/-- THE TIED CARD OF 'pentimentolaw26.CkeySorts'. -/
def ckeySortsCard : Claim7 := { stood := { row := ckeySortsRow, standIns := [], harness := (true, "535e0ede9a21802ba97f39e6d66b1f0edbfb85a1e48a55f1d68270ae0cf43d94"), looks := true }, kinds := [], alts := [], laidByText := true, laidKinds := [.data, .data, .data, .sentinel, .sentinel], laidTests := true, laidLooks := .later }
def CkeySortsCardSaid : Prop := Claim7.holds Tryz.pinned (.plain (OpenSpec.ofChange ckeySortsSpec)) ckeySortsCard

/-- THE TIED CARD OF 'pentimentolaw26.CkeyNames'. -/
def ckeyNamesCard : Claim7 := { stood := { row := ckeyNamesRow, standIns := [], harness := (true, "535e0ede9a21802ba97f39e6d66b1f0edbfb85a1e48a55f1d68270ae0cf43d94"), looks := true }, kinds := [], alts := [], laidByText := true, laidKinds := [.data, .data, .data, .sentinel, .sentinel], laidTests := true, laidLooks := .later }
def CkeyNamesCardSaid : Prop := Claim7.holds Tryz.pinned (.plain (OpenSpec.ofChange ckeyNamesSpec)) ckeyNamesCard

/-- THE TIED CARD OF 'pentimentolaw26.CkeyFaults'. -/
def ckeyFaultsCard : Claim7 := { stood := { row := ckeyFaultsRow, standIns := [], harness := (true, "535e0ede9a21802ba97f39e6d66b1f0edbfb85a1e48a55f1d68270ae0cf43d94"), looks := true }, kinds := [], alts := [], laidByText := true, laidKinds := [.data, .data, .data, .sentinel, .sentinel], laidTests := true, laidLooks := .later }
def CkeyFaultsCardSaid : Prop := Claim7.holds Tryz.pinned (.plain (OpenSpec.ofChange ckeyFaultsSpec)) ckeyFaultsCard

/-- THE SECOND FORM's CARD OF 'pentimentolaw26.CkeyScans'. -/
def ckeyScansUptoCard : Claim7 := { stood := { row := ckeyScansUptoRow, standIns := [], harness := (true, "535e0ede9a21802ba97f39e6d66b1f0edbfb85a1e48a55f1d68270ae0cf43d94"), looks := true }, kinds := [], alts := [], laidByText := true, laidKinds := [.data, .data, .data, .sentinel, .sentinel], laidTests := true, laidLooks := .later }
def CkeyScansUptoCardSaid : Prop := Claim7.holds Tryz.pinned (.plain (OpenSpec.upto ckeyScansSpec)) ckeyScansUptoCard

/-- THE SECOND FORM's CARD OF 'pentimentolaw26.CkeyBack'. -/
def ckeyBackUptoCard : Claim7 := { stood := { row := ckeyBackUptoRow, standIns := [], harness := (true, "535e0ede9a21802ba97f39e6d66b1f0edbfb85a1e48a55f1d68270ae0cf43d94"), looks := true }, kinds := [], alts := [], laidByText := true, laidKinds := [.data, .data, .data, .sentinel, .sentinel], laidTests := true, laidLooks := .later }
def CkeyBackUptoCardSaid : Prop := Claim7.holds Tryz.pinned (.plain (OpenSpec.upto ckeyBackSpec)) ckeyBackUptoCard

/-- THE SECOND FORM's CARD OF 'pentimentolaw26.CkeySorts'. -/
def ckeySortsUptoCard : Claim7 := { stood := { row := ckeySortsUptoRow, standIns := [], harness := (true, "535e0ede9a21802ba97f39e6d66b1f0edbfb85a1e48a55f1d68270ae0cf43d94"), looks := true }, kinds := [], alts := [], laidByText := true, laidKinds := [.data, .data, .data, .sentinel, .sentinel], laidTests := true, laidLooks := .later }
def CkeySortsUptoCardSaid : Prop := Claim7.holds Tryz.pinned (.plain (OpenSpec.upto ckeySortsSpec)) ckeySortsUptoCard

/-- THE SECOND FORM's CARD OF 'pentimentolaw26.CkeyNames'. -/
def ckeyNamesUptoCard : Claim7 := { stood := { row := ckeyNamesUptoRow, standIns := [], harness := (true, "535e0ede9a21802ba97f39e6d66b1f0edbfb85a1e48a55f1d68270ae0cf43d94"), looks := true }, kinds := [], alts := [], laidByText := true, laidKinds := [.data, .data, .data, .sentinel, .sentinel], laidTests := true, laidLooks := .later }
def CkeyNamesUptoCardSaid : Prop := Claim7.holds Tryz.pinned (.plain (OpenSpec.upto ckeyNamesSpec)) ckeyNamesUptoCard

/-- THE SECOND FORM's CARD OF 'pentimentolaw26.CkeyFaults'. -/
def ckeyFaultsUptoCard : Claim7 := { stood := { row := ckeyFaultsUptoRow, standIns := [], harness := (true, "535e0ede9a21802ba97f39e6d66b1f0edbfb85a1e48a55f1d68270ae0cf43d94"), looks := true }, kinds := [], alts := [], laidByText := true, laidKinds := [.data, .data, .data, .sentinel, .sentinel], laidTests := true, laidLooks := .later }
def CkeyFaultsUptoCardSaid : Prop := Claim7.holds Tryz.pinned (.plain (OpenSpec.upto ckeyFaultsSpec)) ckeyFaultsUptoCard
end Rows
end Go.Proofs.YtngpmolbphinnaaGreatDoor
