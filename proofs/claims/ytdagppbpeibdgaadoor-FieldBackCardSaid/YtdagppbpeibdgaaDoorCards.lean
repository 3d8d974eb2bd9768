/-
  DERIVED. GIVEN WITH THE SEED: THE CARDS: each row of YtdagppbpeibdgaaDoorRows.lean that lists a variable, with what it lists TIED to the program's text (the seventh form; the later family's looks); each row that meets fmt, with fmt's text TOLD by the authors' own Lean function (tested against real Go, not proved from fmt's source: count such statements apart). THE CARD IS WHAT COUNTS. Prove the row's statement (the work); the ties are given (YtdagppbpeibdgaaDoorTie.lean); close each card by the builder's one call (the guide's Derived/Test/ToyasCard.lean, 'card_holds'). Laid BY PROGRAM, IN A SANDBOX (cutbox-door.mjs). By AI agents, Wed Nov 11 2026. No macro, syntax, notation, axiom, sorry.
-/
import Derived.Test.YtdagppbpeibdgaaDoorRows
import GoSem.ClaimSeven
namespace Go.Proofs.YtdagppbpeibdgaaDoor
namespace Rows

/-- THE TIED CARD OF 'conduitlaw6.FieldBack'. -/
def fieldBackCard : Claim7 := { stood := { row := fieldBackRow, standIns := [], harness := (true, "bbb58616d0757d3aad75a0a406577b75a8507bf37663779aa3e917342f17ddf4"), looks := true }, kinds := [], alts := [], laidByText := true, laidKinds := [.data, .pinned], laidTests := true, laidLooks := .later }
def FieldBackCardSaid : Prop := Claim7.holds Tryd.pinned (.plain (OpenSpec.ofChange fieldBackSpec)) fieldBackCard

/-- THE TIED CARD OF 'conduitlaw6.FieldBytes'. -/
def fieldBytesCard : Claim7 := { stood := { row := fieldBytesRow, standIns := [], harness := (true, "bbb58616d0757d3aad75a0a406577b75a8507bf37663779aa3e917342f17ddf4"), looks := true }, kinds := [], alts := [], laidByText := true, laidKinds := [.data, .pinned], laidTests := true, laidLooks := .later }
def FieldBytesCardSaid : Prop := Claim7.holds Tryd.pinned (.plain (OpenSpec.ofChange fieldBytesSpec)) fieldBytesCard

/-- THE TIED CARD OF 'conduitlaw6.FieldLimits'. -/
def fieldLimitsCard : Claim7 := { stood := { row := fieldLimitsRow, standIns := [], harness := (true, "bbb58616d0757d3aad75a0a406577b75a8507bf37663779aa3e917342f17ddf4"), looks := true }, kinds := [], alts := [], laidByText := true, laidKinds := [.data, .pinned], laidTests := true, laidLooks := .later }
def FieldLimitsCardSaid : Prop := Claim7.holds Tryd.pinned (.plain (OpenSpec.ofChange fieldLimitsSpec)) fieldLimitsCard

/-- THE TIED CARD OF 'conduitlaw6.FieldCases'. -/
def fieldCasesCard : Claim7 := { stood := { row := fieldCasesRow, standIns := [], harness := (true, "bbb58616d0757d3aad75a0a406577b75a8507bf37663779aa3e917342f17ddf4"), looks := true }, kinds := [], alts := [], laidByText := true, laidKinds := [.data, .pinned], laidTests := true, laidLooks := .later }
def FieldCasesCardSaid : Prop := Claim7.holds Tryd.pinned (.plain (OpenSpec.ofChange fieldCasesSpec)) fieldCasesCard

/-- THE TIED CARD OF 'conduitlaw7.StartTells'. -/
def startTellsCard : Claim7 := { stood := { row := startTellsRow, standIns := [], harness := (true, "bbb58616d0757d3aad75a0a406577b75a8507bf37663779aa3e917342f17ddf4"), looks := true }, kinds := [], alts := [], laidByText := true, laidKinds := [.data, .data, .data, .data, .handle, .pinned], laidTests := true, laidLooks := .later }
def StartTellsCardSaid : Prop := Claim7.holds Tryd.pinned (.plain (OpenSpec.ofChange startTellsSpec)) startTellsCard

/-- THE TIED CARD OF 'conduitlaw7.StartBack'. -/
def startBackCard : Claim7 := { stood := { row := startBackRow, standIns := [], harness := (true, "bbb58616d0757d3aad75a0a406577b75a8507bf37663779aa3e917342f17ddf4"), looks := true }, kinds := [], alts := [], laidByText := true, laidKinds := [.data, .data, .data, .data, .handle, .pinned], laidTests := true, laidLooks := .later }
def StartBackCardSaid : Prop := Claim7.holds Tryd.pinned (.plain (OpenSpec.ofChange startBackSpec)) startBackCard

/-- THE TIED CARD OF 'conduitlaw7.StartTargets'. -/
def startTargetsCard : Claim7 := { stood := { row := startTargetsRow, standIns := [], harness := (true, "bbb58616d0757d3aad75a0a406577b75a8507bf37663779aa3e917342f17ddf4"), looks := true }, kinds := [], alts := [], laidByText := true, laidKinds := [.data, .data, .data, .data, .handle, .pinned], laidTests := true, laidLooks := .later }
def StartTargetsCardSaid : Prop := Claim7.holds Tryd.pinned (.plain (OpenSpec.ofChange startTargetsSpec)) startTargetsCard

/-- THE TIED CARD OF 'conduitlaw7.StartLimits'. -/
def startLimitsCard : Claim7 := { stood := { row := startLimitsRow, standIns := [], harness := (true, "bbb58616d0757d3aad75a0a406577b75a8507bf37663779aa3e917342f17ddf4"), looks := true }, kinds := [], alts := [], laidByText := true, laidKinds := [.data, .data, .data, .data, .handle, .pinned], laidTests := true, laidLooks := .later }
def StartLimitsCardSaid : Prop := Claim7.holds Tryd.pinned (.plain (OpenSpec.ofChange startLimitsSpec)) startLimitsCard

/-- THE TIED CARD OF 'conduitlaw7.StartVersions'. -/
def startVersionsCard : Claim7 := { stood := { row := startVersionsRow, standIns := [], harness := (true, "bbb58616d0757d3aad75a0a406577b75a8507bf37663779aa3e917342f17ddf4"), looks := true }, kinds := [], alts := [], laidByText := true, laidKinds := [.data, .data, .data, .data, .handle, .pinned], laidTests := true, laidLooks := .later }
def StartVersionsCardSaid : Prop := Claim7.holds Tryd.pinned (.plain (OpenSpec.ofChange startVersionsSpec)) startVersionsCard

/-- THE TIED CARD OF 'conduitlaw6.FieldTells'. -/
def fieldTellsCard : Claim7 := { stood := { row := fieldTellsRow, standIns := [], harness := (true, "bbb58616d0757d3aad75a0a406577b75a8507bf37663779aa3e917342f17ddf4"), looks := true }, kinds := [], alts := [], laidByText := true, laidKinds := [.data, .handle, .pinned], laidTests := true, laidLooks := .later }
def FieldTellsCardSaid : Prop := Claim7.holds Tryd.pinned (.plain (OpenSpec.ofChange fieldTellsSpec)) fieldTellsCard

/-- THE SECOND FORM's CARD OF 'conduitlaw6.FieldBack'. -/
def fieldBackUptoCard : Claim7 := { stood := { row := fieldBackUptoRow, standIns := [], harness := (true, "bbb58616d0757d3aad75a0a406577b75a8507bf37663779aa3e917342f17ddf4"), looks := true }, kinds := [], alts := [], laidByText := true, laidKinds := [.data, .pinned], laidTests := true, laidLooks := .later }
def FieldBackUptoCardSaid : Prop := Claim7.holds Tryd.pinned (.plain (OpenSpec.upto fieldBackSpec)) fieldBackUptoCard

/-- THE SECOND FORM's CARD OF 'conduitlaw6.FieldBytes'. -/
def fieldBytesUptoCard : Claim7 := { stood := { row := fieldBytesUptoRow, standIns := [], harness := (true, "bbb58616d0757d3aad75a0a406577b75a8507bf37663779aa3e917342f17ddf4"), looks := true }, kinds := [], alts := [], laidByText := true, laidKinds := [.data, .pinned], laidTests := true, laidLooks := .later }
def FieldBytesUptoCardSaid : Prop := Claim7.holds Tryd.pinned (.plain (OpenSpec.upto fieldBytesSpec)) fieldBytesUptoCard

/-- THE SECOND FORM's CARD OF 'conduitlaw6.FieldLimits'. -/
def fieldLimitsUptoCard : Claim7 := { stood := { row := fieldLimitsUptoRow, standIns := [], harness := (true, "bbb58616d0757d3aad75a0a406577b75a8507bf37663779aa3e917342f17ddf4"), looks := true }, kinds := [], alts := [], laidByText := true, laidKinds := [.data, .pinned], laidTests := true, laidLooks := .later }
def FieldLimitsUptoCardSaid : Prop := Claim7.holds Tryd.pinned (.plain (OpenSpec.upto fieldLimitsSpec)) fieldLimitsUptoCard

/-- THE SECOND FORM's CARD OF 'conduitlaw6.FieldCases'. -/
def fieldCasesUptoCard : Claim7 := { stood := { row := fieldCasesUptoRow, standIns := [], harness := (true, "bbb58616d0757d3aad75a0a406577b75a8507bf37663779aa3e917342f17ddf4"), looks := true }, kinds := [], alts := [], laidByText := true, laidKinds := [.data, .pinned], laidTests := true, laidLooks := .later }
def FieldCasesUptoCardSaid : Prop := Claim7.holds Tryd.pinned (.plain (OpenSpec.upto fieldCasesSpec)) fieldCasesUptoCard

/-- THE SECOND FORM's CARD OF 'conduitlaw7.StartTells'. -/
def startTellsUptoCard : Claim7 := { stood := { row := startTellsUptoRow, standIns := [], harness := (true, "bbb58616d0757d3aad75a0a406577b75a8507bf37663779aa3e917342f17ddf4"), looks := true }, kinds := [], alts := [], laidByText := true, laidKinds := [.data, .data, .data, .data, .handle, .pinned], laidTests := true, laidLooks := .later }
def StartTellsUptoCardSaid : Prop := Claim7.holds Tryd.pinned (.plain (OpenSpec.upto startTellsSpec)) startTellsUptoCard

/-- THE SECOND FORM's CARD OF 'conduitlaw7.StartBack'. -/
def startBackUptoCard : Claim7 := { stood := { row := startBackUptoRow, standIns := [], harness := (true, "bbb58616d0757d3aad75a0a406577b75a8507bf37663779aa3e917342f17ddf4"), looks := true }, kinds := [], alts := [], laidByText := true, laidKinds := [.data, .data, .data, .data, .handle, .pinned], laidTests := true, laidLooks := .later }
def StartBackUptoCardSaid : Prop := Claim7.holds Tryd.pinned (.plain (OpenSpec.upto startBackSpec)) startBackUptoCard

/-- THE SECOND FORM's CARD OF 'conduitlaw7.StartTargets'. -/
def startTargetsUptoCard : Claim7 := { stood := { row := startTargetsUptoRow, standIns := [], harness := (true, "bbb58616d0757d3aad75a0a406577b75a8507bf37663779aa3e917342f17ddf4"), looks := true }, kinds := [], alts := [], laidByText := true, laidKinds := [.data, .data, .data, .data, .handle, .pinned], laidTests := true, laidLooks := .later }
def StartTargetsUptoCardSaid : Prop := Claim7.holds Tryd.pinned (.plain (OpenSpec.upto startTargetsSpec)) startTargetsUptoCard

/-- THE SECOND FORM's CARD OF 'conduitlaw7.StartLimits'. -/
def startLimitsUptoCard : Claim7 := { stood := { row := startLimitsUptoRow, standIns := [], harness := (true, "bbb58616d0757d3aad75a0a406577b75a8507bf37663779aa3e917342f17ddf4"), looks := true }, kinds := [], alts := [], laidByText := true, laidKinds := [.data, .data, .data, .data, .handle, .pinned], laidTests := true, laidLooks := .later }
def StartLimitsUptoCardSaid : Prop := Claim7.holds Tryd.pinned (.plain (OpenSpec.upto startLimitsSpec)) startLimitsUptoCard

/-- THE SECOND FORM's CARD OF 'conduitlaw7.StartVersions'. -/
def startVersionsUptoCard : Claim7 := { stood := { row := startVersionsUptoRow, standIns := [], harness := (true, "bbb58616d0757d3aad75a0a406577b75a8507bf37663779aa3e917342f17ddf4"), looks := true }, kinds := [], alts := [], laidByText := true, laidKinds := [.data, .data, .data, .data, .handle, .pinned], laidTests := true, laidLooks := .later }
def StartVersionsUptoCardSaid : Prop := Claim7.holds Tryd.pinned (.plain (OpenSpec.upto startVersionsSpec)) startVersionsUptoCard

/-- THE SECOND FORM's CARD OF 'conduitlaw6.FieldTells'. -/
def fieldTellsUptoCard : Claim7 := { stood := { row := fieldTellsUptoRow, standIns := [], harness := (true, "bbb58616d0757d3aad75a0a406577b75a8507bf37663779aa3e917342f17ddf4"), looks := true }, kinds := [], alts := [], laidByText := true, laidKinds := [.data, .handle, .pinned], laidTests := true, laidLooks := .later }
def FieldTellsUptoCardSaid : Prop := Claim7.holds Tryd.pinned (.plain (OpenSpec.upto fieldTellsSpec)) fieldTellsUptoCard
end Rows
end Go.Proofs.YtdagppbpeibdgaaDoor
