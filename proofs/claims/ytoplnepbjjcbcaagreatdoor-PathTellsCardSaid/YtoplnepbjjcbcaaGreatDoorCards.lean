/-
  DERIVED. GIVEN WITH THE SEED: THE CARDS: each row of YtoplnepbjjcbcaaGreatDoorRows.lean that lists a variable, with what it lists TIED to the program's text (the seventh form; the later family's looks); each row that meets fmt, with fmt's text TOLD by the authors' own Lean function (tested against real Go, not proved from fmt's source: count such statements apart). THE CARD IS WHAT COUNTS. Prove the row's statement (the work); the ties are given (YtoplnepbjjcbcaaGreatDoorTie.lean); close each card by the builder's one call (the guide's Derived/Test/ToyasCard.lean, 'card_holds'). Laid BY PROGRAM, IN A SANDBOX (cutbox-door.mjs). By AI agents, Wed Nov 11 2026. No macro, syntax, notation, axiom, sorry.
-/
import Derived.Test.YtoplnepbjjcbcaaGreatDoorRows
import GoSem.ClaimSeven
namespace Go.Proofs.YtoplnepbjjcbcaaGreatDoor
namespace Rows

/-- THE TIED CARD OF 'conduitlaw11.PathTells'. -/
def pathTellsCard : Claim7 := { stood := { row := pathTellsRow, standIns := [], harness := (true, "123c101d5cf59ab840ba3d4a41a79c49496325181296827cc2f537efab735d4a"), looks := true }, kinds := [], alts := [], laidByText := true, laidKinds := [.data, .data, .data, .data, .handle, .sentinel, .sentinel, .pinned], laidTests := true, laidLooks := .later }
def PathTellsCardSaid : Prop := Claim7.holds Tryz.pinned (.plain (OpenSpec.ofChange pathTellsSpec)) pathTellsCard

/-- THE TIED CARD OF 'conduitlaw12.RulePaths'. -/
def rulePathsCard : Claim7 := { stood := { row := rulePathsRow, standIns := [], harness := (true, "123c101d5cf59ab840ba3d4a41a79c49496325181296827cc2f537efab735d4a"), looks := true }, kinds := [], alts := [], laidByText := true, laidKinds := [.data, .data, .data, .data, .sentinel, .sentinel, .pinned], laidTests := true, laidLooks := .later }
def RulePathsCardSaid : Prop := Claim7.holds Tryz.pinned (.plain (OpenSpec.ofChange rulePathsSpec)) rulePathsCard

/-- THE TIED CARD OF 'conduitlaw12.RuleWares'. -/
def ruleWaresCard : Claim7 := { stood := { row := ruleWaresRow, standIns := [], harness := (true, "123c101d5cf59ab840ba3d4a41a79c49496325181296827cc2f537efab735d4a"), looks := true }, kinds := [], alts := [], laidByText := true, laidKinds := [.data, .data, .data, .data, .sentinel, .sentinel, .pinned], laidTests := true, laidLooks := .later }
def RuleWaresCardSaid : Prop := Claim7.holds Tryz.pinned (.plain (OpenSpec.ofChange ruleWaresSpec)) ruleWaresCard

/-- THE TIED CARD OF 'conduitlaw12.RuleExts'. -/
def ruleExtsCard : Claim7 := { stood := { row := ruleExtsRow, standIns := [], harness := (true, "123c101d5cf59ab840ba3d4a41a79c49496325181296827cc2f537efab735d4a"), looks := true }, kinds := [], alts := [], laidByText := true, laidKinds := [.data, .data, .data, .data, .sentinel, .sentinel, .pinned], laidTests := true, laidLooks := .later }
def RuleExtsCardSaid : Prop := Claim7.holds Tryz.pinned (.plain (OpenSpec.ofChange ruleExtsSpec)) ruleExtsCard

/-- THE TIED CARD OF 'conduitlaw12.RuleSegs'. -/
def ruleSegsCard : Claim7 := { stood := { row := ruleSegsRow, standIns := [], harness := (true, "123c101d5cf59ab840ba3d4a41a79c49496325181296827cc2f537efab735d4a"), looks := true }, kinds := [], alts := [], laidByText := true, laidKinds := [.data, .data, .data, .data, .sentinel, .sentinel, .pinned], laidTests := true, laidLooks := .later }
def RuleSegsCardSaid : Prop := Claim7.holds Tryz.pinned (.plain (OpenSpec.ofChange ruleSegsSpec)) ruleSegsCard

/-- THE SECOND FORM's CARD OF 'conduitlaw11.PathTells'. -/
def pathTellsUptoCard : Claim7 := { stood := { row := pathTellsUptoRow, standIns := [], harness := (true, "123c101d5cf59ab840ba3d4a41a79c49496325181296827cc2f537efab735d4a"), looks := true }, kinds := [], alts := [], laidByText := true, laidKinds := [.data, .data, .data, .data, .handle, .sentinel, .sentinel, .pinned], laidTests := true, laidLooks := .later }
def PathTellsUptoCardSaid : Prop := Claim7.holds Tryz.pinned (.plain (OpenSpec.upto pathTellsSpec)) pathTellsUptoCard

/-- THE SECOND FORM's CARD OF 'conduitlaw12.RulePaths'. -/
def rulePathsUptoCard : Claim7 := { stood := { row := rulePathsUptoRow, standIns := [], harness := (true, "123c101d5cf59ab840ba3d4a41a79c49496325181296827cc2f537efab735d4a"), looks := true }, kinds := [], alts := [], laidByText := true, laidKinds := [.data, .data, .data, .data, .sentinel, .sentinel, .pinned], laidTests := true, laidLooks := .later }
def RulePathsUptoCardSaid : Prop := Claim7.holds Tryz.pinned (.plain (OpenSpec.upto rulePathsSpec)) rulePathsUptoCard

/-- THE SECOND FORM's CARD OF 'conduitlaw12.RuleWares'. -/
def ruleWaresUptoCard : Claim7 := { stood := { row := ruleWaresUptoRow, standIns := [], harness := (true, "123c101d5cf59ab840ba3d4a41a79c49496325181296827cc2f537efab735d4a"), looks := true }, kinds := [], alts := [], laidByText := true, laidKinds := [.data, .data, .data, .data, .sentinel, .sentinel, .pinned], laidTests := true, laidLooks := .later }
def RuleWaresUptoCardSaid : Prop := Claim7.holds Tryz.pinned (.plain (OpenSpec.upto ruleWaresSpec)) ruleWaresUptoCard

/-- THE SECOND FORM's CARD OF 'conduitlaw12.RuleExts'. -/
def ruleExtsUptoCard : Claim7 := { stood := { row := ruleExtsUptoRow, standIns := [], harness := (true, "123c101d5cf59ab840ba3d4a41a79c49496325181296827cc2f537efab735d4a"), looks := true }, kinds := [], alts := [], laidByText := true, laidKinds := [.data, .data, .data, .data, .sentinel, .sentinel, .pinned], laidTests := true, laidLooks := .later }
def RuleExtsUptoCardSaid : Prop := Claim7.holds Tryz.pinned (.plain (OpenSpec.upto ruleExtsSpec)) ruleExtsUptoCard

/-- THE SECOND FORM's CARD OF 'conduitlaw12.RuleSegs'. -/
def ruleSegsUptoCard : Claim7 := { stood := { row := ruleSegsUptoRow, standIns := [], harness := (true, "123c101d5cf59ab840ba3d4a41a79c49496325181296827cc2f537efab735d4a"), looks := true }, kinds := [], alts := [], laidByText := true, laidKinds := [.data, .data, .data, .data, .sentinel, .sentinel, .pinned], laidTests := true, laidLooks := .later }
def RuleSegsUptoCardSaid : Prop := Claim7.holds Tryz.pinned (.plain (OpenSpec.upto ruleSegsSpec)) ruleSegsUptoCard
end Rows
end Go.Proofs.YtoplnepbjjcbcaaGreatDoor
