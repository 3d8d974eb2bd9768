/-
  DERIVED. GIVEN WITH THE SEED: THE CARDS: each row of YtedombigkebpiaaDoorRows.lean that lists a variable, with what it lists TIED to the program's text (the seventh form; the later family's looks); each row that meets fmt, with fmt's text TOLD by the authors' own Lean function (tested against real Go, not proved from fmt's source: count such statements apart). THE CARD IS WHAT COUNTS. Prove the row's statement (the work); the ties are given (YtedombigkebpiaaDoorTie.lean); close each card by the builder's one call (the guide's Derived/Test/ToyasCard.lean, 'card_holds'). Laid BY PROGRAM, IN A SANDBOX (cutbox-door.mjs). By AI agents, Wed Nov 11 2026. No macro, syntax, notation, axiom, sorry.
-/
import Derived.Test.YtedombigkebpiaaDoorRows
import GoSem.ClaimSeven
namespace Go.Proofs.YtedombigkebpiaaDoor
namespace Rows

/-- THE TIED CARD OF 'conduitlaw13.RouteTells'. -/
def routeTellsCard : Claim7 := { stood := { row := routeTellsRow, standIns := [], harness := (true, "f15527854b73d46a76a721e566f7829fadc9006cfe44bf619cb06fd96db2d025"), looks := false }, kinds := [], alts := [], laidByText := true, laidKinds := [.data, .pinned], laidTests := true, laidLooks := .later }
def RouteTellsCardSaid : Prop := Claim7.holds Tryd.pinned (.plain (OpenSpec.ofChange routeTellsSpec)) routeTellsCard

/-- THE TIED CARD OF 'conduitlaw13.RouteParts'. -/
def routePartsCard : Claim7 := { stood := { row := routePartsRow, standIns := [], harness := (true, "f15527854b73d46a76a721e566f7829fadc9006cfe44bf619cb06fd96db2d025"), looks := false }, kinds := [], alts := [], laidByText := true, laidKinds := [.data, .pinned], laidTests := true, laidLooks := .later }
def RoutePartsCardSaid : Prop := Claim7.holds Tryd.pinned (.plain (OpenSpec.ofChange routePartsSpec)) routePartsCard

/-- THE TIED CARD OF 'conduitlaw13.RouteFirst'. -/
def routeFirstCard : Claim7 := { stood := { row := routeFirstRow, standIns := [], harness := (true, "f15527854b73d46a76a721e566f7829fadc9006cfe44bf619cb06fd96db2d025"), looks := false }, kinds := [], alts := [], laidByText := true, laidKinds := [.data, .pinned], laidTests := true, laidLooks := .later }
def RouteFirstCardSaid : Prop := Claim7.holds Tryd.pinned (.plain (OpenSpec.ofChange routeFirstSpec)) routeFirstCard

/-- THE TIED CARD OF 'conduitlaw13.RouteNames'. -/
def routeNamesCard : Claim7 := { stood := { row := routeNamesRow, standIns := [], harness := (true, "f15527854b73d46a76a721e566f7829fadc9006cfe44bf619cb06fd96db2d025"), looks := false }, kinds := [], alts := [], laidByText := true, laidKinds := [.data, .pinned], laidTests := true, laidLooks := .later }
def RouteNamesCardSaid : Prop := Claim7.holds Tryd.pinned (.plain (OpenSpec.ofChange routeNamesSpec)) routeNamesCard

/-- THE TIED CARD OF 'conduitlaw13.RouteLongest'. -/
def routeLongestCard : Claim7 := { stood := { row := routeLongestRow, standIns := [], harness := (true, "f15527854b73d46a76a721e566f7829fadc9006cfe44bf619cb06fd96db2d025"), looks := false }, kinds := [], alts := [], laidByText := true, laidKinds := [.data, .pinned], laidTests := true, laidLooks := .later }
def RouteLongestCardSaid : Prop := Claim7.holds Tryd.pinned (.plain (OpenSpec.ofChange routeLongestSpec)) routeLongestCard

/-- THE TIED CARD OF 'conduitlaw13.RouteHosts'. -/
def routeHostsCard : Claim7 := { stood := { row := routeHostsRow, standIns := [], harness := (true, "f15527854b73d46a76a721e566f7829fadc9006cfe44bf619cb06fd96db2d025"), looks := false }, kinds := [], alts := [], laidByText := true, laidKinds := [.data, .pinned], laidTests := true, laidLooks := .later }
def RouteHostsCardSaid : Prop := Claim7.holds Tryd.pinned (.plain (OpenSpec.ofChange routeHostsSpec)) routeHostsCard

/-- THE SECOND FORM's CARD OF 'conduitlaw13.RouteTells'. -/
def routeTellsUptoCard : Claim7 := { stood := { row := routeTellsUptoRow, standIns := [], harness := (true, "f15527854b73d46a76a721e566f7829fadc9006cfe44bf619cb06fd96db2d025"), looks := false }, kinds := [], alts := [], laidByText := true, laidKinds := [.data, .pinned], laidTests := true, laidLooks := .later }
def RouteTellsUptoCardSaid : Prop := Claim7.holds Tryd.pinned (.plain (OpenSpec.upto routeTellsSpec)) routeTellsUptoCard

/-- THE SECOND FORM's CARD OF 'conduitlaw13.RouteParts'. -/
def routePartsUptoCard : Claim7 := { stood := { row := routePartsUptoRow, standIns := [], harness := (true, "f15527854b73d46a76a721e566f7829fadc9006cfe44bf619cb06fd96db2d025"), looks := false }, kinds := [], alts := [], laidByText := true, laidKinds := [.data, .pinned], laidTests := true, laidLooks := .later }
def RoutePartsUptoCardSaid : Prop := Claim7.holds Tryd.pinned (.plain (OpenSpec.upto routePartsSpec)) routePartsUptoCard

/-- THE SECOND FORM's CARD OF 'conduitlaw13.RouteFirst'. -/
def routeFirstUptoCard : Claim7 := { stood := { row := routeFirstUptoRow, standIns := [], harness := (true, "f15527854b73d46a76a721e566f7829fadc9006cfe44bf619cb06fd96db2d025"), looks := false }, kinds := [], alts := [], laidByText := true, laidKinds := [.data, .pinned], laidTests := true, laidLooks := .later }
def RouteFirstUptoCardSaid : Prop := Claim7.holds Tryd.pinned (.plain (OpenSpec.upto routeFirstSpec)) routeFirstUptoCard

/-- THE SECOND FORM's CARD OF 'conduitlaw13.RouteNames'. -/
def routeNamesUptoCard : Claim7 := { stood := { row := routeNamesUptoRow, standIns := [], harness := (true, "f15527854b73d46a76a721e566f7829fadc9006cfe44bf619cb06fd96db2d025"), looks := false }, kinds := [], alts := [], laidByText := true, laidKinds := [.data, .pinned], laidTests := true, laidLooks := .later }
def RouteNamesUptoCardSaid : Prop := Claim7.holds Tryd.pinned (.plain (OpenSpec.upto routeNamesSpec)) routeNamesUptoCard

/-- THE SECOND FORM's CARD OF 'conduitlaw13.RouteLongest'. -/
def routeLongestUptoCard : Claim7 := { stood := { row := routeLongestUptoRow, standIns := [], harness := (true, "f15527854b73d46a76a721e566f7829fadc9006cfe44bf619cb06fd96db2d025"), looks := false }, kinds := [], alts := [], laidByText := true, laidKinds := [.data, .pinned], laidTests := true, laidLooks := .later }
def RouteLongestUptoCardSaid : Prop := Claim7.holds Tryd.pinned (.plain (OpenSpec.upto routeLongestSpec)) routeLongestUptoCard

/-- THE SECOND FORM's CARD OF 'conduitlaw13.RouteHosts'. -/
def routeHostsUptoCard : Claim7 := { stood := { row := routeHostsUptoRow, standIns := [], harness := (true, "f15527854b73d46a76a721e566f7829fadc9006cfe44bf619cb06fd96db2d025"), looks := false }, kinds := [], alts := [], laidByText := true, laidKinds := [.data, .pinned], laidTests := true, laidLooks := .later }
def RouteHostsUptoCardSaid : Prop := Claim7.holds Tryd.pinned (.plain (OpenSpec.upto routeHostsSpec)) routeHostsUptoCard
end Rows
end Go.Proofs.YtedombigkebpiaaDoor
