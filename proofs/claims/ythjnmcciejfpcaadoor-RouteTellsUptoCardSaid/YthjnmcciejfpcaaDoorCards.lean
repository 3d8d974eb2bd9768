/-
  DERIVED. GIVEN WITH THE SEED: THE CARDS: each row of YthjnmcciejfpcaaDoorRows.lean that lists a variable, with what it lists TIED to the program's text (the seventh form; the later family's looks); each row that meets fmt, with fmt's text TOLD by the authors' own Lean function (tested against real Go, not proved from fmt's source: count such statements apart). THE CARD IS WHAT COUNTS. Prove the row's statement (the work); the ties are given (YthjnmcciejfpcaaDoorTie.lean); close each card by the builder's one call (the guide's Derived/Test/ToyasCard.lean, 'card_holds'). Laid BY PROGRAM, IN A SANDBOX (cutbox-door.mjs). By AI agents, Wed Nov 11 2026. No macro, syntax, notation, axiom, sorry.
-/
import Derived.Test.YthjnmcciejfpcaaDoorRows
import GoSem.ClaimSeven
namespace Go.Proofs.YthjnmcciejfpcaaDoor
namespace Rows

/-- THE TIED CARD OF 'conduitlaw13.RouteTells'. -/
def routeTellsCard : Claim7 := { stood := { row := routeTellsRow, standIns := [], harness := (true, "a5e4b23c95d8e38842dbafaeb061c59ebf04c96e12cb139d63d9a11c5950befb"), looks := false }, kinds := [], alts := [], laidByText := true, laidKinds := [.data, .pinned], laidTests := true, laidLooks := .later }
def RouteTellsCardSaid : Prop := Claim7.holds Tryd.pinned (.plain (OpenSpec.ofChange routeTellsSpec)) routeTellsCard

/-- THE TIED CARD OF 'conduitlaw13.RouteParts'. -/
def routePartsCard : Claim7 := { stood := { row := routePartsRow, standIns := [], harness := (true, "a5e4b23c95d8e38842dbafaeb061c59ebf04c96e12cb139d63d9a11c5950befb"), looks := false }, kinds := [], alts := [], laidByText := true, laidKinds := [.data, .pinned], laidTests := true, laidLooks := .later }
def RoutePartsCardSaid : Prop := Claim7.holds Tryd.pinned (.plain (OpenSpec.ofChange routePartsSpec)) routePartsCard

/-- THE SECOND FORM's CARD OF 'conduitlaw13.RouteTells'. -/
def routeTellsUptoCard : Claim7 := { stood := { row := routeTellsUptoRow, standIns := [], harness := (true, "a5e4b23c95d8e38842dbafaeb061c59ebf04c96e12cb139d63d9a11c5950befb"), looks := false }, kinds := [], alts := [], laidByText := true, laidKinds := [.data, .pinned], laidTests := true, laidLooks := .later }
def RouteTellsUptoCardSaid : Prop := Claim7.holds Tryd.pinned (.plain (OpenSpec.upto routeTellsSpec)) routeTellsUptoCard

/-- THE SECOND FORM's CARD OF 'conduitlaw13.RouteParts'. -/
def routePartsUptoCard : Claim7 := { stood := { row := routePartsUptoRow, standIns := [], harness := (true, "a5e4b23c95d8e38842dbafaeb061c59ebf04c96e12cb139d63d9a11c5950befb"), looks := false }, kinds := [], alts := [], laidByText := true, laidKinds := [.data, .pinned], laidTests := true, laidLooks := .later }
def RoutePartsUptoCardSaid : Prop := Claim7.holds Tryd.pinned (.plain (OpenSpec.upto routePartsSpec)) routePartsUptoCard
end Rows
end Go.Proofs.YthjnmcciejfpcaaDoor
