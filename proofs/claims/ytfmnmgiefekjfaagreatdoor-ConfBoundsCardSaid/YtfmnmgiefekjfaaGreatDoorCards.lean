/-
  DERIVED. GIVEN WITH THE SEED: THE CARDS: each row of YtfmnmgiefekjfaaGreatDoorRows.lean that lists a variable, with what it lists TIED to the program's text (the seventh form; the later family's looks); each row that meets fmt, with fmt's text TOLD by the authors' own Lean function (tested against real Go, not proved from fmt's source: count such statements apart). THE CARD IS WHAT COUNTS. Prove the row's statement (the work); the ties are given (YtfmnmgiefekjfaaGreatDoorTie.lean); close each card by the builder's one call (the guide's Derived/Test/ToyasCard.lean, 'card_holds'). Laid BY PROGRAM, IN A SANDBOX (cutbox-door.mjs). By AI agents, Wed Nov 11 2026. No macro, syntax, notation, axiom, sorry.
-/
import Derived.Test.YtfmnmgiefekjfaaGreatDoorRows
import GoSem.ClaimSeven
namespace Go.Proofs.YtfmnmgiefekjfaaGreatDoor
namespace Rows

/-- THE TIED CARD OF 'conduitlaw17.ConfTells'. -/
def confTellsCard : Claim7 := { stood := { row := confTellsRow, standIns := [], harness := (true, "495a3ca119e7f308e08c7b9ec2667d6e908493fa9109ace33e23093afaaf9ebe"), looks := true }, kinds := [], alts := [], laidByText := true, laidKinds := [.data, .data, .data, .data, .sentinel, .sentinel, .pinned], laidTests := true, laidLooks := .later }
def ConfTellsCardSaid : Prop := Claim7.holds Tryz.pinned (.plain (OpenSpec.ofChange confTellsSpec)) confTellsCard

/-- THE TIED CARD OF 'conduitlaw17.ConfBounds'. -/
def confBoundsCard : Claim7 := { stood := { row := confBoundsRow, standIns := [], harness := (true, "495a3ca119e7f308e08c7b9ec2667d6e908493fa9109ace33e23093afaaf9ebe"), looks := true }, kinds := [], alts := [], laidByText := true, laidKinds := [.data, .data, .data, .data, .sentinel, .sentinel, .pinned], laidTests := true, laidLooks := .later }
def ConfBoundsCardSaid : Prop := Claim7.holds Tryz.pinned (.plain (OpenSpec.ofChange confBoundsSpec)) confBoundsCard

/-- THE SECOND FORM's CARD OF 'conduitlaw17.ConfTells'. -/
def confTellsUptoCard : Claim7 := { stood := { row := confTellsUptoRow, standIns := [], harness := (true, "495a3ca119e7f308e08c7b9ec2667d6e908493fa9109ace33e23093afaaf9ebe"), looks := true }, kinds := [], alts := [], laidByText := true, laidKinds := [.data, .data, .data, .data, .sentinel, .sentinel, .pinned], laidTests := true, laidLooks := .later }
def ConfTellsUptoCardSaid : Prop := Claim7.holds Tryz.pinned (.plain (OpenSpec.upto confTellsSpec)) confTellsUptoCard

/-- THE SECOND FORM's CARD OF 'conduitlaw17.ConfBounds'. -/
def confBoundsUptoCard : Claim7 := { stood := { row := confBoundsUptoRow, standIns := [], harness := (true, "495a3ca119e7f308e08c7b9ec2667d6e908493fa9109ace33e23093afaaf9ebe"), looks := true }, kinds := [], alts := [], laidByText := true, laidKinds := [.data, .data, .data, .data, .sentinel, .sentinel, .pinned], laidTests := true, laidLooks := .later }
def ConfBoundsUptoCardSaid : Prop := Claim7.holds Tryz.pinned (.plain (OpenSpec.upto confBoundsSpec)) confBoundsUptoCard
end Rows
end Go.Proofs.YtfmnmgiefekjfaaGreatDoor
