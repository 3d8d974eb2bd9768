/-
  DERIVED. GIVEN WITH THE SEED: THE CARDS: each row of YtoplnepbjjcbcaaDoorRows.lean that lists a variable, with what it lists TIED to the program's text (the seventh form; the later family's looks); each row that meets fmt, with fmt's text TOLD by the authors' own Lean function (tested against real Go, not proved from fmt's source: count such statements apart). THE CARD IS WHAT COUNTS. Prove the row's statement (the work); the ties are given (YtoplnepbjjcbcaaDoorTie.lean); close each card by the builder's one call (the guide's Derived/Test/ToyasCard.lean, 'card_holds'). Laid BY PROGRAM, IN A SANDBOX (cutbox-door.mjs). By AI agents, Wed Nov 11 2026. No macro, syntax, notation, axiom, sorry.
-/
import Derived.Test.YtoplnepbjjcbcaaDoorRows
import GoSem.ClaimSeven
namespace Go.Proofs.YtoplnepbjjcbcaaDoor
namespace Rows

/-- THE TIED CARD OF 'conduitlaw11.PathBack'. -/
def pathBackCard : Claim7 := { stood := { row := pathBackRow, standIns := [], harness := (true, "6e899c766e8122d9614a4ca34a66b2d7bcc8764461da9f9fa30c589364532e5c"), looks := true }, kinds := [], alts := [], laidByText := true, laidKinds := [.data, .data, .data, .data, .sentinel, .sentinel, .pinned], laidTests := true, laidLooks := .later }
def PathBackCardSaid : Prop := Claim7.holds Tryd.pinned (.plain (OpenSpec.ofChange pathBackSpec)) pathBackCard

/-- THE TIED CARD OF 'conduitlaw11.PathDots'. -/
def pathDotsCard : Claim7 := { stood := { row := pathDotsRow, standIns := [], harness := (true, "6e899c766e8122d9614a4ca34a66b2d7bcc8764461da9f9fa30c589364532e5c"), looks := true }, kinds := [], alts := [], laidByText := true, laidKinds := [.data, .data, .data, .data, .sentinel, .sentinel, .pinned], laidTests := true, laidLooks := .later }
def PathDotsCardSaid : Prop := Claim7.holds Tryd.pinned (.plain (OpenSpec.ofChange pathDotsSpec)) pathDotsCard

/-- THE TIED CARD OF 'conduitlaw11.PathEscapes'. -/
def pathEscapesCard : Claim7 := { stood := { row := pathEscapesRow, standIns := [], harness := (true, "6e899c766e8122d9614a4ca34a66b2d7bcc8764461da9f9fa30c589364532e5c"), looks := true }, kinds := [], alts := [], laidByText := true, laidKinds := [.data, .data, .data, .data, .sentinel, .sentinel, .pinned], laidTests := true, laidLooks := .later }
def PathEscapesCardSaid : Prop := Claim7.holds Tryd.pinned (.plain (OpenSpec.ofChange pathEscapesSpec)) pathEscapesCard

/-- THE SECOND FORM's CARD OF 'conduitlaw11.PathBack'. -/
def pathBackUptoCard : Claim7 := { stood := { row := pathBackUptoRow, standIns := [], harness := (true, "6e899c766e8122d9614a4ca34a66b2d7bcc8764461da9f9fa30c589364532e5c"), looks := true }, kinds := [], alts := [], laidByText := true, laidKinds := [.data, .data, .data, .data, .sentinel, .sentinel, .pinned], laidTests := true, laidLooks := .later }
def PathBackUptoCardSaid : Prop := Claim7.holds Tryd.pinned (.plain (OpenSpec.upto pathBackSpec)) pathBackUptoCard

/-- THE SECOND FORM's CARD OF 'conduitlaw11.PathDots'. -/
def pathDotsUptoCard : Claim7 := { stood := { row := pathDotsUptoRow, standIns := [], harness := (true, "6e899c766e8122d9614a4ca34a66b2d7bcc8764461da9f9fa30c589364532e5c"), looks := true }, kinds := [], alts := [], laidByText := true, laidKinds := [.data, .data, .data, .data, .sentinel, .sentinel, .pinned], laidTests := true, laidLooks := .later }
def PathDotsUptoCardSaid : Prop := Claim7.holds Tryd.pinned (.plain (OpenSpec.upto pathDotsSpec)) pathDotsUptoCard

/-- THE SECOND FORM's CARD OF 'conduitlaw11.PathEscapes'. -/
def pathEscapesUptoCard : Claim7 := { stood := { row := pathEscapesUptoRow, standIns := [], harness := (true, "6e899c766e8122d9614a4ca34a66b2d7bcc8764461da9f9fa30c589364532e5c"), looks := true }, kinds := [], alts := [], laidByText := true, laidKinds := [.data, .data, .data, .data, .sentinel, .sentinel, .pinned], laidTests := true, laidLooks := .later }
def PathEscapesUptoCardSaid : Prop := Claim7.holds Tryd.pinned (.plain (OpenSpec.upto pathEscapesSpec)) pathEscapesUptoCard
end Rows
end Go.Proofs.YtoplnepbjjcbcaaDoor
