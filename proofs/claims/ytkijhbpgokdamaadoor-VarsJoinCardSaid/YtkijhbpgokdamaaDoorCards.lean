/-
  DERIVED. GIVEN WITH THE SEED: THE CARDS: each row of YtkijhbpgokdamaaDoorRows.lean that lists a variable, with what it lists TIED to the program's text (the seventh form; the later family's looks); each row that meets fmt, with fmt's text TOLD by the authors' own Lean function (tested against real Go, not proved from fmt's source: count such statements apart). THE CARD IS WHAT COUNTS. Prove the row's statement (the work); the ties are given (YtkijhbpgokdamaaDoorTie.lean); close each card by the builder's one call (the guide's Derived/Test/ToyasCard.lean, 'card_holds'). Laid BY PROGRAM, IN A SANDBOX (cutbox-door.mjs). By AI agents, Wed Nov 11 2026. No macro, syntax, notation, axiom, sorry.
-/
import Derived.Test.YtkijhbpgokdamaaDoorRows
import GoSem.ClaimSeven
namespace Go.Proofs.YtkijhbpgokdamaaDoor
namespace Rows

/-- THE TIED CARD OF 'conduitlaw15.VarsJoin'. -/
def varsJoinCard : Claim7 := { stood := { row := varsJoinRow, standIns := [], harness := (true, "32024304270c62c70a0ce2a6f1d045a8eaa850099bbc727836ab73cafba19de1"), looks := false }, kinds := [], alts := [], laidByText := true, laidKinds := [.data, .data, .data], laidTests := true, laidLooks := .later }
def VarsJoinCardSaid : Prop := Claim7.holds Tryd.pinned (.plain (OpenSpec.ofChange varsJoinSpec)) varsJoinCard

/-- THE TIED CARD OF 'conduitlaw15.VarsNever'. -/
def varsNeverCard : Claim7 := { stood := { row := varsNeverRow, standIns := [], harness := (true, "32024304270c62c70a0ce2a6f1d045a8eaa850099bbc727836ab73cafba19de1"), looks := false }, kinds := [], alts := [], laidByText := true, laidKinds := [.data, .data, .data], laidTests := true, laidLooks := .later }
def VarsNeverCardSaid : Prop := Claim7.holds Tryd.pinned (.plain (OpenSpec.ofChange varsNeverSpec)) varsNeverCard

/-- THE SECOND FORM's CARD OF 'conduitlaw15.VarsJoin'. -/
def varsJoinUptoCard : Claim7 := { stood := { row := varsJoinUptoRow, standIns := [], harness := (true, "32024304270c62c70a0ce2a6f1d045a8eaa850099bbc727836ab73cafba19de1"), looks := false }, kinds := [], alts := [], laidByText := true, laidKinds := [.data, .data, .data], laidTests := true, laidLooks := .later }
def VarsJoinUptoCardSaid : Prop := Claim7.holds Tryd.pinned (.plain (OpenSpec.upto varsJoinSpec)) varsJoinUptoCard

/-- THE SECOND FORM's CARD OF 'conduitlaw15.VarsNever'. -/
def varsNeverUptoCard : Claim7 := { stood := { row := varsNeverUptoRow, standIns := [], harness := (true, "32024304270c62c70a0ce2a6f1d045a8eaa850099bbc727836ab73cafba19de1"), looks := false }, kinds := [], alts := [], laidByText := true, laidKinds := [.data, .data, .data], laidTests := true, laidLooks := .later }
def VarsNeverUptoCardSaid : Prop := Claim7.holds Tryd.pinned (.plain (OpenSpec.upto varsNeverSpec)) varsNeverUptoCard
end Rows
end Go.Proofs.YtkijhbpgokdamaaDoor
