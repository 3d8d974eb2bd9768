/-
  DERIVED. GIVEN WITH THE SEED: THE CARDS: each row of YtdlignhlliellaaDoorRows.lean that lists a variable, with what it lists TIED to the program's text (the seventh form; the later family's looks); each row that meets fmt, with fmt's text TOLD by the authors' own Lean function (tested against real Go, not proved from fmt's source: count such statements apart). THE CARD IS WHAT COUNTS. Prove the row's statement (the work); the ties are given (YtdlignhlliellaaDoorTie.lean); close each card by the builder's one call (the guide's Derived/Test/ToyasCard.lean, 'card_holds'). Laid BY PROGRAM, IN A SANDBOX (cutbox-door.mjs). By AI agents, Wed Nov 11 2026. No macro, syntax, notation, axiom, sorry.
-/
import Derived.Test.YtdlignhlliellaaDoorRows
import GoSem.ClaimSeven
namespace Go.Proofs.YtdlignhlliellaaDoor
namespace Rows

/-- THE TIED CARD OF 'conduitlaw15.VarsTells'. -/
def varsTellsCard : Claim7 := { stood := { row := varsTellsRow, standIns := [], harness := (true, "cd045ae88a0dbd1d17488f9108fbdd047707f70c3957c74be0feebf1887bca1d"), looks := false }, kinds := [], alts := [], laidByText := true, laidKinds := [.data, .data, .data], laidTests := true, laidLooks := .later }
def VarsTellsCardSaid : Prop := Claim7.holds Tryd.pinned (.plain (OpenSpec.ofChange varsTellsSpec)) varsTellsCard

/-- THE TIED CARD OF 'conduitlaw15.VarsOrder'. -/
def varsOrderCard : Claim7 := { stood := { row := varsOrderRow, standIns := [], harness := (true, "cd045ae88a0dbd1d17488f9108fbdd047707f70c3957c74be0feebf1887bca1d"), looks := false }, kinds := [], alts := [], laidByText := true, laidKinds := [.data, .data, .data], laidTests := true, laidLooks := .later }
def VarsOrderCardSaid : Prop := Claim7.holds Tryd.pinned (.plain (OpenSpec.ofChange varsOrderSpec)) varsOrderCard

/-- THE SECOND FORM's CARD OF 'conduitlaw15.VarsTells'. -/
def varsTellsUptoCard : Claim7 := { stood := { row := varsTellsUptoRow, standIns := [], harness := (true, "cd045ae88a0dbd1d17488f9108fbdd047707f70c3957c74be0feebf1887bca1d"), looks := false }, kinds := [], alts := [], laidByText := true, laidKinds := [.data, .data, .data], laidTests := true, laidLooks := .later }
def VarsTellsUptoCardSaid : Prop := Claim7.holds Tryd.pinned (.plain (OpenSpec.upto varsTellsSpec)) varsTellsUptoCard

/-- THE SECOND FORM's CARD OF 'conduitlaw15.VarsOrder'. -/
def varsOrderUptoCard : Claim7 := { stood := { row := varsOrderUptoRow, standIns := [], harness := (true, "cd045ae88a0dbd1d17488f9108fbdd047707f70c3957c74be0feebf1887bca1d"), looks := false }, kinds := [], alts := [], laidByText := true, laidKinds := [.data, .data, .data], laidTests := true, laidLooks := .later }
def VarsOrderUptoCardSaid : Prop := Claim7.holds Tryd.pinned (.plain (OpenSpec.upto varsOrderSpec)) varsOrderUptoCard
end Rows
end Go.Proofs.YtdlignhlliellaaDoor
