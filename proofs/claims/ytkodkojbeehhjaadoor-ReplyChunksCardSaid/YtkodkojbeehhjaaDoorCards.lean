/-
  DERIVED. GIVEN WITH THE SEED: THE CARDS: each row of YtkodkojbeehhjaaDoorRows.lean that lists a variable, with what it lists TIED to the program's text (the seventh form; the later family's looks); each row that meets fmt, with fmt's text TOLD by the authors' own Lean function (tested against real Go, not proved from fmt's source: count such statements apart). THE CARD IS WHAT COUNTS. Prove the row's statement (the work); the ties are given (YtkodkojbeehhjaaDoorTie.lean); close each card by the builder's one call (the guide's Derived/Test/ToyasCard.lean, 'card_holds'). Laid BY PROGRAM, IN A SANDBOX (cutbox-door.mjs). By AI agents, Wed Nov 11 2026. No macro, syntax, notation, axiom, sorry.
-/
import Derived.Test.YtkodkojbeehhjaaDoorRows
import GoSem.ClaimSeven
namespace Go.Proofs.YtkodkojbeehhjaaDoor
namespace Rows

/-- THE TIED CARD OF 'conduitlaw10.ReplyTells'. -/
def replyTellsCard : Claim7 := { stood := { row := replyTellsRow, standIns := [], harness := (true, "fc6bc9dbdffc80d0ccc99dbeac6b7b1cbc27dc406444365ecf2da50e4656860e"), looks := false }, kinds := [], alts := [], laidByText := true, laidKinds := [.data, .data, .data], laidTests := true, laidLooks := .later }
def ReplyTellsCardSaid : Prop := Claim7.holds Tryd.pinned (.plain (OpenSpec.ofChange replyTellsSpec)) replyTellsCard

/-- THE TIED CARD OF 'conduitlaw10.ReplyChunks'. -/
def replyChunksCard : Claim7 := { stood := { row := replyChunksRow, standIns := [], harness := (true, "fc6bc9dbdffc80d0ccc99dbeac6b7b1cbc27dc406444365ecf2da50e4656860e"), looks := false }, kinds := [], alts := [], laidByText := true, laidKinds := [.data, .data, .data], laidTests := true, laidLooks := .later }
def ReplyChunksCardSaid : Prop := Claim7.holds Tryd.pinned (.plain (OpenSpec.ofChange replyChunksSpec)) replyChunksCard

/-- THE TIED CARD OF 'conduitlaw10.ReplyHeads'. -/
def replyHeadsCard : Claim7 := { stood := { row := replyHeadsRow, standIns := [], harness := (true, "fc6bc9dbdffc80d0ccc99dbeac6b7b1cbc27dc406444365ecf2da50e4656860e"), looks := false }, kinds := [], alts := [], laidByText := true, laidKinds := [.data, .data, .data], laidTests := true, laidLooks := .later }
def ReplyHeadsCardSaid : Prop := Claim7.holds Tryd.pinned (.plain (OpenSpec.ofChange replyHeadsSpec)) replyHeadsCard

/-- THE TIED CARD OF 'conduitlaw10.ReplyBare'. -/
def replyBareCard : Claim7 := { stood := { row := replyBareRow, standIns := [], harness := (true, "fc6bc9dbdffc80d0ccc99dbeac6b7b1cbc27dc406444365ecf2da50e4656860e"), looks := false }, kinds := [], alts := [], laidByText := true, laidKinds := [.data, .data, .data], laidTests := true, laidLooks := .later }
def ReplyBareCardSaid : Prop := Claim7.holds Tryd.pinned (.plain (OpenSpec.ofChange replyBareSpec)) replyBareCard

/-- THE SECOND FORM's CARD OF 'conduitlaw10.ReplyTells'. -/
def replyTellsUptoCard : Claim7 := { stood := { row := replyTellsUptoRow, standIns := [], harness := (true, "fc6bc9dbdffc80d0ccc99dbeac6b7b1cbc27dc406444365ecf2da50e4656860e"), looks := false }, kinds := [], alts := [], laidByText := true, laidKinds := [.data, .data, .data], laidTests := true, laidLooks := .later }
def ReplyTellsUptoCardSaid : Prop := Claim7.holds Tryd.pinned (.plain (OpenSpec.upto replyTellsSpec)) replyTellsUptoCard

/-- THE SECOND FORM's CARD OF 'conduitlaw10.ReplyChunks'. -/
def replyChunksUptoCard : Claim7 := { stood := { row := replyChunksUptoRow, standIns := [], harness := (true, "fc6bc9dbdffc80d0ccc99dbeac6b7b1cbc27dc406444365ecf2da50e4656860e"), looks := false }, kinds := [], alts := [], laidByText := true, laidKinds := [.data, .data, .data], laidTests := true, laidLooks := .later }
def ReplyChunksUptoCardSaid : Prop := Claim7.holds Tryd.pinned (.plain (OpenSpec.upto replyChunksSpec)) replyChunksUptoCard

/-- THE SECOND FORM's CARD OF 'conduitlaw10.ReplyHeads'. -/
def replyHeadsUptoCard : Claim7 := { stood := { row := replyHeadsUptoRow, standIns := [], harness := (true, "fc6bc9dbdffc80d0ccc99dbeac6b7b1cbc27dc406444365ecf2da50e4656860e"), looks := false }, kinds := [], alts := [], laidByText := true, laidKinds := [.data, .data, .data], laidTests := true, laidLooks := .later }
def ReplyHeadsUptoCardSaid : Prop := Claim7.holds Tryd.pinned (.plain (OpenSpec.upto replyHeadsSpec)) replyHeadsUptoCard

/-- THE SECOND FORM's CARD OF 'conduitlaw10.ReplyBare'. -/
def replyBareUptoCard : Claim7 := { stood := { row := replyBareUptoRow, standIns := [], harness := (true, "fc6bc9dbdffc80d0ccc99dbeac6b7b1cbc27dc406444365ecf2da50e4656860e"), looks := false }, kinds := [], alts := [], laidByText := true, laidKinds := [.data, .data, .data], laidTests := true, laidLooks := .later }
def ReplyBareUptoCardSaid : Prop := Claim7.holds Tryd.pinned (.plain (OpenSpec.upto replyBareSpec)) replyBareUptoCard
end Rows
end Go.Proofs.YtkodkojbeehhjaaDoor
