/-
  NARROWER THAN 'FOR EVERY INPUT', by the rows' own cells (each row's printed sentence says how): RouteTells: laid · RouteParts: laid · RouteFirst: laid · RouteNames: laid · RouteLongest: laid · RouteHosts: laid.
  DERIVED. THE GIVEN ROWS OF THIS SEAT. 6 by the template 'for every input the law returns true; each argument reads behind the call as it read before'; 0 by the template 'total and deterministic' (their statements: YtedombigkebpiaaDoorTotals.lean).
  GIVEN WITH THE SEED: the statements are not yours to turn. If you find one false, say at which input.
  Laid BY PROGRAM, IN A SANDBOX (cutbox-rows.mjs): the forced cells as the released guide's own fill.sh prints them over the translation d5a5d5d36a5f1a1e… (all of the seat's roots in one cut). By AI agents, Wed Nov 11 2026. No macro, syntax, notation, axiom, sorry.
-/
import Derived.Test.YtedombigkebpiaaDoorChecked
import GoSem.PinnedTables
import GoSem.Claim
import GoSem.ClaimJoined
import GoSem.ClaimMapViews
import Derived.JoinedTies
import Derived.KernelRfl
namespace Go.Proofs.YtedombigkebpiaaDoor
/- THE CELL 'sum', in the pinned program and in every row, IS THE sha256 OF THE DUMP (.gsa) THAT YtedombigkebpiaaDoorProg.lean LOADS. Nothing in Lean hashes anything: it is a label: what it is worth is what the hold of that sum in a sandbox is worth. -/
noncomputable def Tryd.pinned : Pinned := { name := "ytedombigkebpiaadoor", sum := "d5a5d5d36a5f1a1efa9828e4c62e7b47c1a1141e5a8f4d2aa0429db2b8ff8c9f", checked := Tryd.checked }
namespace Rows
def none {H : Type} : Left H := { results := [], args := [] }

/- WHAT THE LISTED PACKAGE-LEVEL VARIABLES READ AS WHEN THE CALL BEGINS. Each datum BY PROGRAM (the guide's laid-datum.mjs) off the statement by which the dump's own 'gosem.cut.vars' lays the variable. In a bare row this is a premise. The card (YtedombigkebpiaaDoorCards.lean) ties it to the program's text. -/
def laid_unicode_utf8_acceptRanges {H : Type} : DataW H := .agg [.agg [.lit (.int .u8 128), .lit (.int .u8 191)], .agg [.lit (.int .u8 160), .lit (.int .u8 191)], .agg [.lit (.int .u8 128), .lit (.int .u8 159)], .agg [.lit (.int .u8 144), .lit (.int .u8 191)], .agg [.lit (.int .u8 128), .lit (.int .u8 143)], .agg [.lit (.int .u8 0), .lit (.int .u8 0)], .agg [.lit (.int .u8 0), .lit (.int .u8 0)], .agg [.lit (.int .u8 0), .lit (.int .u8 0)], .agg [.lit (.int .u8 0), .lit (.int .u8 0)], .agg [.lit (.int .u8 0), .lit (.int .u8 0)], .agg [.lit (.int .u8 0), .lit (.int .u8 0)], .agg [.lit (.int .u8 0), .lit (.int .u8 0)], .agg [.lit (.int .u8 0), .lit (.int .u8 0)], .agg [.lit (.int .u8 0), .lit (.int .u8 0)], .agg [.lit (.int .u8 0), .lit (.int .u8 0)], .agg [.lit (.int .u8 0), .lit (.int .u8 0)]]
/-- One of Go's own tables, pinned by name: the form's constant. -/
def laid_unicode_utf8_first : DataW Unit := Go.Pinned.utf8First

/-- 'conduitlaw13.RouteTells': WHATEVER THE INPUT: true; the input reads as it did. -/
def routeTellsSpec : ChangeSpec := { name := "routeTells", fn := fun _ => fun
  | [d1, d2, d3] => { results := [.lit (.bool true)], args := [d1, d2, d3] }
  | _ => none }
def routeTellsRow : OpenClaim := { program := "ytedombigkebpiaadoor", sum := "d5a5d5d36a5f1a1efa9828e4c62e7b47c1a1141e5a8f4d2aa0429db2b8ff8c9f", func := "conduit/conduitlaw13.RouteTells", spec := "routeTells", inPlace := ["internal/bytealg.IndexByteString", "internal/bytealg.IndexString", "internal/bytealg.CountString"], unfollowed := true, recurses := true, named := ["internal/bytealg.MaxLen", "unicode/utf8.first", "unicode/utf8.acceptRanges"], apart := false, laid := [("unicode/utf8.acceptRanges", laid_unicode_utf8_acceptRanges), ("unicode/utf8.first", laid_unicode_utf8_first)] }
def RouteTellsSaid : Prop := routeTellsRow.holds Tryd.pinned (OpenSpec.ofChange routeTellsSpec)

/-- ITS FALSE NEIGHBOUR: 'it returns false'. Refute it at one input. -/
def routeTellsWrong : ChangeSpec := { name := "routeTells", fn := fun _ => fun
  | [d1, d2, d3] => { results := [.lit (.bool false)], args := [d1, d2, d3] }
  | _ => none }
def RouteTellsWrongFalsely : Prop := routeTellsRow.holds Tryd.pinned (OpenSpec.ofChange routeTellsWrong)

/-- 'conduitlaw13.RouteParts': WHATEVER THE INPUT: true; the input reads as it did. -/
def routePartsSpec : ChangeSpec := { name := "routeParts", fn := fun _ => fun
  | [d1, d2] => { results := [.lit (.bool true)], args := [d1, d2] }
  | _ => none }
def routePartsRow : OpenClaim := { program := "ytedombigkebpiaadoor", sum := "d5a5d5d36a5f1a1efa9828e4c62e7b47c1a1141e5a8f4d2aa0429db2b8ff8c9f", func := "conduit/conduitlaw13.RouteParts", spec := "routeParts", inPlace := ["internal/bytealg.IndexByteString", "internal/bytealg.IndexString", "internal/bytealg.CountString"], unfollowed := true, recurses := true, named := ["internal/bytealg.MaxLen", "unicode/utf8.first", "unicode/utf8.acceptRanges"], apart := false, laid := [("unicode/utf8.acceptRanges", laid_unicode_utf8_acceptRanges), ("unicode/utf8.first", laid_unicode_utf8_first)] }
def RoutePartsSaid : Prop := routePartsRow.holds Tryd.pinned (OpenSpec.ofChange routePartsSpec)

/-- ITS FALSE NEIGHBOUR: 'it returns false'. Refute it at one input. -/
def routePartsWrong : ChangeSpec := { name := "routeParts", fn := fun _ => fun
  | [d1, d2] => { results := [.lit (.bool false)], args := [d1, d2] }
  | _ => none }
def RoutePartsWrongFalsely : Prop := routePartsRow.holds Tryd.pinned (OpenSpec.ofChange routePartsWrong)

/-- 'conduitlaw13.RouteFirst': WHATEVER THE INPUT: true; the input reads as it did. -/
def routeFirstSpec : ChangeSpec := { name := "routeFirst", fn := fun _ => fun
  | [d1, d2, d3] => { results := [.lit (.bool true)], args := [d1, d2, d3] }
  | _ => none }
def routeFirstRow : OpenClaim := { program := "ytedombigkebpiaadoor", sum := "d5a5d5d36a5f1a1efa9828e4c62e7b47c1a1141e5a8f4d2aa0429db2b8ff8c9f", func := "conduit/conduitlaw13.RouteFirst", spec := "routeFirst", inPlace := ["internal/bytealg.IndexByteString", "internal/bytealg.IndexString", "internal/bytealg.CountString"], unfollowed := true, recurses := true, named := ["internal/bytealg.MaxLen", "unicode/utf8.first", "unicode/utf8.acceptRanges"], apart := false, laid := [("unicode/utf8.acceptRanges", laid_unicode_utf8_acceptRanges), ("unicode/utf8.first", laid_unicode_utf8_first)] }
def RouteFirstSaid : Prop := routeFirstRow.holds Tryd.pinned (OpenSpec.ofChange routeFirstSpec)

/-- ITS FALSE NEIGHBOUR: 'it returns false'. Refute it at one input. -/
def routeFirstWrong : ChangeSpec := { name := "routeFirst", fn := fun _ => fun
  | [d1, d2, d3] => { results := [.lit (.bool false)], args := [d1, d2, d3] }
  | _ => none }
def RouteFirstWrongFalsely : Prop := routeFirstRow.holds Tryd.pinned (OpenSpec.ofChange routeFirstWrong)

/-- 'conduitlaw13.RouteNames': WHATEVER THE INPUT: true; the input reads as it did. -/
def routeNamesSpec : ChangeSpec := { name := "routeNames", fn := fun _ => fun
  | [d1, d2, d3] => { results := [.lit (.bool true)], args := [d1, d2, d3] }
  | _ => none }
def routeNamesRow : OpenClaim := { program := "ytedombigkebpiaadoor", sum := "d5a5d5d36a5f1a1efa9828e4c62e7b47c1a1141e5a8f4d2aa0429db2b8ff8c9f", func := "conduit/conduitlaw13.RouteNames", spec := "routeNames", inPlace := ["internal/bytealg.IndexByteString", "internal/bytealg.IndexString", "internal/bytealg.CountString"], unfollowed := true, recurses := true, named := ["internal/bytealg.MaxLen", "unicode/utf8.first", "unicode/utf8.acceptRanges"], apart := false, laid := [("unicode/utf8.acceptRanges", laid_unicode_utf8_acceptRanges), ("unicode/utf8.first", laid_unicode_utf8_first)] }
def RouteNamesSaid : Prop := routeNamesRow.holds Tryd.pinned (OpenSpec.ofChange routeNamesSpec)

/-- ITS FALSE NEIGHBOUR: 'it returns false'. Refute it at one input. -/
def routeNamesWrong : ChangeSpec := { name := "routeNames", fn := fun _ => fun
  | [d1, d2, d3] => { results := [.lit (.bool false)], args := [d1, d2, d3] }
  | _ => none }
def RouteNamesWrongFalsely : Prop := routeNamesRow.holds Tryd.pinned (OpenSpec.ofChange routeNamesWrong)

/-- 'conduitlaw13.RouteLongest': WHATEVER THE INPUT: true; the input reads as it did. -/
def routeLongestSpec : ChangeSpec := { name := "routeLongest", fn := fun _ => fun
  | [d1, d2, d3] => { results := [.lit (.bool true)], args := [d1, d2, d3] }
  | _ => none }
def routeLongestRow : OpenClaim := { program := "ytedombigkebpiaadoor", sum := "d5a5d5d36a5f1a1efa9828e4c62e7b47c1a1141e5a8f4d2aa0429db2b8ff8c9f", func := "conduit/conduitlaw13.RouteLongest", spec := "routeLongest", inPlace := ["internal/bytealg.IndexByteString", "internal/bytealg.IndexString", "internal/bytealg.CountString"], unfollowed := true, recurses := true, named := ["internal/bytealg.MaxLen", "unicode/utf8.first", "unicode/utf8.acceptRanges"], apart := false, laid := [("unicode/utf8.acceptRanges", laid_unicode_utf8_acceptRanges), ("unicode/utf8.first", laid_unicode_utf8_first)] }
def RouteLongestSaid : Prop := routeLongestRow.holds Tryd.pinned (OpenSpec.ofChange routeLongestSpec)

/-- ITS FALSE NEIGHBOUR: 'it returns false'. Refute it at one input. -/
def routeLongestWrong : ChangeSpec := { name := "routeLongest", fn := fun _ => fun
  | [d1, d2, d3] => { results := [.lit (.bool false)], args := [d1, d2, d3] }
  | _ => none }
def RouteLongestWrongFalsely : Prop := routeLongestRow.holds Tryd.pinned (OpenSpec.ofChange routeLongestWrong)

/-- 'conduitlaw13.RouteHosts': WHATEVER THE INPUT: true; the input reads as it did. -/
def routeHostsSpec : ChangeSpec := { name := "routeHosts", fn := fun _ => fun
  | [d1, d2, d3] => { results := [.lit (.bool true)], args := [d1, d2, d3] }
  | _ => none }
def routeHostsRow : OpenClaim := { program := "ytedombigkebpiaadoor", sum := "d5a5d5d36a5f1a1efa9828e4c62e7b47c1a1141e5a8f4d2aa0429db2b8ff8c9f", func := "conduit/conduitlaw13.RouteHosts", spec := "routeHosts", inPlace := ["internal/bytealg.IndexByteString", "internal/bytealg.IndexString", "internal/bytealg.CountString"], unfollowed := true, recurses := true, named := ["internal/bytealg.MaxLen", "unicode/utf8.first", "unicode/utf8.acceptRanges"], apart := false, laid := [("unicode/utf8.acceptRanges", laid_unicode_utf8_acceptRanges), ("unicode/utf8.first", laid_unicode_utf8_first)] }
def RouteHostsSaid : Prop := routeHostsRow.holds Tryd.pinned (OpenSpec.ofChange routeHostsSpec)

/-- ITS FALSE NEIGHBOUR: 'it returns false'. Refute it at one input. -/
def routeHostsWrong : ChangeSpec := { name := "routeHosts", fn := fun _ => fun
  | [d1, d2, d3] => { results := [.lit (.bool false)], args := [d1, d2, d3] }
  | _ => none }
def RouteHostsWrongFalsely : Prop := routeHostsRow.holds Tryd.pinned (OpenSpec.ofChange routeHostsWrong)

/- THE SECOND FORM. 'bulk': how many values and letters a reading holds, each counted each time it is reached (what is shared counts as often as it is met; a slice's spare places count too). A statement '..UptoSaid' is the law's where the arguments, and the package variables that the reading takes, are together of bulk at most 1048576: NARROWER than '..Said'. Prove '..Said' where nothing that the law and all that it calls make is longer than what came in: it says more and counts as full. Else prove '..UptoSaid'. A law counts once. -/
mutual
def uptoBulk {H : Type} : DataW H → Nat
  | .lit (.string bytes) => bytes.length + 1
  | .lit _ => 1
  | .nil => 1
  | .ptr d => uptoBulk d + 1
  | .slice elems spare => uptoBulkAll elems + uptoBulkAll spare + 1
  | .agg parts => uptoBulkAll parts + 1
  | .iface _ d => uptoBulk d + 1
  | .map entries => uptoBulkEntries entries + 1
  | .held _ => 1
def uptoBulkAll {H : Type} : List (DataW H) → Nat
  | [] => 0
  | d :: r => uptoBulk d + uptoBulkAll r
def uptoBulkEntries {H : Type} : List (Lit × DataW H) → Nat
  | [] => 0
  | x :: r => uptoBulkEntry x + uptoBulkEntries r
def uptoBulkEntry {H : Type} : Lit × DataW H → Nat
  | (.string bytes, d) => bytes.length + uptoBulk d + 1
  | (_, d) => uptoBulk d + 1
 end
def uptoSmall : (H : Type) → List (DataW H) → Bool := fun _ ds => decide (uptoBulkAll ds ≤ 1048576)
def OpenSpec.upto (s : _root_.Go.ChangeSpec) : _root_.Go.OpenSpec := { _root_.Go.OpenSpec.ofChange s with cond := some uptoSmall }

/-- 'conduitlaw13.RouteTells', WHERE WHAT IT READS IS OF BULK AT MOST 1048576: true; the input reads as it did. -/
def routeTellsUptoRow : OpenClaim := { program := "ytedombigkebpiaadoor", sum := "d5a5d5d36a5f1a1efa9828e4c62e7b47c1a1141e5a8f4d2aa0429db2b8ff8c9f", func := "conduit/conduitlaw13.RouteTells", spec := "routeTells", inPlace := ["internal/bytealg.IndexByteString", "internal/bytealg.IndexString", "internal/bytealg.CountString"], unfollowed := true, recurses := true, named := ["internal/bytealg.MaxLen", "unicode/utf8.first", "unicode/utf8.acceptRanges"], apart := false, laid := [("unicode/utf8.acceptRanges", laid_unicode_utf8_acceptRanges), ("unicode/utf8.first", laid_unicode_utf8_first)], narrowed := true }
def RouteTellsUptoSaid : Prop := routeTellsUptoRow.holds Tryd.pinned (OpenSpec.upto routeTellsSpec)

/-- 'conduitlaw13.RouteParts', WHERE WHAT IT READS IS OF BULK AT MOST 1048576: true; the input reads as it did. -/
def routePartsUptoRow : OpenClaim := { program := "ytedombigkebpiaadoor", sum := "d5a5d5d36a5f1a1efa9828e4c62e7b47c1a1141e5a8f4d2aa0429db2b8ff8c9f", func := "conduit/conduitlaw13.RouteParts", spec := "routeParts", inPlace := ["internal/bytealg.IndexByteString", "internal/bytealg.IndexString", "internal/bytealg.CountString"], unfollowed := true, recurses := true, named := ["internal/bytealg.MaxLen", "unicode/utf8.first", "unicode/utf8.acceptRanges"], apart := false, laid := [("unicode/utf8.acceptRanges", laid_unicode_utf8_acceptRanges), ("unicode/utf8.first", laid_unicode_utf8_first)], narrowed := true }
def RoutePartsUptoSaid : Prop := routePartsUptoRow.holds Tryd.pinned (OpenSpec.upto routePartsSpec)

/-- 'conduitlaw13.RouteFirst', WHERE WHAT IT READS IS OF BULK AT MOST 1048576: true; the input reads as it did. -/
def routeFirstUptoRow : OpenClaim := { program := "ytedombigkebpiaadoor", sum := "d5a5d5d36a5f1a1efa9828e4c62e7b47c1a1141e5a8f4d2aa0429db2b8ff8c9f", func := "conduit/conduitlaw13.RouteFirst", spec := "routeFirst", inPlace := ["internal/bytealg.IndexByteString", "internal/bytealg.IndexString", "internal/bytealg.CountString"], unfollowed := true, recurses := true, named := ["internal/bytealg.MaxLen", "unicode/utf8.first", "unicode/utf8.acceptRanges"], apart := false, laid := [("unicode/utf8.acceptRanges", laid_unicode_utf8_acceptRanges), ("unicode/utf8.first", laid_unicode_utf8_first)], narrowed := true }
def RouteFirstUptoSaid : Prop := routeFirstUptoRow.holds Tryd.pinned (OpenSpec.upto routeFirstSpec)

/-- 'conduitlaw13.RouteNames', WHERE WHAT IT READS IS OF BULK AT MOST 1048576: true; the input reads as it did. -/
def routeNamesUptoRow : OpenClaim := { program := "ytedombigkebpiaadoor", sum := "d5a5d5d36a5f1a1efa9828e4c62e7b47c1a1141e5a8f4d2aa0429db2b8ff8c9f", func := "conduit/conduitlaw13.RouteNames", spec := "routeNames", inPlace := ["internal/bytealg.IndexByteString", "internal/bytealg.IndexString", "internal/bytealg.CountString"], unfollowed := true, recurses := true, named := ["internal/bytealg.MaxLen", "unicode/utf8.first", "unicode/utf8.acceptRanges"], apart := false, laid := [("unicode/utf8.acceptRanges", laid_unicode_utf8_acceptRanges), ("unicode/utf8.first", laid_unicode_utf8_first)], narrowed := true }
def RouteNamesUptoSaid : Prop := routeNamesUptoRow.holds Tryd.pinned (OpenSpec.upto routeNamesSpec)

/-- 'conduitlaw13.RouteLongest', WHERE WHAT IT READS IS OF BULK AT MOST 1048576: true; the input reads as it did. -/
def routeLongestUptoRow : OpenClaim := { program := "ytedombigkebpiaadoor", sum := "d5a5d5d36a5f1a1efa9828e4c62e7b47c1a1141e5a8f4d2aa0429db2b8ff8c9f", func := "conduit/conduitlaw13.RouteLongest", spec := "routeLongest", inPlace := ["internal/bytealg.IndexByteString", "internal/bytealg.IndexString", "internal/bytealg.CountString"], unfollowed := true, recurses := true, named := ["internal/bytealg.MaxLen", "unicode/utf8.first", "unicode/utf8.acceptRanges"], apart := false, laid := [("unicode/utf8.acceptRanges", laid_unicode_utf8_acceptRanges), ("unicode/utf8.first", laid_unicode_utf8_first)], narrowed := true }
def RouteLongestUptoSaid : Prop := routeLongestUptoRow.holds Tryd.pinned (OpenSpec.upto routeLongestSpec)

/-- 'conduitlaw13.RouteHosts', WHERE WHAT IT READS IS OF BULK AT MOST 1048576: true; the input reads as it did. -/
def routeHostsUptoRow : OpenClaim := { program := "ytedombigkebpiaadoor", sum := "d5a5d5d36a5f1a1efa9828e4c62e7b47c1a1141e5a8f4d2aa0429db2b8ff8c9f", func := "conduit/conduitlaw13.RouteHosts", spec := "routeHosts", inPlace := ["internal/bytealg.IndexByteString", "internal/bytealg.IndexString", "internal/bytealg.CountString"], unfollowed := true, recurses := true, named := ["internal/bytealg.MaxLen", "unicode/utf8.first", "unicode/utf8.acceptRanges"], apart := false, laid := [("unicode/utf8.acceptRanges", laid_unicode_utf8_acceptRanges), ("unicode/utf8.first", laid_unicode_utf8_first)], narrowed := true }
def RouteHostsUptoSaid : Prop := routeHostsUptoRow.holds Tryd.pinned (OpenSpec.upto routeHostsSpec)

end Rows
end Go.Proofs.YtedombigkebpiaaDoor
