/- conduitlaw11.same, known: true. -/
import Derived.Test.YtfmnmgiefekjfaaGreatDoorPathV
import Derived.Deep.QuietTactic
import Derived.BigQuiet
namespace Go.Proofs.YtfmnmgiefekjfaaGreatDoor
set_option linter.unusedVariables false
set_option linter.unusedSimpArgs false
open Go.RowKit

theorem clean_at (s : ByteArray) (v : Value) (w : World) (h : cleanR (cleanS s) = v) (hm : MaxL w) (hs : s.size ≤ 8388608) :
    Calls Tryz.prog 52 #[.string s] w fun e w' => e = .returned v ∧ Below w.heap.size w w' := by subst h; exact path_Clean s w hm hs
theorem cleanR_some {s p : ByteArray} (h : cleanS s = some p) : cleanR (cleanS s) = .tuple #[.string p, .nilIface] := by rw [h]; rfl
theorem cleanR_none {s : ByteArray} (h : cleanS s = none) : cleanR (cleanS s) = .tuple #[.string ⟨#[]⟩, .iface 31 (.int .i64 10)] := by rw [h]; rfl
theorem segs_at (s : ByteArray) (l : List ByteArray) (n : Nat) (w : World) (h : segs s = l) (hn : l.length = n) (hm : MaxL w) (hs : s.size < 4294967281) :
    Calls Tryz.prog 51 #[.string s] w fun e w' => (∃ A c, e = .returned (.slice A n c) ∧ n ≤ c ∧ Strs w' A l) ∧ Below w.heap.size w w' := by subst h hn; exact path_Segments s w hm hs

end Go.Proofs.YtfmnmgiefekjfaaGreatDoor
