/- conduitlaw17.ConfBounds: true of every number that is turned. -/
import Derived.Test.YtfmnmgiefekjfaaGreatDoorCf5A
import Derived.Test.YtfmnmgiefekjfaaGreatDoorCf5B
import Derived.Test.YtfmnmgiefekjfaaGreatDoorCf5C
import Derived.Test.YtfmnmgiefekjfaaGreatDoorCf5D
namespace Go.Proofs.YtfmnmgiefekjfaaGreatDoor
set_option linter.unusedVariables false
set_option linter.unusedSimpArgs false
open Go.RowKit

theorem law17_bounds (x : Int) (high out : Bool) (w : World) (hm : MaxL w) (x0 : 0 ≤ x) (x1 : x ≤ 255) :
    Calls Tryz.prog 4 #[.int .u8 x, .bool high, .bool out] w fun e w' => e = .returned (.bool true) ∧ Below w.heap.size w w' := by
  have h : x % 8 = 0 ∨ x % 8 = 1 ∨ x % 8 = 2 ∨ x % 8 = 3 ∨ x % 8 = 4 ∨ x % 8 = 5 ∨ x % 8 = 6 ∨ x % 8 = 7 := by omega
  rcases h with h | h | h | h | h | h | h | h
  · exact bounds_p x high out w hm h x0 x1
  · exact bounds_co x high out w hm h x0 x1
  · exact bounds_id x high out w hm h x0 x1
  · exact bounds_he x high out w hm h x0 x1
  · exact bounds_bo x high out w hm h x0 x1
  · exact bounds_ou x high out w hm h x0 x1
  · exact bounds_ti x high out w hm h x0 x1
  · exact bounds_ba x high out w hm h x0 x1
end Go.Proofs.YtfmnmgiefekjfaaGreatDoor
