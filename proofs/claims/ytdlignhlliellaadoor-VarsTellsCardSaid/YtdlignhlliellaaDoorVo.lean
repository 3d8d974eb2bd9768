/- slices.insertionSortCmpFunc at pairs, out of the kit's own contract. -/
import Derived.Test.YtdlignhlliellaaDoorVs
import Derived.Shelf.SlSortCmp.InsertionK
namespace Go.Proofs.YtdlignhlliellaaDoor
set_option linter.unusedVariables false
set_option linter.unusedSimpArgs false
open Go.RowKit

def slF_ren : Go.Shelf.Ren := ⟨fun | 20 => 49 | n => n, fun | 0 => 0 | 3 => 3 | 4 => 4 | 22 => 25 | 24 => 37 | 25 => 55 | n => n, fun | n => n⟩
theorem slF20 : SlLaysF0.n20 Tryd.prog slF_ren := {
  mixed := by kernel_rfl
  f20 := ⟨Tryd.f49.name, by decide, Tryd.func49.trans (congrArg some (by kernel_rfl))⟩
  t0 := Tryd.underlying0
  a0 := Tryd.isAgg0
  z0 := Tryd.sizeOf0
  v0 := Tryd.zeroValue0
  t3 := Tryd.underlying3
  a3 := Tryd.isAgg3
  z3 := Tryd.sizeOf3
  v3 := Tryd.zeroValue3
  t4 := Tryd.underlying4
  a4 := Tryd.isAgg4
  z4 := Tryd.sizeOf4
  v4 := Tryd.zeroValue4
  t22 := Tryd.underlying25
  a22 := Tryd.isAgg25
  z22 := Tryd.sizeOf25
  v22 := Tryd.zeroValue25
  t25 := Tryd.underlying55
  a25 := Tryd.isAgg55
  z25 := Tryd.sizeOf55
  v25 := Tryd.zeroValue55 }
end Go.Proofs.YtdlignhlliellaaDoor
