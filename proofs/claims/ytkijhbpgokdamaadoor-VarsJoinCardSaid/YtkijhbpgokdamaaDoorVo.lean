/- slices.insertionSortCmpFunc at pairs, out of the kit's own contract. -/
import Derived.Test.YtkijhbpgokdamaaDoorVs
import Derived.Shelf.SlSortCmp.InsertionK
namespace Go.Proofs.YtkijhbpgokdamaaDoor
set_option linter.unusedVariables false
set_option linter.unusedSimpArgs false
open Go.RowKit

def slF_ren : Go.Shelf.Ren := ⟨fun | 20 => 35 | n => n, fun | 0 => 0 | 3 => 3 | 4 => 4 | 22 => 23 | 24 => 28 | 25 => 55 | n => n, fun | n => n⟩
theorem slF20 : SlLaysF0.n20 Tryd.prog slF_ren := {
  mixed := by kernel_rfl
  f20 := ⟨Tryd.f35.name, by decide, Tryd.func35.trans (congrArg some (by kernel_rfl))⟩
  t0 := Tryd.underlying0
  a0 := Tryd.isAgg0
  z0 := Tryd.sizeOf0
  v0 := Tryd.zeroValue0
  t3 := Tryd.underlying3
  a3 := Tryd.isAgg3
  z3 := Tryd.sizeOf3
  v3 := Tryd.zeroValue3
  t4 := Tryd.underlying4
  a4 := Tryd.isAgg4
  z4 := Tryd.sizeOf4
  v4 := Tryd.zeroValue4
  t22 := Tryd.underlying23
  a22 := Tryd.isAgg23
  z22 := Tryd.sizeOf23
  v22 := Tryd.zeroValue23
  t25 := Tryd.underlying55
  a25 := Tryd.isAgg55
  z25 := Tryd.sizeOf55
  v25 := Tryd.zeroValue55 }
end Go.Proofs.YtkijhbpgokdamaaDoor
