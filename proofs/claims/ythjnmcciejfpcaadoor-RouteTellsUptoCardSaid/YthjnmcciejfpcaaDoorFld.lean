/- field.isValue, name, value, Is. -/
import Derived.Test.YthjnmcciejfpcaaDoorMC
import Derived.Deep.RegionHeld3
import Derived.Deep.DeepCutAuto
import Derived.Deep.QuietTactic
import Derived.BigQuiet
namespace Go.Proofs.YthjnmcciejfpcaaDoor
set_option linter.unusedVariables false
set_option linter.unusedSimpArgs false
open Go.RowKit

def valB (c : UInt8) : Bool := c == 9 || (decide (32 ≤ (c.toNat : Int)) && !(c == 127))
theorem valB_eq (c : UInt8) : valB c = (((c.toNat : Int) == 9) || (decide (32 ≤ (c.toNat : Int)) && !((c.toNat : Int) == 127))) := by
  unfold valB
  have h : ∀ d : UInt8, (c == d) = ((c.toNat : Int) == (d.toNat : Int)) := fun d => by
    rw [Bool.eq_iff_iff, beq_iff_eq, beq_iff_eq]
    constructor
    · rintro rfl; rfl
    · intro h; exact UInt8.toNat_inj.1 (by omega)
  rw [h 9, h 127]; rfl
def nameE (s : ByteArray) : Int := if allB isTokB s = false then 10 else if 64 < s.size then 12 else 0
def valE (s : ByteArray) : Int := if (L s).all valB = false then 10 else if 512 < s.size then 12 else 0
def fieldOk (a b : ByteArray) : Bool := nameE a == 0 && valE b == 0 && eqB (octTrim b) b
theorem nameE_cases (s : ByteArray) : nameE s = 10 ∨ nameE s = 12 ∨ nameE s = 0 := by unfold nameE; split <;> (try split) <;> simp
theorem valE_cases (s : ByteArray) : valE s = 10 ∨ valE s = 12 ∨ valE s = 0 := by unfold valE; split <;> (try split) <;> simp
theorem same_sym {P : Program} {f : FuncId} {args : Array Value} {w : World} {v : Value} (h : Calls P f args w fun e w' => e = .returned v ∧ w = w') : Calls P f args w fun e w' => e = .returned v ∧ w' = w := h.mono fun _ _ ⟨a, b⟩ => ⟨a, b.symm⟩
end Go.Proofs.YthjnmcciejfpcaaDoor
