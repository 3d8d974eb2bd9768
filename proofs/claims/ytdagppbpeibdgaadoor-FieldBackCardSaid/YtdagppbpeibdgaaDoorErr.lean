/- errors.Is, where the errors are the program's numbers (api.Errno) or nil. -/
import Derived.Test.YtdagppbpeibdgaaDoorBase
import Derived.Test.YtdagppbpeibdgaaDoorProg
import Derived.LaidEql
import Derived.Stop.Asserts
import Derived.RowKitTokens
import Derived.Lib.IfaceEq
import Derived.WalkSpells
namespace Go.Proofs.YtdagppbpeibdgaaDoor
set_option linter.unusedVariables false
set_option linter.unusedSimpArgs false
open Go.RowKit Go.Extern.Stop Go.Stop Go.Extern

/-- an error of the program's: nil, or a number -/
def errV (n : Int) : Value := if n = 0 then .nilIface else .iface 38 (.int .i64 n)
theorem eTypeOf (v : Value) (w : World) : (Extern.ReflectliteType.typeOf #[.iface 38 v]).run Tryd.prog w = .ok (.iface 85 (.agg #[.pointer (some ⟨7, 38, none⟩)])) w := by kernel_rfl
theorem eCompCall (w : World) : (callFunc 143 #[.agg #[.pointer (some ⟨7, 38, none⟩)]]).run Tryd.prog w = .ok (.value (.bool true)) w := by
  have h32 := @run_callFunc_extern Tryd.prog 143 _ (Extern.ReflectliteType.method fun t => do Extern.Rtype.noPackHeld "Comparable" t; pure (.bool (← typeInfo t).comparable)) Tryd.func143 (by kernel_rfl) (by kernel_rfl) (by kernel_rfl) (by kernel_rfl)
  rw [h32]
  have hc : ((Extern.ReflectliteType.method fun t => do Extern.Rtype.noPackHeld "Comparable" t; pure (.bool (← typeInfo t).comparable)) #[.agg #[.pointer (some ⟨7, 38, none⟩)]]).run Tryd.prog w = .ok (.bool true) w := by kernel_rfl
  rw [hc]; rfl
theorem eMethod (v : Value) (w : World) : (Go.method 281 85 v "Comparable").run Tryd.prog w = .ok (143, v) w := by kernel_rfl
theorem eInfo : (Tryd.prog.info? 38).map (·.comparable) = some true := by kernel_rfl
theorem noIs (v : Value) (xT : TypeId) (w : World) : (Instr.typeAssert (.iface 38 v) xT 87 true).run Tryd.prog w = .ok (.tuple #[.nilIface, .bool false]) w := run_typeAssert_lacksB Tryd.underlying87 (by kernel_rfl) (by kernel_rfl) v xT w
theorem noUnwrap (v : Value) (xT : TypeId) (w : World) : (Instr.typeAssert (.iface 38 v) xT 90 true).run Tryd.prog w = .ok (.tuple #[.nilIface, .bool false]) w := run_typeAssert_lacksB Tryd.underlying90 (by kernel_rfl) (by kernel_rfl) v xT w
theorem noUnwraps (v : Value) (xT : TypeId) (w : World) : (Instr.typeAssert (.iface 38 v) xT 92 true).run Tryd.prog w = .ok (.tuple #[.nilIface, .bool false]) w := run_typeAssert_lacksB Tryd.underlying92 (by kernel_rfl) (by kernel_rfl) v xT w

set_option maxRecDepth 100000 in
/-- errors.Is of two numbers -/
theorem is_errno (a b : Int) (w : World) :
    Calls Tryd.prog 19 #[.iface 38 (.int .i64 a), .iface 38 (.int .i64 b)] w fun e w' => e = .returned (.bool (a == b)) ∧ w = w' := by
  have h8 := @run_callFunc_extern Tryd.prog 43 _ Extern.ReflectliteType.typeOf Tryd.func43 (by kernel_rfl) (by kernel_rfl) (by kernel_rfl) (by kernel_rfl)
  have tT := eTypeOf
  have cT := eCompCall
  have mR := eMethod
  have nE := noIs
  have uE := noUnwrap
  have vE := noUnwraps
  have heq := Lib.run_eql_iface_int (P := Tryd.prog) w (k := .i64) a b Tryd.underlying29 eInfo Tryd.underlying38
  cases hab : (a == b)
  all_goals
    rw [hab] at heq
    go_enter Tryd.func19, Tryd.ntmps19
    go_wp2
    refine wp_loop_rounds 1 ?_
    rw [rounds_succ]
    go_wp2
    go_ret
    exact ⟨rfl, rfl⟩
/-- errors.Is(nil, a number) -/
theorem is_nil (b : Int) (w : World) :
    Calls Tryd.prog 19 #[.nilIface, .iface 38 (.int .i64 b)] w fun e w' => e = .returned (.bool false) ∧ w = w' := by
  have hn := run_eql_iface_nil_left (P := Tryd.prog) w 38 (.int .i64 b) Tryd.underlying29
  go_enter Tryd.func19, Tryd.ntmps19
  go_wp2
  go_ret
  exact ⟨rfl, rfl⟩
theorem errors_Is (a b : Int) (ha : 0 ≤ a) (hb : 0 < b) (w : World) :
    Calls Tryd.prog 19 #[errV a, .iface 38 (.int .i64 b)] w fun e w' => e = .returned (.bool (a == b)) ∧ w = w' := by
  by_cases h : a = 0
  · subst h
    have : ((0 : Int) == b) = false := by simp; omega
    rw [this]
    exact is_nil b w
  · unfold errV; rw [if_neg h]; exact is_errno a b w
end Go.Proofs.YtdagppbpeibdgaaDoor
