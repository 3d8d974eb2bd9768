/- errors.Is, where the errors are the program's numbers (api.Errno) or nil. -/
import Derived.Test.YtfmnmgiefekjfaaGreatDoorBase
import Derived.Test.YtfmnmgiefekjfaaGreatDoorProg
import Derived.LaidEql
import Derived.Stop.Asserts
import Derived.RowKitTokens
import Derived.Lib.IfaceEq
import Derived.WalkSpells
namespace Go.Proofs.YtfmnmgiefekjfaaGreatDoor
set_option linter.unusedVariables false
set_option linter.unusedSimpArgs false
open Go.RowKit Go.Extern.Stop Go.Stop Go.Extern

/-- an error of the program's: nil, or a number -/
def errV (n : Int) : Value := if n = 0 then .nilIface else .iface 31 (.int .i64 n)
theorem eTypeOf (v : Value) (w : World) : (Extern.ReflectliteType.typeOf #[.iface 31 v]).run Tryz.prog w = .ok (.iface 63 (.agg #[.pointer (some ⟨8, 31, none⟩)])) w := by kernel_rfl
theorem eCompCall (w : World) : (callFunc 155 #[.agg #[.pointer (some ⟨8, 31, none⟩)]]).run Tryz.prog w = .ok (.value (.bool true)) w := by
  have h32 := @run_callFunc_extern Tryz.prog 155 _ (Extern.ReflectliteType.method fun t => do Extern.Rtype.noPackHeld "Comparable" t; pure (.bool (← typeInfo t).comparable)) Tryz.func155 (by kernel_rfl) (by kernel_rfl) (by kernel_rfl) (by kernel_rfl)
  rw [h32]
  have hc : ((Extern.ReflectliteType.method fun t => do Extern.Rtype.noPackHeld "Comparable" t; pure (.bool (← typeInfo t).comparable)) #[.agg #[.pointer (some ⟨8, 31, none⟩)]]).run Tryz.prog w = .ok (.bool true) w := by kernel_rfl
  rw [hc]; rfl
theorem eMethod (v : Value) (w : World) : (Go.method 292 63 v "Comparable").run Tryz.prog w = .ok (155, v) w := by kernel_rfl
theorem eInfo : (Tryz.prog.info? 31).map (·.comparable) = some true := by kernel_rfl
theorem noIs (v : Value) (xT : TypeId) (w : World) : (Instr.typeAssert (.iface 31 v) xT 65 true).run Tryz.prog w = .ok (.tuple #[.nilIface, .bool false]) w := run_typeAssert_lacksB Tryz.underlying65 (by kernel_rfl) (by kernel_rfl) v xT w
theorem noUnwrap (v : Value) (xT : TypeId) (w : World) : (Instr.typeAssert (.iface 31 v) xT 68 true).run Tryz.prog w = .ok (.tuple #[.nilIface, .bool false]) w := run_typeAssert_lacksB Tryz.underlying68 (by kernel_rfl) (by kernel_rfl) v xT w
theorem noUnwraps (v : Value) (xT : TypeId) (w : World) : (Instr.typeAssert (.iface 31 v) xT 70 true).run Tryz.prog w = .ok (.tuple #[.nilIface, .bool false]) w := run_typeAssert_lacksB Tryz.underlying70 (by kernel_rfl) (by kernel_rfl) v xT w

set_option maxRecDepth 100000 in
/-- errors.Is of two numbers -/
theorem is_errno (a b : Int) (w : World) :
    Calls Tryz.prog 8 #[.iface 31 (.int .i64 a), .iface 31 (.int .i64 b)] w fun e w' => e = .returned (.bool (a == b)) ∧ w = w' := by
  have h8 := @run_callFunc_extern Tryz.prog 17 _ Extern.ReflectliteType.typeOf Tryz.func17 (by kernel_rfl) (by kernel_rfl) (by kernel_rfl) (by kernel_rfl)
  have tT := eTypeOf
  have cT := eCompCall
  have mR := eMethod
  have nE := noIs
  have uE := noUnwrap
  have vE := noUnwraps
  have heq := Lib.run_eql_iface_int (P := Tryz.prog) w (k := .i64) a b Tryz.underlying27 eInfo Tryz.underlying31
  cases hab : (a == b)
  all_goals
    rw [hab] at heq
    go_enter Tryz.func8, Tryz.ntmps8
    go_wp2
    refine wp_loop_rounds 1 ?_
    rw [rounds_succ]
    go_wp2
    go_ret
    exact ⟨rfl, rfl⟩
/-- errors.Is(nil, a number) -/
theorem is_nil (b : Int) (w : World) :
    Calls Tryz.prog 8 #[.nilIface, .iface 31 (.int .i64 b)] w fun e w' => e = .returned (.bool false) ∧ w = w' := by
  have hn := run_eql_iface_nil_left (P := Tryz.prog) w 31 (.int .i64 b) Tryz.underlying27
  go_enter Tryz.func8, Tryz.ntmps8
  go_wp2
  go_ret
  exact ⟨rfl, rfl⟩
theorem errors_Is (a b : Int) (ha : 0 ≤ a) (hb : 0 < b) (w : World) :
    Calls Tryz.prog 8 #[errV a, .iface 31 (.int .i64 b)] w fun e w' => e = .returned (.bool (a == b)) ∧ w = w' := by
  by_cases h : a = 0
  · subst h
    have : ((0 : Int) == b) = false := by simp; omega
    rw [this]
    exact is_nil b w
  · unfold errV; rw [if_neg h]; exact is_errno a b w
end Go.Proofs.YtfmnmgiefekjfaaGreatDoor
