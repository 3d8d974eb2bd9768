/- errors.As at a variable of the program's numbers (api.Errno), of a number or nil. -/
import Derived.Test.YtdagppbpeibdgaaDoorErr
import Derived.Test.YtdagppbpeibdgaaDoorStrs
namespace Go.Proofs.YtdagppbpeibdgaaDoor
set_option linter.unusedVariables false
set_option linter.unusedSimpArgs false
open Go.RowKit Go.Extern.Stop Go.Stop Go.Extern

/-- the listed variable errors.errorType -/
def ErrT (w : World) : Prop := w.cell? ⟨0, 0, none⟩ = some (.iface 85 (.agg #[.pointer (some ⟨7, 29, none⟩)]))
theorem ErrT.fr {w w' : World} (h : ErrT w) (hb : Below w.heap.size w w') : ErrT w' := fr_cell hb h
theorem as_nil (t : Value) (w : World) : Calls Tryd.prog 52 #[.nilIface, t] w fun e w' => e = .returned (.bool false) ∧ w = w' := by
  go_enter Tryd.func52, Tryd.ntmps52
  go_wp2
  go_ret
  exact ⟨rfl, rfl⟩
theorem aV27 (t : Addr) (w : World) : (ReflectliteValue.unpack (.iface 80 (.pointer (some t)))).run Tryd.prog w
    = .ok (.agg #[.pointer (some ⟨7, 80, none⟩), .pointer (some ⟨w.heap.size, 0, none⟩), .int .u64 150]) (w.alloc (.cells #[.pointer (some t)] 80)) := by kernel_rfl
theorem aT27 (a : Addr) (w : World) : (ReflectliteValue.methodAny (ReflectliteValue.valueError "reflectlite.Value.Type" 0) (fun t _ _ _ => ReflectliteType.toType t) #[.agg #[.pointer (some ⟨7, 80, none⟩), .pointer (some a), .int .u64 150]]).run Tryd.prog w
    = .ok (.iface 85 (.agg #[.pointer (some ⟨7, 80, none⟩)])) w := by kernel_rfl
theorem aMK (h : Value) (w : World) : (Go.method 281 85 (.agg #[h]) "Kind").run Tryd.prog w = .ok (137, h) w := by kernel_rfl
theorem aK27 (w : World) : ((ReflectliteType.abiMethod fun t => (fun a : Nat => Value.int IntKind.u8 (a : Int)) <$> Rtype.kind t) #[.pointer (some ⟨7, 80, none⟩)]).run Tryd.prog w = .ok (.int .u8 22) w := by kernel_rfl
theorem aK25 (w : World) : ((ReflectliteType.abiMethod fun t => (fun a : Nat => Value.int IntKind.u8 (a : Int)) <$> Rtype.kind t) #[.pointer (some ⟨7, 38, none⟩)]).run Tryd.prog w = .ok (.int .u8 2) w := by kernel_rfl
theorem rlm (z : Sem Value) (f : TypeId → Addr → Nat → Nat → Sem Value) (v : Value) :
    ReflectliteValue.method z f #[v] = (do match ← ReflectliteValue.parts v with | none => z | some (t, a, fl) => f t a fl (fl % 32)) := rfl
theorem aP27 (a : Addr) (w : World) : (ReflectliteValue.parts (.agg #[.pointer (some ⟨7, 80, none⟩), .pointer (some a), .int .u64 150])).run Tryd.prog w = .ok (some (80, a, 150)) w := by kernel_rfl
theorem aN27 (a p : Addr) (W : World) (ha : W.cell? a = some (.pointer (some p))) :
    (ReflectliteValue.method (ReflectliteValue.valueError "reflectlite.Value.IsNil" 0) ReflectliteValue.isNil #[.agg #[.pointer (some ⟨7, 80, none⟩), .pointer (some a), .int .u64 150]]).run Tryd.prog W = .ok (.bool false) W := by
  rw [rlm]
  simp only [Sem.run_bind, aP27, Result.andThen]
  simp [ReflectliteValue.isNil, loadVar, isAgg, underlying, Tryd.underlying80, ha, Result.andThen]
theorem aME (h : Value) (w : World) : (Go.method 281 85 (.agg #[h]) "Elem").run Tryd.prog w = .ok (144, .agg #[h]) w := by kernel_rfl
theorem aMI (h : Value) (w : World) : (Go.method 281 85 (.agg #[h]) "Implements").run Tryd.prog w = .ok (145, .agg #[h]) w := by kernel_rfl
theorem aMA (h : Value) (w : World) : (Go.method 281 85 (.agg #[h]) "AssignableTo").run Tryd.prog w = .ok (142, .agg #[h]) w := by kernel_rfl
theorem aE27 (w : World) : (ReflectliteType.method ReflectliteType.elem #[.agg #[.pointer (some ⟨7, 80, none⟩)]]).run Tryd.prog w = .ok (.iface 85 (.agg #[.pointer (some ⟨7, 38, none⟩)])) w := by kernel_rfl
theorem aI25 (w : World) : (ReflectliteType.relation "Implements" ReflectliteType.implements_ #[.agg #[.pointer (some ⟨7, 38, none⟩)], .iface 85 (.agg #[.pointer (some ⟨7, 29, none⟩)])]).run Tryd.prog w = .ok (.bool true) w := by kernel_rfl
theorem aTO (v : Value) (w : World) : (ReflectliteType.typeOf #[.iface 38 v]).run Tryd.prog w = .ok (.iface 85 (.agg #[.pointer (some ⟨7, 38, none⟩)])) w := by kernel_rfl
theorem aA25 (w : World) : (ReflectliteType.relation "AssignableTo" ReflectliteType.assignableTo #[.agg #[.pointer (some ⟨7, 38, none⟩)], .iface 85 (.agg #[.pointer (some ⟨7, 38, none⟩)])]).run Tryd.prog w = .ok (.bool true) w := by kernel_rfl
theorem aV25 (e : Int) (w : World) : (ReflectliteValue.unpack (.iface 38 (.int .i64 e))).run Tryd.prog w
    = .ok (.agg #[.pointer (some ⟨7, 38, none⟩), .pointer (some ⟨w.heap.size, 0, none⟩), .int .u64 130]) (w.alloc (.cells #[.int .i64 e] 38)) := by kernel_rfl
theorem aEl (w : World) : (Rtype.elem? 80).run Tryd.prog w = .ok (some 38) w := by kernel_rfl
theorem aMk (p : Addr) (w : World) : (ReflectliteValue.mk 38 p ReflectliteValue.flagAddr).run Tryd.prog w = .ok (.agg #[.pointer (some ⟨7, 38, none⟩), .pointer (some p), .int .u64 386]) w := by kernel_rfl
theorem aEV (a p : Addr) (W : World) (ha : W.cell? a = some (.pointer (some p))) :
    (ReflectliteValue.method (ReflectliteValue.valueError "reflectlite.Value.Elem" 0) ReflectliteValue.elem #[.agg #[.pointer (some ⟨7, 80, none⟩), .pointer (some a), .int .u64 150]]).run Tryd.prog W
      = .ok (.agg #[.pointer (some ⟨7, 38, none⟩), .pointer (some p), .int .u64 386]) W := by
  rw [rlm]
  simp only [Sem.run_bind, aP27, Result.andThen]
  simp [ReflectliteValue.elem, loadVar, isAgg, underlying, Tryd.underlying80, ha, Result.andThen, aEl, aMk]
theorem rls (v x : Value) : ReflectliteValue.set #[v, x] = (do
    let (some (dst, a, fl), some (src, b, _)) := (← ReflectliteValue.parts v, ← ReflectliteValue.parts x)
      | unsupported (.noEntry "extern/(internal/reflectlite.Value).Set.zeroValue")
    if fl / ReflectliteValue.flagAddr % 2 == 0 then unsupported (.noEntry "extern/(internal/reflectlite.Value).Set.unaddressable")
    let val ← loadVar src b
    if ← Rtype.directlyAssignable dst src then storeVar dst a val
    else if ← Rtype.implements dst src then
      if (← Rtype.kind src) == 20 then
        match val with
        | .nilIface => unsupported (.noEntry "extern/reflectlite: a nil value of one interface type handed on as a value of another")
        | _ => storeVar dst a val
      else storeVar dst a (.iface src val)
    else panicString ("reflectlite.Set: value of type " ++ (← Rtype.spelt src) ++ " is not assignable to type " ++ (← Rtype.spelt dst))
    pure (.tuple #[])) := rfl
theorem aPa (a : Addr) (w : World) : (ReflectliteValue.parts (.agg #[.pointer (some ⟨7, 38, none⟩), .pointer (some a), .int .u64 386])).run Tryd.prog w = .ok (some (38, a, 386)) w := by kernel_rfl
theorem aPb (a : Addr) (w : World) : (ReflectliteValue.parts (.agg #[.pointer (some ⟨7, 38, none⟩), .pointer (some a), .int .u64 130])).run Tryd.prog w = .ok (some (38, a, 130)) w := by kernel_rfl
theorem aD (w : World) : (Rtype.directlyAssignable 38 38).run Tryd.prog w = .ok true w := by kernel_rfl
theorem aSz (w : World) : (sizeOf 38).run Tryd.prog w = .ok 1 w := by kernel_rfl
theorem aSet (ta b : Addr) (e : Int) (old : Value) (W : World) (hb : W.cell? b = some (.int .i64 e)) (ht : W.cell? ta = some old) (hf : W.frozen? ta = false) :
    (ReflectliteValue.set #[.agg #[.pointer (some ⟨7, 38, none⟩), .pointer (some ta), .int .u64 386], .agg #[.pointer (some ⟨7, 38, none⟩), .pointer (some b), .int .u64 130]]).run Tryd.prog W
      = .ok (.tuple #[]) (W.setCell ta (.int .i64 e)) := by
  rw [rls]
  simp only [Sem.run_bind, aPa, aPb, Result.andThen]
  simp [ReflectliteValue.flagAddr, loadVar, isAgg, underlying, Tryd.underlying38, hb, Result.andThen, aD, storeVar, Value.cells, storeCells, Addr.add]
  rw [run_store Tryd.prog W ta _ _ (by rfl)]
  simp [ht, hf]
set_option maxRecDepth 100000 in
set_option maxHeartbeats 8000000 in
theorem as_hit (e : Int) (t : Addr) (old : Value) (w : World) (hg : ErrT w) (ht0 : w.cell? t = some old) (hf0 : w.frozen? t = false) :
    Calls Tryd.prog 52 #[.iface 38 (.int .i64 e), .iface 80 (.pointer (some t))] w fun ev w' => ev = .returned (.bool true) ∧ w' = ((((w.alloc (.cells #[.pointer (some t)] 80)).alloc (.cells #[.pointer (some ⟨7, 80, none⟩), .pointer (some ⟨w.heap.size, 0, none⟩), .int .u64 150] 101)).alloc (.cells #[.pointer (some ⟨7, 80, none⟩), .pointer (some ⟨w.heap.size, 0, none⟩), .int .u64 150] 101)).alloc (.cells #[.int .i64 e] 38)).setCell t (.int .i64 e) := by
  have h6 := @run_callFunc_extern Tryd.prog 70 _ (fun args => ReflectliteValue.unpack (args.getD 0 (.tuple #[]))) Tryd.func70 (by kernel_rfl) (by kernel_rfl) (by kernel_rfl) (by kernel_rfl)
  have h7 := @run_callFunc_extern Tryd.prog 71 _ (ReflectliteValue.methodAny (ReflectliteValue.valueError "reflectlite.Value.Type" 0) (fun t _ _ _ => ReflectliteType.toType t)) Tryd.func71 (by kernel_rfl) (by kernel_rfl) (by kernel_rfl) (by kernel_rfl)
  have h8 := @run_callFunc_extern Tryd.prog 72 _ (ReflectliteValue.method (ReflectliteValue.valueError "reflectlite.Value.IsNil" 0) ReflectliteValue.isNil) Tryd.func72 (by kernel_rfl) (by kernel_rfl) (by kernel_rfl) (by kernel_rfl)
  have h27 := @run_callFunc_extern Tryd.prog 137 _ (ReflectliteType.abiMethod fun t => do pure (.int .u8 (← Rtype.kind t))) Tryd.func137 (by kernel_rfl) (by kernel_rfl) (by kernel_rfl) (by kernel_rfl)
  have h37 := @run_callFunc_extern Tryd.prog 144 _ (ReflectliteType.method ReflectliteType.elem) Tryd.func144 (by kernel_rfl) (by kernel_rfl) (by kernel_rfl) (by kernel_rfl)
  have h38 := @run_callFunc_extern Tryd.prog 145 _ (ReflectliteType.relation "Implements" ReflectliteType.implements_) Tryd.func145 (by kernel_rfl) (by kernel_rfl) (by kernel_rfl) (by kernel_rfl)
  have h10 := @run_callFunc_extern Tryd.prog 43 _ ReflectliteType.typeOf Tryd.func43 (by kernel_rfl) (by kernel_rfl) (by kernel_rfl) (by kernel_rfl)
  have h35 := @run_callFunc_extern Tryd.prog 142 _ (ReflectliteType.relation "AssignableTo" ReflectliteType.assignableTo) Tryd.func142 (by kernel_rfl) (by kernel_rfl) (by kernel_rfl) (by kernel_rfl)
  have h11 := @run_callFunc_extern Tryd.prog 92 _ (ReflectliteValue.method (ReflectliteValue.valueError "reflectlite.Value.Elem" 0) ReflectliteValue.elem) Tryd.func92 (by kernel_rfl) (by kernel_rfl) (by kernel_rfl) (by kernel_rfl)
  have h12 := @run_callFunc_extern Tryd.prog 93 _ ReflectliteValue.set Tryd.func93 (by kernel_rfl) (by kernel_rfl) (by kernel_rfl) (by kernel_rfl)
  have tO := aTO
  have mA := aMA
  have a25 := aA25
  have v25 := aV25
  have f6 := aV27
  have f7 := aT27
  have mK := aMK
  have mE := aME
  have mI := aMI
  have k27 := aK27
  have k25 := aK25
  have e27 := aE27
  have i25 := aI25
  unfold ErrT at hg
  have n8 := aN27 ⟨w.heap.size, 0, none⟩ t ((w.alloc (.cells #[.pointer (some t)] 80)).alloc (.cells #[.pointer (some ⟨7, 80, none⟩), .pointer (some ⟨w.heap.size, 0, none⟩), .int .u64 150] 101)) (by simp)
  have hlt : 0 < w.heap.size := World.block_lt_of_cell? _ _ hg
  have hg2 : ((w.alloc (.cells #[.pointer (some t)] 80)).alloc (.cells #[.pointer (some ⟨7, 80, none⟩), .pointer (some ⟨w.heap.size, 0, none⟩), .int .u64 150] 101)).cell? ⟨0, 0, none⟩ = some (.iface 85 (.agg #[.pointer (some ⟨7, 29, none⟩)])) := by
    rw [World.cell?_alloc_lt _ _ ⟨0, 0, none⟩ (by first | (simp; done) | (simp; omega)), World.cell?_alloc_lt _ _ ⟨0, 0, none⟩ hlt]; exact hg
  have htl : t.block < w.heap.size := World.block_lt_of_cell? _ _ ht0
  have el := aEV ⟨w.heap.size, 0, none⟩ t (((w.alloc (.cells #[.pointer (some t)] 80)).alloc (.cells #[.pointer (some ⟨7, 80, none⟩), .pointer (some ⟨w.heap.size, 0, none⟩), .int .u64 150] 101)).alloc (.cells #[.pointer (some ⟨7, 80, none⟩), .pointer (some ⟨w.heap.size, 0, none⟩), .int .u64 150] 101)) (by rw [World.cell?_alloc_lt _ _ ⟨w.heap.size, 0, none⟩ (by simp; omega)]; simp)
  have st := aSet t ⟨w.heap.size + 1 + 1 + 1, 0, none⟩ e old ((((w.alloc (.cells #[.pointer (some t)] 80)).alloc (.cells #[.pointer (some ⟨7, 80, none⟩), .pointer (some ⟨w.heap.size, 0, none⟩), .int .u64 150] 101)).alloc (.cells #[.pointer (some ⟨7, 80, none⟩), .pointer (some ⟨w.heap.size, 0, none⟩), .int .u64 150] 101)).alloc (.cells #[.int .i64 e] 38))
    (by rw [World.cell?_alloc_at _ _ _ _ (by simp)]; rfl)
    (by rw [World.cell?_alloc_lt _ _ t (by simp; omega), World.cell?_alloc_lt _ _ t (by simp; omega), World.cell?_alloc_lt _ _ t (by simp; omega), World.cell?_alloc_lt _ _ t htl]; exact ht0)
    (by rw [World.frozen?_alloc_old _ _ t (by simp; omega), World.frozen?_alloc_old _ _ t (by simp; omega), World.frozen?_alloc_old _ _ t (by simp; omega), World.frozen?_alloc_old _ _ t (Nat.ne_of_lt htl)]; exact hf0)
  go_enter Tryd.func52, Tryd.ntmps52
  go_wp2
  refine wp_loop_rounds 1 ?_
  rw [rounds_succ]
  go_wp2
  go_ret
  exact ⟨rfl, rfl⟩
/-- the same, told by its frame: only the variable's block turns -/
theorem as_set (n : Int) (g : Nat) (old : Value) (w : World) (hE : ErrT w) (hB : Blk w g 38 #[old]) :
    Calls Tryd.prog 52 #[.iface 38 (.int .i64 n), .iface 80 (.pointer (some ⟨g, 0, none⟩))] w fun ev w' => ev = .returned (.bool true) ∧ w.grownBy w' (some g) ∧ w'.cell? ⟨g, 0, none⟩ = some (.int .i64 n) := by
  have h0 := hB.cell 0
  refine (as_hit n ⟨g, 0, none⟩ old w hE h0 (hB.frozen 0)).mono ?_
  rintro e w' ⟨rfl, rfl⟩
  refine ⟨rfl, only_set (only_alloc (only_alloc (only_alloc (only_alloc (only_refl _ _) _) _) _) _) _ _, ?_⟩
  exact World.cell?_setCell_same _ _ _ (fr_cell (fr_alloc (fr_alloc (fr_alloc (fr_alloc (fr_refl w) (.cells #[.pointer (some ⟨g, 0, none⟩)] 80)) (.cells #[.pointer (some ⟨7, 80, none⟩), .pointer (some ⟨w.heap.size, 0, none⟩), .int .u64 150] 101)) (.cells #[.pointer (some ⟨7, 80, none⟩), .pointer (some ⟨w.heap.size, 0, none⟩), .int .u64 150] 101)) (.cells #[.int .i64 n] 38)) h0)
end Go.Proofs.YtdagppbpeibdgaaDoor
