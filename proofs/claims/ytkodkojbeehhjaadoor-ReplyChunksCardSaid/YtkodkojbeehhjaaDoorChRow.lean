/- conduitlaw10.ReplyChunks: for every input the law returns true, and each argument reads behind the call as it read before; the listed tables of the library read as the program's text lays them (tied). No further condition. -/
import Derived.Test.YtkodkojbeehhjaaDoorCards
import Derived.Test.YtkodkojbeehhjaaDoorTie
import Derived.Test.YtkodkojbeehhjaaDoorChWalk
import Derived.Test.YtkodkojbeehhjaaDoorOpenS
import Derived.Test.YtkodkojbeehhjaaDoorOpen
import Derived.Deep.DeepHandedRow
import Derived.Lib.LaidTab
import Derived.Stop.LaidErr
import Derived.SevenTiedAt
namespace Go.Proofs.YtkodkojbeehhjaaDoor.replyChunks
open Go.ChangeShapes Go.WideShapes Go.ChangeAt Go.RowKit Go.Joins
open Go.ChangeMaps (open_string shut_string)
set_option linter.unusedVariables false
theorem own : ownKnob Tryd.prog.godebug = none := by kernel_rfl
theorem laidOut : laidOutB Tryd.prog = true := by kernel_rfl
theorem laid3 {W : World} (h : laidMetH Tryd.prog Rows.replyChunksRow.laid W) : Tab W ∧ TabZ W := by
  refine ⟨?_, ?_⟩
  · exact Lib.tabIs_of_head (rest := []) (g := 0) (t := 78) (e := 63) (n := 20) (by kernel_rfl) (by kernel_rfl) Tryd.underlying78 Tryd.underlying63 (by kernel_rfl) (by kernel_rfl) (laidMet.tail (laidMet.tail h))
  · exact Lib.tabIs_of_head (rest := [("internal/strconv.uint64pow10", Rows.laid_internal_strconv_uint64pow10)]) (g := 2) (t := 85) (e := 5) (n := 64) (by kernel_rfl) (by kernel_rfl) Tryd.underlying85 Tryd.underlying5 (by kernel_rfl) (by kernel_rfl) (laidMet.tail h)

theorem contract (H : Type) (enc : TypeId × Value → H) (W : World) (args : Array Value) (ds gs : List (DataW H)) (before : List MemPlace)
    (base : Nat) (hval : ∀ (j : Nat) t v, Tryd.f4.params[j]? = some t → args[j]? = some v → Value.okWide Tryd.prog W .any base t v)
    (hW : DataW.Whole enc Tryd.prog Tryd.f4.params.toList Rows.replyChunksSpec.vars false W args.toList ds gs before)
    (hsz : (DataW.weightsEach Tryd.prog (Tryd.f4.params.toList ++ Rows.replyChunksSpec.plain.varTypes Tryd.prog) (ds ++ gs)).all (· ≤ reachBytes) = true)
    (hL : laidMetH Tryd.prog Rows.replyChunksRow.laid W) :
    Calls Tryd.prog 4 args W fun e W' => ∃ v, e = .returned v ∧ Rows.replyChunksSpec.post enc Tryd.prog Tryd.f4 false true false false W args v W' := by
  obtain ⟨hT, hZ⟩ := laid3 hL
  have hW' := hW
  obtain ⟨p, q, hA0, hV, rfl, hfz, hnd⟩ := hW
  have hA : DataW.TrodAll enc Tryd.prog W 0 (fun _ => true) true Tryd.f4.params.toList args.toList ds p := hA0
  have hwt : ∀ k ∈ DataW.weightsEach Tryd.prog Tryd.f4.params.toList ds, k ≤ 140737488351232 := by
    intro k hk'
    have := List.all_eq_true.1 hsz k (weights_app _ _ _ _ k hk')
    exact Nat.le_trans (of_decide_eq_true this) (by decide)
  rw [Tryd.params4] at hA hval hwt
  obtain ⟨v0, vs0, d0, ds0, p0, q0, hargs, rfl, rfl, h0, r0⟩ := trodAll_cons hA
  obtain ⟨v1, vs1, d1, ds1, p1, q1, rfl, rfl, rfl, h1, r1⟩ := trodAll_cons r0
  obtain ⟨rfl, rfl, rfl⟩ := trodAll_nil r1
  obtain rfl : args = #[v0, v1] := by cases args; simp_all
  obtain ⟨rfl, rfl⟩ := trodVars_none hV
  have k0 := h0
  have lt0 : ∀ x ∈ p0, x.block < W.heap.size := by obtain ⟨m, hm⟩ := k0; exact DataW.trod_lt m _ _ _ hm
  have k1 := h1
  have lt1 : ∀ x ∈ p1, x.block < W.heap.size := by obtain ⟨m, hm⟩ := k1; exact DataW.trod_lt m _ _ _ hm
  obtain ⟨a0_l, l0_l, c0_l, rfl⟩ := okWide_slice Tryd.underlying36 (hval 0 36 v0 rfl rfl)
  obtain ⟨fu_l, hf_l⟩ := h0
  obtain ⟨A_l, c_l, l, e_l, r_l, n_l, b_l⟩ := openS (y := (_, _)) (by simpa [Value.cells] using hf_l) (fun k hk' => hwt k (DataW.weights_mem_each (j := 0) rfl rfl k hk'))
  simp only [Value.slice.injEq] at e_l; obtain ⟨rfl, rfl, rfl⟩ := e_l
  obtain ⟨x, rfl, rfl, rfl, w_x⟩ := open_int Tryd.underlying37 (hval 1 37 v1 rfl rfl) h1
  have b1 := bounds_u16 w_x
  have hwalk : Calls Tryd.prog 4 #[.slice a0_l l.length c0_l, .int .u16 x] W fun e w' => e = .returned (.bool true) ∧ Below W.heap.size W w' := by
    by_cases hbig : 10 < l.length
    · exact law10_chunks_big a0_l c0_l l x W hT hZ hbig
    · exact law10_chunks a0_l c0_l l x W b1.1 b1.2 hT hZ r_l (by omega)
  refine (hwalk).mono fun e W' ⟨he, bel⟩ => ?_
  subst he
  exact ⟨_, rfl, _, _, _, [], _, [], hW', trodAll_mk1 (shut_bool Tryd.underlying4 _), (trodAll_cons_mk (Below.trod laidOut (by kernel_rfl) (of_decide_eq_true (by kernel_rfl)) k0 bel lt0) (trodAll_cons_mk (Below.trod laidOut (by kernel_rfl) (of_decide_eq_true (by kernel_rfl)) k1 bel lt1) trodAll_mk0)), rfl, bel.frame _, fun h => by cases h⟩

def putCells (cs : Array Value) : Obj → Obj
  | .cells _ t frozen => .cells cs t frozen
  | o => o
noncomputable def laidWorld (os : Os) : World :=
  { World.holding Tryd.prog os ⟨#[], #[], []⟩ with heap := (((World.holding Tryd.prog os ⟨#[], #[], []⟩).heap.modify 0 (putCells (Lib.pow10Tab.map (Value.int .u64)).toArray)).modify 2 (putCells (tz64.map (Value.int .u8)).toArray)).modify 1 (putCells (tz32.map (Value.int .u8)).toArray) }
theorem laid_met (os : Os) : laidMet Tryd.prog Rows.replyChunksRow.laid ((laidWorld os).forCall (fun _ _ => 0) ⟨#[], #[.slice none 0 0, .int .u16 0], []⟩).memory :=
  laidMet_of_run' 8 (by kernel_rfl) (by kernel_rfl)
theorem reads (os : Os) {H : Type} (enc : TypeId × Value → H) : ∃ places, DataW.whole enc Tryd.prog ((laidWorld os).forCall (fun _ _ => 0) ⟨#[], #[.slice none 0 0, .int .u16 0], []⟩).memory Tryd.f4.params.toList Rows.replyChunksSpec.vars false (#[.slice none 0 0, .int .u16 0] : Array Value).toList 8 = some ([.nil, .lit (.int .u16 0)], [], places) :=
  ⟨[], by kernel_rfl⟩
set_option maxRecDepth 100000 in
theorem lifted (os : Os) (started : os.Started) (H : Type) (enc : TypeId × Value → H) (F : Stop.Interp) :
    ReturnsInHanded {} Tryd.checked os 4 .any ((OpenSpec.ofChange Rows.replyChunksSpec).preRow enc Tryd.prog Tryd.f4 Rows.replyChunksRow.domain false Rows.replyChunksRow.laid) (((OpenSpec.ofChange Rows.replyChunksSpec).at F).post enc Tryd.prog Tryd.f4 false true false false) := by
  obtain ⟨places, hx⟩ := reads os enc
  refine returnsInHanded_of_row (C := Tryd.checked) (s := OpenSpec.ofChange Rows.replyChunksSpec) own started (by kernel_rfl) Tryd.func4
    (witness_row_at (enc := enc) (C := Tryd.checked) false (laidWorld os) #[.slice none 0 0, .int .u16 0] rfl (by kernel_rfl) (by kernel_rfl) (by kernel_rfl)
      (OpenSpec.preRow_of_cond 8 hx (by kernel_rfl) (fun k hk => by cases hk) (by kernel_rfl) (laid_met os))) ?_
  intro W base args ds gs before hval hW _ hcond hsz hL _ _
  exact contract H enc W args ds gs before base hval hW hsz hL
theorem said : Rows.ReplyChunksSaid :=
  OpenClaim.holds_of_cond 4 Tryd.f4 rfl rfl rfl rfl rfl rfl rfl ⟨rfl, rfl, rfl, rfl, rfl⟩ rfl rfl rfl rfl rfl (by kernel_rfl) Tryd.func4 (by kernel_rfl)
    (of_decide_eq_true (by kernel_rfl)) (by unfold Func.isWrapper; first | (rw [if_pos (by decide +kernel)]; kernel_rfl) | (rw [if_neg (by decide +kernel)]; exact ⟨rfl, rfl⟩))
    (fun os started H enc _ F => by rw [OpenClaim.pre_eq_preRow]; exact lifted os started H enc F)
theorem plain (f : FuncId) (fn : Func) (hf : Tryd.pinned.checked.prog.funcNamed "conduit/conduitlaw10.ReplyChunks" = some f) (hfn : Tryd.pinned.checked.prog.funcs[f]? = some fn) :
    false = Tryd.pinned.checked.prog.looks [] ∧ ∀ (j : Nat) t, fn.params[j]? = some t → Tryd.pinned.checked.prog.wantsStandIn t = false := by
  obtain rfl : f = 4 := Option.some.inj ((show Tryd.prog.funcNamed "conduit/conduitlaw10.ReplyChunks" = some 4 by kernel_rfl).symm.trans hf) |>.symm
  obtain rfl : fn = Tryd.f4 := (Option.some.inj (Tryd.func4.symm.trans hfn)).symm
  refine ⟨by kernel_rfl, fun j t ht => ?_⟩
  rw [Tryd.params4] at ht
  have hall : ∀ t ∈ (#[36, 37] : Array Nat), Tryd.prog.wantsStandIn t = false := by intro t ht; simp at ht; rcases ht with rfl | rfl <;> kernel_rfl
  exact hall t (Array.mem_of_getElem? ht)
theorem card : Rows.ReplyChunksCardSaid :=
  Claim7.holds_tied_plain_at .later [] _ _ _ _ said (fun _ h => by cases h) (by kernel_rfl) (fun _ h => by cases h) replyChunks_row_tie rfl ⟨rfl, rfl⟩ (by kernel_rfl) rfl plain (by kernel_rfl)
#print axioms card
end Go.Proofs.YtkodkojbeehhjaaDoor.replyChunks
