/- conduitlaw15.VarsTells: for every input the law returns true, and each argument reads behind the call as it read before; the listed tables of the library read as the program's text lays them (tied). No further condition. -/
import Derived.Test.YtdlignhlliellaaDoorCards
import Derived.Test.YtdlignhlliellaaDoorTie
import Derived.Test.YtdlignhlliellaaDoorWT
import Derived.Test.YtdlignhlliellaaDoorOpenV
import Derived.Test.YtdlignhlliellaaDoorOpen
import Derived.Deep.DeepHandedRow
import Derived.Lib.LaidTab
import Derived.Stop.LaidErr
import Derived.SevenTiedAt
import Derived.LaidHandle
import GoSem.PinnedTables
import Derived.Shelf.Vars
namespace Go.Proofs.YtdlignhlliellaaDoor.varsTells
open Go.ChangeShapes Go.WideShapes Go.ChangeAt Go.RowKit Go.Joins
open Go.ChangeMaps (open_string shut_string)
set_option linter.unusedVariables false
theorem own : ownKnob Tryd.prog.godebug = none := by kernel_rfl
theorem laidOut : laidOutB Tryd.prog = true := by kernel_rfl
theorem laidT {W : World} (h : laidMetH Tryd.prog Rows.varsTellsRow.laid W) : Tab W := Lib.tabIs_of_head (rest := []) (g := 1) (t := 90) (e := 74) (n := 20) (by kernel_rfl) (by kernel_rfl) Tryd.underlying90 Tryd.underlying74 (by kernel_rfl) (by kernel_rfl) (laidMet.tail (laidMet.tail h))

set_option maxRecDepth 100000 in
theorem contract (H : Type) (enc : TypeId × Value → H) (W : World) (args : Array Value) (ds gs : List (DataW H)) (before : List MemPlace)
    (base : Nat) (hval : ∀ (j : Nat) t v, Tryd.f3.params[j]? = some t → args[j]? = some v → Value.okWide Tryd.prog W .any base t v)
    (hW : DataW.Whole enc Tryd.prog Tryd.f3.params.toList Rows.varsTellsSpec.vars false W args.toList ds gs before)
    (hsz : (DataW.weightsEach Tryd.prog (Tryd.f3.params.toList ++ Rows.varsTellsSpec.plain.varTypes Tryd.prog) (ds ++ gs)).all (· ≤ reachBytes) = true)
    (hL : laidMetH Tryd.prog Rows.varsTellsRow.laid W) (hsh : W.ShapedOpen Tryd.prog) :
    Calls Tryd.prog 3 args W fun e W' => ∃ v, e = .returned v ∧ Rows.varsTellsSpec.post enc Tryd.prog Tryd.f3 false true false false W args v W' := by
  have hT := laidT hL
  have hW' := hW
  obtain ⟨p, q, hA0, hV, rfl, hfz, hnd⟩ := hW
  have hA : DataW.TrodAll enc Tryd.prog W 0 (fun _ => true) true Tryd.f3.params.toList args.toList ds p := hA0
  have hwt : ∀ k ∈ DataW.weightsEach Tryd.prog Tryd.f3.params.toList ds, k ≤ 140737488351232 := by
    intro k hk'
    have := List.all_eq_true.1 hsz k (weights_app _ _ _ _ k hk')
    exact Nat.le_trans (of_decide_eq_true this) (by decide)
  rw [Tryd.params3] at hA hval hwt
  obtain ⟨v0, vs0, d0, ds0, p0, q0, hargs, rfl, rfl, h0, r0⟩ := trodAll_cons hA
  obtain ⟨v1, vs1, d1, ds1, p1, q1, rfl, rfl, rfl, h1, r1⟩ := trodAll_cons r0
  obtain ⟨v2, vs2, d2, ds2, p2, q2, rfl, rfl, rfl, h2, r2⟩ := trodAll_cons r1
  obtain ⟨v3, vs3, d3, ds3, p3, q3, rfl, rfl, rfl, h3, r3⟩ := trodAll_cons r2
  obtain ⟨v4, vs4, d4, ds4, p4, q4, rfl, rfl, rfl, h4, r4⟩ := trodAll_cons r3
  obtain ⟨rfl, rfl, rfl⟩ := trodAll_nil r4
  obtain rfl : args = #[v0, v1, v2, v3, v4] := by cases args; simp_all
  obtain ⟨rfl, rfl⟩ := trodVars_none hV
  have k0 := h0
  have lt0 : ∀ x ∈ p0, x.block < W.heap.size := by obtain ⟨m, hm⟩ := k0; exact DataW.trod_lt m _ _ _ hm
  have k1 := h1
  have lt1 : ∀ x ∈ p1, x.block < W.heap.size := by obtain ⟨m, hm⟩ := k1; exact DataW.trod_lt m _ _ _ hm
  have k2 := h2
  have lt2 : ∀ x ∈ p2, x.block < W.heap.size := by obtain ⟨m, hm⟩ := k2; exact DataW.trod_lt m _ _ _ hm
  have k3 := h3
  have lt3 : ∀ x ∈ p3, x.block < W.heap.size := by obtain ⟨m, hm⟩ := k3; exact DataW.trod_lt m _ _ _ hm
  have k4 := h4
  have lt4 : ∀ x ∈ p4, x.block < W.heap.size := by obtain ⟨m, hm⟩ := k4; exact DataW.trod_lt m _ _ _ hm
  obtain ⟨c0_c, c1_c, c2_c, c3_c, c4_c, c5_c, c6_c, c7_c, c8_c, c9_c, y0_c, y1_c, y2_c, y3_c, y4_c, y5_c, y6_c, y7_c, y8_c, y9_c, n_c, rfl, g_c, pp_c, t0_c, t1_c, t2_c, t3_c, t4_c, t5_c, t6_c, t7_c, t8_c, t9_c⟩ := open_agg10 Tryd.underlying24 (by kernel_rfl) (by kernel_rfl) (hval 0 24 v0 rfl rfl) h0
  obtain ⟨nm_c, e_nm_c, x_nm_c, l_nm_c⟩ := DataW.trod_string Tryd.underlying9 t0_c
  simp only [List.cons.injEq, and_true] at e_nm_c; subst e_nm_c
  obtain ⟨p_c, e_p_c, x_p_c, w_p_c⟩ := DataW.trod_int Tryd.underlying3 t1_c
  simp only [List.cons.injEq, and_true] at e_p_c; subst e_p_c
  obtain ⟨A_l_c, n_l_c, c_l_c, e_l_c⟩ := open_any Tryd.underlying22 t2_c; subst e_l_c
  obtain ⟨co_c, e_co_c, x_co_c, w_co_c⟩ := DataW.trod_int Tryd.underlying3 t3_c
  simp only [List.cons.injEq, and_true] at e_co_c; subst e_co_c
  obtain ⟨id_c, e_id_c, x_id_c, w_id_c⟩ := DataW.trod_int Tryd.underlying3 t4_c
  simp only [List.cons.injEq, and_true] at e_id_c; subst e_id_c
  obtain ⟨he_c, e_he_c, x_he_c, w_he_c⟩ := DataW.trod_int Tryd.underlying3 t5_c
  simp only [List.cons.injEq, and_true] at e_he_c; subst e_he_c
  obtain ⟨bo_c, e_bo_c, x_bo_c, w_bo_c⟩ := DataW.trod_int Tryd.underlying3 t6_c
  simp only [List.cons.injEq, and_true] at e_bo_c; subst e_bo_c
  obtain ⟨ou_c, e_ou_c, x_ou_c, w_ou_c⟩ := DataW.trod_int Tryd.underlying3 t7_c
  simp only [List.cons.injEq, and_true] at e_ou_c; subst e_ou_c
  obtain ⟨ti_c, e_ti_c, x_ti_c, w_ti_c⟩ := DataW.trod_int Tryd.underlying3 t8_c
  simp only [List.cons.injEq, and_true] at e_ti_c; subst e_ti_c
  obtain ⟨ba_c, e_ba_c, x_ba_c, w_ba_c⟩ := DataW.trod_int Tryd.underlying3 t9_c
  simp only [List.cons.injEq, and_true] at e_ba_c; subst e_ba_c
  obtain ⟨cli, rfl, rfl, rfl, w_cli⟩ := open_int Tryd.underlying3 (hval 1 3 v1 rfl rfl) h1
  obtain ⟨c0_r, c1_r, c2_r, c3_r, c4_r, y0_r, y1_r, y2_r, y3_r, y4_r, n_r, rfl, g_r, pp_r, t0_r, t1_r, t2_r, t3_r, t4_r⟩ := open_agg5 Tryd.underlying27 (by kernel_rfl) (by kernel_rfl) (hval 2 27 v2 rfl rfl) h2
  obtain ⟨m_r, e_m_r, x_m_r, l_m_r⟩ := DataW.trod_string Tryd.underlying9 t0_r
  simp only [List.cons.injEq, and_true] at e_m_r; subst e_m_r
  obtain ⟨tg_r, e_tg_r, x_tg_r, l_tg_r⟩ := DataW.trod_string Tryd.underlying9 t1_r
  simp only [List.cons.injEq, and_true] at e_tg_r; subst e_tg_r
  obtain ⟨mn_r, e_mn_r, x_mn_r, w_mn_r⟩ := DataW.trod_int Tryd.underlying3 t2_r
  simp only [List.cons.injEq, and_true] at e_mn_r; subst e_mn_r
  obtain ⟨A_fl_r, c_fl_r, fl_r, e_fl_r, r_fl_r, n_fl_r, b_fl_r⟩ := open_pairs t3_r (fun k hk' => hwt k (DataW.weights_mem_each (j := 2) rfl rfl k (by rw [g_r, agg_weights Tryd.underlying27]; exact DataW.weights_mem_each (j := 3) rfl rfl k hk')))
  subst e_fl_r
  obtain ⟨bd_r, e_bd_r, x_bd_r, l_bd_r⟩ := DataW.trod_string Tryd.underlying9 t4_r
  simp only [List.cons.injEq, and_true] at e_bd_r; subst e_bd_r
  obtain ⟨c0_t, c1_t, c2_t, c3_t, y0_t, y1_t, y2_t, y3_t, n_t, rfl, g_t, pp_t, t0_t, t1_t, t2_t, t3_t⟩ := open_agg4 Tryd.underlying29 (by kernel_rfl) (by kernel_rfl) (hval 3 29 v3 rfl rfl) h3
  obtain ⟨ru_t, e_ru_t, x_ru_t, w_ru_t⟩ := DataW.trod_int Tryd.underlying3 t0_t
  simp only [List.cons.injEq, and_true] at e_ru_t; subst e_ru_t
  obtain ⟨sc_t, e_sc_t, x_sc_t, l_sc_t⟩ := DataW.trod_string Tryd.underlying9 t1_t
  simp only [List.cons.injEq, and_true] at e_sc_t; subst e_sc_t
  obtain ⟨inf_t, e_inf_t, x_inf_t, l_inf_t⟩ := DataW.trod_string Tryd.underlying9 t2_t
  simp only [List.cons.injEq, and_true] at e_inf_t; subst e_inf_t
  obtain ⟨A_ns_t, c_ns_t, ns_t, e_ns_t, r_ns_t, n_ns_t, b_ns_t⟩ := open_pairs t3_t (fun k hk' => hwt k (DataW.weights_mem_each (j := 3) rfl rfl k (by rw [g_t, agg_weights Tryd.underlying29]; exact DataW.weights_mem_each (j := 3) rfl rfl k hk')))
  subst e_ns_t
  obtain ⟨f, rfl, rfl, rfl, l_f⟩ := open_string Tryd.underlying9 (hval 4 9 v4 rfl rfl) h4
  refine (law15_tells nm_c p_c A_l_c n_l_c c_l_c co_c id_c he_c bo_c ou_c ti_c ba_c cli m_r tg_r mn_r fl_r bd_r A_fl_r _ c_fl_r ru_t sc_t inf_t A_ns_t _ c_ns_t ns_t f W hT rfl r_fl_r b_fl_r rfl r_ns_t b_ns_t (by have h := l_bd_r; unfold maxLen at h; omega) (IntWalk64 w_p_c).1 (IntWalk64 w_p_c).2 (IntWalk64 w_mn_r).1 (IntWalk64 w_mn_r).2).mono fun e W' ⟨he, bel⟩ => ?_
  subst he
  exact ⟨_, rfl, _, _, _, [], _, [], hW', trodAll_mk1 (shut_bool Tryd.underlying4 _), (trodAll_cons_mk (Below.trod laidOut (by kernel_rfl) (of_decide_eq_true (by kernel_rfl)) k0 bel lt0) (trodAll_cons_mk (Below.trod laidOut (by kernel_rfl) (of_decide_eq_true (by kernel_rfl)) k1 bel lt1) (trodAll_cons_mk (Below.trod laidOut (by kernel_rfl) (of_decide_eq_true (by kernel_rfl)) k2 bel lt2) (trodAll_cons_mk (Below.trod laidOut (by kernel_rfl) (of_decide_eq_true (by kernel_rfl)) k3 bel lt3) (trodAll_cons_mk (Below.trod laidOut (by kernel_rfl) (of_decide_eq_true (by kernel_rfl)) k4 bel lt4) trodAll_mk0))))), rfl, bel.frame _, fun h => by cases h⟩

set_option maxRecDepth 100000 in
def tz64r : List Int := [0, 1, 56, 2, 57, 49, 28, 3, 61, 58, 42, 50, 38, 29, 17, 4, 62, 47, 59, 36, 45, 43, 51, 22, 53, 39, 33, 30, 24, 18, 12, 5, 63, 55, 48, 27, 60, 41, 37, 16, 46, 35, 44, 21, 52, 32, 23, 11, 54, 26, 40, 15, 34, 20, 31, 10, 25, 14, 19, 9, 13, 8, 7, 6]
def tz32r : List Int := [0, 1, 28, 2, 29, 14, 24, 3, 30, 22, 20, 15, 25, 17, 4, 8, 31, 27, 13, 23, 21, 19, 16, 7, 26, 12, 18, 6, 11, 5, 10, 9]
def putCells (cs : Array Value) : Obj → Obj
  | .cells _ t frozen => .cells cs t frozen
  | o => o
set_option maxRecDepth 100000 in
noncomputable def laidWorld (os : Os) : World :=
  { World.holding Tryd.prog os ⟨#[], #[], []⟩ with heap := ((((World.holding Tryd.prog os ⟨#[], #[], []⟩).heap.modify 2 (putCells (tz32r.map (Value.int .u8)).toArray)).modify 3 (putCells (tz64r.map (Value.int .u8)).toArray)).modify 1 (putCells (Lib.pow10Tab.map (Value.int .u64)).toArray)) }
theorem laid_met (os : Os) : laidMet Tryd.prog Rows.varsTellsRow.laid ((laidWorld os).forCall (fun _ _ => 0) ⟨#[], #[.agg #[.string ⟨#[]⟩, .int .i64 0, .slice none 0 0, .int .i64 0, .int .i64 0, .int .i64 0, .int .i64 0, .int .i64 0, .int .i64 0, .int .i64 0], .int .i64 0, .agg #[.string ⟨#[]⟩, .string ⟨#[]⟩, .int .i64 0, .slice none 0 0, .string ⟨#[]⟩], .agg #[.int .i64 0, .string ⟨#[]⟩, .string ⟨#[]⟩, .slice none 0 0], .string ⟨#[]⟩], []⟩).memory :=
  laidMet_of_run' 8 (by kernel_rfl) (by kernel_rfl)
theorem reads (os : Os) {H : Type} (enc : TypeId × Value → H) : ∃ places, DataW.whole enc Tryd.prog ((laidWorld os).forCall (fun _ _ => 0) ⟨#[], #[.agg #[.string ⟨#[]⟩, .int .i64 0, .slice none 0 0, .int .i64 0, .int .i64 0, .int .i64 0, .int .i64 0, .int .i64 0, .int .i64 0, .int .i64 0], .int .i64 0, .agg #[.string ⟨#[]⟩, .string ⟨#[]⟩, .int .i64 0, .slice none 0 0, .string ⟨#[]⟩], .agg #[.int .i64 0, .string ⟨#[]⟩, .string ⟨#[]⟩, .slice none 0 0], .string ⟨#[]⟩], []⟩).memory Tryd.f3.params.toList Rows.varsTellsSpec.vars false (#[.agg #[.string ⟨#[]⟩, .int .i64 0, .slice none 0 0, .int .i64 0, .int .i64 0, .int .i64 0, .int .i64 0, .int .i64 0, .int .i64 0, .int .i64 0], .int .i64 0, .agg #[.string ⟨#[]⟩, .string ⟨#[]⟩, .int .i64 0, .slice none 0 0, .string ⟨#[]⟩], .agg #[.int .i64 0, .string ⟨#[]⟩, .string ⟨#[]⟩, .slice none 0 0], .string ⟨#[]⟩] : Array Value).toList 8 = some ([.agg [.lit (.string []), .lit (.int .i64 0), .nil, .lit (.int .i64 0), .lit (.int .i64 0), .lit (.int .i64 0), .lit (.int .i64 0), .lit (.int .i64 0), .lit (.int .i64 0), .lit (.int .i64 0)], .lit (.int .i64 0), .agg [.lit (.string []), .lit (.string []), .lit (.int .i64 0), .nil, .lit (.string [])], .agg [.lit (.int .i64 0), .lit (.string []), .lit (.string []), .nil], .lit (.string [])], [], places) :=
  ⟨[], by kernel_rfl⟩
set_option maxRecDepth 100000 in
theorem lifted (os : Os) (started : os.Started) (H : Type) (enc : TypeId × Value → H) (F : Stop.Interp) :
    ReturnsInHanded {} Tryd.checked os 3 .any ((OpenSpec.ofChange Rows.varsTellsSpec).preRow enc Tryd.prog Tryd.f3 Rows.varsTellsRow.domain false Rows.varsTellsRow.laid) (((OpenSpec.ofChange Rows.varsTellsSpec).at F).post enc Tryd.prog Tryd.f3 false true false false) := by
  obtain ⟨places, hx⟩ := reads os enc
  refine returnsInHanded_of_row (C := Tryd.checked) (s := OpenSpec.ofChange Rows.varsTellsSpec) own started (by kernel_rfl) Tryd.func3
    (witness_row_at (enc := enc) (C := Tryd.checked) false (laidWorld os) #[.agg #[.string ⟨#[]⟩, .int .i64 0, .slice none 0 0, .int .i64 0, .int .i64 0, .int .i64 0, .int .i64 0, .int .i64 0, .int .i64 0, .int .i64 0], .int .i64 0, .agg #[.string ⟨#[]⟩, .string ⟨#[]⟩, .int .i64 0, .slice none 0 0, .string ⟨#[]⟩], .agg #[.int .i64 0, .string ⟨#[]⟩, .string ⟨#[]⟩, .slice none 0 0], .string ⟨#[]⟩] rfl (by kernel_rfl) (by kernel_rfl) (by kernel_rfl)
      (OpenSpec.preRow_of_cond 8 hx (by kernel_rfl) (fun k hk => by cases hk) (by kernel_rfl) (laid_met os))) ?_
  intro W base args ds gs before hval hW _ hcond hsz hL hsh _
  exact contract H enc W args ds gs before base hval hW hsz hL hsh
theorem said : Rows.VarsTellsSaid :=
  OpenClaim.holds_of_cond 3 Tryd.f3 rfl rfl rfl rfl rfl rfl rfl ⟨rfl, rfl, rfl, rfl, rfl⟩ rfl rfl rfl rfl rfl (by kernel_rfl) Tryd.func3 (by kernel_rfl)
    (of_decide_eq_true (by kernel_rfl)) (by unfold Func.isWrapper; first | (rw [if_pos (by decide +kernel)]; kernel_rfl) | (rw [if_neg (by decide +kernel)]; exact ⟨rfl, rfl⟩))
    (fun os started H enc _ F => by rw [OpenClaim.pre_eq_preRow]; exact lifted os started H enc F)
theorem plain (f : FuncId) (fn : Func) (hf : Tryd.pinned.checked.prog.funcNamed "conduit/conduitlaw15.VarsTells" = some f) (hfn : Tryd.pinned.checked.prog.funcs[f]? = some fn) :
    false = Tryd.pinned.checked.prog.looks [] ∧ ∀ (j : Nat) t, fn.params[j]? = some t → Tryd.pinned.checked.prog.wantsStandIn t = false := by
  obtain rfl : f = 3 := Option.some.inj ((show Tryd.prog.funcNamed "conduit/conduitlaw15.VarsTells" = some 3 by kernel_rfl).symm.trans hf) |>.symm
  obtain rfl : fn = Tryd.f3 := (Option.some.inj (Tryd.func3.symm.trans hfn)).symm
  refine ⟨by kernel_rfl, fun j t ht => ?_⟩
  rw [Tryd.params3] at ht
  have hall : ∀ t ∈ (#[24, 3, 27, 29, 9] : Array Nat), Tryd.prog.wantsStandIn t = false := by intro t ht; simp at ht; first | (rcases ht with rfl | rfl | rfl | rfl | rfl <;> kernel_rfl) | (rcases ht with rfl | rfl | rfl | rfl | rfl <;> kernel_rfl)
  exact hall t (Array.mem_of_getElem? ht)
theorem card : Rows.VarsTellsCardSaid :=
  Claim7.holds_tied_plain_at .later [] _ _ _ _ said (fun _ h => by cases h) (by kernel_rfl) (fun _ h => by cases h) varsTells_row_tie rfl ⟨rfl, rfl⟩ (by kernel_rfl) rfl plain (by kernel_rfl)
#print axioms card
end Go.Proofs.YtdlignhlliellaaDoor.varsTells
