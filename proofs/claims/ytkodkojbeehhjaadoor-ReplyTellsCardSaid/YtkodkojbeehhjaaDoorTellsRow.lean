/- conduitlaw10.ReplyTells: for every input the law returns true, and each argument reads behind the call as it read before; the listed tables of the library read as the program's text lays them (tied). No further condition. -/
import Derived.Test.YtkodkojbeehhjaaDoorCards
import Derived.Test.YtkodkojbeehhjaaDoorTie
import Derived.Test.YtkodkojbeehhjaaDoorTells
import Derived.Test.YtkodkojbeehhjaaDoorOpen
import Derived.Deep.DeepHandedRow
import Derived.Lib.LaidTab
import Derived.Stop.LaidErr
import Derived.SevenTiedAt
namespace Go.Proofs.YtkodkojbeehhjaaDoor.replyTells
open Go.ChangeShapes Go.WideShapes Go.ChangeAt Go.RowKit Go.Joins
open Go.ChangeMaps (open_string shut_string)
set_option linter.unusedVariables false
theorem own : ownKnob Tryd.prog.godebug = none := by kernel_rfl
theorem laidOut : laidOutB Tryd.prog = true := by kernel_rfl
theorem laid3 {W : World} (h : laidMetH Tryd.prog Rows.replyTellsRow.laid W) : Tab W ∧ TabZ W := by
  refine ⟨?_, ?_⟩
  · exact Lib.tabIs_of_head (rest := []) (g := 0) (t := 78) (e := 63) (n := 20) (by kernel_rfl) (by kernel_rfl) Tryd.underlying78 Tryd.underlying63 (by kernel_rfl) (by kernel_rfl) (laidMet.tail (laidMet.tail h))
  · exact Lib.tabIs_of_head (rest := [("internal/strconv.uint64pow10", Rows.laid_internal_strconv_uint64pow10)]) (g := 2) (t := 85) (e := 5) (n := 64) (by kernel_rfl) (by kernel_rfl) Tryd.underlying85 Tryd.underlying5 (by kernel_rfl) (by kernel_rfl) (laidMet.tail h)

theorem contract (H : Type) (enc : TypeId × Value → H) (W : World) (args : Array Value) (ds gs : List (DataW H)) (before : List MemPlace)
    (base : Nat) (hval : ∀ (j : Nat) t v, Tryd.f3.params[j]? = some t → args[j]? = some v → Value.okWide Tryd.prog W .any base t v)
    (hW : DataW.Whole enc Tryd.prog Tryd.f3.params.toList Rows.replyTellsSpec.vars false W args.toList ds gs before)
    (hsz : (DataW.weightsEach Tryd.prog (Tryd.f3.params.toList ++ Rows.replyTellsSpec.plain.varTypes Tryd.prog) (ds ++ gs)).all (· ≤ reachBytes) = true)
    (hL : laidMetH Tryd.prog Rows.replyTellsRow.laid W) :
    Calls Tryd.prog 3 args W fun e W' => ∃ v, e = .returned v ∧ Rows.replyTellsSpec.post enc Tryd.prog Tryd.f3 false true false false W args v W' := by
  obtain ⟨hT, hZ⟩ := laid3 hL
  have hW' := hW
  obtain ⟨p, q, hA0, hV, rfl, hfz, hnd⟩ := hW
  have hA : DataW.TrodAll enc Tryd.prog W 0 (fun _ => true) true Tryd.f3.params.toList args.toList ds p := hA0
  have hwt : ∀ k ∈ DataW.weightsEach Tryd.prog Tryd.f3.params.toList ds, k ≤ 140737488351232 := by
    intro k hk'
    have := List.all_eq_true.1 hsz k (weights_app _ _ _ _ k hk')
    exact Nat.le_trans (of_decide_eq_true this) (by decide)
  rw [Tryd.params3] at hA hval hwt
  obtain ⟨v0, vs0, d0, ds0, p0, q0, hargs, rfl, rfl, h0, r0⟩ := trodAll_cons hA
  obtain ⟨v1, vs1, d1, ds1, p1, q1, rfl, rfl, rfl, h1, r1⟩ := trodAll_cons r0
  obtain ⟨v2, vs2, d2, ds2, p2, q2, rfl, rfl, rfl, h2, r2⟩ := trodAll_cons r1
  obtain ⟨v3, vs3, d3, ds3, p3, q3, rfl, rfl, rfl, h3, r3⟩ := trodAll_cons r2
  obtain ⟨v4, vs4, d4, ds4, p4, q4, rfl, rfl, rfl, h4, r4⟩ := trodAll_cons r3
  obtain ⟨rfl, rfl, rfl⟩ := trodAll_nil r4
  obtain rfl : args = #[v0, v1, v2, v3, v4] := by cases args; simp_all
  obtain ⟨rfl, rfl⟩ := trodVars_none hV
  have k0 := h0
  have lt0 : ∀ x ∈ p0, x.block < W.heap.size := by obtain ⟨m, hm⟩ := k0; exact DataW.trod_lt m _ _ _ hm
  have k1 := h1
  have lt1 : ∀ x ∈ p1, x.block < W.heap.size := by obtain ⟨m, hm⟩ := k1; exact DataW.trod_lt m _ _ _ hm
  have k2 := h2
  have lt2 : ∀ x ∈ p2, x.block < W.heap.size := by obtain ⟨m, hm⟩ := k2; exact DataW.trod_lt m _ _ _ hm
  have k3 := h3
  have lt3 : ∀ x ∈ p3, x.block < W.heap.size := by obtain ⟨m, hm⟩ := k3; exact DataW.trod_lt m _ _ _ hm
  have k4 := h4
  have lt4 : ∀ x ∈ p4, x.block < W.heap.size := by obtain ⟨m, hm⟩ := k4; exact DataW.trod_lt m _ _ _ hm
  obtain ⟨c0_r, c1_r, c2_r, c3_r, c4_r, y0_r, y1_r, y2_r, y3_r, y4_r, n_r, rfl, g_r, pp_r, t0_r, t1_r, t2_r, t3_r, t4_r⟩ := open_agg5 Tryd.underlying24 (by kernel_rfl) (by kernel_rfl) (hval 0 24 v0 rfl rfl) h0
  obtain ⟨m_r, e_m_r, x_m_r, l_m_r⟩ := DataW.trod_string Tryd.underlying9 t0_r
  simp only [List.cons.injEq, and_true] at e_m_r; subst e_m_r
  obtain ⟨tg_r, e_tg_r, x_tg_r, l_tg_r⟩ := DataW.trod_string Tryd.underlying9 t1_r
  simp only [List.cons.injEq, and_true] at e_tg_r; subst e_tg_r
  obtain ⟨mn_r, e_mn_r, x_mn_r, w_mn_r⟩ := DataW.trod_int Tryd.underlying3 t2_r
  simp only [List.cons.injEq, and_true] at e_mn_r; subst e_mn_r
  obtain ⟨A_fl_r, c_fl_r, fl_r, e_fl_r, r_fl_r, n_fl_r, b_fl_r⟩ := open_pairs t3_r (fun k hk' => hwt k (DataW.weights_mem_each (j := 0) rfl rfl k (by rw [g_r, agg_weights Tryd.underlying24]; exact DataW.weights_mem_each (j := 3) rfl rfl k hk')))
  subst e_fl_r
  obtain ⟨bd_r, e_bd_r, x_bd_r, l_bd_r⟩ := DataW.trod_string Tryd.underlying9 t4_r
  simp only [List.cons.injEq, and_true] at e_bd_r; subst e_bd_r
  obtain ⟨c0_h, c1_h, c2_h, y0_h, y1_h, y2_h, n_h, rfl, g_h, pp_h, t0_h, t1_h, t2_h⟩ := open_agg3 Tryd.underlying26 (by kernel_rfl) (by kernel_rfl) (hval 1 26 v1 rfl rfl) h1
  obtain ⟨st_h, e_st_h, x_st_h, w_st_h⟩ := DataW.trod_int Tryd.underlying3 t0_h
  simp only [List.cons.injEq, and_true] at e_st_h; subst e_st_h
  obtain ⟨rs_h, e_rs_h, x_rs_h, l_rs_h⟩ := DataW.trod_string Tryd.underlying9 t1_h
  simp only [List.cons.injEq, and_true] at e_rs_h; subst e_rs_h
  obtain ⟨A_fl_h, c_fl_h, fl_h, e_fl_h, r_fl_h, n_fl_h, b_fl_h⟩ := open_pairs t2_h (fun k hk' => hwt k (DataW.weights_mem_each (j := 1) rfl rfl k (by rw [g_h, agg_weights Tryd.underlying26]; exact DataW.weights_mem_each (j := 2) rfl rfl k hk')))
  subst e_fl_h
  obtain ⟨n, rfl, rfl, rfl, w_n⟩ := open_int Tryd.underlying3 (hval 2 3 v2 rfl rfl) h2
  obtain ⟨k, rfl, rfl, rfl⟩ := open_bool Tryd.underlying4 (hval 3 4 v3 rfl rfl) h3
  obtain ⟨s, rfl, rfl, rfl, l_s⟩ := open_string Tryd.underlying9 (hval 4 9 v4 rfl rfl) h4
  have b1 := IntWalk64 w_st_h
  have b2 := IntWalk64 w_n
  have htot : fl_h.length ≤ 20 → tot fl_h ≤ 1152921504606846976 := fun h => by have := tot_bound fl_h b_fl_h; omega
  have hwalk : Calls Tryd.prog 3 #[.agg #[.string m_r, .string tg_r, .int .i64 mn_r, .slice A_fl_r fl_r.length c_fl_r, .string bd_r], .agg #[.int .i64 st_h, .string rs_h, .slice A_fl_h fl_h.length c_fl_h], .int .i64 n, .bool k, .string s] W fun e w' => e = .returned (.bool true) ∧ Below W.heap.size W w' := by
    by_cases hbig : 40 < m_r.size ∨ 20 < fl_h.length ∨ 200 < rs_h.size ∨ 2000 < s.size
    · exact tells_big m_r tg_r mn_r A_fl_r _ c_fl_r bd_r st_h rs_h A_fl_h fl_h c_fl_h n k s W b1.1 b1.2 b2.1 b2.2 hT hZ r_fl_h hbig
    · exact tells_small m_r tg_r mn_r A_fl_r _ c_fl_r bd_r st_h rs_h A_fl_h fl_h c_fl_h n k s W b1.1 b1.2 b2.1 b2.2 hT hZ r_fl_h (by omega) (by omega) (by omega) (by omega) (htot (by omega))
  refine (hwalk).mono fun e W' ⟨he, bel⟩ => ?_
  subst he
  exact ⟨_, rfl, _, _, _, [], _, [], hW', trodAll_mk1 (shut_bool Tryd.underlying4 _), (trodAll_cons_mk (Below.trod laidOut (by kernel_rfl) (of_decide_eq_true (by kernel_rfl)) k0 bel lt0) (trodAll_cons_mk (Below.trod laidOut (by kernel_rfl) (of_decide_eq_true (by kernel_rfl)) k1 bel lt1) (trodAll_cons_mk (Below.trod laidOut (by kernel_rfl) (of_decide_eq_true (by kernel_rfl)) k2 bel lt2) (trodAll_cons_mk (Below.trod laidOut (by kernel_rfl) (of_decide_eq_true (by kernel_rfl)) k3 bel lt3) (trodAll_cons_mk (Below.trod laidOut (by kernel_rfl) (of_decide_eq_true (by kernel_rfl)) k4 bel lt4) trodAll_mk0))))), rfl, bel.frame _, fun h => by cases h⟩

def putCells (cs : Array Value) : Obj → Obj
  | .cells _ t frozen => .cells cs t frozen
  | o => o
noncomputable def laidWorld (os : Os) : World :=
  { World.holding Tryd.prog os ⟨#[], #[], []⟩ with heap := (((World.holding Tryd.prog os ⟨#[], #[], []⟩).heap.modify 0 (putCells (Lib.pow10Tab.map (Value.int .u64)).toArray)).modify 2 (putCells (tz64.map (Value.int .u8)).toArray)).modify 1 (putCells (tz32.map (Value.int .u8)).toArray) }
theorem laid_met (os : Os) : laidMet Tryd.prog Rows.replyTellsRow.laid ((laidWorld os).forCall (fun _ _ => 0) ⟨#[], #[.agg #[.string ⟨#[]⟩, .string ⟨#[]⟩, .int .i64 0, .slice none 0 0, .string ⟨#[]⟩], .agg #[.int .i64 0, .string ⟨#[]⟩, .slice none 0 0], .int .i64 0, .bool false, .string ⟨#[]⟩], []⟩).memory :=
  laidMet_of_run' 8 (by kernel_rfl) (by kernel_rfl)
theorem reads (os : Os) {H : Type} (enc : TypeId × Value → H) : ∃ places, DataW.whole enc Tryd.prog ((laidWorld os).forCall (fun _ _ => 0) ⟨#[], #[.agg #[.string ⟨#[]⟩, .string ⟨#[]⟩, .int .i64 0, .slice none 0 0, .string ⟨#[]⟩], .agg #[.int .i64 0, .string ⟨#[]⟩, .slice none 0 0], .int .i64 0, .bool false, .string ⟨#[]⟩], []⟩).memory Tryd.f3.params.toList Rows.replyTellsSpec.vars false (#[.agg #[.string ⟨#[]⟩, .string ⟨#[]⟩, .int .i64 0, .slice none 0 0, .string ⟨#[]⟩], .agg #[.int .i64 0, .string ⟨#[]⟩, .slice none 0 0], .int .i64 0, .bool false, .string ⟨#[]⟩] : Array Value).toList 8 = some ([.agg [.lit (.string []), .lit (.string []), .lit (.int .i64 0), .nil, .lit (.string [])], .agg [.lit (.int .i64 0), .lit (.string []), .nil], .lit (.int .i64 0), .lit (.bool false), .lit (.string [])], [], places) :=
  ⟨[], by kernel_rfl⟩
set_option maxRecDepth 100000 in
theorem lifted (os : Os) (started : os.Started) (H : Type) (enc : TypeId × Value → H) (F : Stop.Interp) :
    ReturnsInHanded {} Tryd.checked os 3 .any ((OpenSpec.ofChange Rows.replyTellsSpec).preRow enc Tryd.prog Tryd.f3 Rows.replyTellsRow.domain false Rows.replyTellsRow.laid) (((OpenSpec.ofChange Rows.replyTellsSpec).at F).post enc Tryd.prog Tryd.f3 false true false false) := by
  obtain ⟨places, hx⟩ := reads os enc
  refine returnsInHanded_of_row (C := Tryd.checked) (s := OpenSpec.ofChange Rows.replyTellsSpec) own started (by kernel_rfl) Tryd.func3
    (witness_row_at (enc := enc) (C := Tryd.checked) false (laidWorld os) #[.agg #[.string ⟨#[]⟩, .string ⟨#[]⟩, .int .i64 0, .slice none 0 0, .string ⟨#[]⟩], .agg #[.int .i64 0, .string ⟨#[]⟩, .slice none 0 0], .int .i64 0, .bool false, .string ⟨#[]⟩] rfl (by kernel_rfl) (by kernel_rfl) (by kernel_rfl)
      (OpenSpec.preRow_of_cond 8 hx (by kernel_rfl) (fun k hk => by cases hk) (by kernel_rfl) (laid_met os))) ?_
  intro W base args ds gs before hval hW _ hcond hsz hL _ _
  exact contract H enc W args ds gs before base hval hW hsz hL
theorem said : Rows.ReplyTellsSaid :=
  OpenClaim.holds_of_cond 3 Tryd.f3 rfl rfl rfl rfl rfl rfl rfl ⟨rfl, rfl, rfl, rfl, rfl⟩ rfl rfl rfl rfl rfl (by kernel_rfl) Tryd.func3 (by kernel_rfl)
    (of_decide_eq_true (by kernel_rfl)) (by unfold Func.isWrapper; first | (rw [if_pos (by decide +kernel)]; kernel_rfl) | (rw [if_neg (by decide +kernel)]; exact ⟨rfl, rfl⟩))
    (fun os started H enc _ F => by rw [OpenClaim.pre_eq_preRow]; exact lifted os started H enc F)
theorem plain (f : FuncId) (fn : Func) (hf : Tryd.pinned.checked.prog.funcNamed "conduit/conduitlaw10.ReplyTells" = some f) (hfn : Tryd.pinned.checked.prog.funcs[f]? = some fn) :
    false = Tryd.pinned.checked.prog.looks [] ∧ ∀ (j : Nat) t, fn.params[j]? = some t → Tryd.pinned.checked.prog.wantsStandIn t = false := by
  obtain rfl : f = 3 := Option.some.inj ((show Tryd.prog.funcNamed "conduit/conduitlaw10.ReplyTells" = some 3 by kernel_rfl).symm.trans hf) |>.symm
  obtain rfl : fn = Tryd.f3 := (Option.some.inj (Tryd.func3.symm.trans hfn)).symm
  refine ⟨by kernel_rfl, fun j t ht => ?_⟩
  rw [Tryd.params3] at ht
  have hall : ∀ t ∈ (#[24, 26, 3, 4, 9] : Array Nat), Tryd.prog.wantsStandIn t = false := by intro t ht; simp at ht; rcases ht with rfl | rfl | rfl | rfl | rfl <;> kernel_rfl
  exact hall t (Array.mem_of_getElem? ht)
theorem card : Rows.ReplyTellsCardSaid :=
  Claim7.holds_tied_plain_at .later [] _ _ _ _ said (fun _ h => by cases h) (by kernel_rfl) (fun _ h => by cases h) replyTells_row_tie rfl ⟨rfl, rfl⟩ (by kernel_rfl) rfl plain (by kernel_rfl)
#print axioms card
end Go.Proofs.YtkodkojbeehhjaaDoor.replyTells
