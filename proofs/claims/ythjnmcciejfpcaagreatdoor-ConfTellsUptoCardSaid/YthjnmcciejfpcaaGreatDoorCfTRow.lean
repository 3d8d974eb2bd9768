/- conduitlaw17.ConfTells: for every input the law returns true, and each argument reads behind the call as it read before; the listed tables of the library read as the program's text lays them (tied). No further condition. -/
import Derived.Test.YthjnmcciejfpcaaGreatDoorCards
import Derived.Test.YthjnmcciejfpcaaGreatDoorTie
import Derived.Test.YthjnmcciejfpcaaGreatDoorCfT2
import Derived.Test.YthjnmcciejfpcaaGreatDoorOpenC
import Derived.Test.YthjnmcciejfpcaaGreatDoorOpen
import Derived.Deep.DeepHandedRow
import Derived.Lib.LaidTab
import Derived.Stop.LaidErr
import Derived.SevenTiedAt
import Derived.LaidHandle
import GoSem.PinnedTables
import Derived.Shelf.Vars
namespace Go.Proofs.YthjnmcciejfpcaaGreatDoor.confTells
open Go.ChangeShapes Go.WideShapes Go.ChangeAt Go.RowKit Go.Joins
open Go.ChangeMaps (open_string shut_string)
set_option linter.unusedVariables false
theorem own : ownKnob Tryz.prog.godebug = none := by kernel_rfl
theorem laidOut : laidOutB Tryz.prog = true := by kernel_rfl
theorem maxL {W : World} (h : W.ShapedOpen Tryz.prog) : MaxL W := Go.Proofs.cell_of_shapedOpen_int (zero := #[.int .i64 0]) (t := 3) h (of_decide_eq_true (by kernel_rfl)) (by kernel_rfl) rfl (by kernel_rfl) (by kernel_rfl) Tryz.underlying3

set_option maxRecDepth 100000 in
theorem contract (H : Type) (enc : TypeId × Value → H) (W : World) (args : Array Value) (ds gs : List (DataW H)) (before : List MemPlace)
    (base : Nat) (hval : ∀ (j : Nat) t v, Tryz.f3.params[j]? = some t → args[j]? = some v → Value.okWide Tryz.prog W .any base t v)
    (hW : DataW.Whole enc Tryz.prog Tryz.f3.params.toList Rows.confTellsSpec.vars false W args.toList ds gs before)
    (hsz : (DataW.weightsEach Tryz.prog (Tryz.f3.params.toList ++ Rows.confTellsSpec.plain.varTypes Tryz.prog) (ds ++ gs)).all (· ≤ reachBytes) = true)
    (hk : Rows.uptoSmall H (ds ++ gs) = true)
    (hL : laidMetH Tryz.prog Rows.confTellsRow.laid W) (hsh : W.ShapedOpen Tryz.prog) :
    Calls Tryz.prog 3 args W fun e W' => ∃ v, e = .returned v ∧ Rows.confTellsSpec.post enc Tryz.prog Tryz.f3 false true false false W args v W' := by
  have hM := maxL hsh
  have hW' := hW
  obtain ⟨p, q, hA0, hV, rfl, hfz, hnd⟩ := hW
  have hA : DataW.TrodAll enc Tryz.prog W 0 (fun _ => true) true Tryz.f3.params.toList args.toList ds p := hA0
  have hwt : ∀ k ∈ DataW.weightsEach Tryz.prog Tryz.f3.params.toList ds, k ≤ 140737488351232 := by
    intro k hk'
    have := List.all_eq_true.1 hsz k (weights_app _ _ _ _ k hk')
    exact Nat.le_trans (of_decide_eq_true this) (by decide)
  rw [Tryz.params3] at hA hval hwt
  obtain ⟨v0, vs0, d0, ds0, p0, q0, hargs, rfl, rfl, h0, r0⟩ := trodAll_cons hA
  obtain ⟨rfl, rfl, rfl⟩ := trodAll_nil r0
  obtain rfl : args = #[v0] := by cases args; simp_all
  obtain ⟨rfl, rfl⟩ := trodVars_none hV
  have hkk : Rows.uptoBulkAll ([d0] ++ []) ≤ 1048576 := of_decide_eq_true hk
  simp only [List.append_nil, Rows.uptoBulkAll] at hkk
  have hz0 : Rows.uptoBulk d0 ≤ 1048576 := by omega
  have k0 := h0
  have lt0 : ∀ x ∈ p0, x.block < W.heap.size := by obtain ⟨m, hm⟩ := k0; exact DataW.trod_lt m _ _ _ hm
  obtain ⟨c0_c, c1_c, c2_c, c3_c, c4_c, c5_c, c6_c, c7_c, c8_c, c9_c, y0_c, y1_c, y2_c, y3_c, y4_c, y5_c, y6_c, y7_c, y8_c, y9_c, n_c, rfl, g_c, pp_c, t0_c, t1_c, t2_c, t3_c, t4_c, t5_c, t6_c, t7_c, t8_c, t9_c⟩ := open_agg10 Tryz.underlying24 (by kernel_rfl) (by kernel_rfl) (hval 0 24 v0 rfl rfl) h0
  obtain ⟨nm_c, e_nm_c, x_nm_c, l_nm_c⟩ := DataW.trod_string Tryz.underlying9 t0_c
  simp only [List.cons.injEq, and_true] at e_nm_c; subst e_nm_c
  obtain ⟨p_c, e_p_c, x_p_c, w_p_c⟩ := DataW.trod_int Tryz.underlying3 t1_c
  simp only [List.cons.injEq, and_true] at e_p_c; subst e_p_c
  obtain ⟨A_l_c, c_l_c, l_c, e_l_c, r_l_c, s_l_c, n_l_c, b_l_c⟩ := open_rules (Z := 1048576) t2_c (by rw [g_c] at hz0; simp only [Rows.uptoBulk, Rows.uptoBulkAll] at hz0; omega); subst e_l_c
  obtain ⟨co_c, e_co_c, x_co_c, w_co_c⟩ := DataW.trod_int Tryz.underlying3 t3_c
  simp only [List.cons.injEq, and_true] at e_co_c; subst e_co_c
  obtain ⟨id_c, e_id_c, x_id_c, w_id_c⟩ := DataW.trod_int Tryz.underlying3 t4_c
  simp only [List.cons.injEq, and_true] at e_id_c; subst e_id_c
  obtain ⟨he_c, e_he_c, x_he_c, w_he_c⟩ := DataW.trod_int Tryz.underlying3 t5_c
  simp only [List.cons.injEq, and_true] at e_he_c; subst e_he_c
  obtain ⟨bo_c, e_bo_c, x_bo_c, w_bo_c⟩ := DataW.trod_int Tryz.underlying3 t6_c
  simp only [List.cons.injEq, and_true] at e_bo_c; subst e_bo_c
  obtain ⟨ou_c, e_ou_c, x_ou_c, w_ou_c⟩ := DataW.trod_int Tryz.underlying3 t7_c
  simp only [List.cons.injEq, and_true] at e_ou_c; subst e_ou_c
  obtain ⟨ti_c, e_ti_c, x_ti_c, w_ti_c⟩ := DataW.trod_int Tryz.underlying3 t8_c
  simp only [List.cons.injEq, and_true] at e_ti_c; subst e_ti_c
  obtain ⟨ba_c, e_ba_c, x_ba_c, w_ba_c⟩ := DataW.trod_int Tryz.underlying3 t9_c
  simp only [List.cons.injEq, and_true] at e_ba_c; subst e_ba_c
  refine (law17_tells nm_c p_c A_l_c _ c_l_c co_c id_c he_c bo_c ou_c ti_c ba_c l_c W hM rfl r_l_c s_l_c b_l_c).mono fun e W' ⟨he, bel⟩ => ?_
  subst he
  exact ⟨_, rfl, _, _, _, [], _, [], hW', trodAll_mk1 (shut_bool Tryz.underlying4 _), (trodAll_cons_mk (Below.trod laidOut (by kernel_rfl) (of_decide_eq_true (by kernel_rfl)) k0 bel lt0) trodAll_mk0), rfl, bel.frame _, fun h => by cases h⟩

set_option maxRecDepth 100000 in
def tz64r : List Int := [0, 1, 56, 2, 57, 49, 28, 3, 61, 58, 42, 50, 38, 29, 17, 4, 62, 47, 59, 36, 45, 43, 51, 22, 53, 39, 33, 30, 24, 18, 12, 5, 63, 55, 48, 27, 60, 41, 37, 16, 46, 35, 44, 21, 52, 32, 23, 11, 54, 26, 40, 15, 34, 20, 31, 10, 25, 14, 19, 9, 13, 8, 7, 6]
def tz32r : List Int := [0, 1, 28, 2, 29, 14, 24, 3, 30, 22, 20, 15, 25, 17, 4, 8, 31, 27, 13, 23, 21, 19, 16, 7, 26, 12, 18, 6, 11, 5, 10, 9]
def putCells (cs : Array Value) : Obj → Obj
  | .cells _ t frozen => .cells cs t frozen
  | o => o
set_option maxRecDepth 100000 in
noncomputable def laidWorld (os : Os) : World :=
  { World.holding Tryz.prog os ⟨#[.cells #[.string ⟨#[118, 97, 108, 117, 101, 32, 111, 117, 116, 32, 111, 102, 32, 114, 97, 110, 103, 101]⟩] 145, .cells #[.string ⟨#[105, 110, 118, 97, 108, 105, 100, 32, 115, 121, 110, 116, 97, 120]⟩] 145], #[], []⟩ with heap := ((((((((World.holding Tryz.prog os ⟨#[.cells #[.string ⟨#[118, 97, 108, 117, 101, 32, 111, 117, 116, 32, 111, 102, 32, 114, 97, 110, 103, 101]⟩] 145, .cells #[.string ⟨#[105, 110, 118, 97, 108, 105, 100, 32, 115, 121, 110, 116, 97, 120]⟩] 145], #[], []⟩).heap.modify 6 (putCells (tz32r.map (Value.int .u8)).toArray)).modify 7 (putCells (tz64r.map (Value.int .u8)).toArray)).modify 5 (putCells (Lib.pow10Tab.map (Value.int .u64)).toArray)).modify 1 (putCells #[.int .u8 128, .int .u8 191, .int .u8 160, .int .u8 191, .int .u8 128, .int .u8 159, .int .u8 144, .int .u8 191, .int .u8 128, .int .u8 143, .int .u8 0, .int .u8 0, .int .u8 0, .int .u8 0, .int .u8 0, .int .u8 0, .int .u8 0, .int .u8 0, .int .u8 0, .int .u8 0, .int .u8 0, .int .u8 0, .int .u8 0, .int .u8 0, .int .u8 0, .int .u8 0, .int .u8 0, .int .u8 0, .int .u8 0, .int .u8 0, .int .u8 0, .int .u8 0])).modify 4 (putCells #[.iface 143 (.pointer (some ⟨(World.settled Tryz.prog os).heap.size + 0, 0, none⟩))])).modify 3 (putCells #[.iface 143 (.pointer (some ⟨(World.settled Tryz.prog os).heap.size + 1, 0, none⟩))])).modify 0 (putCells (Go.Pinned.utf8FirstZ.map fun (n : Nat) => Value.int .u8 (n : Int)).toArray)) }
theorem laid_met (os : Os) : laidMet Tryz.prog Rows.confTellsRow.laid ((laidWorld os).forCall (fun _ _ => 0) ⟨#[], #[.agg #[.string ⟨#[]⟩, .int .i64 0, .slice none 0 0, .int .i64 0, .int .i64 0, .int .i64 0, .int .i64 0, .int .i64 0, .int .i64 0, .int .i64 0]], []⟩).memory :=
  laidMet_of_run' 8 (by kernel_rfl) (by kernel_rfl)
theorem reads (os : Os) {H : Type} (enc : TypeId × Value → H) : ∃ places, DataW.whole enc Tryz.prog ((laidWorld os).forCall (fun _ _ => 0) ⟨#[], #[.agg #[.string ⟨#[]⟩, .int .i64 0, .slice none 0 0, .int .i64 0, .int .i64 0, .int .i64 0, .int .i64 0, .int .i64 0, .int .i64 0, .int .i64 0]], []⟩).memory Tryz.f3.params.toList Rows.confTellsSpec.vars false (#[.agg #[.string ⟨#[]⟩, .int .i64 0, .slice none 0 0, .int .i64 0, .int .i64 0, .int .i64 0, .int .i64 0, .int .i64 0, .int .i64 0, .int .i64 0]] : Array Value).toList 8 = some ([.agg [.lit (.string []), .lit (.int .i64 0), .nil, .lit (.int .i64 0), .lit (.int .i64 0), .lit (.int .i64 0), .lit (.int .i64 0), .lit (.int .i64 0), .lit (.int .i64 0), .lit (.int .i64 0)]], [], places) :=
  ⟨[], by kernel_rfl⟩
set_option maxRecDepth 100000 in
theorem lifted (os : Os) (started : os.Started) (H : Type) (enc : TypeId × Value → H) (F : Stop.Interp) :
    ReturnsInHanded {} Tryz.checked os 3 .any ((Rows.OpenSpec.upto Rows.confTellsSpec).preRow enc Tryz.prog Tryz.f3 Rows.confTellsUptoRow.domain false Rows.confTellsUptoRow.laid) (((Rows.OpenSpec.upto Rows.confTellsSpec).at F).post enc Tryz.prog Tryz.f3 false true false false) := by
  obtain ⟨places, hx⟩ := reads os enc
  refine returnsInHanded_of_row (C := Tryz.checked) (s := Rows.OpenSpec.upto Rows.confTellsSpec) own started (by kernel_rfl) Tryz.func3
    (witness_row_at (enc := enc) (C := Tryz.checked) false (laidWorld os) #[.agg #[.string ⟨#[]⟩, .int .i64 0, .slice none 0 0, .int .i64 0, .int .i64 0, .int .i64 0, .int .i64 0, .int .i64 0, .int .i64 0, .int .i64 0]] rfl (by kernel_rfl) (by kernel_rfl) (by kernel_rfl)
      (OpenSpec.preRow_of_cond 8 hx (by kernel_rfl) (fun k hk => by cases hk; kernel_rfl) (by kernel_rfl) (laid_met os))) ?_
  intro W base args ds gs before hval hW _ hcond hsz hL hsh _
  exact contract H enc W args ds gs before base hval hW hsz (hcond _ rfl) hL hsh
theorem said : Rows.ConfTellsUptoSaid :=
  OpenClaim.holds_of_cond 3 Tryz.f3 rfl rfl rfl rfl rfl rfl rfl ⟨rfl, rfl, rfl, rfl, rfl⟩ rfl rfl rfl rfl rfl (by kernel_rfl) Tryz.func3 (by kernel_rfl)
    (of_decide_eq_true (by kernel_rfl)) (by unfold Func.isWrapper; first | (rw [if_pos (by decide +kernel)]; kernel_rfl) | (rw [if_neg (by decide +kernel)]; exact ⟨rfl, rfl⟩))
    (fun os started H enc _ F => by rw [OpenClaim.pre_eq_preRow]; exact lifted os started H enc F)
theorem plain (f : FuncId) (fn : Func) (hf : Tryz.pinned.checked.prog.funcNamed "conduit/conduitlaw17.ConfTells" = some f) (hfn : Tryz.pinned.checked.prog.funcs[f]? = some fn) :
    true = Tryz.pinned.checked.prog.looks [] ∧ ∀ (j : Nat) t, fn.params[j]? = some t → Tryz.pinned.checked.prog.wantsStandIn t = false := by
  obtain rfl : f = 3 := Option.some.inj ((show Tryz.prog.funcNamed "conduit/conduitlaw17.ConfTells" = some 3 by kernel_rfl).symm.trans hf) |>.symm
  obtain rfl : fn = Tryz.f3 := (Option.some.inj (Tryz.func3.symm.trans hfn)).symm
  refine ⟨by kernel_rfl, fun j t ht => ?_⟩
  rw [Tryz.params3] at ht
  have hall : ∀ t ∈ (#[24] : Array Nat), Tryz.prog.wantsStandIn t = false := by intro t ht; simp at ht; subst ht; kernel_rfl
  exact hall t (Array.mem_of_getElem? ht)
theorem card : Rows.ConfTellsUptoCardSaid :=
  Claim7.holds_tied_plain_at .later [] _ _ _ _ said (fun _ h => by cases h) (by kernel_rfl) (fun _ h => by cases h) confTellsUpto_row_tie rfl ⟨rfl, rfl⟩ (by kernel_rfl) rfl plain (by kernel_rfl)
#print axioms card
end Go.Proofs.YthjnmcciejfpcaaGreatDoor.confTells
