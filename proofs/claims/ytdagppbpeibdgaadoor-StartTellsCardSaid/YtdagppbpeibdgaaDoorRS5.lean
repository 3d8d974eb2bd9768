/- conduitref6.Start: the last case. -/
import Derived.Test.YtdagppbpeibdgaaDoorRS4
import Derived.Deep.QuietTactic
import Derived.StillTailTactics
namespace Go.Proofs.YtdagppbpeibdgaaDoor
set_option linter.unusedVariables false
set_option linter.unusedSimpArgs false
open Go.RowKit

set_option maxRecDepth 100000 in
set_option maxHeartbeats 4000000 in
theorem rst_ok0 (line m t : ByteArray) (w : World) (hl : cutB line 32 = [m, t, ⟨#[72, 84, 84, 80, 47, 49, 46, 48]⟩]) (hs : line.size ≤ 1000000000) (hm : m.size ≤ 9223372036854775807) (ht : t.size ≤ 1000000000) (htk : allB isTokB m = true) (h16 : ¬ (16 : Int) < (m.size : Int)) (htg : tarR m t = true) (h256 : ¬ (256 : Int) < (t.size : Int)) :
    Calls Tryd.prog 23 #[.string line] w fun e w' => e = .returned (startQ (0, m, t, 0)) ∧ Below w.heap.size w w' := by
  have HL := Lib.hid hl; have HS := Lib.hid hs; have HM := Lib.hid hm; have HTT := Lib.hid ht; have HTK := Lib.hid htk; have HTG := Lib.hid htg
  clear hl hs hm ht htk htg
  obtain ⟨v, hv⟩ : ∃ v : ByteArray, v = ⟨#[72, 84, 84, 80, 47, 49, 46, 48]⟩ := ⟨_, rfl⟩
  rw [← hv] at HL
  have h5 : ¬ (v.size : Int) < 5 := by rw [hv]; decide
  have h5' : (5 : Int) ≤ (v.size : Int) := by omega
  have hp : ((v.extract 0 5).toList == [72, 84, 84, 80, 47]) = true := by rw [hv, toList_L, L_ext]; rfl
  have h10 : (v.toList == [72, 84, 84, 80, 47, 49, 46, 48]) = true := by rw [hv, toList_L]; rfl
  have hix : ∀ W : World, (Instr.index 9 (.string v) (.int .i64 7)).run Tryd.prog W = .ok (.int .u8 48) W := by rw [hv]; intro W; kernel_rfl
  have HIX := Lib.hid hix
  clear hix hv
  go_enter Tryd.func23, Tryd.ntmps23
  go_wp2_with fail
  refine (ref6_split3 line m t v _ HL.out HS.out).mono ?_
  rintro e w1 ⟨⟨g, cp, rfl, c0, c1, c2⟩, hb⟩
  have hZ1 : Blk w1 w.heap.size 46 reqZ := (Blk.new w 46 reqZ).fr hb
  have HZ := Lib.hid hZ1; have HF := Lib.hid (fr_trans (fr_alloc (fr_refl w) _) hb)
  clear hb
  have zc0 : w1.cell? ⟨w.heap.size, 0, none⟩ = some (.string ⟨#[]⟩) := hZ1.cell 0
  have zf0 : w1.frozen? ⟨w.heap.size, 0, none⟩ = false := hZ1.frozen 0
  have zc1 : w1.cell? ⟨w.heap.size, 1, none⟩ = some (.string ⟨#[]⟩) := hZ1.cell 1
  have zf1 : w1.frozen? ⟨w.heap.size, 1, none⟩ = false := hZ1.frozen 1
  have zc2 : w1.cell? ⟨w.heap.size, 2, none⟩ = some (.int .i64 0) := hZ1.cell 2
  have zf2 : w1.frozen? ⟨w.heap.size, 2, none⟩ = false := hZ1.frozen 2
  have zc3 : w1.cell? ⟨w.heap.size, 3, none⟩ = some (.slice none 0 0) := hZ1.cell 3
  have zf3 : w1.frozen? ⟨w.heap.size, 3, none⟩ = false := hZ1.frozen 3
  have zc4 : w1.cell? ⟨w.heap.size, 4, none⟩ = some (.string ⟨#[]⟩) := hZ1.cell 4
  have zf4 : w1.frozen? ⟨w.heap.size, 4, none⟩ = false := hZ1.frozen 4
  have zlt : w.heap.size < w1.heap.size := hZ1.lt
  clear hZ1
  go_wp2_with fail
  refine (ref1_Token_at m _ _ HTK.out HM.out).mono ?_
  rintro e wq ⟨rfl, rfl⟩
  go_wp2_with fail
  go_quiet (first | (go_at_call 55; refine Calls.quiet_of_same (same_sym2 (ref6_target_at m t _ _ HTG.out HTT.out))))
  have HZ7 := (HZ.out.drewN nq).drew
  have HF7 := fr_drew (fr_drewN HF.out nq)
  have q0 : (w1.drewN nq).drew.cell? ⟨g, 0, none⟩ = some (.string m) := c0
  have q1 : (w1.drewN nq).drew.cell? ⟨g, 1, none⟩ = some (.string t) := c1
  have q2 : (w1.drewN nq).drew.cell? ⟨g, 2, none⟩ = some (.string v) := c2
  have hix := HIX.out
  go_wp2_with fail
  refine wp_region_still_tail 13 (by kernel_rfl) (by kernel_rfl) ?_
  change wpStill _ _ (w1.drewN nq).drew (fun a' => wpList _ _ _ _ a' (w1.drewN nq).drew) _ _
  obtain ⟨W2, hW2⟩ : ∃ W2, (w1.drewN nq).drew = W2 := ⟨_, rfl⟩
  rw [hW2] at HZ7 HF7 q0 q1 q2 ⊢
  have HZ6 := Lib.hid HZ7; have HF6 := Lib.hid HF7
  have yc0 : W2.cell? ⟨w.heap.size, 0, none⟩ = some (.string ⟨#[]⟩) := HZ6.out.cell 0
  have yf0 : W2.frozen? ⟨w.heap.size, 0, none⟩ = false := HZ6.out.frozen 0
  have yc1 : W2.cell? ⟨w.heap.size, 1, none⟩ = some (.string ⟨#[]⟩) := HZ6.out.cell 1
  have yf1 : W2.frozen? ⟨w.heap.size, 1, none⟩ = false := HZ6.out.frozen 1
  have yc2 : W2.cell? ⟨w.heap.size, 2, none⟩ = some (.int .i64 0) := HZ6.out.cell 2
  have yf2 : W2.frozen? ⟨w.heap.size, 2, none⟩ = false := HZ6.out.frozen 2
  have yc3 : W2.cell? ⟨w.heap.size, 3, none⟩ = some (.slice none 0 0) := HZ6.out.cell 3
  have yf3 : W2.frozen? ⟨w.heap.size, 3, none⟩ = false := HZ6.out.frozen 3
  have yc4 : W2.cell? ⟨w.heap.size, 4, none⟩ = some (.string ⟨#[]⟩) := HZ6.out.cell 4
  have yf4 : W2.frozen? ⟨w.heap.size, 4, none⟩ = false := HZ6.out.frozen 4
  clear HZ7 HF7 hW2 HZ HF c0 c1 c2 zc0 zc1 zc2 zc3 zc4 zf0 zf1 zf2 zf3 zf4
  simp only [List.take_succ_cons, List.take_zero, List.drop_succ_cons, List.drop_zero]
  repeat still_step
  refine wpStill_nil ?_
  go_wp2
  refine bodyPost_ret (res_req (g := w.heap.size) (v0 := .string m) (v1 := .string t) (v2 := .int .i64 0) (v3 := .slice none 0 0) (v4 := .string ⟨#[]⟩) Tryd.results23 rfl (((((HZ6.out.set_ 0 _).set_ 1 _).set_ 2 _).set_ 3 _).set_ 4 _)) rfl ?_
  exact ⟨rfl, fr_req HF6.out⟩
set_option maxRecDepth 100000 in
set_option maxHeartbeats 4000000 in
theorem rst_ok1 (line m t : ByteArray) (w : World) (hl : cutB line 32 = [m, t, ⟨#[72, 84, 84, 80, 47, 49, 46, 49]⟩]) (hs : line.size ≤ 1000000000) (hm : m.size ≤ 9223372036854775807) (ht : t.size ≤ 1000000000) (htk : allB isTokB m = true) (h16 : ¬ (16 : Int) < (m.size : Int)) (htg : tarR m t = true) (h256 : ¬ (256 : Int) < (t.size : Int)) :
    Calls Tryd.prog 23 #[.string line] w fun e w' => e = .returned (startQ (0, m, t, 1)) ∧ Below w.heap.size w w' := by
  have HL := Lib.hid hl; have HS := Lib.hid hs; have HM := Lib.hid hm; have HTT := Lib.hid ht; have HTK := Lib.hid htk; have HTG := Lib.hid htg
  clear hl hs hm ht htk htg
  obtain ⟨v, hv⟩ : ∃ v : ByteArray, v = ⟨#[72, 84, 84, 80, 47, 49, 46, 49]⟩ := ⟨_, rfl⟩
  rw [← hv] at HL
  have h5 : ¬ (v.size : Int) < 5 := by rw [hv]; decide
  have h5' : (5 : Int) ≤ (v.size : Int) := by omega
  have hp : ((v.extract 0 5).toList == [72, 84, 84, 80, 47]) = true := by rw [hv, toList_L, L_ext]; rfl
  have h10 : (v.toList == [72, 84, 84, 80, 47, 49, 46, 48]) = false := by rw [hv, toList_L]; rfl
  have h11 : (v.toList == [72, 84, 84, 80, 47, 49, 46, 49]) = true := by rw [hv, toList_L]; rfl
  have hix : ∀ W : World, (Instr.index 9 (.string v) (.int .i64 7)).run Tryd.prog W = .ok (.int .u8 49) W := by rw [hv]; intro W; kernel_rfl
  have HIX := Lib.hid hix
  clear hix hv
  go_enter Tryd.func23, Tryd.ntmps23
  go_wp2_with fail
  refine (ref6_split3 line m t v _ HL.out HS.out).mono ?_
  rintro e w1 ⟨⟨g, cp, rfl, c0, c1, c2⟩, hb⟩
  have hZ1 : Blk w1 w.heap.size 46 reqZ := (Blk.new w 46 reqZ).fr hb
  have HZ := Lib.hid hZ1; have HF := Lib.hid (fr_trans (fr_alloc (fr_refl w) _) hb)
  clear hb
  have zc0 : w1.cell? ⟨w.heap.size, 0, none⟩ = some (.string ⟨#[]⟩) := hZ1.cell 0
  have zf0 : w1.frozen? ⟨w.heap.size, 0, none⟩ = false := hZ1.frozen 0
  have zc1 : w1.cell? ⟨w.heap.size, 1, none⟩ = some (.string ⟨#[]⟩) := hZ1.cell 1
  have zf1 : w1.frozen? ⟨w.heap.size, 1, none⟩ = false := hZ1.frozen 1
  have zc2 : w1.cell? ⟨w.heap.size, 2, none⟩ = some (.int .i64 0) := hZ1.cell 2
  have zf2 : w1.frozen? ⟨w.heap.size, 2, none⟩ = false := hZ1.frozen 2
  have zc3 : w1.cell? ⟨w.heap.size, 3, none⟩ = some (.slice none 0 0) := hZ1.cell 3
  have zf3 : w1.frozen? ⟨w.heap.size, 3, none⟩ = false := hZ1.frozen 3
  have zc4 : w1.cell? ⟨w.heap.size, 4, none⟩ = some (.string ⟨#[]⟩) := hZ1.cell 4
  have zf4 : w1.frozen? ⟨w.heap.size, 4, none⟩ = false := hZ1.frozen 4
  have zlt : w.heap.size < w1.heap.size := hZ1.lt
  clear hZ1
  go_wp2_with fail
  refine (ref1_Token_at m _ _ HTK.out HM.out).mono ?_
  rintro e wq ⟨rfl, rfl⟩
  go_wp2_with fail
  go_quiet (first | (go_at_call 55; refine Calls.quiet_of_same (same_sym2 (ref6_target_at m t _ _ HTG.out HTT.out))))
  have HZ7 := (HZ.out.drewN nq).drew
  have HF7 := fr_drew (fr_drewN HF.out nq)
  have q0 : (w1.drewN nq).drew.cell? ⟨g, 0, none⟩ = some (.string m) := c0
  have q1 : (w1.drewN nq).drew.cell? ⟨g, 1, none⟩ = some (.string t) := c1
  have q2 : (w1.drewN nq).drew.cell? ⟨g, 2, none⟩ = some (.string v) := c2
  have hix := HIX.out
  go_wp2_with fail
  refine wp_region_still_tail 13 (by kernel_rfl) (by kernel_rfl) ?_
  change wpStill _ _ (w1.drewN nq).drew (fun a' => wpList _ _ _ _ a' (w1.drewN nq).drew) _ _
  obtain ⟨W2, hW2⟩ : ∃ W2, (w1.drewN nq).drew = W2 := ⟨_, rfl⟩
  rw [hW2] at HZ7 HF7 q0 q1 q2 ⊢
  have HZ6 := Lib.hid HZ7; have HF6 := Lib.hid HF7
  have yc0 : W2.cell? ⟨w.heap.size, 0, none⟩ = some (.string ⟨#[]⟩) := HZ6.out.cell 0
  have yf0 : W2.frozen? ⟨w.heap.size, 0, none⟩ = false := HZ6.out.frozen 0
  have yc1 : W2.cell? ⟨w.heap.size, 1, none⟩ = some (.string ⟨#[]⟩) := HZ6.out.cell 1
  have yf1 : W2.frozen? ⟨w.heap.size, 1, none⟩ = false := HZ6.out.frozen 1
  have yc2 : W2.cell? ⟨w.heap.size, 2, none⟩ = some (.int .i64 0) := HZ6.out.cell 2
  have yf2 : W2.frozen? ⟨w.heap.size, 2, none⟩ = false := HZ6.out.frozen 2
  have yc3 : W2.cell? ⟨w.heap.size, 3, none⟩ = some (.slice none 0 0) := HZ6.out.cell 3
  have yf3 : W2.frozen? ⟨w.heap.size, 3, none⟩ = false := HZ6.out.frozen 3
  have yc4 : W2.cell? ⟨w.heap.size, 4, none⟩ = some (.string ⟨#[]⟩) := HZ6.out.cell 4
  have yf4 : W2.frozen? ⟨w.heap.size, 4, none⟩ = false := HZ6.out.frozen 4
  clear HZ7 HF7 hW2 HZ HF c0 c1 c2 zc0 zc1 zc2 zc3 zc4 zf0 zf1 zf2 zf3 zf4
  simp only [List.take_succ_cons, List.take_zero, List.drop_succ_cons, List.drop_zero]
  repeat still_step
  refine wpStill_nil ?_
  go_wp2
  refine bodyPost_ret (res_req (g := w.heap.size) (v0 := .string m) (v1 := .string t) (v2 := .int .i64 1) (v3 := .slice none 0 0) (v4 := .string ⟨#[]⟩) Tryd.results23 rfl (((((HZ6.out.set_ 0 _).set_ 1 _).set_ 2 _).set_ 3 _).set_ 4 _)) rfl ?_
  exact ⟨rfl, fr_req HF6.out⟩
theorem rst_ok (line m t v : ByteArray) (w : World) (hl : cutB line 32 = [m, t, v]) (hs : line.size ≤ 1000000000) (hm : m.size ≤ 9223372036854775807) (ht : t.size ≤ 1000000000) (htk : allB isTokB m = true) (h16 : ¬ (16 : Int) < (m.size : Int)) (htg : tarR m t = true) (h256 : ¬ (256 : Int) < (t.size : Int)) (hver : (v = ⟨#[72, 84, 84, 80, 47, 49, 46, 48]⟩) ∨ (v = ⟨#[72, 84, 84, 80, 47, 49, 46, 49]⟩)) :
    Calls Tryd.prog 23 #[.string line] w fun e w' => e = .returned (startQ (0, m, t, versN v)) ∧ Below w.heap.size w w' := by
  rcases hver with rfl | rfl
  · exact rst_ok0 line m t w hl hs hm ht htk h16 htg h256
  · exact rst_ok1 line m t w hl hs hm ht htk h16 htg h256
end Go.Proofs.YtdagppbpeibdgaaDoor
