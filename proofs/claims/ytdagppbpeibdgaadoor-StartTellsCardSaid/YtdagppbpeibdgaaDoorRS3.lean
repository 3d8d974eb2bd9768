/- conduitref6.Start: it answers startS. -/
import Derived.Test.YtdagppbpeibdgaaDoorRS2
import Derived.Test.YtdagppbpeibdgaaDoorSt2
namespace Go.Proofs.YtdagppbpeibdgaaDoor
set_option linter.unusedVariables false
set_option linter.unusedSimpArgs false
open Go.RowKit

def startQ (r : Int × ByteArray × ByteArray × Int) : Value := .tuple #[.agg #[.string r.2.1, .string r.2.2.1, .int .i64 r.2.2.2, .slice none 0 0, .string ⟨#[]⟩], .int .i64 r.1]
theorem ref6_split3 (s m t v : ByteArray) (w : World) (h : cutB s 32 = [m, t, v]) (hs : s.size ≤ 1000000000) :
    Calls Tryd.prog 53 #[.string s, .int .u8 32] w fun e w' => (∃ g c, e = .returned (.slice (some ⟨g, 0, none⟩) 3 c) ∧ w'.cell? ⟨g, 0, none⟩ = some (.string m) ∧ w'.cell? ⟨g, 1, none⟩ = some (.string t) ∧ w'.cell? ⟨g, 2, none⟩ = some (.string v)) ∧ Below w.heap.size w w' := by
  have hsp := ref6_split s 32 w hs
  rw [show (((32 : UInt8).toNat : Int)) = 32 from rfl, splitL_cutB, h] at hsp
  refine hsp.mono ?_
  rintro e w' ⟨⟨v0, rfl, hown⟩, hb⟩
  refine ⟨?_, hb⟩
  rcases hown.2 with ⟨_, h0⟩ | ⟨g, cap, cur, rfl, _⟩
  · exact absurd h0 (by simp)
  · have k0 := hown.cells (g := g) rfl 0 (.string m) rfl
    have k1 := hown.cells (g := g) rfl 1 (.string t) rfl
    have k2 := hown.cells (g := g) rfl 2 (.string v) rfl
    rw [add0] at k0 k1 k2
    exact ⟨g, cap, rfl, k0, k1, k2⟩
theorem ref1_Token_at (s : ByteArray) (b : Bool) (w : World) (h : allB isTokB s = b) (hs : s.size ≤ 9223372036854775807) : Calls Tryd.prog 54 #[.string s] w fun e w' => e = .returned (.bool b) ∧ w = w' := h ▸ ref1_Token s w hs
theorem ref6_target_at (m t : ByteArray) (b : Bool) (w : World) (h : tarR m t = b) (hs : t.size ≤ 1000000000) : Calls Tryd.prog 55 #[.string m, .string t] w fun e w' => e = .returned (.bool b) ∧ w = w' := h ▸ ref6_target m t w hs
theorem prefix_five (v : ByteArray) (h : 5 ≤ v.size) : Lib.hasPrefix (L v) [72, 84, 84, 80, 47] = ((v.extract 0 5).toList == [72, 84, 84, 80, 47]) := by
  have e : (v.extract 0 5).toList = (L v).take 5 := by rw [toList_L, L_ext]; simp
  rw [e]
  unfold Lib.hasPrefix
  rw [Bool.eq_iff_iff, beq_iff_eq, List.isPrefixOf_iff_prefix, List.prefix_iff_eq_take]
  exact eq_comm
theorem prefix_short (v : ByteArray) (h : ¬ 5 ≤ v.size) : Lib.hasPrefix (L v) [72, 84, 84, 80, 47] = false := by
  cases hq : Lib.hasPrefix (L v) [72, 84, 84, 80, 47]
  · rfl
  · unfold Lib.hasPrefix at hq
    rw [List.isPrefixOf_iff_prefix] at hq
    have := hq.length_le
    rw [L_len] at this
    exact absurd this h
set_option maxRecDepth 100000 in
set_option maxHeartbeats 4000000 in
theorem rst_tok (line m t v : ByteArray) (w : World) (hl : cutB line 32 = [m, t, v]) (hs : line.size ≤ 1000000000) (hm : m.size ≤ 9223372036854775807) (ht : t.size ≤ 1000000000) (htk : allB isTokB m = false) :
    Calls Tryd.prog 23 #[.string line] w fun e w' => e = .returned (startQ (10, ⟨#[]⟩, ⟨#[]⟩, 0)) ∧ Below w.heap.size w w' := by
  have HL := Lib.hid hl; have HS := Lib.hid hs; have HM := Lib.hid hm; have HTT := Lib.hid ht; have HTK := Lib.hid htk
  clear hl hs hm ht htk
  go_enter Tryd.func23, Tryd.ntmps23
  go_wp2_with fail
  refine (ref6_split3 line m t v _ HL.out HS.out).mono ?_
  rintro e w1 ⟨⟨g, cp, rfl, c0, c1, c2⟩, hb⟩
  have hZ1 : Blk w1 w.heap.size 46 reqZ := (Blk.new w 46 reqZ).fr hb
  have HZ := Lib.hid hZ1; have HF := Lib.hid (fr_trans (fr_alloc (fr_refl w) _) hb)
  clear hb
  have zc0 : w1.cell? ⟨w.heap.size, 0, none⟩ = some (.string ⟨#[]⟩) := hZ1.cell 0
  have zf0 : w1.frozen? ⟨w.heap.size, 0, none⟩ = false := hZ1.frozen 0
  have zc1 : w1.cell? ⟨w.heap.size, 1, none⟩ = some (.string ⟨#[]⟩) := hZ1.cell 1
  have zf1 : w1.frozen? ⟨w.heap.size, 1, none⟩ = false := hZ1.frozen 1
  have zc2 : w1.cell? ⟨w.heap.size, 2, none⟩ = some (.int .i64 0) := hZ1.cell 2
  have zf2 : w1.frozen? ⟨w.heap.size, 2, none⟩ = false := hZ1.frozen 2
  have zc3 : w1.cell? ⟨w.heap.size, 3, none⟩ = some (.slice none 0 0) := hZ1.cell 3
  have zf3 : w1.frozen? ⟨w.heap.size, 3, none⟩ = false := hZ1.frozen 3
  have zc4 : w1.cell? ⟨w.heap.size, 4, none⟩ = some (.string ⟨#[]⟩) := hZ1.cell 4
  have zf4 : w1.frozen? ⟨w.heap.size, 4, none⟩ = false := hZ1.frozen 4
  have zlt : w.heap.size < w1.heap.size := hZ1.lt
  clear hZ1
  go_wp2_with fail
  refine (ref1_Token_at m _ _ HTK.out HM.out).mono ?_
  rintro e wq ⟨rfl, rfl⟩
  go_wp2
  refine bodyPost_ret (res_req (g := w.heap.size) (v0 := .string ⟨#[]⟩) (v1 := .string ⟨#[]⟩) (v2 := .int .i64 0) (v3 := .slice none 0 0) (v4 := .string ⟨#[]⟩) Tryd.results23 rfl (((((HZ.out.set_ 0 _).set_ 1 _).set_ 2 _).set_ 3 _).set_ 4 _)) rfl ?_
  exact ⟨rfl, fr_req HF.out⟩
set_option maxRecDepth 100000 in
set_option maxHeartbeats 4000000 in
theorem rst_16 (line m t v : ByteArray) (w : World) (hl : cutB line 32 = [m, t, v]) (hs : line.size ≤ 1000000000) (hm : m.size ≤ 9223372036854775807) (ht : t.size ≤ 1000000000) (htk : allB isTokB m = true) (h16 : (16 : Int) < (m.size : Int)) :
    Calls Tryd.prog 23 #[.string line] w fun e w' => e = .returned (startQ (10, ⟨#[]⟩, ⟨#[]⟩, 0)) ∧ Below w.heap.size w w' := by
  have HL := Lib.hid hl; have HS := Lib.hid hs; have HM := Lib.hid hm; have HTT := Lib.hid ht; have HTK := Lib.hid htk
  clear hl hs hm ht htk
  go_enter Tryd.func23, Tryd.ntmps23
  go_wp2_with fail
  refine (ref6_split3 line m t v _ HL.out HS.out).mono ?_
  rintro e w1 ⟨⟨g, cp, rfl, c0, c1, c2⟩, hb⟩
  have hZ1 : Blk w1 w.heap.size 46 reqZ := (Blk.new w 46 reqZ).fr hb
  have HZ := Lib.hid hZ1; have HF := Lib.hid (fr_trans (fr_alloc (fr_refl w) _) hb)
  clear hb
  have zc0 : w1.cell? ⟨w.heap.size, 0, none⟩ = some (.string ⟨#[]⟩) := hZ1.cell 0
  have zf0 : w1.frozen? ⟨w.heap.size, 0, none⟩ = false := hZ1.frozen 0
  have zc1 : w1.cell? ⟨w.heap.size, 1, none⟩ = some (.string ⟨#[]⟩) := hZ1.cell 1
  have zf1 : w1.frozen? ⟨w.heap.size, 1, none⟩ = false := hZ1.frozen 1
  have zc2 : w1.cell? ⟨w.heap.size, 2, none⟩ = some (.int .i64 0) := hZ1.cell 2
  have zf2 : w1.frozen? ⟨w.heap.size, 2, none⟩ = false := hZ1.frozen 2
  have zc3 : w1.cell? ⟨w.heap.size, 3, none⟩ = some (.slice none 0 0) := hZ1.cell 3
  have zf3 : w1.frozen? ⟨w.heap.size, 3, none⟩ = false := hZ1.frozen 3
  have zc4 : w1.cell? ⟨w.heap.size, 4, none⟩ = some (.string ⟨#[]⟩) := hZ1.cell 4
  have zf4 : w1.frozen? ⟨w.heap.size, 4, none⟩ = false := hZ1.frozen 4
  have zlt : w.heap.size < w1.heap.size := hZ1.lt
  clear hZ1
  go_wp2_with fail
  refine (ref1_Token_at m _ _ HTK.out HM.out).mono ?_
  rintro e wq ⟨rfl, rfl⟩
  go_wp2
  refine bodyPost_ret (res_req (g := w.heap.size) (v0 := .string ⟨#[]⟩) (v1 := .string ⟨#[]⟩) (v2 := .int .i64 0) (v3 := .slice none 0 0) (v4 := .string ⟨#[]⟩) Tryd.results23 rfl (((((HZ.out.set_ 0 _).set_ 1 _).set_ 2 _).set_ 3 _).set_ 4 _)) rfl ?_
  exact ⟨rfl, fr_req HF.out⟩
set_option maxRecDepth 100000 in
set_option maxHeartbeats 4000000 in
theorem rst_5 (line m t v : ByteArray) (w : World) (hl : cutB line 32 = [m, t, v]) (hs : line.size ≤ 1000000000) (hm : m.size ≤ 9223372036854775807) (ht : t.size ≤ 1000000000) (htk : allB isTokB m = true) (h16 : ¬ (16 : Int) < (m.size : Int)) (h5 : (v.size : Int) < 5) :
    Calls Tryd.prog 23 #[.string line] w fun e w' => e = .returned (startQ (10, ⟨#[]⟩, ⟨#[]⟩, 0)) ∧ Below w.heap.size w w' := by
  have HL := Lib.hid hl; have HS := Lib.hid hs; have HM := Lib.hid hm; have HTT := Lib.hid ht; have HTK := Lib.hid htk
  clear hl hs hm ht htk
  go_enter Tryd.func23, Tryd.ntmps23
  go_wp2_with fail
  refine (ref6_split3 line m t v _ HL.out HS.out).mono ?_
  rintro e w1 ⟨⟨g, cp, rfl, c0, c1, c2⟩, hb⟩
  have hZ1 : Blk w1 w.heap.size 46 reqZ := (Blk.new w 46 reqZ).fr hb
  have HZ := Lib.hid hZ1; have HF := Lib.hid (fr_trans (fr_alloc (fr_refl w) _) hb)
  clear hb
  have zc0 : w1.cell? ⟨w.heap.size, 0, none⟩ = some (.string ⟨#[]⟩) := hZ1.cell 0
  have zf0 : w1.frozen? ⟨w.heap.size, 0, none⟩ = false := hZ1.frozen 0
  have zc1 : w1.cell? ⟨w.heap.size, 1, none⟩ = some (.string ⟨#[]⟩) := hZ1.cell 1
  have zf1 : w1.frozen? ⟨w.heap.size, 1, none⟩ = false := hZ1.frozen 1
  have zc2 : w1.cell? ⟨w.heap.size, 2, none⟩ = some (.int .i64 0) := hZ1.cell 2
  have zf2 : w1.frozen? ⟨w.heap.size, 2, none⟩ = false := hZ1.frozen 2
  have zc3 : w1.cell? ⟨w.heap.size, 3, none⟩ = some (.slice none 0 0) := hZ1.cell 3
  have zf3 : w1.frozen? ⟨w.heap.size, 3, none⟩ = false := hZ1.frozen 3
  have zc4 : w1.cell? ⟨w.heap.size, 4, none⟩ = some (.string ⟨#[]⟩) := hZ1.cell 4
  have zf4 : w1.frozen? ⟨w.heap.size, 4, none⟩ = false := hZ1.frozen 4
  have zlt : w.heap.size < w1.heap.size := hZ1.lt
  clear hZ1
  go_wp2_with fail
  refine (ref1_Token_at m _ _ HTK.out HM.out).mono ?_
  rintro e wq ⟨rfl, rfl⟩
  go_wp2
  refine bodyPost_ret (res_req (g := w.heap.size) (v0 := .string ⟨#[]⟩) (v1 := .string ⟨#[]⟩) (v2 := .int .i64 0) (v3 := .slice none 0 0) (v4 := .string ⟨#[]⟩) Tryd.results23 rfl (((((HZ.out.set_ 0 _).set_ 1 _).set_ 2 _).set_ 3 _).set_ 4 _)) rfl ?_
  exact ⟨rfl, fr_req HF.out⟩
set_option maxRecDepth 100000 in
set_option maxHeartbeats 4000000 in
theorem rst_pre (line m t v : ByteArray) (w : World) (hl : cutB line 32 = [m, t, v]) (hs : line.size ≤ 1000000000) (hm : m.size ≤ 9223372036854775807) (ht : t.size ≤ 1000000000) (htk : allB isTokB m = true) (h16 : ¬ (16 : Int) < (m.size : Int)) (h5 : ¬ (v.size : Int) < 5) (hp : ((v.extract 0 5).toList == [72, 84, 84, 80, 47]) = false) :
    Calls Tryd.prog 23 #[.string line] w fun e w' => e = .returned (startQ (10, ⟨#[]⟩, ⟨#[]⟩, 0)) ∧ Below w.heap.size w w' := by
  have HL := Lib.hid hl; have HS := Lib.hid hs; have HM := Lib.hid hm; have HTT := Lib.hid ht; have HTK := Lib.hid htk
  clear hl hs hm ht htk
  have h5' : (5 : Int) ≤ (v.size : Int) := by omega
  go_enter Tryd.func23, Tryd.ntmps23
  go_wp2_with fail
  refine (ref6_split3 line m t v _ HL.out HS.out).mono ?_
  rintro e w1 ⟨⟨g, cp, rfl, c0, c1, c2⟩, hb⟩
  have hZ1 : Blk w1 w.heap.size 46 reqZ := (Blk.new w 46 reqZ).fr hb
  have HZ := Lib.hid hZ1; have HF := Lib.hid (fr_trans (fr_alloc (fr_refl w) _) hb)
  clear hb
  have zc0 : w1.cell? ⟨w.heap.size, 0, none⟩ = some (.string ⟨#[]⟩) := hZ1.cell 0
  have zf0 : w1.frozen? ⟨w.heap.size, 0, none⟩ = false := hZ1.frozen 0
  have zc1 : w1.cell? ⟨w.heap.size, 1, none⟩ = some (.string ⟨#[]⟩) := hZ1.cell 1
  have zf1 : w1.frozen? ⟨w.heap.size, 1, none⟩ = false := hZ1.frozen 1
  have zc2 : w1.cell? ⟨w.heap.size, 2, none⟩ = some (.int .i64 0) := hZ1.cell 2
  have zf2 : w1.frozen? ⟨w.heap.size, 2, none⟩ = false := hZ1.frozen 2
  have zc3 : w1.cell? ⟨w.heap.size, 3, none⟩ = some (.slice none 0 0) := hZ1.cell 3
  have zf3 : w1.frozen? ⟨w.heap.size, 3, none⟩ = false := hZ1.frozen 3
  have zc4 : w1.cell? ⟨w.heap.size, 4, none⟩ = some (.string ⟨#[]⟩) := hZ1.cell 4
  have zf4 : w1.frozen? ⟨w.heap.size, 4, none⟩ = false := hZ1.frozen 4
  have zlt : w.heap.size < w1.heap.size := hZ1.lt
  clear hZ1
  go_wp2_with fail
  refine (ref1_Token_at m _ _ HTK.out HM.out).mono ?_
  rintro e wq ⟨rfl, rfl⟩
  go_wp2
  refine bodyPost_ret (res_req (g := w.heap.size) (v0 := .string ⟨#[]⟩) (v1 := .string ⟨#[]⟩) (v2 := .int .i64 0) (v3 := .slice none 0 0) (v4 := .string ⟨#[]⟩) Tryd.results23 rfl (((((HZ.out.set_ 0 _).set_ 1 _).set_ 2 _).set_ 3 _).set_ 4 _)) rfl ?_
  exact ⟨rfl, fr_req HF.out⟩
set_option maxRecDepth 100000 in
set_option maxHeartbeats 4000000 in
theorem rst_13 (line m t v : ByteArray) (w : World) (hl : cutB line 32 = [m, t, v]) (hs : line.size ≤ 1000000000) (hm : m.size ≤ 9223372036854775807) (ht : t.size ≤ 1000000000) (htk : allB isTokB m = true) (h16 : ¬ (16 : Int) < (m.size : Int)) (h5 : ¬ (v.size : Int) < 5) (hp : ((v.extract 0 5).toList == [72, 84, 84, 80, 47]) = true) (h10 : (v.toList == [72, 84, 84, 80, 47, 49, 46, 48]) = false) (h11 : (v.toList == [72, 84, 84, 80, 47, 49, 46, 49]) = false) :
    Calls Tryd.prog 23 #[.string line] w fun e w' => e = .returned (startQ (13, ⟨#[]⟩, ⟨#[]⟩, 0)) ∧ Below w.heap.size w w' := by
  have HL := Lib.hid hl; have HS := Lib.hid hs; have HM := Lib.hid hm; have HTT := Lib.hid ht; have HTK := Lib.hid htk
  clear hl hs hm ht htk
  have h5' : (5 : Int) ≤ (v.size : Int) := by omega
  go_enter Tryd.func23, Tryd.ntmps23
  go_wp2_with fail
  refine (ref6_split3 line m t v _ HL.out HS.out).mono ?_
  rintro e w1 ⟨⟨g, cp, rfl, c0, c1, c2⟩, hb⟩
  have hZ1 : Blk w1 w.heap.size 46 reqZ := (Blk.new w 46 reqZ).fr hb
  have HZ := Lib.hid hZ1; have HF := Lib.hid (fr_trans (fr_alloc (fr_refl w) _) hb)
  clear hb
  have zc0 : w1.cell? ⟨w.heap.size, 0, none⟩ = some (.string ⟨#[]⟩) := hZ1.cell 0
  have zf0 : w1.frozen? ⟨w.heap.size, 0, none⟩ = false := hZ1.frozen 0
  have zc1 : w1.cell? ⟨w.heap.size, 1, none⟩ = some (.string ⟨#[]⟩) := hZ1.cell 1
  have zf1 : w1.frozen? ⟨w.heap.size, 1, none⟩ = false := hZ1.frozen 1
  have zc2 : w1.cell? ⟨w.heap.size, 2, none⟩ = some (.int .i64 0) := hZ1.cell 2
  have zf2 : w1.frozen? ⟨w.heap.size, 2, none⟩ = false := hZ1.frozen 2
  have zc3 : w1.cell? ⟨w.heap.size, 3, none⟩ = some (.slice none 0 0) := hZ1.cell 3
  have zf3 : w1.frozen? ⟨w.heap.size, 3, none⟩ = false := hZ1.frozen 3
  have zc4 : w1.cell? ⟨w.heap.size, 4, none⟩ = some (.string ⟨#[]⟩) := hZ1.cell 4
  have zf4 : w1.frozen? ⟨w.heap.size, 4, none⟩ = false := hZ1.frozen 4
  have zlt : w.heap.size < w1.heap.size := hZ1.lt
  clear hZ1
  go_wp2_with fail
  refine (ref1_Token_at m _ _ HTK.out HM.out).mono ?_
  rintro e wq ⟨rfl, rfl⟩
  go_wp2
  refine bodyPost_ret (res_req (g := w.heap.size) (v0 := .string ⟨#[]⟩) (v1 := .string ⟨#[]⟩) (v2 := .int .i64 0) (v3 := .slice none 0 0) (v4 := .string ⟨#[]⟩) Tryd.results23 rfl (((((HZ.out.set_ 0 _).set_ 1 _).set_ 2 _).set_ 3 _).set_ 4 _)) rfl ?_
  exact ⟨rfl, fr_req HF.out⟩
end Go.Proofs.YtdagppbpeibdgaaDoor
