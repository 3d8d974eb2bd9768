/- conduitref11.Match: what route.Match answers. -/
import Derived.Test.YthjnmcciejfpcaaDoorRR2
namespace Go.Proofs.YthjnmcciejfpcaaDoor
set_option linter.unusedVariables false
set_option linter.unusedSimpArgs false
open Go.RowKit

set_option maxRecDepth 100000 in
set_option maxHeartbeats 8000000 in
theorem ref11_Match (k : Int) (h0 rp : ByteArray) (b0 : Int) (wA : Option Addr) (wn wc : Nat) (p : ByteArray) (w : World) (hf : FitsR rp p k) :
    Calls Tryd.prog 12 #[.agg #[.int .i64 k, .string h0, .string rp, .int .i64 b0, .slice wA wn wc], .string p] w (MatchR w (matchS k rp p)) := by
  obtain ⟨hrp, hp, h3⟩ := hf
  have hNew := fun cs => Blk.newAt (w := w.alloc (.cells #[.int .i64 k, .string h0, .string rp, .int .i64 b0, .slice wA wn wc] 36)) (g := w.heap.size + 1) (by simp) 29 cs
  have hNew6 := fun ds cs => Blk.newAt (w := (w.alloc (.cells #[.int .i64 k, .string h0, .string rp, .int .i64 b0, .slice wA wn wc] 36)).alloc (.cells ds 29)) (g := w.heap.size + 1 + 1) (by simp) 29 cs
  have hF3 : ∀ ds cs, Below w.heap.size w (((w.alloc (.cells #[.int .i64 k, .string h0, .string rp, .int .i64 b0, .slice wA wn wc] 36)).alloc (.cells ds 29)).alloc (.cells cs 29)) := fun ds cs => fr_alloc (fr_alloc (fr_alloc (fr_refl _) _) _) _
  have HN := Lib.hid hNew; have HN6 := Lib.hid hNew6; have HF := Lib.hid hF3
  clear hNew hNew6 hF3
  by_cases k1 : k = 1
  · subst k1
    cases hq : eqB p rp
    all_goals
      have HQ := Lib.hid hq
      unfold eqB at hq
      clear h3
      go_enter Tryd.func12, Tryd.ntmps12
      go_wp2_with fail
      go_region
      go_wp2_with fail
    · refine bodyPost_ret (res_route (g := w.heap.size + 1) Tryd.results12 rfl ((HN.out _).alloc _).drew) rfl (MatchR.none_ ?_ ?_)
      · unfold matchS; rw [if_pos rfl, HQ.out]; rfl
      · exact fr_drew (HF.out _ _)
    · refine bodyPost_ret (res_route (g := w.heap.size + 1) Tryd.results12 rfl ((HN.out _).alloc _).drew) rfl (MatchR.some_ (l := []) ?_ rfl (FPairs.nil _ _ _) ?_)
      · unfold matchS; rw [if_pos rfl, HQ.out]; rfl
      · exact fr_drew (HF.out _ _)
  have n1 : (k == 1) = false := by simpa using k1
  by_cases k2 : k = 2
  · subst k2
    exact ref11_Match2 h0 rp b0 wA wn wc p w hrp hp
  have n2 : (k == 2) = false := by simpa using k2
  by_cases k3 : k = 3
  · subst k3
    have hbz := bareS_size rp
    have hms : matchS 3 rp p = if begS p rp then some (bareS rp, p.extract (bareS rp).size p.size, []) else none := by unfold matchS; rw [if_neg (by decide), if_neg (by decide), if_pos rfl]
    have HMS := Lib.hid hms; clear hms
    have HBA := Lib.hid (fun W => ref11_bare rp W (by omega))
    obtain ⟨bs, hbs⟩ : ∃ bs, bareS rp = bs := ⟨_, rfl⟩
    rw [hbs] at hbz h3 HMS HBA
    clear hbs
    cases hq : begS p rp
    · have HQ := Lib.hid hq; clear h3 hq
      go_enter Tryd.func12, Tryd.ntmps12
      go_wp2_with fail
      refine (HBA.out _).mono ?_
      rintro e w1 ⟨rfl, rfl⟩
      go_wp2_with fail
      refine (begins_ref p rp _ _ HQ.out (by omega) (by omega)).mono ?_
      rintro e w1 ⟨rfl, hb1⟩
      have HT1 := ((HN.out _).alloc _).fr hb1
      have hw1 := fr_trans (HF.out _ _) hb1
      have tc0 : w1.cell? ⟨w.heap.size + 1, 0, none⟩ = some (.int .i64 0) := HT1.cell 0
      have tf0 : w1.frozen? ⟨w.heap.size + 1, 0, none⟩ = false := HT1.frozen 0
      have tc1 : w1.cell? ⟨w.heap.size + 1, 1, none⟩ = some (.string ⟨#[]⟩) := HT1.cell 1
      have tf1 : w1.frozen? ⟨w.heap.size + 1, 1, none⟩ = false := HT1.frozen 1
      have tc2 : w1.cell? ⟨w.heap.size + 1, 2, none⟩ = some (.string ⟨#[]⟩) := HT1.cell 2
      have tf2 : w1.frozen? ⟨w.heap.size + 1, 2, none⟩ = false := HT1.frozen 2
      have tc3 : w1.cell? ⟨w.heap.size + 1, 3, none⟩ = some (.slice none 0 0) := HT1.cell 3
      have tf3 : w1.frozen? ⟨w.heap.size + 1, 3, none⟩ = false := HT1.frozen 3
      have tlt : w.heap.size + 1 < w1.heap.size := HT1.lt
      have H1 := Lib.hid HT1; have HW1 := Lib.hid hw1; clear HT1 hw1 hb1
      go_wp2_with fail
      refine bodyPost_ret (res_route (g := w.heap.size + 1) (v0 := .int .i64 0) (v1 := .string ⟨#[]⟩) (v2 := .string ⟨#[]⟩) (v3 := .slice none 0 0) Tryd.results12 rfl ((((H1.out.set_ 0 _).set_ 1 _).set_ 2 _).set_ 3 _)) rfl (MatchR.none_ ?_ ?_)
      · rw [HMS.out, HQ.out]; rfl
      · exact fr_set (fr_set (fr_set (fr_set HW1.out (by simp) _) (by simp) _) (by simp) _) (by simp) _
    · have HQ := Lib.hid hq
      have hle := h3 (by simp) hq
      clear h3 hq
      have hleI : (bs.size : Int) ≤ (p.size : Int) := by omega
      go_enter Tryd.func12, Tryd.ntmps12
      go_wp2_with fail
      refine (HBA.out _).mono ?_
      rintro e w1 ⟨rfl, rfl⟩
      go_wp2_with fail
      refine (begins_ref p rp _ _ HQ.out (by omega) (by omega)).mono ?_
      rintro e w1 ⟨rfl, hb1⟩
      have HT1 := ((HN.out _).alloc _).fr hb1
      have HS1 := (HN6.out _ _).fr hb1
      have hw1 := fr_trans (HF.out _ _) hb1
      have tc0 : w1.cell? ⟨w.heap.size + 1, 0, none⟩ = some (.int .i64 0) := HT1.cell 0
      have tf0 : w1.frozen? ⟨w.heap.size + 1, 0, none⟩ = false := HT1.frozen 0
      have tc1 : w1.cell? ⟨w.heap.size + 1, 1, none⟩ = some (.string ⟨#[]⟩) := HT1.cell 1
      have tf1 : w1.frozen? ⟨w.heap.size + 1, 1, none⟩ = false := HT1.frozen 1
      have tc2 : w1.cell? ⟨w.heap.size + 1, 2, none⟩ = some (.string ⟨#[]⟩) := HT1.cell 2
      have tf2 : w1.frozen? ⟨w.heap.size + 1, 2, none⟩ = false := HT1.frozen 2
      have tc3 : w1.cell? ⟨w.heap.size + 1, 3, none⟩ = some (.slice none 0 0) := HT1.cell 3
      have tf3 : w1.frozen? ⟨w.heap.size + 1, 3, none⟩ = false := HT1.frozen 3
      have tlt : w.heap.size + 1 < w1.heap.size := HT1.lt
      have sc0 : w1.cell? ⟨w.heap.size + 1 + 1, 0, none⟩ = some (.int .i64 0) := HS1.cell 0
      have sf0 : w1.frozen? ⟨w.heap.size + 1 + 1, 0, none⟩ = false := HS1.frozen 0
      have sc1 : w1.cell? ⟨w.heap.size + 1 + 1, 1, none⟩ = some (.string bs) := HS1.cell 1
      have sf1 : w1.frozen? ⟨w.heap.size + 1 + 1, 1, none⟩ = false := HS1.frozen 1
      have sc2 : w1.cell? ⟨w.heap.size + 1 + 1, 2, none⟩ = some (.string ⟨#[]⟩) := HS1.cell 2
      have sf2 : w1.frozen? ⟨w.heap.size + 1 + 1, 2, none⟩ = false := HS1.frozen 2
      have sc3 : w1.cell? ⟨w.heap.size + 1 + 1, 3, none⟩ = some (.slice none 0 0) := HS1.cell 3
      have sf3 : w1.frozen? ⟨w.heap.size + 1 + 1, 3, none⟩ = false := HS1.frozen 3
      have slt : w.heap.size + 1 + 1 < w1.heap.size := HS1.lt
      have H1 := Lib.hid HT1; have HW1 := Lib.hid hw1; have HS := Lib.hid HS1; clear HT1 HS1 hw1 hb1
      go_wp2_with fail
      refine bodyPost_ret (res_route (g := w.heap.size + 1) (v0 := .int .i64 0) (v1 := .string bs) (v2 := .string (p.extract bs.size p.size)) (v3 := .slice none 0 0) Tryd.results12 rfl (((((show Blk _ _ _ _ from (Below.heap_setCell w1 ⟨w.heap.size + 1 + 1, 2, none⟩ _ (w.heap.size + 1) (by simp)).trans H1.out).set_ 0 _).set_ 1 _).set_ 2 _).set_ 3 _)) rfl (MatchR.some_ (l := []) ?_ rfl (FPairs.nil _ _ _) ?_)
      · rw [HMS.out, HQ.out]; rfl
      · exact fr_set (fr_set (fr_set (fr_set (fr_set HW1.out (by show w.heap.size ≤ w.heap.size + 1 + 1; omega) _) (by simp) _) (by simp) _) (by simp) _) (by simp) _
  have n3 : (k == 3) = false := by simpa using k3
  by_cases k4 : k = 4
  · subst k4
    clear h3
    obtain ⟨o, ho⟩ : ∃ o, matchS 4 rp p = o := ⟨_, rfl⟩
    have ho4 : (extS rp p).map (fun z => (p.extract 0 z, p.extract z p.size, ([] : List Pr))) = o := by rw [← ho]; rfl
    have HO := Lib.hid ho
    have HE := Lib.hid (fun W => ref11_ext rp p W hrp hp)
    rw [ho4] at HE
    clear ho ho4
    go_enter Tryd.func12, Tryd.ntmps12
    go_wp2_with fail
    refine (HE.out _).mono ?_
    rintro e w1 ⟨⟨sc, inf, nm, A, c, rfl, hsome, hpr⟩, hb1⟩
    have HT1 := ((HN.out _).alloc _).fr hb1
    have hw1 := fr_trans (HF.out _ _) hb1
    have tc0 : w1.cell? ⟨w.heap.size + 1, 0, none⟩ = some (.int .i64 0) := HT1.cell 0
    have tf0 : w1.frozen? ⟨w.heap.size + 1, 0, none⟩ = false := HT1.frozen 0
    have tc1 : w1.cell? ⟨w.heap.size + 1, 1, none⟩ = some (.string ⟨#[]⟩) := HT1.cell 1
    have tf1 : w1.frozen? ⟨w.heap.size + 1, 1, none⟩ = false := HT1.frozen 1
    have tc2 : w1.cell? ⟨w.heap.size + 1, 2, none⟩ = some (.string ⟨#[]⟩) := HT1.cell 2
    have tf2 : w1.frozen? ⟨w.heap.size + 1, 2, none⟩ = false := HT1.frozen 2
    have tc3 : w1.cell? ⟨w.heap.size + 1, 3, none⟩ = some (.slice none 0 0) := HT1.cell 3
    have tf3 : w1.frozen? ⟨w.heap.size + 1, 3, none⟩ = false := HT1.frozen 3
    have tlt : w.heap.size + 1 < w1.heap.size := HT1.lt
    have H1 := Lib.hid HT1; have HP := Lib.hid hpr; have HW1 := Lib.hid hw1; have HSM := Lib.hid hsome
    clear HT1 hpr hb1 hw1 hsome
    go_wp2_with fail
    refine bodyPost_ret (res_route (g := w.heap.size + 1) (v0 := .int .i64 0) (v1 := .string sc) (v2 := .string inf) (v3 := .slice A nm.length c) Tryd.results12 rfl ((((H1.out.set_ 0 _).set_ 1 _).set_ 2 _).set_ 3 _)) rfl ?_
    rw [HO.out]
    refine ⟨⟨sc, inf, nm, A, c, rfl, HSM.out, ?_⟩, ?_⟩
    · exact (((((HP.out.set_ (by simp) _).set_ (by simp) _).set_ (by simp) _).set_ (by simp) _)).more (by simp; omega)
    · exact fr_set (fr_set (fr_set (fr_set HW1.out (by simp) _) (by simp) _) (by simp) _) (by simp) _
  have n4 : (k == 4) = false := by simpa using k4
  clear h3
  go_enter Tryd.func12, Tryd.ntmps12
  go_wp2_with fail
  refine bodyPost_ret (res_route (g := w.heap.size + 1) Tryd.results12 rfl ((HN.out _).alloc _)) rfl (MatchR.none_ ?_ ?_)
  · unfold matchS; rw [if_neg k1, if_neg k2, if_neg k3, if_neg k4]
  · exact HF.out _ _
end Go.Proofs.YthjnmcciejfpcaaDoor
