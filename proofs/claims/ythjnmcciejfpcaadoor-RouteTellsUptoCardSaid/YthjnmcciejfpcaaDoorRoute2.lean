/- route.Match, route.weight: what they answer. -/
import Derived.Test.YthjnmcciejfpcaaDoorRouteE
namespace Go.Proofs.YthjnmcciejfpcaaDoor
set_option linter.unusedVariables false
set_option linter.unusedSimpArgs false
open Go.RowKit

def FitsR (rp p : ByteArray) (k : Int) : Prop := rp.size ≤ 1000000000 ∧ p.size ≤ 1000000000 ∧ (k = 3 → begS p rp = true → (bareS rp).size ≤ p.size)
theorem bareS_size (s : ByteArray) : (bareS s).size ≤ s.size := by
  unfold bareS Lib.trimSuffix
  split
  · show ((L s).take _).toArray.size ≤ _; simp
  · show ((L s)).toArray.size ≤ _; simp

set_option maxHeartbeats 4000000 in
theorem route_Match (k : Int) (h0 rp : ByteArray) (b0 : Int) (wA : Option Addr) (wn wc : Nat) (p : ByteArray) (w : World) (hm : MaxL w) (hf : FitsR rp p k) :
    Calls Tryd.prog 11 #[.agg #[.int .i64 k, .string h0, .string rp, .int .i64 b0, .slice wA wn wc], .string p] w (MatchEnd w (matchS k rp p)) := by
  obtain ⟨hrp, hp, h3⟩ := hf
  have HM := Lib.hid hm; clear hm
  have hbR := Box.new w [.int .i64 k, .string h0, .string rp, .int .i64 b0, .slice wA wn wc] 36
  have hbT := Blk.newAt (w := w.alloc (.cells #[.int .i64 k, .string h0, .string rp, .int .i64 b0, .slice wA wn wc] 36)) (g := w.heap.size + 1) (by simp) 29 routeZ
  have HR := Lib.hid (hbR.fr (fr_alloc (fr_refl _) (.cells routeZ 29)))
  have HT := Lib.hid hbT
  have hw0 : Below w.heap.size w ((w.alloc (.cells #[.int .i64 k, .string h0, .string rp, .int .i64 b0, .slice wA wn wc] 36)).alloc (.cells routeZ 29)) := fr_alloc (fr_alloc (fr_refl _) _) _
  have hNew := fun cs => Blk.newAt (w := w.alloc (.cells #[.int .i64 k, .string h0, .string rp, .int .i64 b0, .slice wA wn wc] 36)) (g := w.heap.size + 1) (by simp) 29 cs
  have HN := Lib.hid hNew
  clear hbR hbT hNew
  by_cases k1 : k = 1
  · subst k1
    cases hq : eqB p rp
    all_goals
      have HQ := Lib.hid hq
      unfold eqB at hq
      clear h3
      go_enter Tryd.func11, Tryd.ntmps11
      go_wp2
    · refine bodyPost_ret (res_route (g := w.heap.size + 1) Tryd.results11 rfl (HN.out _)) rfl (MatchEnd.none_ ?_ ?_)
      · unfold matchS; rw [if_pos rfl, HQ.out]; rfl
      · exact hw0
    · refine bodyPost_ret (res_route (g := w.heap.size + 1) Tryd.results11 rfl (HN.out _)) rfl (MatchEnd.some_ (l := []) ?_ rfl (FPairs.nil _ _ _) ?_)
      · unfold matchS; rw [if_pos rfl, HQ.out]; rfl
      · exact fr_alloc (fr_alloc (fr_refl _) _) _
  have n1 : (k == 1) = false := by simpa using k1
  by_cases k3 : k = 3
  · subst k3
    have hbz := bareS_size rp
    have hms : matchS 3 rp p = if begS p rp then some (bareS rp, p.extract (bareS rp).size p.size, []) else none := by unfold matchS; rw [if_neg (by decide), if_neg (by decide), if_pos rfl]
    have HMS := Lib.hid hms; clear hms
    obtain ⟨bs, hbs⟩ : ∃ bs, bareS rp = bs := ⟨_, rfl⟩
    rw [hbs] at hbz h3 HMS
    have HBS := Lib.hid hbs; clear hbs
    go_enter Tryd.func11, Tryd.ntmps11
    go_wp2_with fail
    refine (lib_TrimSuffix rp 47 _ (by omega)).mono ?_
    rintro e w1 ⟨rfl, rfl⟩
    rw [show (⟨(Lib.trimSuffix (L rp) [47]).toArray⟩ : ByteArray) = bs from HBS.out]
    cases hq : begS p rp
    · have HQ := Lib.hid hq; clear h3
      go_wp2_with fail
      refine (path_Begins p rp _ (HM.out.fr hw0) (by omega) (by omega)).mono ?_
      rintro e w1 ⟨rfl, hb1⟩
      rw [hq]
      have HT1 := HT.out.fr hb1
      have tc0 : w1.cell? ⟨w.heap.size + 1, 0, none⟩ = some (.int .i64 0) := HT1.cell 0
      have tf0 : w1.frozen? ⟨w.heap.size + 1, 0, none⟩ = false := HT1.frozen 0
      have tc1 : w1.cell? ⟨w.heap.size + 1, 1, none⟩ = some (.string ⟨#[]⟩) := HT1.cell 1
      have tf1 : w1.frozen? ⟨w.heap.size + 1, 1, none⟩ = false := HT1.frozen 1
      have tc2 : w1.cell? ⟨w.heap.size + 1, 2, none⟩ = some (.string ⟨#[]⟩) := HT1.cell 2
      have tf2 : w1.frozen? ⟨w.heap.size + 1, 2, none⟩ = false := HT1.frozen 2
      have tc3 : w1.cell? ⟨w.heap.size + 1, 3, none⟩ = some (.slice none 0 0) := HT1.cell 3
      have tf3 : w1.frozen? ⟨w.heap.size + 1, 3, none⟩ = false := HT1.frozen 3
      have tlt : w.heap.size + 1 < w1.heap.size := HT1.lt
      have H1 := Lib.hid HT1; clear HT1
      go_wp2_with fail
      refine bodyPost_ret (res_route (g := w.heap.size + 1) (v0 := .int .i64 0) (v1 := .string ⟨#[]⟩) (v2 := .string ⟨#[]⟩) (v3 := .slice none 0 0) Tryd.results11 rfl ((((H1.out.set_ 0 _).set_ 1 _).set_ 2 _).set_ 3 _)) rfl (MatchEnd.none_ ?_ ?_)
      · rw [HMS.out, HQ.out]; rfl
      · have hw1 := fr_trans hw0 hb1
        exact fr_set (fr_set (fr_set (fr_set hw1 (by simp) _) (by simp) _) (by simp) _) (by simp) _
    · have HQ := Lib.hid hq
      have hle := h3 (by simp) hq
      clear h3
      go_wp2_with fail
      refine (path_Begins p rp _ (HM.out.fr hw0) (by omega) (by omega)).mono ?_
      rintro e w1 ⟨rfl, hb1⟩
      rw [hq]
      have HT1 := HT.out.fr hb1
      have tc0 : w1.cell? ⟨w.heap.size + 1, 0, none⟩ = some (.int .i64 0) := HT1.cell 0
      have tf0 : w1.frozen? ⟨w.heap.size + 1, 0, none⟩ = false := HT1.frozen 0
      have tc1 : w1.cell? ⟨w.heap.size + 1, 1, none⟩ = some (.string ⟨#[]⟩) := HT1.cell 1
      have tf1 : w1.frozen? ⟨w.heap.size + 1, 1, none⟩ = false := HT1.frozen 1
      have tc2 : w1.cell? ⟨w.heap.size + 1, 2, none⟩ = some (.string ⟨#[]⟩) := HT1.cell 2
      have tf2 : w1.frozen? ⟨w.heap.size + 1, 2, none⟩ = false := HT1.frozen 2
      have tc3 : w1.cell? ⟨w.heap.size + 1, 3, none⟩ = some (.slice none 0 0) := HT1.cell 3
      have tf3 : w1.frozen? ⟨w.heap.size + 1, 3, none⟩ = false := HT1.frozen 3
      have tlt : w.heap.size + 1 < w1.heap.size := HT1.lt
      have H1 := Lib.hid HT1; clear HT1
      go_wp2_with fail
      refine bodyPost_ret (res_route (g := w.heap.size + 1) (v0 := .int .i64 0) (v1 := .string bs) (v2 := .string (p.extract bs.size p.size)) (v3 := .slice none 0 0) Tryd.results11 rfl ((((H1.out.set_ 0 _).set_ 1 _).set_ 2 _).set_ 3 _)) rfl (MatchEnd.some_ (l := []) ?_ rfl (FPairs.nil _ _ _) ?_)
      · rw [HMS.out, HQ.out]; rfl
      · have hw1 := fr_trans hw0 hb1
        exact fr_set (fr_set (fr_set (fr_set hw1 (by simp) _) (by simp) _) (by simp) _) (by simp) _
  have n3 : (k == 3) = false := by simpa using k3
  by_cases k24 : k = 2 ∨ k = 4
  · have a0 := HR.out.at_ 0 (.int .i64 k)
    have a1 := HR.out.at_ 1 (.string h0)
    have a2 := HR.out.at_ 2 (.string rp)
    have a3 := HR.out.at_ 3 (.int .i64 b0)
    have a4 := HR.out.at_ 4 (.slice wA wn wc)
    clear h3
    obtain ⟨o, ho⟩ : ∃ o, matchS k rp p = o := ⟨_, rfl⟩
    have ho2 : k = 2 → (segsM (segs rp) (segs p)).map (fun nm => (p, (⟨#[]⟩ : ByteArray), nm)) = o := fun h => by rw [← ho, h]; rfl
    have ho4 : k = 4 → (extS rp p).map (fun z => (p.extract 0 z, p.extract z p.size, ([] : List Pr))) = o := fun h => by rw [← ho, h]; rfl
    have HO := Lib.hid ho; have HO2 := Lib.hid ho2; have HO4 := Lib.hid ho4
    clear ho ho2 ho4
    rcases k24 with rfl | rfl
    · go_enter Tryd.func11, Tryd.ntmps11
      go_wp2_with fail
      have hc := route_segs 2 h0 rp b0 wA wn wc p ((w.alloc (.cells #[.int .i64 2, .string h0, .string rp, .int .i64 b0, .slice wA wn wc] 36)).alloc (.cells routeZ 29)) (HM.out.fr hw0) hrp hp
      rw [HO2.out (by simp)] at hc
      refine hc.mono ?_
      clear hc
      rintro e w1 ⟨⟨A, c, rfl, hpr⟩, hb1⟩
      have hw1 := fr_trans hw0 hb1
      have HT1 := HT.out.fr hb1
      have tc0 : w1.cell? ⟨w.heap.size + 1, 0, none⟩ = some (.int .i64 0) := HT1.cell 0
      have tf0 : w1.frozen? ⟨w.heap.size + 1, 0, none⟩ = false := HT1.frozen 0
      have tc1 : w1.cell? ⟨w.heap.size + 1, 1, none⟩ = some (.string ⟨#[]⟩) := HT1.cell 1
      have tf1 : w1.frozen? ⟨w.heap.size + 1, 1, none⟩ = false := HT1.frozen 1
      have tc2 : w1.cell? ⟨w.heap.size + 1, 2, none⟩ = some (.string ⟨#[]⟩) := HT1.cell 2
      have tf2 : w1.frozen? ⟨w.heap.size + 1, 2, none⟩ = false := HT1.frozen 2
      have tc3 : w1.cell? ⟨w.heap.size + 1, 3, none⟩ = some (.slice none 0 0) := HT1.cell 3
      have tf3 : w1.frozen? ⟨w.heap.size + 1, 3, none⟩ = false := HT1.frozen 3
      have tlt : w.heap.size + 1 < w1.heap.size := HT1.lt
      have H1 := Lib.hid HT1; have HP := Lib.hid hpr; have HW := Lib.hid hw1
      clear HT1 hpr hb1 a0 a1 a2 a3 a4 hw1
      go_wp2_with fail
      refine bodyPost_ret (res_route (g := w.heap.size + 1) (v0 := .int .i64 0) (v1 := .string (rsc o)) (v2 := .string (rinf o)) (v3 := .slice A (rnm o).length c) Tryd.results11 rfl ((((H1.out.set_ 0 _).set_ 1 _).set_ 2 _).set_ 3 _)) rfl ?_
      rw [HO.out]
      refine ⟨⟨A, c, rfl, ?_⟩, ?_⟩
      · exact (((((HP.out.set_ (by simp) _).set_ (by simp) _).set_ (by simp) _).set_ (by simp) _)).more (by simp; omega)
      · exact fr_set (fr_set (fr_set (fr_set HW.out (by simp) _) (by simp) _) (by simp) _) (by simp) _
    · go_enter Tryd.func11, Tryd.ntmps11
      go_wp2_with fail
      have hc := route_ext 4 h0 rp b0 wA wn wc p ((w.alloc (.cells #[.int .i64 4, .string h0, .string rp, .int .i64 b0, .slice wA wn wc] 36)).alloc (.cells routeZ 29)) hrp hp
      rw [HO4.out (by simp)] at hc
      refine hc.mono ?_
      clear hc
      rintro e w1 ⟨⟨A, c, rfl, hpr⟩, hb1⟩
      have hw1 := fr_trans hw0 hb1
      have HT1 := HT.out.fr hb1
      have tc0 : w1.cell? ⟨w.heap.size + 1, 0, none⟩ = some (.int .i64 0) := HT1.cell 0
      have tf0 : w1.frozen? ⟨w.heap.size + 1, 0, none⟩ = false := HT1.frozen 0
      have tc1 : w1.cell? ⟨w.heap.size + 1, 1, none⟩ = some (.string ⟨#[]⟩) := HT1.cell 1
      have tf1 : w1.frozen? ⟨w.heap.size + 1, 1, none⟩ = false := HT1.frozen 1
      have tc2 : w1.cell? ⟨w.heap.size + 1, 2, none⟩ = some (.string ⟨#[]⟩) := HT1.cell 2
      have tf2 : w1.frozen? ⟨w.heap.size + 1, 2, none⟩ = false := HT1.frozen 2
      have tc3 : w1.cell? ⟨w.heap.size + 1, 3, none⟩ = some (.slice none 0 0) := HT1.cell 3
      have tf3 : w1.frozen? ⟨w.heap.size + 1, 3, none⟩ = false := HT1.frozen 3
      have tlt : w.heap.size + 1 < w1.heap.size := HT1.lt
      have H1 := Lib.hid HT1; have HP := Lib.hid hpr; have HW := Lib.hid hw1
      clear HT1 hpr hb1 a0 a1 a2 a3 a4 hw1
      go_wp2_with fail
      refine bodyPost_ret (res_route (g := w.heap.size + 1) (v0 := .int .i64 0) (v1 := .string (rsc o)) (v2 := .string (rinf o)) (v3 := .slice A (rnm o).length c) Tryd.results11 rfl ((((H1.out.set_ 0 _).set_ 1 _).set_ 2 _).set_ 3 _)) rfl ?_
      rw [HO.out]
      refine ⟨⟨A, c, rfl, ?_⟩, ?_⟩
      · exact (((((HP.out.set_ (by simp) _).set_ (by simp) _).set_ (by simp) _).set_ (by simp) _)).more (by simp; omega)
      · exact fr_set (fr_set (fr_set (fr_set HW.out (by simp) _) (by simp) _) (by simp) _) (by simp) _
  have n2 : (k == 2) = false := by simp; omega
  have n4 : (k == 4) = false := by simp; omega
  clear h3
  go_enter Tryd.func11, Tryd.ntmps11
  go_wp2_with fail
  refine bodyPost_ret (res_route (g := w.heap.size + 1) Tryd.results11 rfl (HN.out _)) rfl (MatchEnd.none_ ?_ ?_)
  · unfold matchS; rw [if_neg k1, if_neg (by omega), if_neg k3, if_neg (by omega)]
  · exact hw0
end Go.Proofs.YthjnmcciejfpcaaDoor
