/- conduitlaw17.ConfTells: true. -/
import Derived.Test.YthjnmcciejfpcaaGreatDoorCfT1
import Derived.Test.YthjnmcciejfpcaaGreatDoorCf4
import Derived.Deep.RegionHeld3
import Derived.Deep.RegionLaw
namespace Go.Proofs.YthjnmcciejfpcaaGreatDoor
set_option linter.unusedVariables false
set_option linter.unusedSimpArgs false
open Go.RowKit

theorem conf10 {w w' : World} {g : Nat} {nm : ByteArray} {p : Int} {A : Option Addr} {n c : Nat} {co id he bo ou ti ba : Int} (h : Box w g [.string nm, .int .i64 p, .slice A n c, .int .i64 co, .int .i64 id, .int .i64 he, .int .i64 bo, .int .i64 ou, .int .i64 ti, .int .i64 ba]) (hb : Below w.heap.size w w') :
    (fun W' : World => W'.cell? ⟨g, 0, none⟩ = some (.string nm) ∧ W'.cell? ⟨g, 1, none⟩ = some (.int .i64 p) ∧ W'.cell? ⟨g, 2, none⟩ = some (.slice A n c) ∧ W'.cell? ⟨g, 3, none⟩ = some (.int .i64 co) ∧ W'.cell? ⟨g, 4, none⟩ = some (.int .i64 id) ∧ W'.cell? ⟨g, 5, none⟩ = some (.int .i64 he) ∧ W'.cell? ⟨g, 6, none⟩ = some (.int .i64 bo) ∧ W'.cell? ⟨g, 7, none⟩ = some (.int .i64 ou) ∧ W'.cell? ⟨g, 8, none⟩ = some (.int .i64 ti) ∧ W'.cell? ⟨g, 9, none⟩ = some (.int .i64 ba)) w' :=
  have hx := h.fr hb
  ⟨hx.2 0 _ rfl, hx.2 1 _ rfl, hx.2 2 _ rfl, hx.2 3 _ rfl, hx.2 4 _ rfl, hx.2 5 _ rfl, hx.2 6 _ rfl, hx.2 7 _ rfl, hx.2 8 _ rfl, hx.2 9 _ rfl⟩
set_option maxRecDepth 100000 in
set_option maxHeartbeats 8000000 in
theorem law17_tells (nm : ByteArray) (p : Int) (A : Option Addr) (n c : Nat) (co id he bo ou ti ba : Int) (l : List RU) (w : World) (hm : MaxL w) (hn : l.length = n) (hR : Rules w A (l.map (·.v))) (hH : ∀ u ∈ l, u.Has w) (hFt : ∀ u ∈ l, u.Fit 1048576) :
    Calls Tryz.prog 3 #[.agg (confV nm p A n c co id he bo ou ti ba)] w fun e w' => e = .returned (.bool true) ∧ Below w.heap.size w w' := by
  unfold confV
  have hB := Box.new w [.string nm, .int .i64 p, .slice A n c, .int .i64 co, .int .i64 id, .int .i64 he, .int .i64 bo, .int .i64 ou, .int .i64 ti, .int .i64 ba] 24
  have HF := Lib.hid (fr_alloc (fr_refl w) (.cells [.string nm, .int .i64 p, .slice A n c, .int .i64 co, .int .i64 id, .int .i64 he, .int .i64 bo, .int .i64 ou, .int .i64 ti, .int .i64 ba].toArray 24))
  obtain ⟨W0, hW0⟩ : ∃ W0, w.alloc (.cells #[.string nm, .int .i64 p, .slice A n c, .int .i64 co, .int .i64 id, .int .i64 he, .int .i64 bo, .int .i64 ou, .int .i64 ti, .int .i64 ba] 24) = W0 := ⟨_, rfl⟩
  have hB' : Box W0 w.heap.size [.string nm, .int .i64 p, .slice A n c, .int .i64 co, .int .i64 id, .int .i64 he, .int .i64 bo, .int .i64 ou, .int .i64 ti, .int .i64 ba] := hW0 ▸ hB
  have hF' : Below w.heap.size w W0 := hW0 ▸ HF.out
  have HM := Lib.hid (hm.fr hF')
  have HB := Lib.hid hB'; have H0 := Lib.hid hF'; have HR := Lib.hid hR; have HH := Lib.hid hH; have HFT := Lib.hid hFt; have HN := Lib.hid hn
  clear hB HF hB' hF' hm hR hH hFt hn
  go_enter Tryz.func3, Tryz.ntmps3
  go_wp2_with fail
  refine (law17_known _ HM.out).mono ?_
  rintro e w1 ⟨rfl, hb1⟩
  have hx := HB.out.fr hb1
  have ac0 : w1.cell? ⟨w.heap.size, 0, none⟩ = some (.string nm) := hx.2 0 _ rfl
  have ac1 : w1.cell? ⟨w.heap.size, 1, none⟩ = some (.int .i64 p) := hx.2 1 _ rfl
  have ac2 : w1.cell? ⟨w.heap.size, 2, none⟩ = some (.slice A n c) := hx.2 2 _ rfl
  have ac3 : w1.cell? ⟨w.heap.size, 3, none⟩ = some (.int .i64 co) := hx.2 3 _ rfl
  have ac4 : w1.cell? ⟨w.heap.size, 4, none⟩ = some (.int .i64 id) := hx.2 4 _ rfl
  have ac5 : w1.cell? ⟨w.heap.size, 5, none⟩ = some (.int .i64 he) := hx.2 5 _ rfl
  have ac6 : w1.cell? ⟨w.heap.size, 6, none⟩ = some (.int .i64 bo) := hx.2 6 _ rfl
  have ac7 : w1.cell? ⟨w.heap.size, 7, none⟩ = some (.int .i64 ou) := hx.2 7 _ rfl
  have ac8 : w1.cell? ⟨w.heap.size, 8, none⟩ = some (.int .i64 ti) := hx.2 8 _ rfl
  have ac9 : w1.cell? ⟨w.heap.size, 9, none⟩ = some (.int .i64 ba) := hx.2 9 _ rfl
  have alt : w.heap.size < w1.heap.size := hx.1
  have HB1 := Lib.hid hx; have H1 := Lib.hid (fr_trans H0.out hb1); have HM1 := Lib.hid (HM.out.fr hb1)
  clear hb1 hx
  by_cases h20 : 20 < n
  · have h20I : (20 : Int) < (n : Int) := by omega
    clear h20
    go_wp2
    go_ret
    exact ⟨rfl, H1.out⟩
  have h20I : ¬ (20 : Int) < (n : Int) := by omega
  by_cases h200 : 200 < nm.size
  · have h200I : (200 : Int) < (nm.size : Int) := by omega
    clear h200
    go_wp2
    go_ret
    exact ⟨rfl, H1.out⟩
  have h200I : ¬ (200 : Int) < (nm.size : Int) := by omega
  have HC1 := Lib.hid (fun W hm hR hH => conf_Is nm p A n c co id he bo ou ti ba l W hm (by omega) HN.out (by omega) hR hH HFT.out)
  have HC2 := Lib.hid (fun W hR hH => ref11_IsConf nm p A n c co id he bo ou ti ba l W (by omega) HN.out (by omega) hR hH HFT.out)
  clear h20 h200
  unfold confV at HC1 HC2
  obtain ⟨b, hb⟩ : ∃ b, confB nm p l co id he bo ou ti ba = b := ⟨_, rfl⟩
  rw [hb] at HC1 HC2
  clear hb
  go_wp2_with fail
  refine (HC1.out _ HM1.out (HR.out.fr H1.out) (fun u hu => (HH.out u hu).fr H1.out)).mono ?_
  rintro e w2 ⟨rfl, hb2⟩
  have HB2 := Lib.hid (HB1.out.fr hb2); have H2 := Lib.hid (fr_trans H1.out hb2)
  clear hb2 ac0 ac1 ac2 ac3 ac4 ac5 ac6 ac7 ac8 ac9
  have HRD := Lib.hid (HR.out.fr (fr_drew H2.out)); have HHD := Lib.hid (fun u hu => (HH.out u hu).fr (fr_drew H2.out))
  obtain ⟨d0, d1, d2, d3, d4, d5, d6, d7, d8, d9⟩ := conf10 HB2.out (fr_refl _)
  cases b
  · unfold confR
    simp only [Bool.false_eq_true, if_false, if_true]
    go_wp2_with fail
    go_region_held3 (fun W' => W'.cell? ⟨w.heap.size, 0, none⟩ = some (.string nm) ∧ W'.cell? ⟨w.heap.size, 1, none⟩ = some (.int .i64 p) ∧ W'.cell? ⟨w.heap.size, 2, none⟩ = some (.slice A n c) ∧ W'.cell? ⟨w.heap.size, 3, none⟩ = some (.int .i64 co) ∧ W'.cell? ⟨w.heap.size, 4, none⟩ = some (.int .i64 id) ∧ W'.cell? ⟨w.heap.size, 5, none⟩ = some (.int .i64 he) ∧ W'.cell? ⟨w.heap.size, 6, none⟩ = some (.int .i64 bo) ∧ W'.cell? ⟨w.heap.size, 7, none⟩ = some (.int .i64 ou) ∧ W'.cell? ⟨w.heap.size, 8, none⟩ = some (.int .i64 ti) ∧ W'.cell? ⟨w.heap.size, 9, none⟩ = some (.int .i64 ba))
      (first | exact conf10 HB2.out (fr_refl _) | exact conf10 HB2.out (fr_drew (fr_refl _)) | exact conf10 HB2.out (fr_trans (fr_drew (fr_refl _)) hbI))
      (first
      | (go_at_call 6; refine (HC2.out _ HRD.out HHD.out).mono ?_; rintro e wI ⟨rfl, hbI⟩)
      | (go_at_call 7; refine (is_errno 14 14 _).mono ?_; rintro e wE ⟨rfl, rfl⟩))
    all_goals
      have H3 := Lib.hid (fr_trans (fr_drew H2.out) hbI)
      go_wp2
      go_ret
      exact ⟨rfl, H3.out⟩
  · unfold confR
    simp only [Bool.false_eq_true, if_false, if_true]
    go_wp2_with fail
    first
    | (go_region_law (first
        | (go_simp; go_at_call 6; refine (HC2.out _ HRD.out HHD.out).mono ?_; rintro e wI ⟨rfl, hbI⟩; have H3 := Lib.hid (fr_trans (fr_drew H2.out) hbI))))
    | fail
    all_goals
      go_wp2
      go_ret
      exact ⟨rfl, H3.out⟩
end Go.Proofs.YthjnmcciejfpcaaGreatDoor
