/- slices.swapRangeCmpFunc, rotateCmpFunc at pairs: rows of like length change places; two rows beside one another change places. -/
import Derived.Test.YtdlignhlliellaaDoorVS1
import Derived.IntWalk
import Derived.Test.YtdlignhlliellaaDoorProg
import Derived.Test.YtdlignhlliellaaDoorStrs
namespace Go.Proofs.YtdlignhlliellaaDoor
set_option linter.unusedVariables false
set_option linter.unusedSimpArgs false
open Go.RowKit

theorem wrap_nat (p : Nat) (h : p ≤ 1000000) : wrap64 (p : Int) = (p : Int) := IntWalk.wrap64_in _ (by omega)
theorem wrap_succ (p : Nat) (h : p ≤ 1000000) : wrap64 ((p : Int) + 1) = (p : Int) + 1 := IntWalk.wrap64_in _ (by omega)
theorem cons_of {X : List Pr} {j k : Nat} {X1 X2 : List Pr} (e : X = X1 ++ X2) (h : X.length = k) (h1 : X1.length = j) (hj : j < k) : ∃ x X3, X2 = x :: X3 := by
  cases X2 with
  | nil => subst e; rw [List.append_nil] at h; omega
  | cons x X3 => exact ⟨x, X3, rfl⟩
theorem swap_step {w : World} {base g n cap a b k j p q : Nat} {PL X M PR X1 X3 Y1 Y3 : List Pr} {x y : Pr} (h : Row w base g n cap (PL ++ (Y1 ++ ((x :: X3) ++ (M ++ (X1 ++ ((y :: Y3) ++ PR)))))))
    (eX : X = X1 ++ x :: X3) (hX : X.length = k) (l1 : X1.length = j) (l2 : Y1.length = j) (ha : PL.length = a) (hb : a + k + M.length = b) (hp : a + j = p) (hq : b + j = q) :
    Exch w base g n cap p q x y (PL ++ ((Y1 ++ [y]) ++ (X3 ++ (M ++ ((X1 ++ [x]) ++ (Y3 ++ PR)))))) := by
  have e1 : PL ++ (Y1 ++ ((x :: X3) ++ (M ++ (X1 ++ ((y :: Y3) ++ PR))))) = (PL ++ Y1) ++ x :: ((X3 ++ (M ++ X1)) ++ y :: (Y3 ++ PR)) := by simp
  have e2 : PL ++ ((Y1 ++ [y]) ++ (X3 ++ (M ++ ((X1 ++ [x]) ++ (Y3 ++ PR))))) = (PL ++ Y1) ++ y :: ((X3 ++ (M ++ X1)) ++ x :: (Y3 ++ PR)) := by simp
  rw [e1] at h
  rw [e2]
  have hXl : X.length = X1.length + (X3.length + 1) := by rw [eX]; simp
  exact h.exch (by rw [List.length_append]; omega) (by simp only [List.length_append]; omega)
set_option maxRecDepth 100000 in
set_option maxHeartbeats 4000000 in
theorem swap_range (base g n cap k a b : Nat) (PL X M Y PR : List Pr) (f : Value) (w : World) (hX : X.length = k) (hY : Y.length = k) (ha : PL.length = a) (hb : a + k + M.length = b) (hn9 : n ≤ 1000000)
    (h : Row w base g n cap (PL ++ (X ++ (M ++ (Y ++ PR))))) :
    Calls Tryd.prog 68 #[.slice (some ⟨g, 0, none⟩) n cap, .int .i64 a, .int .i64 b, .int .i64 k, f] w fun e w' => e = .returned (.tuple #[]) ∧ Row w' base g n cap (PL ++ (Y ++ (M ++ (X ++ PR)))) ∧ w.grownBy w' (some g) := by
  have hlen := h.len
  simp only [List.length_append] at hlen
  have H := Lib.hid h; have HX := Lib.hid hX; have HY := Lib.hid hY; have HA := Lib.hid ha; have HBB := Lib.hid hb
  have hk9 : k ≤ 1000000 := by omega
  have ha9 : a + k ≤ n := by omega
  have hb9 : b + k ≤ n := by omega
  clear h hX hY ha hb hlen
  go_enter Tryd.func68, Tryd.ntmps68
  go_wp2
  go_loopw [10] (fun i wr => ∃ (j : Nat) (X1 X2 Y1 Y2 : List Pr), j ≤ k ∧ X = X1 ++ X2 ∧ Y = Y1 ++ Y2 ∧ X1.length = j ∧ Y1.length = j ∧ i = .int .i64 j ∧ w.grownBy wr (some g) ∧ Row wr base g n cap (PL ++ (Y1 ++ (X2 ++ (M ++ (X1 ++ (Y2 ++ PR))))))) (fun i _ => k - (intOf i).toNat)
  case atStart => exact ⟨0, [], X, [], Y, Nat.zero_le _, by simp, by simp, rfl, rfl, rfl, only_refl _ _, by simp only [List.nil_append]; exact H.out⟩
  case round =>
    obtain ⟨j, X1, X2, Y1, Y2, hjk, eX, eY, l1, l2, rfl, hg, hrow⟩ := hrel
    have HG := Lib.hid hg; have HR := Lib.hid hrow
    clear hg hrow
    by_cases hlt : j < k
    · obtain ⟨x, X3, rfl⟩ := cons_of eX HX.out l1 hlt
      obtain ⟨y, Y3, rfl⟩ := cons_of eY HY.out l2 hlt
      obtain ⟨p, hp⟩ : ∃ p, a + j = p := ⟨_, rfl⟩
      obtain ⟨q, hq⟩ : ∃ q, b + j = q := ⟨_, rfl⟩
      have E := swap_step HR.out eX HX.out l1 l2 HA.out HBB.out hp hq
      have hpn := Int.ofNat_lt.2 E.pn
      have hqn := Int.ofNat_lt.2 E.qn
      have hpI : (a : Int) + (j : Int) = (p : Int) := by omega
      have hqI : (b : Int) + (j : Int) = (q : Int) := by omega
      have hpn' : ¬ q * 2 = p * 2 := by have := E.ne; omega
      have hp9 : p ≤ 1000000 := by omega
      have hq9 : q ≤ 1000000 := by omega
      have hj9 : j ≤ 1000000 := by omega
      have hpw := wrap_nat p hp9
      have hjw := wrap_succ j hj9
      have hqw := wrap_nat q hq9
      clear hp9 hq9 hj9
      have p0 := E.p0; have p1 := E.p1; have q0 := E.q0; have q1 := E.q1; have p2 := E.p2; have p3 := E.p3; have q2 := E.q2; have q3 := E.q3
      have HE := Lib.hid E; have HEX := Lib.hid eX; have HEY := Lib.hid eY; have HL1 := Lib.hid l1; have HL2 := Lib.hid l2
      have HN := Lib.hid hn9; have HKN := Lib.hid hk9
      clear E eX eY l1 l2 hp hq hn9 hk9
      go_wp2_with fail
      go_big_region
      go_wp2
      go_roundw
      case measure => rw [hjw]; exact meas hlt _ _
      case rel =>
        refine ⟨j + 1, X1 ++ [x], X3, Y1 ++ [y], Y3, hlt, by rw [HEX.out, List.append_assoc]; rfl, by rw [HEY.out, List.append_assoc]; rfl, by rw [List.length_append, HL1.out]; rfl, by rw [List.length_append, HL2.out]; rfl, by go_num, ?_, HE.out.pq⟩
        exact only_drew (only_set (only_set (only_set (only_set HG.out _ _) _ _) _ _) _ _)
    · obtain rfl : j = k := by omega
      obtain rfl : X2 = [] := List.eq_nil_of_length_eq_zero (by have := HX.out; rw [eX, List.length_append] at this; omega)
      obtain rfl : Y2 = [] := List.eq_nil_of_length_eq_zero (by have := HY.out; rw [eY, List.length_append] at this; omega)
      rw [List.append_nil] at eX eY
      have HF := Lib.hid (show Row wr base g n cap (PL ++ (Y ++ (M ++ (X ++ PR)))) by have := HR.out; rw [eX, eY]; simpa using this)
      clear hn9 hk9
      go_wp2
      go_end0
      exact ⟨rfl, HF.out, HG.out⟩
end Go.Proofs.YtdlignhlliellaaDoor
