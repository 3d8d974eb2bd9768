/- slices.rotateCmpFunc at pairs: two rows beside one another change places. -/
import Derived.Test.YtdlignhlliellaaDoorVS2
namespace Go.Proofs.YtdlignhlliellaaDoor
set_option linter.unusedVariables false
set_option linter.unusedSimpArgs false
open Go.RowKit

theorem split_at_len {α : Type} (l : List α) (k : Nat) (h : k ≤ l.length) : ∃ a b, l = a ++ b ∧ a.length = k ∧ b.length = l.length - k :=
  ⟨l.take k, l.drop k, (List.take_append_drop k l).symm, by rw [List.length_take]; omega, by rw [List.length_drop]⟩
set_option maxRecDepth 100000 in
set_option maxHeartbeats 4000000 in
theorem rotate (base g n cap a m b : Nat) (PL X Y PR : List Pr) (f : Value) (w : World) (ha : PL.length = a) (hm : a + X.length = m) (hb : m + Y.length = b) (hX0 : 0 < X.length) (hY0 : 0 < Y.length) (hn9 : n ≤ 1000000)
    (h : Row w base g n cap (PL ++ (X ++ (Y ++ PR)))) :
    Calls Tryd.prog 58 #[.slice (some ⟨g, 0, none⟩) n cap, .int .i64 a, .int .i64 m, .int .i64 b, f] w fun e w' => e = .returned (.tuple #[]) ∧ Row w' base g n cap (PL ++ (Y ++ (X ++ PR))) ∧ w.grownBy w' (some g) := by
  have hlen := h.len
  simp only [List.length_append] at hlen
  have H := Lib.hid h
  obtain ⟨T, hT⟩ : ∃ T, PL ++ (Y ++ (X ++ PR)) = T := ⟨_, rfl⟩
  rw [hT]
  have HT := Lib.hid hT
  have hi0 : (m : Int) - (a : Int) = (X.length : Int) := by omega
  have hj0 : (b : Int) - (m : Int) = (Y.length : Int) := by omega
  have hm9 : m ≤ n := by omega
  have HMN := Lib.hid (show m + Y.length ≤ n by omega)
  have HAM := Lib.hid (show PL.length + X.length = m by omega)
  clear h hT ha hb hm
  go_enter Tryd.func58, Tryd.ntmps58
  go_wp2
  go_loopw [10, 11] (fun i j wr => ∃ (PL' A B PR' : List Pr) (x y : Nat), PL'.length + x = m ∧ A.length = x ∧ B.length = y ∧ i = .int .i64 x ∧ j = .int .i64 y ∧ 0 < x ∧ 0 < y ∧ m + y ≤ n ∧ PL' ++ (B ++ (A ++ PR')) = T ∧ w.grownBy wr (some g) ∧ Row wr base g n cap (PL' ++ (A ++ (B ++ PR')))) (fun i j _ => (intOf i).toNat + (intOf j).toNat)
  case atStart => exact ⟨PL, X, Y, PR, X.length, Y.length, HAM.out, rfl, rfl, rfl, rfl, hX0, hY0, HMN.out, HT.out, only_refl _ _, H.out⟩
  case round =>
    obtain ⟨PL', A, B, PR', x, y, h1, h2, h3, rfl, rfl, hx, hy, hmy, hT, hg, hrow⟩ := hrel
    have hrow' := hrow
    have HG := Lib.hid hg; have HR := Lib.hid hrow; have H1 := Lib.hid h1; have H2 := Lib.hid h2; have H3 := Lib.hid h3; have HTT := Lib.hid hT
    clear hg hrow h2 h3 hT
    have hxm : x ≤ m := by omega
    obtain ⟨s, hs⟩ : ∃ s, m - x = s := ⟨_, rfl⟩
    have hsI : (m : Int) - (x : Int) = (s : Int) := by omega
    have hn9' : m ≤ 1000000 := by omega
    have HMW := Lib.hid (wrap_nat m hn9')
    have HSW := Lib.hid (wrap_nat s (by omega))
    clear hrow'
    have HN := Lib.hid hn9
    clear hn9'
    by_cases hxy : x = y
    · subst hxy
      have hne : ((x : Int) != (x : Int)) = false := by simp
      have hc := swap_range base g n cap x s m PL' A [] B PR' f wr H2.out H3.out (by have := H1.out; omega) (by simp; have := H1.out; omega) hn9 (by simpa using HR.out)
      have HC := Lib.hid hc; clear hc hn9 hlen
      have hmw := HMW.out; have hsw := HSW.out
      go_wp2_with fail
      refine HC.out.mono ?_
      rintro e w1 ⟨rfl, hr1, hg1⟩
      clear hmw hsw
      have HR1 := Lib.hid hr1; have HG1 := Lib.hid (only_trans HG.out hg1)
      clear hr1 hg1
      go_wp2
      go_end0
      exact ⟨rfl, by have := HR1.out; rw [← HTT.out]; simpa using this, HG1.out⟩
    · have hne : ((x : Int) != (y : Int)) = true := by
        have : ¬ (x : Int) = (y : Int) := by omega
        simp [this]
      by_cases hgt : y < x
      · have hgtI : (y : Int) < (x : Int) := by omega
        obtain ⟨A1, A2, eA, l1, l2⟩ := split_at_len A y (by have := H2.out; omega)
        have hc := swap_range base g n cap y s m PL' A1 A2 B PR' f wr l1 H3.out (by have := H1.out; omega) (by have := H1.out; have := H2.out; omega) hn9 (by have := HR.out; rw [eA] at this; simpa [List.append_assoc] using this)
        have HC := Lib.hid hc; have HL1 := Lib.hid l1; have HL2 := Lib.hid l2; have HEA := Lib.hid eA
        have hz : (x : Int) - (y : Int) = ((x - y : Nat) : Int) := by omega
        have HZW := Lib.hid (wrap_nat (x - y) (by omega))
        clear hc eA l1 l2 hn9 hlen
        have hmw := HMW.out; have hsw := HSW.out
        go_wp2_with fail
        refine HC.out.mono ?_
        rintro e w1 ⟨rfl, hr1, hg1⟩
        clear hmw hsw
        have HR1 := Lib.hid hr1; have HG1 := Lib.hid (only_trans HG.out hg1)
        clear hr1 hg1
        go_wp2
        go_roundw
        case measure => rw [HZW.out]; show (((x - y : Nat) : Int)).toNat + ((y : Int)).toNat < ((x : Int)).toNat + ((y : Int)).toNat; omega
        case rel =>
          refine ⟨PL' ++ B, A2, A1, PR', x - y, y, by rw [List.length_append, H3.out]; have := H1.out; omega, by rw [HL2.out, H2.out], HL1.out, by rw [HZW.out], rfl, by omega, hy, hmy, ?_, HG1.out, by have := HR1.out; simpa [List.append_assoc] using this⟩
          rw [← HTT.out, HEA.out]; simp [List.append_assoc]
      · have hlt : x < y := by omega
        have hgtI : ¬ (y : Int) < (x : Int) := by omega
        obtain ⟨B1, B2, eB, l1, l2⟩ := split_at_len B (y - x) (by have := H3.out; omega)
        obtain ⟨q, hq⟩ : ∃ q, m + (y - x) = q := ⟨_, rfl⟩
        have hqI : (m : Int) + (y : Int) - (x : Int) = (q : Int) := by omega
        have HMYW := Lib.hid (show wrap64 ((m : Int) + (y : Int)) = (m : Int) + (y : Int) from IntWalk.wrap64_in _ (by omega))
        have HQW := Lib.hid (wrap_nat q (by omega))
        have hc := swap_range base g n cap x s q PL' A B1 B2 PR' f wr H2.out (by have := H3.out; omega) (by have := H1.out; omega) (by have := H1.out; omega) hn9 (by have := HR.out; rw [eB] at this; simpa [List.append_assoc] using this)
        have HC := Lib.hid hc; have HL1 := Lib.hid l1; have HL2 := Lib.hid l2; have HEB := Lib.hid eB
        have hz : (y : Int) - (x : Int) = ((y - x : Nat) : Int) := by omega
        have HZW := Lib.hid (wrap_nat (y - x) (by omega))
        clear hc eB l1 l2 hn9 hlen
        have hmw := HMW.out; have hsw := HSW.out; have hmyw := HMYW.out; have hqw := HQW.out
        go_wp2_with fail
        refine HC.out.mono ?_
        rintro e w1 ⟨rfl, hr1, hg1⟩
        clear hmw hsw hmyw hqw
        have HR1 := Lib.hid hr1; have HG1 := Lib.hid (only_trans HG.out hg1)
        clear hr1 hg1
        go_wp2
        go_roundw
        case measure => rw [HZW.out]; show ((x : Int)).toNat + (((y - x : Nat) : Int)).toNat < ((x : Int)).toNat + ((y : Int)).toNat; omega
        case rel =>
          refine ⟨PL', B2, B1, A ++ PR', x, y - x, H1.out, by rw [HL2.out, H3.out]; omega, HL1.out, rfl, by rw [HZW.out], hx, by omega, by omega, ?_, HG1.out, by have := HR1.out; simpa [List.append_assoc] using this⟩
          rw [← HTT.out, HEB.out]; simp [List.append_assoc]
end Go.Proofs.YtdlignhlliellaaDoor
