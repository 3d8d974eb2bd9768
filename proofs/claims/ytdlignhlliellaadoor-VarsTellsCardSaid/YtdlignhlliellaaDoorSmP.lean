/- The order of names; two sorted rows merged in place, plainly (no program is named here). -/
import Derived.Test.YtdlignhlliellaaDoorVp
namespace Go.Proofs.YtdlignhlliellaaDoor
set_option linter.unusedVariables false
set_option linter.unusedSimpArgs false
open Go.RowKit Go.Lib

theorem cmp_cons (x y : UInt8) (a b : List UInt8) : compareBytes (x :: a) (y :: b) = if x.toNat < y.toNat then -1 else if y.toNat < x.toNat then 1 else compareBytes a b := rfl
theorem cmp_self : ∀ a : List UInt8, compareBytes a a = 0
  | [] => rfl
  | x :: a => by rw [cmp_cons, if_neg (by omega), if_neg (by omega)]; exact cmp_self a
theorem cmp_neg : ∀ a b : List UInt8, compareBytes b a = - compareBytes a b
  | [], [] => rfl
  | [], _ :: _ => rfl
  | _ :: _, [] => rfl
  | x :: a, y :: b => by
    rw [cmp_cons, cmp_cons]
    by_cases h1 : x.toNat < y.toNat
    · have h3 : ¬ y.toNat < x.toNat := by omega
      simp only [h1, h3, if_true, if_false]; rfl
    · by_cases h2 : y.toNat < x.toNat
      · simp only [h1, h2, if_true, if_false]
      · simp only [h1, h2, if_false]; exact cmp_neg a b
theorem cmp_trans : ∀ a b c : List UInt8, compareBytes a b ≤ 0 → compareBytes b c ≤ 0 → compareBytes a c ≤ 0
  | [], _, [], _, _ => by show (0 : Int) ≤ 0; decide
  | [], _, _ :: _, _, _ => by show (-1 : Int) ≤ 0; decide
  | _ :: _, [], _, h, _ => absurd (show (1 : Int) ≤ 0 from h) (by decide)
  | _ :: _, _ :: _, [], _, h => absurd (show (1 : Int) ≤ 0 from h) (by decide)
  | x :: a, y :: b, z :: c, h1, h2 => by
    rw [cmp_cons] at h1 h2 ⊢
    by_cases p1 : x.toNat < y.toNat
    · by_cases p2 : z.toNat < y.toNat
      · rw [if_neg (by omega), if_pos p2] at h2; omega
      · rw [if_pos (by omega)]; decide
    · rw [if_neg p1] at h1
      by_cases p3 : y.toNat < x.toNat
      · rw [if_pos p3] at h1; omega
      · rw [if_neg p3] at h1
        by_cases p4 : y.toNat < z.toNat
        · rw [if_pos (by omega)]; decide
        · rw [if_neg p4] at h2
          by_cases p5 : z.toNat < y.toNat
          · rw [if_pos p5] at h2; omega
          · rw [if_neg p5] at h2
            rw [if_neg (by omega), if_neg (by omega)]
            exact cmp_trans a b c h1 h2
theorem cmp_lt_of_le_lt {a b c : List UInt8} (h1 : compareBytes a b ≤ 0) (h2 : compareBytes b c < 0) : compareBytes a c < 0 := by
  apply Decidable.byContradiction
  intro h
  have h3 : compareBytes c a ≤ 0 := by rw [cmp_neg a c]; omega
  have h4 := cmp_trans c a b h3 h1
  rw [cmp_neg b c] at h4
  omega
def leP (x y : Pr) : Prop := cmpP x y ≤ 0
theorem leP_not {x y : Pr} (h : ¬ cmpP y x < 0) : leP x y := by
  have : cmpP x y = - cmpP y x := cmp_neg _ _
  unfold leP; omega
theorem leP_lt {x y : Pr} (h : cmpP x y < 0) : leP x y := by unfold leP; omega
theorem leP_trans {x y z : Pr} (h1 : leP x y) (h2 : leP y z) : leP x z := cmp_trans _ _ _ h1 h2
theorem leP_self (x : Pr) : leP x x := by unfold leP cmpP; rw [cmp_self]; decide
theorem lt_of_le_lt {x y z : Pr} (h1 : leP x y) (h2 : cmpP y z < 0) : cmpP x z < 0 := cmp_lt_of_le_lt h1 h2
abbrev Srt (l : List Pr) : Prop := l.Pairwise leP
theorem srt_le {l : List Pr} (h : Srt l) {i j : Nat} (hi : i < l.length) (hj : j < l.length) (hij : i ≤ j) : leP l[i] l[j] := by
  rcases Nat.lt_or_eq_of_le hij with h1 | rfl
  · exact List.pairwise_iff_getElem.1 h i j hi hj h1
  · exact leP_self _
theorem take_at {l : List Pr} {n : Nat} {x : Pr} (h : x ∈ l.take n) : ∃ i, ∃ hi : i < l.length, i < n ∧ l[i] = x := by
  obtain ⟨i, hi, e⟩ := List.getElem_of_mem h
  rw [List.length_take] at hi
  rw [List.getElem_take] at e
  exact ⟨i, by omega, by omega, e⟩
theorem drop_at {l : List Pr} {n : Nat} {x : Pr} (h : x ∈ l.drop n) : ∃ i, ∃ hi : i < l.length, n ≤ i ∧ l[i] = x := by
  obtain ⟨i, hi, e⟩ := List.getElem_of_mem h
  rw [List.length_drop] at hi
  rw [List.getElem_drop] at e
  exact ⟨n + i, by omega, by omega, e⟩
/-- one row's pair among the other's -/
theorem srt_ins {x : Pr} {V : List Pr} (hV : Srt V) {k : Nat} (hlo : ∀ t (h : t < V.length), t < k → leP V[t] x) (hhi : ∀ t (h : t < V.length), k ≤ t → leP x V[t]) : Srt (V.take k ++ x :: V.drop k) := by
  refine List.pairwise_append.2 ⟨hV.sublist (List.take_sublist _ _), List.pairwise_cons.2 ⟨fun y hy => ?_, hV.sublist (List.drop_sublist _ _)⟩, fun y hy z hz => ?_⟩
  · obtain ⟨i, hi, h1, rfl⟩ := drop_at hy
    exact hhi i hi h1
  · obtain ⟨i, hi, h1, rfl⟩ := take_at hy
    rcases List.mem_cons.1 hz with rfl | hz
    · exact hlo i hi h1
    · obtain ⟨j, hj, h2, rfl⟩ := drop_at hz
      exact srt_le hV hi hj (by omega)
/-- the symmetric search's end: what goes ahead is at most what goes behind -/
theorem sym_cross {U V : List Pr} (hU : Srt U) (hV : Srt V) {half s : Nat} (hs1 : s ≤ half)
    (hlow : s = 0 ∨ half - s = V.length ∨ ∃ (h1 : s - 1 < U.length) (h2 : half - s < V.length), leP U[s - 1] V[half - s])
    (hhigh : s = U.length ∨ half = s ∨ ∃ (h1 : s < U.length) (h2 : half - 1 - s < V.length), leP V[half - 1 - s] U[s]) :
    ∀ x ∈ U.take s ++ V.take (half - s), ∀ y ∈ U.drop s ++ V.drop (half - s), leP x y := by
  intro x hx y hy
  rcases List.mem_append.1 hx with hx | hx <;> rcases List.mem_append.1 hy with hy | hy
  · obtain ⟨i, hi, h1, rfl⟩ := take_at hx
    obtain ⟨j, hj, h2, rfl⟩ := drop_at hy
    exact srt_le hU hi hj (by omega)
  · obtain ⟨i, hi, h1, rfl⟩ := take_at hx
    obtain ⟨j, hj, h2, rfl⟩ := drop_at hy
    rcases hlow with h | h | ⟨q1, q2, h⟩
    · omega
    · omega
    · exact leP_trans (srt_le hU hi q1 (by omega)) (leP_trans h (srt_le hV q2 hj (by omega)))
  · obtain ⟨i, hi, h1, rfl⟩ := take_at hx
    obtain ⟨j, hj, h2, rfl⟩ := drop_at hy
    rcases hhigh with h | h | ⟨q1, q2, h⟩
    · omega
    · omega
    · exact leP_trans (srt_le hV hi q2 (by omega)) (leP_trans h (srt_le hU q1 hj (by omega)))
  · obtain ⟨i, hi, h1, rfl⟩ := take_at hx
    obtain ⟨j, hj, h2, rfl⟩ := drop_at hy
    exact srt_le hV hi hj (by omega)
theorem srt_join {A B W1 W2 : List Pr} (h1 : W1.Perm A) (h2 : W2.Perm B) (s1 : Srt W1) (s2 : Srt W2) (hc : ∀ x ∈ A, ∀ y ∈ B, leP x y) : Srt (W1 ++ W2) :=
  List.pairwise_append.2 ⟨s1, s2, fun x hx y hy => hc x (h1.mem_iff.1 hx) y (h2.mem_iff.1 hy)⟩
theorem perm_four {U1 U2 V1 V2 W1 W2 : List Pr} (h1 : W1.Perm (U1 ++ V1)) (h2 : W2.Perm (U2 ++ V2)) : (W1 ++ W2).Perm ((U1 ++ U2) ++ (V1 ++ V2)) := by
  refine (h1.append h2).trans ?_
  have e : ((U1 ++ V1) ++ (U2 ++ V2)).Perm ((U1 ++ U2) ++ (V1 ++ V2)) := by
    rw [List.append_assoc, List.append_assoc]
    refine List.Perm.append_left U1 ?_
    rw [← List.append_assoc, ← List.append_assoc]
    exact List.Perm.append_right V2 List.perm_append_comm
  exact e
/-! ### blocks -/
/-- blocks of k, each sorted; the last may be shorter -/
inductive Bl (k : Nat) : List Pr → Prop
  | last (l : List Pr) (h : l.length ≤ k) (s : Srt l) : Bl k l
  | cons (U R : List Pr) (hU : U.length = k) (s : Srt U) (hR : Bl k R) : Bl k (U ++ R)
/-- full blocks of k, each sorted -/
inductive FB (k : Nat) : List Pr → Prop
  | nil : FB k []
  | snoc (S W : List Pr) (hS : FB k S) (hW : W.length = k) (s : Srt W) : FB k (S ++ W)
theorem FB.bl {k : Nat} {S : List Pr} (h : FB k S) : ∀ {R : List Pr}, Bl k R → Bl k (S ++ R) := by
  induction h with
  | nil => intro R hR; exact hR
  | snoc S W hS hW s ih => intro R hR; rw [List.append_assoc]; exact ih (.cons W R hW s hR)
theorem Bl.whole {k : Nat} {l : List Pr} (h : Bl k l) (hk : l.length ≤ k) : Srt l := by
  cases h with
  | last _ _ s => exact s
  | cons U R hU s hR =>
    rw [List.length_append] at hk
    have : R = [] := List.eq_nil_of_length_eq_zero (by omega)
    subst this
    rw [List.append_nil]; exact s
theorem Bl.two {k : Nat} {l : List Pr} (h : Bl k l) (hk : k + k ≤ l.length) (h0 : 0 < k) : ∃ U V R, l = U ++ (V ++ R) ∧ U.length = k ∧ V.length = k ∧ Srt U ∧ Srt V ∧ Bl k R := by
  cases h with
  | last _ h' _ => omega
  | cons U R hU s hR =>
    rw [List.length_append] at hk
    cases hR with
    | last _ h' s' => exact ⟨U, R, [], by simp, hU, by omega, s, s', .last [] (by simp) List.Pairwise.nil⟩
    | cons V R hV s' hR => exact ⟨U, V, R, rfl, hU, hV, s, s', hR⟩
theorem Bl.more {k : Nat} {l : List Pr} (h : Bl k l) (hk : k < l.length) (hk2 : l.length < k + k) : ∃ U V, l = U ++ V ∧ U.length = k ∧ 0 < V.length ∧ Srt U ∧ Srt V := by
  cases h with
  | last _ h' _ => omega
  | cons U R hU s hR =>
    rw [List.length_append] at hk hk2
    exact ⟨U, R, rfl, hU, by omega, s, hR.whole (by omega)⟩
end Go.Proofs.YtdlignhlliellaaDoor
