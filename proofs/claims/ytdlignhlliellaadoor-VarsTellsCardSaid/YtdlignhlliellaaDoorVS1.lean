/- A row of pairs of the call's own: two of its places exchanged. -/
import Derived.Test.YtdlignhlliellaaDoorBase
import Derived.Laws.OwnMore
namespace Go.Proofs.YtdlignhlliellaaDoor
set_option linter.unusedVariables false
set_option linter.unusedSimpArgs false
open Go.RowKit

theorem pcells_get (l : List Pr) (j : Nat) : (pcells l)[j]? = (l[j / 2]?).map fun p => if j % 2 = 0 then .string p.1 else .string p.2 := by
  by_cases h : j / 2 < l.length
  · rw [List.getElem?_eq_getElem h]
    obtain ⟨h1, h2⟩ := pcells_at l (j / 2) h
    rcases Nat.mod_two_eq_zero_or_one j with hm | hm
    · rw [show j / 2 * 2 = j by omega] at h1; rw [h1, Option.map_some, if_pos hm]
    · rw [show j / 2 * 2 + 1 = j by omega] at h2; rw [h2, Option.map_some, if_neg (by omega)]
  · rw [List.getElem?_eq_none (l := l) (by omega), List.getElem?_eq_none (l := pcells l) (by rw [pcells_len]; omega)]; rfl
theorem pcells_put (l : List Pr) (k : Nat) (p : Pr) : ((pcells l).set (k * 2) (.string p.1)).set (k * 2 + 1) (.string p.2) = pcells (l.set k p) := by
  apply List.ext_getElem?
  intro j
  rw [pcells_get, List.getElem?_set, List.getElem?_set, pcells_get, List.getElem?_set]
  simp only [List.length_set, pcells_len]
  by_cases he : k = j / 2
  · subst he
    by_cases hk : j / 2 < l.length
    · rcases Nat.mod_two_eq_zero_or_one j with hm | hm
      · have a1 : ¬ (j / 2 * 2 + 1 = j) := by omega
        have a2 : j / 2 * 2 = j := by omega
        have a3 : j < l.length * 2 := by omega
        have a5 : ¬ (j + 1 = j) := by omega
        simp only [a1, a2, a3, a5, hk, hm, if_true, if_false, Option.map_some]
      · have a1 : j / 2 * 2 + 1 = j := by omega
        have a3 : j < l.length * 2 := by omega
        have a4 : ¬ ((1 : Nat) = 0) := by decide
        simp only [a1, a3, hk, hm, a4, if_true, if_false, Option.map_some]
    · have a1 : ¬ (j / 2 * 2 + 1 < l.length * 2) := by omega
      have a2 : ¬ (j / 2 * 2 < l.length * 2) := by omega
      have a3 : l[j / 2]? = none := List.getElem?_eq_none (by omega)
      simp only [a1, a2, a3, hk, if_true, if_false, Option.map_none, ite_self]
  · have a1 : ¬ (k * 2 + 1 = j) := by omega
    have a2 : ¬ (k * 2 = j) := by omega
    simp only [a1, a2, he, if_false]
/-- a row of pairs at a block of its own, from its first cell on -/
def Row (w : World) (base g n cap : Nat) (l : List Pr) : Prop := w.ownsRow base 37 2 (.slice (some ⟨g, 0, none⟩) n cap) n (pcells l)
section
variable {w w' : World} {base g n cap : Nat} {l : List Pr}
theorem Row.len (h : Row w base g n cap l) : l.length = n := by have := h.1; rw [pcells_len] at this; omega
theorem Row.fr (h : Row w base g n cap l) (hb : Below w.heap.size w w') : Row w' base g n cap l := own_fr h hb
theorem Row.drewN (h : Row w base g n cap l) (m : Nat) : Row (w.drewN m) base g n cap l := h
theorem Row.at_ (h : Row w base g n cap l) {k : Nat} (hk : k < l.length) : w.cell? ⟨g, k * 2, none⟩ = some (.string l[k].1) ∧ w.cell? ⟨g, k * 2 + 1, none⟩ = some (.string l[k].2) ∧ w.frozen? ⟨g, k * 2, none⟩ = false ∧ w.frozen? ⟨g, k * 2 + 1, none⟩ = false := by
  obtain ⟨h1, h2⟩ := pcells_at l k hk
  have c1 := h.cells (g := g) rfl _ _ h1
  have c2 := h.cells (g := g) rfl _ _ h2
  rw [add0] at c1 c2
  rcases h.2 with ⟨e, _⟩ | ⟨g', cap', cur, hv, hb, hg, _⟩
  · simp at e
  · injection hv with e1 e2 e3
    injection e1 with e1
    injection e1 with e1
    subst e1
    exact ⟨c1, c2, by simp [World.frozen?, hg], by simp [World.frozen?, hg]⟩
theorem Row.lt (h : Row w base g n cap l) : g < w.heap.size := by
  rcases h.2 with ⟨e, _⟩ | ⟨g', cap', cur, hv, hb, hg, _⟩
  · simp at e
  · injection hv with e1 e2 e3
    injection e1 with e1
    injection e1 with e1
    subst e1
    exact (Array.getElem?_eq_some_iff.1 hg).1
theorem Row.put (h : Row w base g n cap l) (k : Nat) (p : Pr) : Row ((w.setCell ⟨g, k * 2, none⟩ (.string p.1)).setCell ⟨g, k * 2 + 1, none⟩ (.string p.2)) base g n cap (l.set k p) := by
  have h1 := (h.stored (k * 2) (.string p.1)).1
  have h2 := (World.ownsRow.stored h1 (k * 2 + 1) (.string p.2)).1
  unfold Row
  rw [← pcells_put]
  exact h2
theorem Row.swap (h : Row w base g n cap l) (x y : Nat) (p q : Pr) :
    Row ((((w.setCell ⟨g, x * 2, none⟩ (.string q.1)).setCell ⟨g, x * 2 + 1, none⟩ (.string q.2)).setCell ⟨g, y * 2, none⟩ (.string p.1)).setCell ⟨g, y * 2 + 1, none⟩ (.string p.2)) base g n cap ((l.set x q).set y p) := (h.put x q).put y p
end
theorem get_mid {α : Type} (A : List α) (x : α) (B : List α) (k : Nat) (hk : A.length = k) : ∃ h : k < (A ++ x :: B).length, (A ++ x :: B)[k] = x := by
  subst hk; exact ⟨by simp, by simp⟩
theorem swap_mid {α : Type} (A B C : List α) (x y : α) (p q : Nat) (hp : A.length = p) (hq : A.length + 1 + B.length = q) : ((A ++ x :: (B ++ y :: C)).set p y).set q x = A ++ y :: (B ++ x :: C) := by
  subst hp hq
  rw [List.set_append_right _ _ (Nat.le_refl _), Nat.sub_self, List.set_cons_zero, List.set_append_right _ _ (by omega)]
  rw [show A.length + 1 + B.length - A.length = B.length + 1 by omega, List.set_cons_succ, List.set_append_right _ _ (Nat.le_refl _), Nat.sub_self, List.set_cons_zero]
/-- two places of a row, ready to be exchanged -/
structure Exch (w : World) (base g n cap p q : Nat) (x y : Pr) (L : List Pr) : Prop where
  ne : p < q
  pn : p < n
  qn : q < n
  p0 : w.cell? ⟨g, p * 2, none⟩ = some (.string x.1)
  p1 : w.cell? ⟨g, p * 2 + 1, none⟩ = some (.string x.2)
  q0 : w.cell? ⟨g, q * 2, none⟩ = some (.string y.1)
  q1 : w.cell? ⟨g, q * 2 + 1, none⟩ = some (.string y.2)
  p2 : w.frozen? ⟨g, p * 2, none⟩ = false
  p3 : w.frozen? ⟨g, p * 2 + 1, none⟩ = false
  q2 : w.frozen? ⟨g, q * 2, none⟩ = false
  q3 : w.frozen? ⟨g, q * 2 + 1, none⟩ = false
  pq : Row ((((w.setCell ⟨g, p * 2, none⟩ (.string y.1)).setCell ⟨g, p * 2 + 1, none⟩ (.string y.2)).setCell ⟨g, q * 2, none⟩ (.string x.1)).setCell ⟨g, q * 2 + 1, none⟩ (.string x.2)) base g n cap L
  qp : Row ((((w.setCell ⟨g, q * 2, none⟩ (.string x.1)).setCell ⟨g, q * 2 + 1, none⟩ (.string x.2)).setCell ⟨g, p * 2, none⟩ (.string y.1)).setCell ⟨g, p * 2 + 1, none⟩ (.string y.2)) base g n cap L
theorem Row.exch {w : World} {base g n cap p q : Nat} {A B C : List Pr} {x y : Pr} (h : Row w base g n cap (A ++ x :: (B ++ y :: C))) (hp : A.length = p) (hq : p + 1 + B.length = q) : Exch w base g n cap p q x y (A ++ y :: (B ++ x :: C)) := by
  have hl := h.len
  simp only [List.length_append, List.length_cons] at hl
  have hp1 : p < (A ++ x :: (B ++ y :: C)).length := by simp; omega
  have hq1 : q < (A ++ x :: (B ++ y :: C)).length := by simp; omega
  have ep : (A ++ x :: (B ++ y :: C))[p] = x := by subst hp; simp
  have eq : (A ++ x :: (B ++ y :: C))[q] = y := by
    obtain ⟨h1, e⟩ := get_mid (A ++ x :: B) y C q (by simp; omega)
    exact (List.getElem_of_eq (by simp) hq1).trans e
  obtain ⟨a0, a1, a2, a3⟩ := h.at_ hp1
  obtain ⟨b0, b1, b2, b3⟩ := h.at_ hq1
  rw [ep] at a0 a1
  rw [eq] at b0 b1
  have e := swap_mid A B C x y p q hp (by omega)
  have e2 : ((A ++ x :: (B ++ y :: C)).set q x).set p y = A ++ y :: (B ++ x :: C) := by rw [List.set_comm _ _ (by omega)]; exact e
  have r1 := h.swap p q x y
  have r2 := h.swap q p y x
  rw [e] at r1
  rw [e2] at r2
  exact ⟨by omega, by omega, by omega, a0, a1, b0, b1, a2, a3, b2, b3, r1, r2⟩
end Go.Proofs.YtdlignhlliellaaDoor
