/- Blanks taken off both ends, in either order; plainly. -/
import Derived.Test.YthjnmcciejfpcaaGreatDoorMA
import Derived.Lib.SlTrimSet
namespace Go.Proofs.YthjnmcciejfpcaaGreatDoor
set_option linter.unusedVariables false
set_option linter.unusedSimpArgs false
open Go.RowKit

theorem dropW_nil {p : UInt8 → Bool} : ∀ l : List UInt8, l.dropWhile p = [] ↔ l.all p = true
  | [] => by simp
  | c :: l => by
    rw [List.dropWhile_cons, List.all_cons]
    cases hp : p c
    · simp
    · simp [dropW_nil l]
theorem trimR_cons (p : UInt8 → Bool) (c : UInt8) (r : List UInt8) :
    ((c :: r).reverse.dropWhile p).reverse = if r.all p then (if p c then [] else [c]) else c :: (r.reverse.dropWhile p).reverse := by
  rw [List.reverse_cons, List.dropWhile_append]
  have hall : (r.reverse.dropWhile p).isEmpty = r.all p := by
    rw [Bool.eq_iff_iff, List.isEmpty_iff, dropW_nil, List.all_reverse]
  rw [hall]
  cases h : r.all p
  · rw [if_neg (by decide), if_neg (by decide), List.reverse_append]; rfl
  · rw [if_pos rfl, if_pos rfl]
    cases hc : p c
    · simp [List.dropWhile_cons, hc]
    · simp [List.dropWhile_cons, hc]
theorem trim_comm (p : UInt8 → Bool) : ∀ l : List UInt8, ((l.dropWhile p).reverse.dropWhile p).reverse = ((l.reverse.dropWhile p).reverse).dropWhile p
  | [] => rfl
  | c :: r => by
    cases hc : p c
    · rw [List.dropWhile_cons, hc]
      simp only [Bool.false_eq_true, if_false]
      rw [trimR_cons, hc]
      cases h : r.all p
      · simp only [Bool.false_eq_true, if_false]
        rw [List.dropWhile_cons, hc]; simp
      · simp only [if_true, Bool.false_eq_true, if_false]
        rw [List.dropWhile_cons, hc]; simp
    · rw [List.dropWhile_cons, hc]
      simp only [if_true]
      rw [trim_comm p r, trimR_cons, hc]
      cases h : r.all p
      · simp only [Bool.false_eq_true, if_false]
        rw [List.dropWhile_cons, hc]; simp
      · simp only [if_true]
        have : (r.reverse.dropWhile p).reverse = [] := by
          rw [List.reverse_eq_nil_iff, dropW_nil, List.all_reverse]
          exact h
        rw [this]
theorem trimS_left (l cs : List UInt8) : Lib.trimRightS (Lib.trimLeftS l cs) cs = Lib.trimS l cs := trim_comm (cs.contains ·) l
end Go.Proofs.YthjnmcciejfpcaaGreatDoor
