/- conduitlaw6.FieldBack, FieldCases: plainly. -/
import Derived.Test.YtdagppbpeibdgaaDoorFld2
import Derived.Test.YtdagppbpeibdgaaDoorFPl
namespace Go.Proofs.YtdagppbpeibdgaaDoor
set_option linter.unusedVariables false
set_option linter.unusedSimpArgs false
open Go.RowKit

def blL : List UInt8 := [32, 9]
theorem dropW_pre {p : UInt8 → Bool} : ∀ {a x : List UInt8}, a.all p = true → (a ++ x).dropWhile p = x.dropWhile p
  | [], x, _ => rfl
  | c :: a, x, h => by
    rw [List.all_cons, Bool.and_eq_true] at h
    rw [List.cons_append, List.dropWhile_cons, h.1]
    exact dropW_pre h.2
theorem trimS_pad {cs a b : List UInt8} (v : List UInt8) (ha : a.all (cs.contains ·) = true) (hb : b.all (cs.contains ·) = true) : Lib.trimS (a ++ (v ++ b)) cs = Lib.trimS v cs := by
  rw [← trimS_left]
  have h1 : Lib.trimLeftS (a ++ (v ++ b)) cs = Lib.trimLeftS (v ++ b) cs := dropW_pre ha
  rw [h1, trimS_left]
  have h2 : Lib.trimRightS (v ++ b) cs = Lib.trimRightS v cs := by
    unfold Lib.trimRightS
    rw [List.reverse_append, dropW_pre (by rw [List.all_reverse]; exact hb)]
  unfold Lib.trimS
  rw [h2]
theorem fieldOk_parts {n v : ByteArray} (h : fieldOk n v = true) : nameE n = 0 ∧ valE v = 0 ∧ octTrim v = v ∧ allB isTokB n = true := by
  unfold fieldOk at h
  rw [Bool.and_eq_true, Bool.and_eq_true, beq_iff_eq, beq_iff_eq] at h
  refine ⟨h.1.1, h.1.2, eqB_iff.1 h.2, ?_⟩
  have h1 := h.1.1
  unfold nameE at h1
  cases ha : allB isTokB n
  · rw [ha, if_pos rfl] at h1; cases h1
  · rfl
theorem tok_58 {n : ByteArray} (h : allB isTokB n = true) : (58 : UInt8) ∉ L n := by
  intro hc
  unfold allB at h
  rw [Bool.and_eq_true] at h
  have := List.all_eq_true.1 h.1 58 hc
  revert this
  decide
theorem parse_back {n v : ByteArray} {a b : List UInt8} (hok : fieldOk n v = true) (ha : a.all (blL.contains ·) = true) (hb : b.all (blL.contains ·) = true) (line : ByteArray) (hl : L line = L n ++ 58 :: (a ++ (L v ++ b))) :
    parseS line = (0, n, v) := by
  obtain ⟨h1, h2, h3, h4⟩ := fieldOk_parts hok
  have hc := cutS_yes (tok_58 h4) hl
  have ht : octTrim (mk (a ++ (L v ++ b))) = v := by
    have e : octTrim (mk (a ++ (L v ++ b))) = mk (Lib.trimS (L (mk (a ++ (L v ++ b)))) blL) := rfl
    rw [e, L_mk, trimS_pad (L v) ha hb]
    exact h3
  unfold parseS
  rw [hc]
  simp only []
  rw [ht, mk_L, h1, h2]
  simp
theorem get_drop (l : List Pr) (n : ByteArray) : getS (dropL l n) n = [] := by
  unfold getS dropL
  rw [List.filter_filter]
  have : (l.filter fun a => eqB (lowB a.1) (lowB n) && keep n a) = [] := by
    rw [List.filter_eq_nil_iff]
    intro a _ h
    unfold keep at h
    cases hq : eqB (lowB a.1) (lowB n) <;> rw [hq] at h <;> cases h
  rw [this]; rfl
theorem drop_len (n : ByteArray) : ∀ l : List Pr, (dropL l n).length + (getS l n).length = l.length
  | [] => rfl
  | p :: l => by
    have ih := drop_len n l
    unfold dropL getS keep at *
    rw [List.length_map] at ih ⊢
    rw [List.filter_cons, List.filter_cons]
    cases hq : eqB (lowB p.1) (lowB n)
    · simp only [Bool.not_false, if_true, Bool.false_eq_true, if_false, List.length_cons]; omega
    · simp only [Bool.not_true, if_true, Bool.false_eq_true, if_false, List.length_cons]; omega
theorem drop_snoc_same (l : List Pr) (n v : ByteArray) : dropL (l ++ [(n, v)]) n = dropL l n := dropL_no l n (n, v) (eqB_refl _)
/-! ### letters of either case -/
def ctL : List UInt8 := [99, 111, 110, 116, 101, 110, 116, 45, 116, 121, 112, 101]
def ctC (u : Nat → Bool) (k i : Nat) : UInt8 := if i < k ∧ u i = true ∧ ctL.getD i 0 ≠ 45 then ctL.getD i 0 - 32 else ctL.getD i 0
def ctN (u : Nat → Bool) (k : Nat) : List UInt8 := (List.range 12).map (ctC u k)
theorem ctN_len (u : Nat → Bool) (k : Nat) : (ctN u k).length = 12 := by simp [ctN]
theorem ctN_0 (u : Nat → Bool) : ctN u 0 = ctL := by
  unfold ctN ctC
  simp only [Nat.not_lt_zero, false_and, if_false]
  rfl
theorem ctN_at (u : Nat → Bool) (k i : Nat) (h : i < 12) : (ctN u k)[i]'(by rw [ctN_len]; exact h) = ctC u k i := by simp [ctN]
theorem ctC_here (u : Nat → Bool) (k : Nat) : ctC u k k = ctL.getD k 0 := by unfold ctC; rw [if_neg (by omega)]
theorem ctN_yes (u : Nat → Bool) (k : Nat) (hk : k < 12) (hu : u k = true) (hc : ctL.getD k 0 ≠ 45) : ctN u (k + 1) = (ctN u k).set k (ctL.getD k 0 - 32) := by
  apply List.ext_getElem
  · simp [ctN_len]
  · intro i h1 h2
    have hi : i < 12 := by rw [ctN_len] at h1; exact h1
    rw [ctN_at u (k + 1) i hi, List.getElem_set]
    by_cases e : k = i
    · subst e
      rw [if_pos rfl]
      unfold ctC; rw [if_pos ⟨by omega, hu, hc⟩]
    · rw [if_neg e, ctN_at u k i hi]
      unfold ctC
      have : (i < k + 1) = (i < k) := by rw [eq_iff_iff]; omega
      simp only [this]
theorem ctN_no (u : Nat → Bool) (k : Nat) (hn : ¬ (u k = true ∧ ctL.getD k 0 ≠ 45)) : ctN u (k + 1) = ctN u k := by
  unfold ctN
  congr 1
  funext i
  unfold ctC
  by_cases e : i = k
  · subst e
    rw [if_neg (fun h => hn h.2), if_neg (fun h => hn h.2)]
  · have : (i < k + 1) = (i < k) := by rw [eq_iff_iff]; omega
    simp only [this]
theorem ct_low (u : Nat → Bool) (k : Nat) : lowL (ctN u k) = ctL := by
  unfold lowL ctN
  rw [List.map_map]
  have h : ∀ i ∈ List.range 12, (low ∘ ctC u k) i = ctL.getD i 0 := by
    intro i hi
    have hi := List.mem_range.1 hi
    show low (ctC u k i) = _
    unfold ctC
    have h1 : ∀ j : Nat, j < 12 → low (ctL.getD j 0) = ctL.getD j 0 := by decide
    have h2 : ∀ j : Nat, j < 12 → ctL.getD j 0 ≠ 45 → low (ctL.getD j 0 - 32) = ctL.getD j 0 := by decide
    split
    · rename_i h; exact h2 i hi h.2.2
    · exact h1 i hi
  rw [List.map_congr_left h]
  rfl
end Go.Proofs.YtdagppbpeibdgaaDoor
