/- What the fields of one name say together; the fields put one behind the other, plainly. -/
import Derived.Test.YtdlignhlliellaaDoorWPl
import Derived.Test.YtdlignhlliellaaDoorVm
namespace Go.Proofs.YtdlignhlliellaaDoor
set_option linter.unusedVariables false
set_option linter.unusedSimpArgs false
open Go.RowKit

/-- one field more, under a name -/
def jnP (N : ByteArray) (a : Option ByteArray) (f : Pr) : Option ByteArray := if isKept f.1 || !(eqB (nmB f.1) N) then a else some (match a with | none => f.2 | some u => u ++ (sepB N ++ f.2))
theorem jnP_no {N : ByteArray} {a : Option ByteArray} {f : Pr} (h : (isKept f.1 || !(eqB (nmB f.1) N)) = true) : jnP N a f = a := by unfold jnP; rw [if_pos h]
theorem jnP_first {N : ByteArray} {f : Pr} (h : (isKept f.1 || !(eqB (nmB f.1) N)) = false) : jnP N none f = some f.2 := by unfold jnP; rw [h, if_neg (by decide)]
theorem jnP_more {N u : ByteArray} {f : Pr} (h : (isKept f.1 || !(eqB (nmB f.1) N)) = false) : jnP N (some u) f = some (u ++ (sepB N ++ f.2)) := by unfold jnP; rw [h, if_neg (by decide)]
/-- what the fields of one name say together -/
def jnS (l : List Pr) (N : ByteArray) (a : Option ByteArray) : Option ByteArray := l.foldl (jnP N) a
theorem jnS_snoc (l : List Pr) (f : Pr) (N : ByteArray) (a : Option ByteArray) : jnS (l ++ [f]) N a = jnP N (jnS l N a) f := by
  unfold jnS; rw [List.foldl_append]; rfl
def jnV (o : Option ByteArray) : ByteArray := o.getD ⟨#[]⟩
/-- the fields put one behind the other -/
def refF (all : List Pr) (fl l : List Pr) : List Pr := fl.foldl (fun a f => if isKept f.1 then a else putL a (nmB f.1) (jnV (jnS all (nmB f.1) none))) l
theorem refF_snoc (all l : List Pr) (f : Pr) (L0 : List Pr) : refF all (l ++ [f]) L0 = if isKept f.1 then refF all l L0 else putL (refF all l L0) (nmB f.1) (jnV (jnS all (nmB f.1) none)) := by
  unfold refF; rw [List.foldl_append]; rfl
theorem putL_len (l : List Pr) (n v : ByteArray) : (putL l n v).length ≤ l.length + 1 := by
  induction l with
  | nil => exact Nat.le_refl _
  | cons p l ih =>
    unfold putL
    split
    · simp
    · split
      · simp
      · simp only [List.length_cons]; omega
theorem jnS_size (N : ByteArray) (Z : Nat) : ∀ (l : List Pr) (a : Option ByteArray) (M : Nat), (∀ p ∈ l, p.2.size ≤ Z) → (jnV a).size ≤ M → (jnV (jnS l N a)).size ≤ M + l.length * (Z + 2)
  | [], a, M, _, h => by simpa [jnS] using h
  | f :: l, a, M, hs, h => by
    have hf := hs f (by simp)
    have ih := fun a' M' => jnS_size N Z l a' M' (fun p hp => hs p (by simp [hp]))
    have hsep : (sepB N).size = 2 := by unfold sepB; split <;> rfl
    have hM : (jnV (jnP N a f)).size ≤ M + (Z + 2) := by
      cases hb : (isKept f.1 || !(eqB (nmB f.1) N))
      · cases a with
        | none => rw [jnP_first hb]; show f.2.size ≤ _; omega
        | some u =>
          have hu : u.size ≤ M := h
          rw [jnP_more hb]
          show (u ++ (sepB N ++ f.2)).size ≤ _
          rw [size_app, size_app, hsep]; omega
      · rw [jnP_no hb]; omega
    have := ih _ _ hM
    show (jnV (jnS l N (jnP N a f))).size ≤ _
    rw [List.length_cons, Nat.add_mul]; omega
theorem refF_len (all fl l : List Pr) : (refF all fl l).length ≤ l.length + fl.length := by
  induction fl using list_snoc_ind with
  | h0 => exact Nat.le_refl _
  | h1 fl a ih =>
    rw [refF_snoc, List.length_append]
    split
    · simp; omega
    · have := putL_len (refF all fl l) (nmB a.1) (jnV (jnS all (nmB a.1) none))
      simp; omega
end Go.Proofs.YtdlignhlliellaaDoor
