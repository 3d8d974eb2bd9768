/- (*vars.rows).fields: what its walk wants. -/
import Derived.Test.YtdlignhlliellaaDoorVw
namespace Go.Proofs.YtdlignhlliellaaDoor
set_option linter.unusedVariables false
set_option linter.unusedSimpArgs false
open Go.RowKit Go.Maps

theorem wf_i64 (m : Nat) (h : m ≤ 1000000) : (Lit.int .i64 (m : Int)).wf = true := by
  simp only [Lit.wf, Bool.and_eq_true, decide_eq_true_eq]
  constructor
  · show (-9223372036854775808 : Int) ≤ _; omega
  · show _ ≤ (9223372036854775807 : Int); omega
theorem addF_len (own : List Pr) (n v : ByteArray) : (addF own n v).length ≤ own.length + 1 := by
  unfold addF
  split
  · rw [List.length_modify]; omega
  · simp
theorem stepF_len (own : List Pr) (f : Pr) : (stepF own f).length ≤ own.length + 1 := by
  unfold stepF
  split
  · omega
  · exact addF_len _ _ _
theorem fieldsL_len (l : List Pr) : ∀ k, (fieldsL (l.take k)).length ≤ k := by
  intro k
  induction k with
  | zero => exact Nat.le_refl _
  | succ k ih =>
    by_cases h : k < l.length
    · rw [List.take_succ_eq_append_getElem h, fieldsL_snoc]
      exact Nat.le_trans (stepF_len _ _) (Nat.succ_le_succ ih)
    · have e1 : l.take (k + 1) = l.take k := by rw [List.take_of_length_le (by omega), List.take_of_length_le (by omega)]
      rw [e1]; omega
theorem pcells_set (l : List Pr) (j : Nat) (p : Pr) (hj : j < l.length) (he : l[j].1 = p.1) : (pcells l).set (j * 2 + 1) (.string p.2) = pcells (l.set j p) := by
  induction l generalizing j with
  | nil => simp at hj
  | cons x l ih =>
    cases j with
    | zero =>
      have e1 : x.1 = p.1 := he
      simp [pcells, e1]
    | succ j =>
      have e2 : (j + 1) * 2 + 1 = j * 2 + 1 + 1 + 1 := by omega
      have := ih j (by simpa using hj) (by simpa using he)
      simp only [pcells, List.flatMap_cons, List.cons_append, List.nil_append] at this ⊢
      rw [e2, List.set_cons_succ, List.set_cons_succ, this, List.set_cons_succ, List.flatMap_cons]
      rfl
theorem RowsAt.fr {base g : Nat} {w w' : World} {f : Value} {l : List Pr} (h : RowsAt base g w f l) (hb : Below w.heap.size w w') : RowsAt base g w' f l := ⟨h.blk.fr hb, own_fr h.own hb⟩
theorem Pairs.two {w w' : World} {g : Nat} {r : Option Nat} {A : Option Addr} {l : List Pr} (h : Pairs w A l) (hT : Two g r w w') (hA : ∀ x : Addr, A = some x → x.block ≠ g ∧ r ≠ some x.block) : Pairs w' A l := fun h0 => by
  obtain ⟨b, off, rfl, hlt, hc⟩ := h h0
  obtain ⟨h1, h2⟩ := hA _ rfl
  have hk := hT.block b hlt h1 h2
  refine ⟨b, off, rfl, Nat.lt_of_lt_of_le hlt hT.size, fun k hk' => ?_⟩
  obtain ⟨c1, c2⟩ := hc k hk'
  exact ⟨(World.cell?_of_block (a := ⟨b, _, none⟩) hk).trans c1, (World.cell?_of_block (a := ⟨b, _, none⟩) hk).trans c2⟩
theorem foldl_add_len (l L0 : List Pr) : (l.foldl (fun a p => addL a p.1 p.2) L0).length ≤ L0.length + l.length := by
  induction l generalizing L0 with
  | nil => exact Nat.le_refl _
  | cons p l ih =>
    rw [List.foldl_cons]
    refine Nat.le_trans (ih _) ?_
    have : (addL L0 p.1 p.2).length ≤ L0.length + 1 := by unfold addL; split <;> simp
    rw [List.length_cons]; omega

end Go.Proofs.YtdlignhlliellaaDoor
