/- (*vars.rows).fields: the first loop's steps. UNDER WAY: the walk is not whole. -/
import Derived.Test.YtdlignhlliellaaDoorVm
import Derived.Laws.OwnMore
namespace Go.Proofs.YtdlignhlliellaaDoor
set_option linter.unusedVariables false
set_option linter.unusedSimpArgs false
open Go.RowKit Go.Maps

theorem lawS : Keyed Tryd.prog 9 := string_keyed Tryd.underlying9
theorem zeroE (w : World) : (zeroValue 3).run Tryd.prog w = .ok (.int .i64 0) w := by kernel_rfl
theorem idx_of {own : List Pr} {n : ByteArray} {j : Nat} (hj : j < own.length) (he : own[j].1 = n) (hd : (own.map (·.1)).Nodup) : own.findIdx? (fun p => eqB p.1 n) = some j := by
  rw [List.findIdx?_eq_some_iff_getElem]
  refine ⟨hj, by rw [he]; exact eqB_refl n, fun i hi hc => ?_⟩
  have e1 : own[i].1 = n := eqB_iff.1 hc
  have h1 : (own.map (·.1))[i]'(by simpa using (Nat.lt_trans hi hj)) = (own.map (·.1))[j]'(by simpa using hj) := by simp [e1, he]
  have := (List.getElem_inj hd).1 h1
  omega
theorem addF_yes {own : List Pr} {n v : ByteArray} {j : Nat} (hj : j < own.length) (he : own[j].1 = n) (hd : (own.map (·.1)).Nodup) : addF own n v = own.set j (n, own[j].2 ++ (sepB n ++ v)) := by
  unfold addF
  rw [idx_of hj he hd]
  simp only []
  apply List.ext_getElem
  · simp
  · intro i h1 h2
    rw [List.getElem_modify, List.getElem_set]
    by_cases e : j = i
    · subst e; rw [if_pos rfl, if_pos rfl, he]
    · rw [if_neg e, if_neg e]
theorem addF_no {own : List Pr} {n v : ByteArray} (h : hasN own n = false) : addF own n v = own ++ [(n, v)] := by
  unfold addF
  have : own.findIdx? (fun p => eqB p.1 n) = none := by
    rw [List.findIdx?_eq_none_iff]
    intro p hp
    unfold hasN at h
    rw [List.any_eq_false] at h
    cases hq : eqB p.1 n
    · rfl
    · exact absurd hq (h p hp)
  rw [this]
theorem has_at {own : List Pr} {n : ByteArray} (h : hasN own n = true) : ∃ j, ∃ hj : j < own.length, own[j].1 = n := by
  unfold hasN at h
  obtain ⟨p, hp, hq⟩ := List.any_eq_true.1 h
  obtain ⟨j, hj, e⟩ := List.getElem_of_mem hp
  exact ⟨j, hj, by rw [e]; exact eqB_iff.1 hq⟩
theorem isKept_at (s : ByteArray) (b : Bool) (w : World) (h : isKept s = b) (hs : s.size ≤ 9223372036854775807) :
    Calls Tryd.prog 39 #[.string s] w fun e w' => e = .returned (.bool b) ∧ Below w.heap.size w w' := h ▸ vars_isKept s w hs
theorem vars_Name_at (s n : ByteArray) (w : World) (h : nmB s = n) (hs : s.size ≤ 9000000000000000000) :
    Calls Tryd.prog 9 #[.string s] w fun e w' => e = .returned (.string n) ∧ Below w.heap.size w w' := h ▸ vars_Name s w hs
theorem addF_size {own : List Pr} {n v : ByteArray} {M N : Nat} (h : ∀ p ∈ own, p.1.size ≤ N ∧ p.2.size ≤ M) (hn : n.size ≤ N) (hv : v.size ≤ M) : ∀ p ∈ addF own n v, p.1.size ≤ N ∧ p.2.size ≤ M + 2 + v.size := by
  unfold addF
  intro p hp
  split at hp
  · rename_i i hi
    obtain ⟨k, hk, hke⟩ := List.getElem_of_mem hp
    rw [List.getElem_modify] at hke
    have hk' : k < own.length := by simpa using hk
    have h1 := h own[k] (List.getElem_mem hk')
    by_cases e : i = k
    · rw [if_pos e] at hke
      rw [← hke]
      refine ⟨h1.1, ?_⟩
      simp only [size_app]
      have h2 : (sepB n).size = 2 := by unfold sepB; split <;> rfl
      rw [h2]; omega
    · rw [if_neg e] at hke
      rw [← hke]
      exact ⟨h1.1, by omega⟩
  · rcases List.mem_append.1 hp with h1 | h1
    · have := h p h1; exact ⟨this.1, by omega⟩
    · rw [List.mem_singleton.1 h1]; exact ⟨hn, by show v.size ≤ _; omega⟩
end Go.Proofs.YtdlignhlliellaaDoor
