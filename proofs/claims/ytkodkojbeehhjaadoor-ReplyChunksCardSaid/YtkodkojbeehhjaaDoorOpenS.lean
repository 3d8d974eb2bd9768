/- A slice of strings that came in: it reads as a list of strings. -/
import Derived.Test.YtkodkojbeehhjaaDoorOpen
import Derived.Test.YtkodkojbeehhjaaDoorStrs
import Derived.Deep.Strs
namespace Go.Proofs.YtkodkojbeehhjaaDoor
open Go.ChangeShapes Go.WideShapes Go.ChangeAt Go.RowKit Go.Joins Go.Deep
section
variable {H : Type} {enc : TypeId × Value → H} {W : World} {base : Nat} {spare : Nat → Bool} {held : Bool}
theorem openS {n : Nat} {v : Value} {y : DataW H × List MemPlace} (h : DataW.trod enc Tryd.prog W base spare held n 36 [v] = some y)
    (hs : ∀ k ∈ y.1.weights Tryd.prog 36, k ≤ 140737488351232) :
    ∃ (A : Option Addr) (c : Nat) (l : List ByteArray), v = .slice A l.length c ∧ Strs W A l ∧ l.length ≤ 8796093022080 ∧ ∀ s ∈ l, s.size ≤ 140737488351232 := by
  rcases Go.Deep.open_strs Tryd.underlying36 Tryd.underlying9 (by kernel_rfl) h with ⟨hcs, _⟩ | ⟨a, len, cap, m, Sx, hcs, _, hlc, hcm, hm, hy, hi⟩
  · simp at hcs; subst hcs
    exact ⟨none, 0, [], rfl, Strs.nil _ _, by simp, by simp⟩
  · simp at hcs; subst hcs
    have hlm : len ≤ m := by rw [hm]; split <;> omega
    have hby : Program.bytesOf Tryd.prog 9 = 16 := by kernel_rfl
    have hlen : len * 16 ≤ 140737488351232 := by
      have hw : (len + (m - len)) * 16 ∈ y.1.weights Tryd.prog 36 := by
        rw [hy]
        simp only [DataW.weights, Tryd.underlying36, List.length_map, List.length_range, hby]
        exact List.mem_cons_self
      have := hs _ hw
      omega
    have hel : ∀ i, i < len → (Sx i).size ≤ 140737488351232 := by
      intro i hil
      have hDw : ∀ k ∈ (DataW.lit (H := H) (.string (Sx i).data.toList)).weights Tryd.prog 9, k ≤ 140737488351232 := by
        intro k hk
        refine hs k ?_
        rw [hy]
        simp only [DataW.weights, Tryd.underlying36]
        refine List.mem_cons_of_mem _ (List.mem_append_left _ (weights_elem (List.mem_map.2 ⟨i, List.mem_range.2 hil, rfl⟩) k hk))
      exact hDw _ (by simp [DataW.weights])
    refine ⟨some a, cap, (List.range len).map Sx, by simp, fun h0 => ?_, by simp; omega, fun s hs => ?_⟩
    · simp at h0
      obtain ⟨b, off, spot⟩ := a
      have hc := (hi 0 (by omega)).1
      have hspot : spot = none := by simpa [Addr.add] using World.cell?_spot hc
      subst hspot
      have hadd : ∀ j, (⟨b, off, none⟩ : Addr).add j = ⟨b, off + j, none⟩ := by intro j; unfold Addr.add; split <;> simp_all
      refine ⟨b, off, rfl, World.block_lt_of_cell? W _ (by rw [hadd] at hc; exact hc), fun k hk => ?_⟩
      simp at hk
      have h1 := (hi k (by omega)).1
      rw [hadd] at h1
      simpa using h1
    · simp at hs
      obtain ⟨i, hil, rfl⟩ := hs
      exact hel i hil
end
end Go.Proofs.YtkodkojbeehhjaaDoor
