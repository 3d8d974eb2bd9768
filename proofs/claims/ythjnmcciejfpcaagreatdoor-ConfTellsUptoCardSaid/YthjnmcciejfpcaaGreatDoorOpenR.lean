/- What the row's reading gives of rules and their wares, of a bulk of at most Z. -/
import Derived.Test.YthjnmcciejfpcaaGreatDoorOpen
import Derived.Test.YthjnmcciejfpcaaGreatDoorME
import Derived.Test.YthjnmcciejfpcaaGreatDoorRouteS
import Derived.Test.YthjnmcciejfpcaaGreatDoorRows
namespace Go.Proofs.YthjnmcciejfpcaaGreatDoor
set_option linter.unusedVariables false
set_option linter.unusedSimpArgs false
open Go.Joins Go.ChangeShapes Go.WideShapes Go.RowKit Go.Deep

structure RU where
  v : RV
  ws : List WV
def RU.Has (W : World) (u : RU) : Prop := u.ws.length = u.v.wn ∧ Wares W u.v.wA u.ws
def RU.Fit (Z : Nat) (u : RU) : Prop := u.v.host.size ≤ Z ∧ u.v.path.size ≤ Z ∧ u.ws.length ≤ Z ∧ ∀ x ∈ u.ws, x.a.size ≤ Z ∧ x.b.size ≤ Z
theorem RU.Has.fr {w w' : World} {u : RU} (h : u.Has w) (hb : Below w.heap.size w w') : u.Has w' := ⟨h.1, h.2.fr hb⟩
theorem bulk_pos {H : Type} (d : DataW H) : 1 ≤ Rows.uptoBulk d := by
  cases d with
  | lit x => cases x <;> simp [Rows.uptoBulk]
  | _ => simp [Rows.uptoBulk]
theorem bulk_len {H : Type} : ∀ l : List (DataW H), l.length ≤ Rows.uptoBulkAll l
  | [] => by simp [Rows.uptoBulkAll]
  | d :: l => by
    have h1 := bulk_pos d
    have h2 := bulk_len l
    simp only [Rows.uptoBulkAll, List.length_cons]; omega
theorem bulk_mem {H : Type} {d : DataW H} : ∀ {l : List (DataW H)}, d ∈ l → Rows.uptoBulk d ≤ Rows.uptoBulkAll l
  | [], h => by cases h
  | x :: l, h => by
    simp only [Rows.uptoBulkAll]
    rcases List.mem_cons.1 h with rfl | h
    · omega
    · have := bulk_mem h; omega
theorem bulk_str {H : Type} (s : ByteArray) : Rows.uptoBulk (.lit (.string s.data.toList) : DataW H) = s.size + 1 := by
  simp [Rows.uptoBulk]
section
variable {H : Type} {enc : TypeId × Value → H} {W : World} {base : Nat} {spare : Nat → Bool} {held : Bool}
theorem open_wares {n Z : Nat} {v : Value} {y : DataW H × List MemPlace} (h : DataW.trod enc Tryz.prog W base spare held n 36 [v] = some y) (hz : Rows.uptoBulk y.1 ≤ Z) :
    ∃ (A : Option Addr) (c : Nat) (l : List WV), v = .slice A l.length c ∧ Wares W A l ∧ l.length ≤ Z ∧ ∀ r ∈ l, r.a.size ≤ Z ∧ r.b.size ≤ Z := by
  rcases open_slice_fields Tryz.underlying36 Tryz.underlying56 (by kernel_rfl) (by kernel_rfl) h with ⟨hcs, _⟩ | ⟨a, len, cap, m, D, Pl, hcs, _, hlc, hcm, hm, hy, hi⟩
  · simp at hcs; subst hcs
    exact ⟨none, 0, [], rfl, Wares.nil _ _, by simp, by simp⟩
  · simp at hcs; subst hcs
    have hlm : len ≤ m := by rw [hm]; split <;> omega
    rw [hy] at hz
    simp only [Rows.uptoBulk] at hz
    have hlen : len ≤ Z := by
      have := bulk_len ((List.range len).map D)
      rw [List.length_map, List.length_range] at this
      omega
    have hel : ∀ i, i < len → ∃ r : WV, (∀ j v, r.cells[j]? = some v → W.cell? (a.add (i * 4 + j)) = some v) ∧ r.a.size ≤ Z ∧ r.b.size ≤ Z := by
      intro i hil
      obtain ⟨ys, k, hD, _, hyl, hf⟩ := hi i (by omega)
      have hDz : Rows.uptoBulk (D i) ≤ Z := by
        have := bulk_mem (l := (List.range len).map D) (List.mem_map.2 ⟨i, List.mem_range.2 hil, rfl⟩)
        omega
      obtain ⟨v0, y0, hc0, hy0, ht0⟩ := hf 0 _ rfl
      obtain ⟨v1, y1, hc1, hy1, ht1⟩ := hf 1 _ rfl
      obtain ⟨v2, y2, hc2, hy2, ht2⟩ := hf 2 _ rfl
      obtain ⟨v3, y3, hc3, hy3, ht3⟩ := hf 3 _ rfl
      obtain ⟨n0, e0, _, _⟩ := DataW.trod_int Tryz.underlying3 ht0
      obtain ⟨s1, e1, x1, _⟩ := DataW.trod_string Tryz.underlying9 ht1
      obtain ⟨s2, e2, x2, _⟩ := DataW.trod_string Tryz.underlying9 ht2
      obtain ⟨n3, e3, _, _⟩ := DataW.trod_int Tryz.underlying3 ht3
      simp at e0 e1 e2 e3
      subst e0 e1 e2 e3
      rw [hD] at hDz
      simp only [Rows.uptoBulk] at hDz
      have m1 : y1.1 ∈ ys.map (·.1) := List.mem_map.2 ⟨y1, List.mem_of_getElem? hy1, rfl⟩
      have m2 : y2.1 ∈ ys.map (·.1) := List.mem_map.2 ⟨y2, List.mem_of_getElem? hy2, rfl⟩
      have b1 := bulk_mem m1
      have b2 := bulk_mem m2
      rw [x1] at b1; rw [x2] at b2
      change Rows.uptoBulk (.lit (.string s1.data.toList) : DataW H) ≤ _ at b1
      change Rows.uptoBulk (.lit (.string s2.data.toList) : DataW H) ≤ _ at b2
      rw [bulk_str] at b1 b2
      refine ⟨⟨n0, s1, s2, n3⟩, ?_, by show s1.size ≤ Z; omega, by show s2.size ≤ Z; omega⟩
      intro j v hv
      match j, hv with
      | 0, hv => cases hv; exact hc0
      | 1, hv => cases hv; exact hc1
      | 2, hv => cases hv; exact hc2
      | 3, hv => cases hv; exact hc3
    obtain ⟨l, hll, hp⟩ := choose_list len hel
    subst hll
    refine ⟨some a, cap, l, rfl, fun h0 => ?_, by omega, fun p hpm => ?_⟩
    · obtain ⟨b, off, spot⟩ := a
      have hc := (hp 0 h0).1 0 _ rfl
      have hspot : spot = none := by simpa [Addr.add] using World.cell?_spot hc
      subst hspot
      have hadd : ∀ j, (⟨b, off, none⟩ : Addr).add j = ⟨b, off + j, none⟩ := by intro j; unfold Addr.add; split <;> simp_all
      refine ⟨b, off, rfl, World.block_lt_of_cell? W _ (by rw [hadd] at hc; exact hc), fun k hk j v hv => ?_⟩
      have h1 := (hp k hk).1 j v hv
      rw [hadd] at h1
      rw [Nat.add_assoc]; exact h1
    · obtain ⟨k, hk, rfl⟩ := List.getElem_of_mem hpm
      exact (hp k hk).2
theorem open_rules {n Z : Nat} {v : Value} {y : DataW H × List MemPlace} (h : DataW.trod enc Tryz.prog W base spare held n 22 [v] = some y) (hz : Rows.uptoBulk y.1 ≤ Z) :
    ∃ (A : Option Addr) (c : Nat) (l : List RU), v = .slice A l.length c ∧ Rules W A (l.map (·.v)) ∧ (∀ u ∈ l, u.Has W) ∧ l.length ≤ Z ∧ ∀ u ∈ l, u.Fit Z := by
  rcases open_slice_fields Tryz.underlying22 Tryz.underlying38 (by kernel_rfl) (by kernel_rfl) h with ⟨hcs, _⟩ | ⟨a, len, cap, m, D, Pl, hcs, _, hlc, hcm, hm, hy, hi⟩
  · simp at hcs; subst hcs
    exact ⟨none, 0, [], rfl, Rules.nil _ _, by simp, by simp, by simp⟩
  · simp at hcs; subst hcs
    have hlm : len ≤ m := by rw [hm]; split <;> omega
    rw [hy] at hz
    simp only [Rows.uptoBulk] at hz
    have hlen : len ≤ Z := by
      have := bulk_len ((List.range len).map D)
      rw [List.length_map, List.length_range] at this
      omega
    have hel : ∀ i, i < len → ∃ u : RU, (∀ j v, u.v.cells[j]? = some v → W.cell? (a.add (i * 5 + j)) = some v) ∧ u.Has W ∧ u.Fit Z := by
      intro i hil
      obtain ⟨ys, k, hD, _, hyl, hf⟩ := hi i (by omega)
      have hDz : Rows.uptoBulk (D i) ≤ Z := by
        have := bulk_mem (l := (List.range len).map D) (List.mem_map.2 ⟨i, List.mem_range.2 hil, rfl⟩)
        omega
      obtain ⟨v0, y0, hc0, hy0, ht0⟩ := hf 0 _ rfl
      obtain ⟨v1, y1, hc1, hy1, ht1⟩ := hf 1 _ rfl
      obtain ⟨v2, y2, hc2, hy2, ht2⟩ := hf 2 _ rfl
      obtain ⟨v3, y3, hc3, hy3, ht3⟩ := hf 3 _ rfl
      obtain ⟨v4, y4, hc4, hy4, ht4⟩ := hf 4 _ rfl
      obtain ⟨n0, e0, _, _⟩ := DataW.trod_int Tryz.underlying3 ht0
      obtain ⟨s1, e1, x1, _⟩ := DataW.trod_string Tryz.underlying9 ht1
      obtain ⟨s2, e2, x2, _⟩ := DataW.trod_string Tryz.underlying9 ht2
      obtain ⟨n3, e3, _, _⟩ := DataW.trod_int Tryz.underlying3 ht3
      simp at e0 e1 e2 e3
      subst e0 e1 e2 e3
      rw [hD] at hDz
      simp only [Rows.uptoBulk] at hDz
      have m1 : y1.1 ∈ ys.map (·.1) := List.mem_map.2 ⟨y1, List.mem_of_getElem? hy1, rfl⟩
      have m2 : y2.1 ∈ ys.map (·.1) := List.mem_map.2 ⟨y2, List.mem_of_getElem? hy2, rfl⟩
      have m4 : y4.1 ∈ ys.map (·.1) := List.mem_map.2 ⟨y4, List.mem_of_getElem? hy4, rfl⟩
      have b1 := bulk_mem m1
      have b2 := bulk_mem m2
      have b4 := bulk_mem m4
      rw [x1] at b1; rw [x2] at b2
      change Rows.uptoBulk (.lit (.string s1.data.toList) : DataW H) ≤ _ at b1
      change Rows.uptoBulk (.lit (.string s2.data.toList) : DataW H) ≤ _ at b2
      rw [bulk_str] at b1 b2
      obtain ⟨wA, wc, ws, rfl, hws, hwl, hwz⟩ := open_wares (Z := Z) ht4 (by omega)
      refine ⟨⟨⟨n0, s1, s2, n3, wA, ws.length, wc⟩, ws⟩, ?_, ⟨rfl, hws⟩, by show s1.size ≤ Z; omega, by show s2.size ≤ Z; omega, hwl, hwz⟩
      intro j v hv
      match j, hv with
      | 0, hv => cases hv; exact hc0
      | 1, hv => cases hv; exact hc1
      | 2, hv => cases hv; exact hc2
      | 3, hv => cases hv; exact hc3
      | 4, hv => cases hv; exact hc4
    obtain ⟨l, hll, hp⟩ := choose_list len hel
    subst hll
    refine ⟨some a, cap, l, rfl, fun h0 => ?_, fun u hu => ?_, by omega, fun p hpm => ?_⟩
    · rw [List.length_map] at h0
      obtain ⟨b, off, spot⟩ := a
      have hc := (hp 0 h0).1 0 _ rfl
      have hspot : spot = none := by simpa [Addr.add] using World.cell?_spot hc
      subst hspot
      have hadd : ∀ j, (⟨b, off, none⟩ : Addr).add j = ⟨b, off + j, none⟩ := by intro j; unfold Addr.add; split <;> simp_all
      refine ⟨b, off, rfl, World.block_lt_of_cell? W _ (by rw [hadd] at hc; exact hc), fun k hk j v hv => ?_⟩
      rw [List.length_map] at hk
      rw [List.getElem_map] at hv
      have h1 := (hp k hk).1 j v hv
      rw [hadd] at h1
      rw [Nat.add_assoc]; exact h1
    · obtain ⟨k, hk, rfl⟩ := List.getElem_of_mem hu
      exact (hp k hk).2.1
    · obtain ⟨k, hk, rfl⟩ := List.getElem_of_mem hpm
      exact (hp k hk).2.2
end
end Go.Proofs.YthjnmcciejfpcaaGreatDoor
