/- conduitlaw6.FieldBack: plainly. -/
import Derived.Test.YtdagppbpeibdgaaDoorF6
import Derived.Test.YtdagppbpeibdgaaDoorFB
namespace Go.Proofs.YtdagppbpeibdgaaDoor
set_option linter.unusedVariables false
set_option linter.unusedSimpArgs false
open Go.RowKit

def padB (c : UInt8) (k : Nat) : ByteArray := mk (List.replicate k c)
theorem padB_L (c : UInt8) (k : Nat) : L (padB c k) = List.replicate k c := by unfold padB; rw [L_mk]
theorem padB_size (c : UInt8) (k : Nat) : (padB c k).size = k := by rw [← L_len, padB_L, List.length_replicate]
theorem padB_sp (k : Nat) : padB 32 (k + 1) = padB 32 k ++ ⟨#[32]⟩ := by
  apply L_inj; rw [L_app, padB_L, padB_L, List.replicate_succ']
  try rfl
theorem padB_tab (k : Nat) : padB 9 (k + 1) = padB 9 k ++ ⟨#[9]⟩ := by
  apply L_inj; rw [L_app, padB_L, padB_L, List.replicate_succ']
  try rfl
theorem rep_all {c : UInt8} (h : blL.contains c = true) (k : Nat) : (List.replicate k c).all (blL.contains ·) = true := by
  rw [List.all_eq_true]
  intro x hx
  rw [(List.mem_replicate.1 hx).2]; exact h
theorem back_one {n v : ByteArray} (hok : fieldOk n v = true) (k j : Nat) : parseS (n ++ ⟨#[58]⟩ ++ padB 32 k ++ v ++ padB 9 j) = (0, n, v) :=
  parse_back hok (rep_all (c := 32) rfl k) (rep_all (c := 9) rfl j) _ (by
    rw [L_app, L_app, L_app, L_app, padB_L, padB_L]
    simp only [List.append_assoc]; rfl)
def oneLine (n v : ByteArray) : ByteArray := linesB [(n, v)]
theorem oneLine_size (n v : ByteArray) : (oneLine n v).size = n.size + v.size + 4 := by
  unfold oneLine; rw [linesB_size]; simp [tot]
theorem oneLine_L (n v : ByteArray) : L (oneLine n v) = L n ++ 58 :: ([32] ++ (L v ++ [13, 10])) := by
  unfold oneLine linesB
  simp only [List.foldl_cons, List.foldl_nil]
  rw [L_app, L_app, L_app, L_app]
  simp only [List.append_assoc]
  rfl
theorem back_two {n v : ByteArray} (hok : fieldOk n v = true) : parseS ((oneLine n v).extract 0 ((oneLine n v).size - 2)) = (0, n, v) :=
  parse_back (a := [32]) (b := []) hok rfl rfl _ (by
    rw [L_ext, oneLine_L, oneLine_size]
    rw [List.drop_zero]
    have e : L n ++ 58 :: ([32] ++ (L v ++ [13, 10])) = (L n ++ 58 :: ([32] ++ (L v ++ []))) ++ [13, 10] := by simp
    rw [e, List.take_left']
    simp [L_len]; omega)
theorem Pairs.news {w : World} {b off : Nat} {l : List Pr} (h : Pairs w (some ⟨b, off, none⟩) l) : ∀ j u, (pcells l)[j]? = some u → w.cell? ((⟨b, off, none⟩ : Addr).add j) = some u := by
  intro j u hj
  have hl : j < l.length * 2 := by
    have := (List.getElem?_eq_some_iff.1 hj).1
    rw [pcells_len] at this; exact this
  obtain ⟨b', off', e, hlt, hc⟩ := h (by omega)
  injection e with e; injection e with e1 e2
  subst e1 e2
  have hk : j / 2 < l.length := by omega
  obtain ⟨h1, h2⟩ := pcells_at l (j / 2) hk
  obtain ⟨c1, c2⟩ := hc (j / 2) hk
  rw [show (⟨b, off, none⟩ : Addr).add j = ⟨b, off + j, none⟩ from by simp [Addr.add]]
  rcases Nat.mod_two_eq_zero_or_one j with hm | hm
  · have ej : j / 2 * 2 = j := by omega
    rw [ej] at h1 c1
    rw [hj] at h1; rw [c1, h1]
  · have ej : j / 2 * 2 + 1 = j := by omega
    rw [ej] at h2
    rw [Nat.add_assoc, ej] at c2
    rw [hj] at h2; rw [c2, h2]
end Go.Proofs.YtdagppbpeibdgaaDoor
