/- A row of pairs that rises by names, and what is put into it, plainly. -/
import Derived.Test.YtdlignhlliellaaDoorBase
import Derived.Test.YtdlignhlliellaaDoorProg
import Derived.Test.YtdlignhlliellaaDoorVa
import Derived.IntWalk
import Derived.Deep.AppendLies
import Derived.Deep.RegionLaw
namespace Go.Proofs.YtdlignhlliellaaDoor
set_option linter.unusedVariables false
set_option linter.unusedSimpArgs false
open Go.RowKit

def gtB (a b : ByteArray) : Bool := !(Op.bytesLess a.toList b.toList || a.toList == b.toList)
def putL : List Pr → ByteArray → ByteArray → List Pr
  | [], n, v => [(n, v)]
  | p :: l, n, v => if eqB p.1 n then p :: l else if gtB p.1 n then (n, v) :: p :: l else p :: putL l n v
theorem putL_drop {l : List Pr} {n v : ByteArray} {k : Nat} (h : k < l.length) : putL (l.drop k) n v = if eqB l[k].1 n then l.drop k else if gtB l[k].1 n then (n, v) :: l.drop k else l[k] :: putL (l.drop (k + 1)) n v := by
  rw [List.drop_eq_getElem_cons h]; rfl
theorem putL_step {l : List Pr} {n v : ByteArray} {k : Nat} (h : k < l.length) (hi : putL l n v = l.take k ++ putL (l.drop k) n v) (h1 : eqB l[k].1 n = false) (h2 : gtB l[k].1 n = false) : putL l n v = l.take (k + 1) ++ putL (l.drop (k + 1)) n v := by
  rw [hi, putL_drop h, h1, h2, if_neg (by decide), if_neg (by decide), List.take_succ_eq_append_getElem h, List.append_assoc]; rfl
theorem Pairs.from_ {w : World} {b off k : Nat} {l : List Pr} (h : Pairs w (some ⟨b, off, none⟩) l) (hk : k < l.length) : Pairs w (some ⟨b, off + k * 2, none⟩) (l.drop k) := fun _ => by
  obtain ⟨b', off', e, hb, hc⟩ := h (by omega)
  injection e with e
  injection e with e1 e2
  subst e1 e2
  refine ⟨b, off + k * 2, rfl, hb, fun j hj => ?_⟩
  have hj' : k + j < l.length := by rw [List.length_drop] at hj; omega
  obtain ⟨h1, h2⟩ := hc (k + j) hj'
  rw [List.getElem_drop]
  rw [show off + k * 2 + j * 2 = off + (k + j) * 2 by omega]
  exact ⟨h1, h2⟩
theorem Pairs.upto {w : World} {A : Option Addr} {k : Nat} {l : List Pr} (h : Pairs w A l) (hk : k < l.length) : Pairs w A (l.take k) := fun _ => by
  obtain ⟨b', off', e, hb, hc⟩ := h (by omega)
  refine ⟨b', off', e, hb, fun j hj => ?_⟩
  have hj' : j < k := by rw [List.length_take] at hj; omega
  rw [List.getElem_take]
  exact hc j (by omega)
theorem pair_news {w : World} {g : Nat} {a b : Value} (h0 : w.cell? ⟨g, 0, none⟩ = some a) (h1 : w.cell? ⟨g, 1, none⟩ = some b) : ∀ j u, [a, b][j]? = some u → w.cell? ((⟨g, 0, none⟩ : Addr).add j) = some u := by
  intro j u h
  rw [add0]
  match j, h with
  | 0, h => simp at h; rw [h0, h]
  | 1, h => simp at h; rw [h1, h]
theorem own_pairs {w : World} {base e g n c : Nat} {l : List Pr} (h : w.ownsRow base e 2 (.slice (some ⟨g, 0, none⟩) n c) n (pcells l)) : Pairs w (some ⟨g, 0, none⟩) l := by
  obtain ⟨A, c', e1, _, hP⟩ := Pairs.own h
  injection e1 with e2 e3 e4
  rw [e2]; exact hP
theorem pcells_app (a b : List Pr) : pcells (a ++ b) = pcells a ++ pcells b := by simp [pcells]
theorem Pairs.news {w : World} {b off : Nat} {l : List Pr} (h : Pairs w (some ⟨b, off, none⟩) l) : ∀ j u, (pcells l)[j]? = some u → w.cell? ((⟨b, off, none⟩ : Addr).add j) = some u := by
  intro j u hj
  have hl : j < l.length * 2 := by
    have := (List.getElem?_eq_some_iff.1 hj).1
    rw [pcells_len] at this; exact this
  obtain ⟨b', off', e, hlt, hc⟩ := h (by omega)
  injection e with e; injection e with e1 e2
  subst e1 e2
  have hk : j / 2 < l.length := by omega
  obtain ⟨h1, h2⟩ := pcells_at l (j / 2) hk
  obtain ⟨c1, c2⟩ := hc (j / 2) hk
  rw [show (⟨b, off, none⟩ : Addr).add j = ⟨b, off + j, none⟩ from by simp [Addr.add]]
  rcases Nat.mod_two_eq_zero_or_one j with hm | hm
  · have ej : j / 2 * 2 = j := by omega
    rw [ej] at h1 c1
    rw [hj] at h1; rw [c1, h1]
  · have ej : j / 2 * 2 + 1 = j := by omega
    rw [ej] at h2
    rw [Nat.add_assoc, ej] at c2
    rw [hj] at h2; rw [c2, h2]
theorem pcells_mid (a b : List Pr) (n v : ByteArray) : pcells (a ++ (n, v) :: b) = pcells a ++ [.string n, .string v] ++ pcells b := by simp [pcells]
theorem own_cap {w : World} {base e g n c size : Nat} {xs : List Value} (h : w.ownsRow base e size (.slice (some ⟨g, 0, none⟩) n c) n xs) : n ≤ c := by
  rcases h.2 with ⟨h1, _⟩ | ⟨g', cap', cur, hv, _, _, hnc, _⟩
  · simp at h1
  · injection hv with _ _ e3
    rw [e3]; exact hnc
end Go.Proofs.YtdlignhlliellaaDoor
