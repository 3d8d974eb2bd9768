/- conduitlaw13.RouteNames: true. -/
import Derived.Test.YtedombigkebpiaaDoorRKnown
import Derived.Deep.QuietTactic
import Derived.BigQuiet
namespace Go.Proofs.YtedombigkebpiaaDoor
set_option linter.unusedVariables false
set_option linter.unusedSimpArgs false
open Go.RowKit

def ltr (i : Nat) : ByteArray := ⟨#[UInt8.ofNat (97 + i)]⟩
def nS (b : Nat → Bool) : Nat → ByteArray
  | 0 => ⟨#[]⟩
  | k + 1 => if b k then nS b k ++ ⟨#[47, 58]⟩ ++ ltr k else nS b k ++ ⟨#[47]⟩ ++ ltr k
def nP (b : Nat → Bool) : Nat → ByteArray
  | 0 => ⟨#[]⟩
  | k + 1 => if b k then nP b k ++ ⟨#[47, 118]⟩ ++ ltr k else nP b k ++ ⟨#[47]⟩ ++ ltr k
def nW (b : Nat → Bool) : Nat → List ByteArray
  | 0 => []
  | k + 1 => if b k then nW b k ++ [ltr k] else nW b k
def nZ (p : ByteArray) : Nat → ByteArray
  | 0 => p
  | k + 1 => nZ p k ++ ⟨#[47, 122]⟩
theorem nS_size (b : Nat → Bool) : ∀ k, (nS b k).size ≤ k * 3
  | 0 => Nat.le_refl _
  | k + 1 => by
    have := nS_size b k
    unfold nS; split
    · rw [size_app, size_app]; show _ + 2 + 1 ≤ _; omega
    · rw [size_app, size_app]; show _ + 1 + 1 ≤ _; omega
theorem nP_size (b : Nat → Bool) : ∀ k, (nP b k).size ≤ k * 3
  | 0 => Nat.le_refl _
  | k + 1 => by
    have := nP_size b k
    unfold nP; split
    · rw [size_app, size_app]; show _ + 2 + 1 ≤ _; omega
    · rw [size_app, size_app]; show _ + 1 + 1 ≤ _; omega
theorem nZ_size (p : ByteArray) : ∀ k, (nZ p k).size = p.size + k * 2
  | 0 => rfl
  | k + 1 => by
    have := nZ_size p k
    unfold nZ; rw [size_app, this]; show _ + 2 = _; omega
theorem nW_len (b : Nat → Bool) : ∀ k, (nW b k).length ≤ k
  | 0 => Nat.le_refl _
  | k + 1 => by
    have := nW_len b k
    unfold nW; split
    · simp; omega
    · omega
theorem n_congr {b c : Nat → Bool} : ∀ k, (∀ i, i < k → b i = c i) → nS b k = nS c k ∧ nP b k = nP c k ∧ nW b k = nW c k
  | 0, _ => ⟨rfl, rfl, rfl⟩
  | k + 1, h => by
    obtain ⟨h1, h2, h3⟩ := n_congr k (fun i hi => h i (by omega))
    have hk := h k (by omega)
    unfold nS nP nW
    rw [h1, h2, h3, hk]
    exact ⟨rfl, rfl, rfl⟩
def ofL (l : List Bool) (i : Nat) : Bool := l.getD i false
/-! the same, as lists of bytes, for the kernel -/
def eS (b : Nat → Bool) : Nat → List UInt8
  | 0 => []
  | k + 1 => if b k then eS b k ++ [47, 58, UInt8.ofNat (97 + k)] else eS b k ++ [47, UInt8.ofNat (97 + k)]
def eP (b : Nat → Bool) : Nat → List UInt8
  | 0 => []
  | k + 1 => if b k then eP b k ++ [47, 118, UInt8.ofNat (97 + k)] else eP b k ++ [47, UInt8.ofNat (97 + k)]
def eZ (p : List UInt8) : Nat → List UInt8
  | 0 => p
  | k + 1 => eZ p k ++ [47, 122]
theorem eS_eq (b : Nat → Bool) : ∀ k, nS b k = mk (eS b k)
  | 0 => rfl
  | k + 1 => by
    unfold nS eS; rw [eS_eq b k]
    split <;> (apply L_inj; simp only [L_app, L_mk]; simp [ltr, L])
theorem eP_eq (b : Nat → Bool) : ∀ k, nP b k = mk (eP b k)
  | 0 => rfl
  | k + 1 => by
    unfold nP eP; rw [eP_eq b k]
    split <;> (apply L_inj; simp only [L_app, L_mk]; simp [ltr, L])
theorem eZ_eq (p : List UInt8) : ∀ k, nZ (mk p) k = mk (eZ p k)
  | 0 => rfl
  | k + 1 => by
    unfold nZ eZ; rw [eZ_eq p k]
    apply L_inj; simp only [L_app, L_mk]
def prE (a b : Pr) : Bool := eqE a.1 b.1 && eqE a.2 b.2
def prsE : List Pr → List Pr → Bool
  | [], [] => true
  | a :: l, b :: m => prE a b && prsE l m
  | _, _ => false
theorem prsE_eq : ∀ (l m : List Pr), prsE l m = true → l = m
  | [], [], _ => rfl
  | [], _ :: _, h => by simp [prsE] at h
  | _ :: _, [], h => by simp [prsE] at h
  | a :: l, b :: m, h => by
    simp only [prsE, prE, Bool.and_eq_true, ← eqE_eq, eqB_iff] at h
    rw [prsE_eq l m h.2, Prod.ext h.1.1 h.1.2]
def vOf (w : ByteArray) : Pr := (w, ⟨#[118]⟩ ++ w)
def nOk (b : Nat → Bool) (k z : Nat) : Bool :=
  match matchE 2 (mk (eS b k)) (mk (eZ (eP b k) z)) with
  | none => Nat.blt 0 z
  | some (sc, inf, nm) => z == 0 && eqE sc (mk (eP b k)) && prsE nm ((nW b k).map vOf)
def bools : Nat → List (List Bool)
  | 0 => [[]]
  | n + 1 => (bools n).flatMap fun l => [true :: l, false :: l]
theorem bools_mem : ∀ (l : List Bool), l ∈ bools l.length
  | [] => by simp [bools]
  | b :: l => by
    have := bools_mem l
    simp only [List.length_cons, bools, List.mem_flatMap]
    exact ⟨l, this, by cases b <;> simp⟩
theorem nAll : (bools 6).all (fun l => (List.range 6).all fun k => (List.range 3).all fun z => nOk (ofL l) (k + 1) z) = true := by kernel_rfl
theorem nOne (b : Nat → Bool) (k z : Nat) (hk : k < 6) (hz : z < 3) : (matchS 2 (nS b (k + 1)) (nZ (nP b (k + 1)) z) = none ∧ 0 < z) ∨
    (∃ inf, matchS 2 (nS b (k + 1)) (nZ (nP b (k + 1)) z) = some (nP b (k + 1), inf, (nW b (k + 1)).map vOf) ∧ z = 0) := by
  obtain ⟨l, hl⟩ : ∃ l, l = [b 0, b 1, b 2, b 3, b 4, b 5] := ⟨_, rfl⟩
  have hlm : l ∈ bools 6 := by have := bools_mem l; rw [hl] at this ⊢; exact this
  have hbl : ∀ i, i < k + 1 → b i = ofL l i := by
    intro i hi
    have : i = 0 ∨ i = 1 ∨ i = 2 ∨ i = 3 ∨ i = 4 ∨ i = 5 := by omega
    rw [hl]
    rcases this with rfl | rfl | rfl | rfl | rfl | rfl <;> rfl
  obtain ⟨h1, h2, h3⟩ := n_congr (k + 1) hbl
  rw [h1, h2, h3]
  have h := List.all_eq_true.1 (List.all_eq_true.1 (List.all_eq_true.1 nAll l hlm) k (List.mem_range.2 hk)) z (List.mem_range.2 hz)
  unfold nOk at h
  rw [eS_eq, eP_eq, eZ_eq, matchE_eq]
  cases hc : matchE 2 (mk (eS (ofL l) (k + 1))) (mk (eZ (eP (ofL l) (k + 1)) z)) with
  | none => rw [hc] at h; exact .inl ⟨rfl, by simpa [Nat.blt_eq] using h⟩
  | some t =>
    obtain ⟨sc, inf, nm⟩ := t
    rw [hc] at h
    simp only [Bool.and_eq_true, beq_iff_eq, ← eqE_eq, eqB_iff] at h
    obtain ⟨⟨hz0, hsc⟩, hnm⟩ := h
    exact .inr ⟨inf, by rw [hsc, prsE_eq _ _ hnm], hz0⟩
end Go.Proofs.YtedombigkebpiaaDoor
