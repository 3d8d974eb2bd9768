/- Digits of base 16, plainly. No program is named here. -/
import Derived.Test.YtfmnmgiefekjfaaGreatDoorTxt
namespace Go.Proofs.YtfmnmgiefekjfaaGreatDoor
set_option linter.unusedVariables false
set_option linter.unusedSimpArgs false
open Go.RowKit

/-- the value of a digit of base 16; -1: none -/
def nib (c : UInt8) : Int :=
  if 48 ≤ (c.toNat : Int) ∧ (c.toNat : Int) ≤ 57 then (c.toNat : Int) - 48
  else if 97 ≤ (c.toNat : Int) ∧ (c.toNat : Int) ≤ 102 then (c.toNat : Int) - 97 + 10
  else if 65 ≤ (c.toNat : Int) ∧ (c.toNat : Int) ≤ 70 then (c.toNat : Int) - 65 + 10
  else -1
theorem nib_le (c : UInt8) : -1 ≤ nib c ∧ nib c ≤ 15 := by
  unfold nib
  constructor <;> (repeat' split) <;> omega
def isHexB (c : UInt8) : Bool := decide (0 ≤ nib c)
def hexN (l : List UInt8) : Nat := l.foldl (fun a c => a * 16 + (nib c).toNat) 0
theorem hexN_snoc (l : List UInt8) (c : UInt8) : hexN (l ++ [c]) = hexN l * 16 + (nib c).toNat := by simp [hexN]
theorem hexN_lt (l : List UInt8) : hexN l < 16 ^ l.length := by
  refine list_snoc_ind (p := fun l => hexN l < 16 ^ l.length) (by decide) (fun l c ih => ?_) l
  have h := nib_le c
  rw [hexN_snoc, List.length_append, List.length_singleton, Nat.pow_succ]
  omega
theorem nib_cases (c : UInt8) (h : 0 ≤ nib c) : (48 ≤ (c.toNat : Int) ∧ (c.toNat : Int) ≤ 57 ∧ nib c = (c.toNat : Int) - 48) ∨
    ((97 ≤ (c.toNat : Int) ∧ (c.toNat : Int) ≤ 102) ∧ nib c = (c.toNat : Int) - 97 + 10) ∨ ((65 ≤ (c.toNat : Int) ∧ (c.toNat : Int) ≤ 70) ∧ nib c = (c.toNat : Int) - 65 + 10) := by
  unfold nib at h ⊢
  split
  · rename_i h1; exact .inl ⟨h1.1, h1.2, rfl⟩
  · split
    · rename_i h2; exact .inr (.inl ⟨h2, rfl⟩)
    · split
      · rename_i h3; exact .inr (.inr ⟨h3, rfl⟩)
      · rename_i h1 h2 h3; rw [if_neg h1, if_neg h2, if_neg h3] at h; omega
def hexFold : List UInt8 → Nat → Option Nat
  | [], a => some a
  | c :: l, a => if nib c < 0 then none else hexFold l (a * 16 + (nib c).toNat)
end Go.Proofs.YtfmnmgiefekjfaaGreatDoor
