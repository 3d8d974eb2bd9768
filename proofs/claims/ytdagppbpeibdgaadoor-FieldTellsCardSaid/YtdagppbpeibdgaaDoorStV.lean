/- conduitlaw7: the three laws by hand, plainly: what start.Parse answers at those lines. -/
import Derived.Test.YtdagppbpeibdgaaDoorSt
import Derived.KernelRfl
namespace Go.Proofs.YtdagppbpeibdgaaDoor
set_option linter.unusedVariables false
set_option linter.unusedSimpArgs false
open Go.RowKit

/-! ### a byte in a target -/
def stT (b : Nat) : ByteArray := mk ([71, 69, 84, 32, 47, 97] ++ [UInt8.ofNat b] ++ [32, 72, 84, 84, 80, 47, 49, 46, 49])
def stGood (b : Nat) : Bool := Nat.ble 33 b && Nat.ble b 126 && !(Nat.beq b 35)
def stChk (b : Nat) : Bool :=
  if stGood b then (startS (stT b)).1 == 0 && L (startS (stT b)).2.2.1 == [47, 97] ++ [UInt8.ofNat b] else (startS (stT b)).1 == 10
theorem stAll : (List.range 256).all stChk = true := by kernel_rfl
theorem stOne (b : Nat) (hb : b < 256) : (stGood b = true ∧ (startS (stT b)).1 = 0 ∧ (startS (stT b)).2.2.1 = ⟨#[47, 97]⟩ ++ ⟨#[UInt8.ofNat b]⟩) ∨ (stGood b = false ∧ (startS (stT b)).1 = 10) := by
  have h := List.all_eq_true.1 stAll b (List.mem_range.2 hb)
  unfold stChk at h
  split at h
  · rename_i hg
    rw [Bool.and_eq_true, beq_iff_eq, beq_iff_eq] at h
    exact .inl ⟨hg, h.1, L_inj (h.2.trans (by rw [L_app]))⟩
  · rename_i hg
    rw [beq_iff_eq] at h
    exact .inr ⟨by simpa using hg, h⟩
theorem stS1 : (startS ⟨#[79, 80, 84, 73, 79, 78, 83, 32, 42, 32, 72, 84, 84, 80, 47, 49, 46, 49]⟩).1 = 0 := by kernel_rfl
theorem stS2 : (startS ⟨#[71, 69, 84, 32, 42, 32, 72, 84, 84, 80, 47, 49, 46, 49]⟩).1 = 10 := by kernel_rfl
theorem stS3 : (startS ⟨#[79, 80, 84, 73, 79, 78, 83, 32, 42, 97, 32, 72, 84, 84, 80, 47, 49, 46, 49]⟩).1 = 10 := by kernel_rfl
/-! ### as long as may be -/
def lmA (k : Nat) : List UInt8 := List.replicate k 77
def lmT (j : Nat) : List UInt8 := 47 :: List.replicate (j - 1) 116
def lmS (k j : Nat) : ByteArray := mk (lmA k ++ 32 :: (lmT j ++ [32, 72, 84, 84, 80, 47, 49, 46, 48]))
def lmW (k j : Nat) : Int := if Nat.ble k 16 then (if Nat.ble j 256 then 0 else 12) else 10
theorem lmAll : (List.range 3).all (fun n => (List.range 3).all fun m => (startS (lmS (15 + n) (255 + m))).1 == lmW (15 + n) (255 + m)) = true := by kernel_rfl
theorem lmOne (n m : Nat) (hn : n < 3) (hm : m < 3) : (startS (lmS (15 + n) (255 + m))).1 = lmW (15 + n) (255 + m) :=
  beq_iff_eq.1 (List.all_eq_true.1 (List.all_eq_true.1 lmAll n (List.mem_range.2 hn)) m (List.mem_range.2 hm))
/-! ### versions -/
def vrS (a b : UInt8) : ByteArray := mk ([71, 69, 84, 32, 47, 32, 72, 84, 84, 80, 47] ++ a :: 46 :: [b])
theorem vrCut (a b : UInt8) (ha : a ≠ 32) (hb : b ≠ 32) : cutB (vrS a b) 32 = [⟨#[71, 69, 84]⟩, ⟨#[47]⟩, mk ([72, 84, 84, 80, 47] ++ a :: 46 :: [b])] := by
  unfold cutB vrS
  rw [L_mk]
  have h1 : [71, 69, 84, 32, 47, 32, 72, 84, 84, 80, 47] ++ a :: 46 :: [b] = [71, 69, 84] ++ 32 :: ([47] ++ 32 :: ([72, 84, 84, 80, 47] ++ a :: 46 :: [b])) := rfl
  rw [h1, cutC_at (by decide), cutC_at (by decide), cutC_none (by simp [ha.symm, hb.symm])]
  rfl
theorem vrOne (a b : UInt8) (ha : a ≠ 32) (hb : b ≠ 32) :
    (a = 49 ∧ (b = 48 ∨ b = 49) ∧ (startS (vrS a b)).1 = 0 ∧ (startS (vrS a b)).2.2.2 = (b.toNat : Int) - 48) ∨ (¬ (a = 49 ∧ (b = 48 ∨ b = 49)) ∧ (startS (vrS a b)).1 = 13) := by
  by_cases h : a = 49 ∧ (b = 48 ∨ b = 49)
  · obtain ⟨rfl, rfl | rfl⟩ := h
    · exact .inl ⟨rfl, .inl rfl, by kernel_rfl, by kernel_rfl⟩
    · exact .inl ⟨rfl, .inr rfl, by kernel_rfl, by kernel_rfl⟩
  · refine .inr ⟨h, ?_⟩
    have hv : versE (mk ([72, 84, 84, 80, 47] ++ a :: 46 :: [b])) = 13 := by
      unfold versE
      rw [L_mk]
      have e0 : (([72, 84, 84, 80, 47] ++ a :: 46 :: [b]) == [72, 84, 84, 80, 47, 49, 46, 48]) = false := by
        rw [beq_eq_false_iff_ne]; intro he; simp at he; exact h ⟨he.1, .inl he.2⟩
      have e1 : (([72, 84, 84, 80, 47] ++ a :: 46 :: [b]) == [72, 84, 84, 80, 47, 49, 46, 49]) = false := by
        rw [beq_eq_false_iff_ne]; intro he; simp at he; exact h ⟨he.1, .inr he.2⟩
      rw [e0, e1]
      have hp : Lib.hasPrefix ([72, 84, 84, 80, 47] ++ a :: 46 :: [b]) [72, 84, 84, 80, 47] = true := by simp [Lib.hasPrefix]
      rw [hp]; rfl
    unfold startS
    rw [vrCut a b ha hb]
    simp only [hv]
    have hk : ((L ⟨#[71, 69, 84]⟩).all isTokB && !(L ⟨#[71, 69, 84]⟩).isEmpty && Nat.ble (⟨#[71, 69, 84]⟩ : ByteArray).size 16) = true := by kernel_rfl
    rw [hk]
    simp
theorem vrBad : (startS ⟨#[71, 69, 84, 32, 47, 32, 104, 116, 116, 112, 47, 49, 46, 49]⟩).1 = 10 := by kernel_rfl
end Go.Proofs.YtdagppbpeibdgaaDoor
