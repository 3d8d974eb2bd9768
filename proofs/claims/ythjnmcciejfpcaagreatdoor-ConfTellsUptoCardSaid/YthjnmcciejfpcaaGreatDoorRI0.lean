/- Plain forms of what the reference says of hosts, extensions and segments. -/
import Derived.Test.YthjnmcciejfpcaaGreatDoorME
import Derived.KernelRfl
namespace Go.Proofs.YthjnmcciejfpcaaGreatDoor
set_option linter.unusedVariables false
set_option linter.unusedSimpArgs false
open Go.RowKit

def hostC (c : UInt8) : Bool := (L hostSet).contains c
theorem hostC_iff : ∀ c : UInt8, (hostC c = true ↔ ((97 : Int) ≤ c.toNat ∧ (c.toNat : Int) ≤ 122) ∨ ((48 : Int) ≤ c.toNat ∧ (c.toNat : Int) ≤ 57) ∨ (c.toNat : Int) = 45 ∨ (c.toNat : Int) = 46) := by
  have h : ∀ n : Fin 256, (hostC (UInt8.ofNat n) = true ↔ ((97 : Int) ≤ (n.val : Int) ∧ (n.val : Int) ≤ 122) ∨ ((48 : Int) ≤ (n.val : Int) ∧ (n.val : Int) ≤ 57) ∨ (n.val : Int) = 45 ∨ (n.val : Int) = 46) := by decide +kernel
  intro c
  have := h ⟨c.toNat, c.toNat_lt⟩
  simpa using this
theorem hostOk_all (s : ByteArray) : hostOk s = ((L s).all hostC && Nat.ble s.size 64) := by unfold hostOk; rw [Bool.and_comm]; rfl
def letC (c : UInt8) : Bool := (L letSet).contains c
theorem letC_iff : ∀ c : UInt8, (letC c = true ↔ (97 : Int) ≤ c.toNat ∧ (c.toNat : Int) ≤ 122) := by
  have h : ∀ n : Fin 256, (letC (UInt8.ofNat n) = true ↔ (97 : Int) ≤ (n.val : Int) ∧ (n.val : Int) ≤ 122) := by decide +kernel
  intro c
  have := h ⟨c.toNat, c.toNat_lt⟩
  simpa using this
/-- an extension: a point, then one to eight small letters -/
theorem extOk_eq (s : ByteArray) : extOk s = (((L s).drop 1).all letC && (Nat.ble 2 s.size && (Nat.ble s.size 9 && ((L s).head? == some 46)))) := by
  have hz : s.size = (L s).length := rfl
  have ht : tailE s = mk (Lib.trimPrefix (L s) [46]) := rfl
  have hte : (tailE s).toList.isEmpty = (L (tailE s)).isEmpty := by rw [toList_L]
  have hlt : (tailE s).size = (L (tailE s)).length := rfl
  unfold extOk
  rw [hte, hlt, ht, L_mk, hz]
  cases hl : L s with
  | nil => rfl
  | cons c r =>
    by_cases hc : c = 46
    · subst hc
      have hp : Lib.hasPrefix (46 :: r) [46] = true := rfl
      have htp : Lib.trimPrefix (46 :: r) [46] = r := rfl
      rw [hp, htp]
      have e1 : ((46 :: r : List UInt8).head? == some 46) = true := rfl
      rw [e1]
      show (true && !r.isEmpty && Nat.ble r.length 8 && r.all letC) = (r.all letC && (Nat.ble 2 (r.length + 1) && (Nat.ble (r.length + 1) 9 && true)))
      have e2 : (!r.isEmpty) = Nat.ble 2 (r.length + 1) := by cases r with
        | nil => rfl
        | cons a b => rw [ble_yes (by simp)]; rfl
      have e3 : Nat.ble r.length 8 = Nat.ble (r.length + 1) 9 := rfl
      rw [e2, e3]
      cases r.all letC <;> cases Nat.ble 2 (r.length + 1) <;> cases Nat.ble (r.length + 1) 9 <;> rfl
    · have hp : Lib.hasPrefix (c :: r) [46] = false := by
        unfold Lib.hasPrefix
        cases hb : List.isPrefixOf [46] (c :: r) with
        | false => rfl
        | true => exact absurd (by simpa [List.isPrefixOf] using hb) (fun h : 46 = c => hc h.symm)
      have e1 : ((c :: r : List UInt8).head? == some 46) = false := by simpa using hc
      rw [hp, e1]
      simp
/-- a segment's first byte -/
theorem hasP_iff {x : ByteArray} (h : 0 < x.size) : Lib.hasPrefix (L x) [58] = ((x[0].toNat : Int) == 58) := by
  have h0 : (L x)[0]'h = x[0] := rfl
  cases hl : L x with
  | nil => have : (L x).length = 0 := by rw [hl]; rfl
           have : x.size = 0 := this
           omega
  | cons c r =>
    simp only [hl, List.getElem_cons_zero] at h0
    rw [← h0]
    unfold Lib.hasPrefix
    rw [Bool.eq_iff_iff]
    simp only [List.isPrefixOf, Bool.and_true, beq_iff_eq]
    constructor
    · intro e; rw [← e]; rfl
    · intro e
      apply UInt8.toNat_inj.1
      have h2 : c.toNat = 58 := by omega
      rw [h2]; rfl
theorem tailC_eq {x : ByteArray} (h : Lib.hasPrefix (L x) [58] = true) : tailC x = x.extract 1 x.size := L_inj (by
  have : L (tailC x) = Lib.trimPrefix (L x) [58] := by unfold tailC; rw [L_mk]
  rw [this, L_end]
  unfold Lib.trimPrefix
  rw [if_pos h]; rfl)
theorem full_size {x : ByteArray} (h : full x = true) : 0 < x.size := by
  rcases Nat.eq_zero_or_pos x.size with h0 | h0
  · unfold full at h
    rw [toList_L] at h
    have : (L x).length = 0 := h0
    rw [List.length_eq_zero_iff.1 this] at h
    cases h
  · exact h0
theorem segs_full {s x : ByteArray} (h : x ∈ segs s) : 0 < x.size := full_size (List.mem_filter.1 h).2
end Go.Proofs.YthjnmcciejfpcaaGreatDoor
