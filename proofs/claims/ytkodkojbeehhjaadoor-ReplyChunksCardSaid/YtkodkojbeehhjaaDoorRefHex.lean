/- conduitref1.digit, nibble, Hex; conduitref6.split. -/
import Derived.Test.YtkodkojbeehhjaaDoorStrs
import Derived.Test.YtkodkojbeehhjaaDoorProg
namespace Go.Proofs.YtkodkojbeehhjaaDoor
open Go.RowKit

def digB (c : UInt8) : Bool := decide (48 ≤ (c.toNat : Int)) && decide ((c.toNat : Int) ≤ 57)
theorem ref1_digit (c : UInt8) (w : World) : Calls Tryd.prog 59 #[.int .u8 (c.toNat : Int)] w fun e w' => e = .returned (.bool (digB c)) ∧ w = w' := by
  go_enter Tryd.func59, Tryd.ntmps59
  go_wp2
  all_goals (go_ret; refine ⟨?_, rfl⟩; (simp_all [digB] <;> omega))

/-- the value of a digit of base 16; -1: none -/
def nib (c : UInt8) : Int :=
  if 48 ≤ (c.toNat : Int) ∧ (c.toNat : Int) ≤ 57 then (c.toNat : Int) - 48
  else if 97 ≤ (c.toNat : Int) ∧ (c.toNat : Int) ≤ 102 then (c.toNat : Int) - 97 + 10
  else if 65 ≤ (c.toNat : Int) ∧ (c.toNat : Int) ≤ 70 then (c.toNat : Int) - 65 + 10
  else -1
theorem nib_le (c : UInt8) : -1 ≤ nib c ∧ nib c ≤ 15 := by
  unfold nib
  constructor <;> (repeat' split) <;> omega
set_option maxHeartbeats 400000 in
theorem ref1_nibble (c : UInt8) (w : World) : Calls Tryd.prog 53 #[.int .u8 (c.toNat : Int)] w fun e w' => e = .returned (.int .i64 (nib c)) ∧ w = w' := by
  by_cases hd : 48 ≤ (c.toNat : Int) ∧ (c.toNat : Int) ≤ 57
  · have hdb : digB c = true := by unfold digB; simp [hd]
    have h1 := hd.1
    have h2 := hd.2
    have hn : nib c = (c.toNat : Int) - 48 := by unfold nib; rw [if_pos hd]
    have HN := Lib.hid hn; clear hn hd
    go_enter Tryd.func53, Tryd.ntmps53
    go_wp2_with (go_at_call 59; refine (ref1_digit c _).mono ?_; rintro e w1 ⟨rfl, rfl⟩)
    go_ret
    exact ⟨by rw [HN.out]; rfl, rfl⟩
  · have hdb : digB c = false := by unfold digB; simp; omega
    by_cases ha : 97 ≤ (c.toNat : Int) ∧ (c.toNat : Int) ≤ 102
    · have h1 := ha.1
      have h2 := ha.2
      have hn : nib c = (c.toNat : Int) - 97 + 10 := by unfold nib; rw [if_neg hd, if_pos ha]
      have HN := Lib.hid hn; clear hn hd ha
      go_enter Tryd.func53, Tryd.ntmps53
      go_wp2_with (go_at_call 59; refine (ref1_digit c _).mono ?_; rintro e w1 ⟨rfl, rfl⟩)
      go_ret
      exact ⟨by rw [HN.out]; rfl, rfl⟩
    · by_cases hA : 65 ≤ (c.toNat : Int) ∧ (c.toNat : Int) ≤ 70
      · have h1 := hA.1
        have h2 := hA.2
        have h3 : (c.toNat : Int) < 97 := by omega
        have hn : nib c = (c.toNat : Int) - 65 + 10 := by unfold nib; rw [if_neg hd, if_neg ha, if_pos hA]
        have HN := Lib.hid hn; clear hn hd hA ha
        go_enter Tryd.func53, Tryd.ntmps53
        go_wp2_with (go_at_call 59; refine (ref1_digit c _).mono ?_; rintro e w1 ⟨rfl, rfl⟩)
        all_goals (go_ret; exact ⟨by rw [HN.out]; rfl, rfl⟩)
      · have hn : nib c = -1 := by unfold nib; rw [if_neg hd, if_neg ha, if_neg hA]
        have HN := Lib.hid hn; clear hn
        go_enter Tryd.func53, Tryd.ntmps53
        go_wp2_with (go_at_call 59; refine (ref1_digit c _).mono ?_; rintro e w1 ⟨rfl, rfl⟩)
        all_goals first | (go_ret; exact ⟨by rw [HN.out]; rfl, rfl⟩) | (exfalso; omega)

def hexFold : List UInt8 → Nat → Option Nat
  | [], a => some a
  | c :: l, a => if nib c < 0 then none else hexFold l (a * 16 + (nib c).toNat)
def hexV (s : ByteArray) : Option Nat := if s.size < 1 ∨ 7 < s.size then none else hexFold s.data.toList 0
def hexR : Option Nat → Value
  | some n => .tuple #[.int .i64 (n : Int), .bool true]
  | none => .tuple #[.int .i64 0, .bool false]
theorem str_at (s : ByteArray) (k : Nat) (h : k < s.size) : s.data.toList.drop k = s[k] :: s.data.toList.drop (k + 1) := by
  rw [List.drop_eq_getElem_cons (by show k < s.data.size; exact h)]; rfl

set_option maxRecDepth 20000 in
set_option maxHeartbeats 400000 in
theorem ref1_Hex (s : ByteArray) (w : World) : Calls Tryd.prog 47 #[.string s] w fun e w' => e = .returned (hexR (hexV s)) ∧ w = w' := by
  by_cases hbig : s.size < 1 ∨ 7 < s.size
  · have hv : hexV s = none := by unfold hexV; rw [if_pos hbig]
    have HV := Lib.hid hv; clear hv
    rcases hbig with h | h
    all_goals
      go_enter Tryd.func47, Tryd.ntmps47
      go_wp2
      go_ret2
      exact ⟨by rw [HV.out]; rfl, rfl⟩
  · have hv : hexV s = hexFold s.data.toList 0 := by unfold hexV; rw [if_neg hbig]
    have HV := Lib.hid hv; clear hv
    have h1 : 1 ≤ s.size := by omega
    have h7 : s.size ≤ 7 := by omega
    clear hbig
    go_enter Tryd.func47, Tryd.ntmps47
    go_wp2
    go_loop [4, 5] (fun n i => ∃ (k a : Nat), k ≤ s.size ∧ n = .int .i64 (a : Int) ∧ i = .int .i64 (k : Int) ∧ a < 16 ^ k ∧ hexFold s.data.toList 0 = hexFold (s.data.toList.drop k) a) (fun _ i => s.size - (intOf i).toNat)
    case atStart => exact ⟨0, 0, by omega, rfl, rfl, by decide, rfl⟩
    case round =>
      obtain ⟨k, a, hk, rfl, rfl, ha, heq⟩ := hrel
      by_cases hlt : k < s.size
      · have hd := str_at s k hlt
        have h16 : 16 ^ k ≤ 16 ^ 6 := Nat.pow_le_pow_right (by decide) (by omega)
        have haI : (a : Int) < 16777216 := by omega
        rw [hd] at heq
        have hap : a * 16 + 15 < 16 ^ (k + 1) := by rw [Nat.pow_succ]; omega
        clear h16 ha
        have HA := Lib.hid hap; clear hap
        have hx : ∃ v : Int, nib s[k] = v ∧ (-1 ≤ v ∧ v ≤ 15) ∧ hexFold s.data.toList 0 = if v < 0 then none else hexFold (s.data.toList.drop (k + 1)) (a * 16 + v.toNat) := ⟨_, rfl, nib_le _, heq⟩
        clear heq hd
        have HX := Lib.hid hx; clear hx
        go_wp2_with fail
        refine (ref1_nibble s[k] _).mono ?_
        rintro e w1 ⟨rfl, rfl⟩
        obtain ⟨v, hv, hnl, heq⟩ := HX.out
        rw [hv]
        have HE := Lib.hid heq; clear heq hv HX
        by_cases hneg : v < 0
        · go_wp2_with fail
          go_ret2
          refine ⟨?_, rfl⟩
          rw [HV.out, HE.out, if_pos hneg]; rfl
        · have hpos : 0 ≤ v := by omega
          have hv15 : v ≤ 15 := hnl.2
          have HN : RowKit.Hid (¬ v < 0) := hneg
          have e1 : wrap64 ((a : Int) * 16) = (a : Int) * 16 := IntWalk.wrap64_in _ (by omega)
          have e2 : wrap64 ((a : Int) * 16 + v) = (a : Int) * 16 + v := IntWalk.wrap64_in _ (by omega)
          clear hnl hneg haI
          go_wp2_with fail
          go_round
          case measure => exact meas hlt _ _
          case rel =>
            refine ⟨k + 1, a * 16 + v.toNat, by omega, ?_, by go_num, ?_, ?_⟩
            · congr 1; omega
            · have := HA.out; omega
            · rw [HE.out, if_neg (by omega)]
      · have e : k = s.size := by omega
        have hnil : s.data.toList.drop k = [] := List.drop_of_length_le (by show s.data.size ≤ k; have : s.data.size = s.size := rfl; omega)
        rw [hnil] at heq
        have HE := Lib.hid heq; clear heq hnil
        have HK := Lib.hid e; clear e
        go_wp2
        go_ret2
        exact ⟨by rw [HV.out, HE.out]; rfl, rfl⟩
end Go.Proofs.YtkodkojbeehhjaaDoor
