/- start.version, target, Parse, Split. -/
import Derived.Test.YtdagppbpeibdgaaDoorRuA
import Derived.Test.YtdagppbpeibdgaaDoorAsE
import Derived.Test.YtdagppbpeibdgaaDoorLib
namespace Go.Proofs.YtdagppbpeibdgaaDoor
set_option linter.unusedVariables false
set_option linter.unusedSimpArgs false
open Go.RowKit

def versE (s : ByteArray) : Int := if L s == [72, 84, 84, 80, 47, 49, 46, 48] || L s == [72, 84, 84, 80, 47, 49, 46, 49] then 0 else if Lib.hasPrefix (L s) [72, 84, 84, 80, 47] then 13 else 10
def versN (s : ByteArray) : Int := if L s == [72, 84, 84, 80, 47, 49, 46, 49] then 1 else 0
def tarB (c : UInt8) : Bool := decide (33 ≤ (c.toNat : Int)) && decide ((c.toNat : Int) ≤ 126) && !((c.toNat : Int) == 35)
def targE (m s : ByteArray) : Int :=
  if L s == [42] && L m == [79, 80, 84, 73, 79, 78, 83] then 0 else if Lib.hasPrefix (L s) [47] = false then 10 else if (L s).all tarB = false then 10 else if Nat.ble s.size 256 then 0 else 12
def startS (line : ByteArray) : Int × ByteArray × ByteArray × Int :=
  match cutB line 32 with
  | [m, t, v] =>
    if ((L m).all isTokB && !(L m).isEmpty && Nat.ble m.size 16) = false then (10, ⟨#[]⟩, ⟨#[]⟩, 0)
    else if versE v ≠ 0 then (versE v, ⟨#[]⟩, ⟨#[]⟩, 0)
    else if targE m t ≠ 0 then (targE m t, ⟨#[]⟩, ⟨#[]⟩, 0)
    else (0, m, t, versN v)
  | _ => (10, ⟨#[]⟩, ⟨#[]⟩, 0)
def startR (r : Int × ByteArray × ByteArray × Int) : Value := .tuple #[.agg #[.string r.2.1, .string r.2.2.1, .int .i64 r.2.2.2, .slice none 0 0, .string ⟨#[]⟩], errV r.1]
set_option maxHeartbeats 1000000 in
theorem st_version (s : ByteArray) (w : World) :
    Calls Tryd.prog 50 #[.string s] w fun e w' => e = .returned (.tuple #[.int .i64 (if versE s = 0 then versN s else 0), errV (versE s)]) ∧ w = w' := by
  cases h0 : (L s == [72, 84, 84, 80, 47, 49, 46, 48])
  · cases h1 : (L s == [72, 84, 84, 80, 47, 49, 46, 49])
    · have e0 : (s.toList == [72, 84, 84, 80, 47, 49, 46, 48]) = false := by rw [toList_L]; exact h0
      have e1 : (s.toList == [72, 84, 84, 80, 47, 49, 46, 49]) = false := by rw [toList_L]; exact h1
      cases hp : Lib.hasPrefix (L s) [72, 84, 84, 80, 47]
      · have hv : versE s = 10 := by unfold versE; rw [h0, h1, hp]; rfl
        rw [hv]
        have HP := Lib.hid hp
        clear hv h0 h1 hp
        go_enter Tryd.func50, Tryd.ntmps50
        go_wp2_with fail
        refine (lib_HasPrefix s ⟨#[72, 84, 84, 80, 47]⟩ _).mono ?_
        rintro e w1 ⟨rfl, rfl⟩
        rw [show Lib.hasPrefix (L s) (L ⟨#[72, 84, 84, 80, 47]⟩) = false from HP.out]
        go_wp2
        go_ret2
        exact ⟨rfl, rfl⟩
      · have hv : versE s = 13 := by unfold versE; rw [h0, h1, hp]; rfl
        rw [hv]
        have HP := Lib.hid hp
        clear hv h0 h1 hp
        go_enter Tryd.func50, Tryd.ntmps50
        go_wp2_with fail
        refine (lib_HasPrefix s ⟨#[72, 84, 84, 80, 47]⟩ _).mono ?_
        rintro e w1 ⟨rfl, rfl⟩
        rw [show Lib.hasPrefix (L s) (L ⟨#[72, 84, 84, 80, 47]⟩) = true from HP.out]
        go_wp2
        go_ret2
        exact ⟨rfl, rfl⟩
    · have hs : s = ⟨#[72, 84, 84, 80, 47, 49, 46, 49]⟩ := by rw [← mk_L s, beq_iff_eq.1 h1]; rfl
      clear h0 h1
      subst hs
      go_enter Tryd.func50, Tryd.ntmps50
      go_wp2
      go_ret2
      exact ⟨rfl, rfl⟩
  · have hs : s = ⟨#[72, 84, 84, 80, 47, 49, 46, 48]⟩ := by rw [← mk_L s, beq_iff_eq.1 h0]; rfl
    clear h0
    subst hs
    go_enter Tryd.func50, Tryd.ntmps50
    go_wp2
    go_ret2
    exact ⟨rfl, rfl⟩
theorem targE_cases (m s : ByteArray) : targE m s = 0 ∨ targE m s = 10 ∨ targE m s = 12 := by unfold targE; (repeat' split) <;> simp
theorem versE_cases (s : ByteArray) : versE s = 0 ∨ versE s = 13 ∨ versE s = 10 := by unfold versE; (repeat' split) <;> simp
set_option maxRecDepth 100000 in
set_option maxHeartbeats 2000000 in
theorem st_target (m s : ByteArray) (w : World) (hs : s.size ≤ 9223372036854775807) :
    Calls Tryd.prog 51 #[.string m, .string s] w fun e w' => e = .returned (errV (targE m s)) ∧ w = w' := by
  cases h0 : (L s == [42] && L m == [79, 80, 84, 73, 79, 78, 83])
  · have hU : targE m s = if Lib.hasPrefix (L s) [47] = false then 10 else if (L s).all tarB = false then 10 else if Nat.ble s.size 256 then 0 else 12 := by unfold targE; rw [h0]; rfl
    have HU := Lib.hid hU; clear hU
    have hor : (s.toList == [42]) = false ∨ ((s.toList == [42]) = true ∧ (m.toList == [79, 80, 84, 73, 79, 78, 83]) = false) := by
      rw [toList_L, toList_L]
      cases ha : (L s == [42])
      · exact .inl rfl
      · rw [ha, Bool.true_and] at h0; exact .inr ⟨rfl, h0⟩
    clear h0
    cases hp : Lib.hasPrefix (L s) [47]
    · have HP := Lib.hid hp; clear hp
      rcases hor with h1 | ⟨h1, h2⟩
      all_goals
        go_enter Tryd.func51, Tryd.ntmps51
        go_wp2_with fail
        refine (lib_HasPrefix s ⟨#[47]⟩ _).mono ?_
        rintro e w1 ⟨rfl, rfl⟩
        rw [show Lib.hasPrefix (L s) (L ⟨#[47]⟩) = false from HP.out]
        go_wp2
        go_ret
        exact ⟨by rw [HU.out, HP.out]; rfl, rfl⟩
    · have h1 : (s.toList == [42]) = false := by
        rcases hor with h1 | ⟨h1, _⟩
        · exact h1
        · rw [toList_L] at h1
          rw [beq_iff_eq.1 h1] at hp
          simp [Lib.hasPrefix] at hp
      have HP := Lib.hid hp; clear hp hor
      have hlen : (L s).length = s.size := rfl
      obtain ⟨l, hl⟩ : ∃ l, L s = l := ⟨_, rfl⟩
      have HL := Lib.hid hl
      have hU2 := HU.out
      rw [HP.out, hl] at hU2
      rw [hl] at hlen
      have HU2 := Lib.hid hU2; have HN := Lib.hid hlen
      clear hU2 HU hl hlen
      go_enter Tryd.func51, Tryd.ntmps51
      go_wp2_with fail
      refine (lib_HasPrefix s ⟨#[47]⟩ _).mono ?_
      rintro e w1 ⟨rfl, rfl⟩
      rw [show Lib.hasPrefix (L s) (L ⟨#[47]⟩) = true from HP.out]
      go_wp2
      go_loop [18] (fun i => ∃ k : Nat, k ≤ s.size ∧ i = .int .i64 k ∧ (l.take k).all tarB = true) (fun i => s.size - (intOf i).toNat)
      case atStart => exact ⟨0, Nat.zero_le _, rfl, rfl⟩
      case round =>
        obtain ⟨k, hk, rfl, hall⟩ := hrel
        by_cases hlt : k < s.size
        · have hkl : k < l.length := by have := HN.out; omega
          have hat : l[k] = s[k] := by have := HL.out; subst this; rfl
          obtain ⟨c, hc⟩ : ∃ c, s[k] = c := ⟨_, rfl⟩
          rw [hc] at hat
          have hcI : (s[k].toNat : Int) = (c.toNat : Int) := by rw [hc]
          have HA := Lib.hid hall; have HAT := Lib.hid hat; clear hall hat hc
          by_cases c1 : (c.toNat : Int) < 33
          · have d1 : decide ((c.toNat : Int) < 33) = true := by simpa using c1
            have hno : l.all tarB = false := all_drop hkl HA.out (by rw [HAT.out]; unfold tarB; rw [decide_eq_false (by omega)]; rfl)
            have HNO := Lib.hid hno; clear hno
            go_wp2
            go_ret
            exact ⟨by rw [HU2.out, HNO.out]; rfl, rfl⟩
          · have d1 : decide ((c.toNat : Int) < 33) = false := by simpa using c1
            by_cases c2 : 126 < (c.toNat : Int)
            · have d2 : decide (126 < (c.toNat : Int)) = true := by simpa using c2
              have hno : l.all tarB = false := all_drop hkl HA.out (by rw [HAT.out]; unfold tarB; rw [decide_eq_false (p := (c.toNat : Int) ≤ 126) (by omega)]; simp)
              have HNO := Lib.hid hno; clear hno
              go_wp2
              go_ret
              exact ⟨by rw [HU2.out, HNO.out]; rfl, rfl⟩
            · have d2 : decide (126 < (c.toNat : Int)) = false := by simpa using c2
              cases c3 : ((c.toNat : Int) == 35)
              · have hok : tarB c = true := by unfold tarB; rw [c3, decide_eq_true (by omega), decide_eq_true (by omega)]; rfl
                have HOK := Lib.hid hok; clear hok
                go_wp2
                go_round
                case measure => exact meas hlt .i64 .i64
                case rel => exact ⟨k + 1, by omega, by go_num, all_succ hkl HA.out (by rw [HAT.out]; exact HOK.out)⟩
              · have hno : l.all tarB = false := all_drop hkl HA.out (by rw [HAT.out]; unfold tarB; rw [c3]; simp)
                have HNO := Lib.hid hno; clear hno
                go_wp2
                go_ret
                exact ⟨by rw [HU2.out, HNO.out]; rfl, rfl⟩
        · have e : l.take k = l := List.take_of_length_le (by have := HN.out; omega)
          rw [e] at hall
          have HA := Lib.hid hall; clear hall e
          by_cases h256 : s.size ≤ 256
          · have hI : decide ((256 : Int) < (s.size : Int)) = false := by simp; omega
            have HB := Lib.hid (show Nat.ble s.size 256 = true by rw [Nat.ble_eq]; exact h256)
            clear h256
            go_wp2
            go_ret
            exact ⟨by rw [HU2.out, HA.out, HB.out]; rfl, rfl⟩
          · have hI : decide ((256 : Int) < (s.size : Int)) = true := by simp; omega
            have HB := Lib.hid (show Nat.ble s.size 256 = false by cases hb : Nat.ble s.size 256 with | false => rfl | true => rw [Nat.ble_eq] at hb; omega)
            clear h256
            go_wp2
            go_ret
            exact ⟨by rw [HU2.out, HA.out, HB.out]; rfl, rfl⟩
  · rw [Bool.and_eq_true, beq_iff_eq, beq_iff_eq] at h0
    have hs : s = ⟨#[42]⟩ := by rw [← mk_L s, h0.1]; rfl
    have hm : m = ⟨#[79, 80, 84, 73, 79, 78, 83]⟩ := by rw [← mk_L m, h0.2]; rfl
    clear h0
    subst hs hm
    go_enter Tryd.func51, Tryd.ntmps51
    go_wp2
    go_ret
    exact ⟨rfl, rfl⟩
end Go.Proofs.YtdagppbpeibdgaaDoor
