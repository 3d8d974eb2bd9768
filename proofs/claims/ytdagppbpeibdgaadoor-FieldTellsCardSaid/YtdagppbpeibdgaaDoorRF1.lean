/- conduitref1.blank, Trim; conduitref6.Parse. -/
import Derived.Test.YtdagppbpeibdgaaDoorRF0
import Derived.Test.YtdagppbpeibdgaaDoorRS
namespace Go.Proofs.YtdagppbpeibdgaaDoor
set_option linter.unusedVariables false
set_option linter.unusedSimpArgs false
open Go.RowKit

theorem ref1_blank (c : UInt8) (w : World) : Calls Tryd.prog 78 #[.int .u8 (c.toNat : Int)] w fun e w' => e = .returned (.bool (blB c)) ∧ w = w' := by
  have hb := blB_eq c
  obtain ⟨b, he⟩ : ∃ b, blB c = b := ⟨_, rfl⟩
  rw [he] at hb ⊢
  generalize (c.toNat : Int) = n at hb ⊢
  cases h1 : (n == 32)
  · cases h2 : (n == 9)
    all_goals
      rw [h1, h2] at hb
      subst hb
      go_enter Tryd.func78, Tryd.ntmps78
      go_wp2
      go_ret
      exact ⟨rfl, rfl⟩
  · rw [h1] at hb
    subst hb
    go_enter Tryd.func78, Tryd.ntmps78
    go_wp2
    go_ret
    exact ⟨rfl, rfl⟩
theorem ref1_blank_at (c : UInt8) (b : Bool) (w : World) (h : blB c = b) : Calls Tryd.prog 78 #[.int .u8 (c.toNat : Int)] w fun e w' => e = .returned (.bool b) ∧ w = w' := h ▸ ref1_blank c w
def strZ : Value → Nat | .string b => b.size | _ => 0
theorem first_ext (y : ByteArray) (h : ∀ h : 0 < y.size, blB (y[0]'h) = false) (k : 0 < (y.extract 0 (y.size - 1)).size) : blB ((y.extract 0 (y.size - 1))[0]'k) = false := by
  have h0 : 0 < y.size := by rw [ByteArray.size_extract] at k; omega
  rw [ByteArray.getElem_extract]
  simpa using h h0
set_option maxHeartbeats 4000000 in
theorem ref1_Trim (s : ByteArray) (w : World) (hs : s.size ≤ 9223372036854775807) : Calls Tryd.prog 58 #[.string s] w fun e w' => e = .returned (.string (octTrim s)) ∧ w = w' := by
  obtain ⟨R, hR⟩ : ∃ R, octTrim s = R := ⟨_, rfl⟩
  rw [hR]
  have HR := Lib.hid hR
  clear hR
  go_enter Tryd.func58, Tryd.ntmps58
  go_wp2
  go_loop [0] (fun v => ∃ x : ByteArray, v = .string x ∧ x.size ≤ s.size ∧ octTrim x = R) (fun v => strZ v)
  case atStart => exact ⟨s, rfl, Nat.le_refl _, HR.out⟩
  case round =>
    obtain ⟨x, rfl, hx, he⟩ := hrel
    have HE := Lib.hid he; clear he
    have hcases : (∃ h : 0 < x.size, blB (x[0]'h) = true) ∨ ∀ h : 0 < x.size, blB (x[0]'h) = false := by
      by_cases h0 : 0 < x.size
      · cases hb : blB (x[0]'h0)
        · exact .inr fun _ => hb
        · exact .inl ⟨h0, hb⟩
      · exact .inr fun h => absurd h h0
    rcases hcases with ⟨h0, hb⟩ | hfin
    · have h0I : (0 : Int) < (x.size : Int) := by omega
      have hfst := octTrim_first x h0 hb
      obtain ⟨c, hc⟩ : ∃ c, x[0] = c := ⟨_, rfl⟩
      rw [hc] at hb
      have HF := Lib.hid hfst; have HB := Lib.hid hb
      clear hfst hb
      have e1 : (1 : Int) ≤ (x.size : Int) := by omega
      go_wp2_with fail
      refine (ref1_blank_at c _ _ HB.out).mono ?_
      rintro e w1 ⟨rfl, rfl⟩
      go_wp2
      go_round
      case measure => show (x.extract 1 x.size).size < x.size; rw [ByteArray.size_extract]; omega
      case rel => exact ⟨_, rfl, by rw [ByteArray.size_extract]; omega, by rw [HF.out, HE.out]⟩
    · have HFIN := Lib.hid hfin; clear hfin
      have hx2 : x.size ≤ 9223372036854775807 := by omega
      have hcs : (∃ h : 0 < x.size, ∃ c, x[0]'h = c ∧ blB c = false) ∨ x.size = 0 := by
        by_cases h0 : 0 < x.size
        · exact .inl ⟨h0, _, rfl, HFIN.out h0⟩
        · exact .inr (by omega)
      rcases hcs with ⟨h0, c, hc, hb⟩ | h0
      case' inl =>
        have h0I : (0 : Int) < (x.size : Int) := by omega
        have HB := Lib.hid hb; clear hb
        go_wp2_with fail
        refine (ref1_blank_at c _ _ HB.out).mono ?_
        rintro e w1 ⟨rfl, rfl⟩
        clear hc h0I h0
        go_wp2
      case' inr =>
        have h0I : ¬ (0 : Int) < (x.size : Int) := by omega
        go_wp2
        clear h0I h0
      all_goals
        go_loop [0] (fun v => ∃ y : ByteArray, v = .string y ∧ y.size ≤ s.size ∧ octTrim y = R ∧ ∀ h : 0 < y.size, blB (y[0]'h) = false) (fun v => strZ v)
        case atStart => exact ⟨x, rfl, hx, HE.out, HFIN.out⟩
        case round =>
          obtain ⟨y, rfl, hy, hey, hfy⟩ := hrel
          have HEY := Lib.hid hey; have HFY := Lib.hid hfy; clear hey hfy HE HFIN hx hx2
          have hcases : (∃ h : 0 < y.size, blB (y[y.size - 1]'(by omega)) = true) ∨ ∀ h : 0 < y.size, blB (y[y.size - 1]'(by omega)) = false := by
            by_cases h0 : 0 < y.size
            · cases hb : blB (y[y.size - 1]'(by omega))
              · exact .inr fun _ => hb
              · exact .inl ⟨h0, hb⟩
            · exact .inr fun h => absurd h h0
          rcases hcases with ⟨h0, hb⟩ | hfin
          · have h0I : (0 : Int) < (y.size : Int) := by omega
            have hlst := octTrim_last y h0 hb
            have hf2 := first_ext y HFY.out
            obtain ⟨c, hc⟩ : ∃ c, y[y.size - 1]'(by omega) = c := ⟨_, rfl⟩
            rw [hc] at hb
            have HL := Lib.hid hlst; have HB := Lib.hid hb; have HF2 := Lib.hid hf2
            clear hlst hb hf2
            have e1 : ((y.size : Int) - 1).toNat = y.size - 1 := by omega
            have e2 : 0 ≤ (y.size : Int) - 1 := by omega
            have e3 : (y.size : Int) - 1 < (y.size : Int) := by omega
            have e4 : (y.size : Int) - 1 ≤ (y.size : Int) := by omega
            have e5 : y.size - 1 < y.size := by omega
            have ew : IntKind.i64.wrap ((y.size : Int) - 1) = (y.size : Int) - 1 := IntWalk.i64_in _ (by omega)
            go_wp2_with fail
            refine (ref1_blank_at c _ _ HB.out).mono ?_
            rintro e w1 ⟨rfl, rfl⟩
            go_wp2
            go_round
            case measure => show (y.extract 0 (y.size - 1)).size < y.size; rw [ByteArray.size_extract]; omega
            case rel => exact ⟨_, rfl, by rw [ByteArray.size_extract]; omega, by rw [HL.out, HEY.out], HF2.out⟩
          · have HYR := Lib.hid (show y = R by rw [← HEY.out]; exact (octTrim_fix y HFY.out hfin).symm)
            by_cases h0 : 0 < y.size
            · have h0I : (0 : Int) < (y.size : Int) := by omega
              obtain ⟨c, hc⟩ : ∃ c, y[y.size - 1]'(by omega) = c := ⟨_, rfl⟩
              have hb := hfin h0
              rw [hc] at hb
              have HB := Lib.hid hb
              clear hb hfin
              have e1 : ((y.size : Int) - 1).toNat = y.size - 1 := by omega
              have e2 : 0 ≤ (y.size : Int) - 1 := by omega
              have e3 : (y.size : Int) - 1 < (y.size : Int) := by omega
              have e5 : y.size - 1 < y.size := by omega
              have ew : IntKind.i64.wrap ((y.size : Int) - 1) = (y.size : Int) - 1 := IntWalk.i64_in _ (by omega)
              go_wp2_with fail
              refine (ref1_blank_at c _ _ HB.out).mono ?_
              rintro e w1 ⟨rfl, rfl⟩
              go_wp2
              go_ret
              exact ⟨by rw [HYR.out]; rfl, rfl⟩
            · have h0I : ¬ (0 : Int) < (y.size : Int) := by omega
              clear hfin
              go_wp2
              go_ret
              exact ⟨by rw [HYR.out]; rfl, rfl⟩
end Go.Proofs.YtdagppbpeibdgaaDoor
