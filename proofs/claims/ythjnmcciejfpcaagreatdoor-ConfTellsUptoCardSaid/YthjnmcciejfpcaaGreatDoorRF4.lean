/- conduitref6.IsField. -/
import Derived.Test.YthjnmcciejfpcaaGreatDoorMH
import Derived.Test.YthjnmcciejfpcaaGreatDoorME
import Derived.Deep.QuietTactic
import Derived.BigQuiet
namespace Go.Proofs.YthjnmcciejfpcaaGreatDoor
set_option linter.unusedVariables false
set_option linter.unusedSimpArgs false
open Go.RowKit

theorem ref6_plain_at (s : ByteArray) (b : Bool) (w : World) (h : (L s).all valB = b) (hs : s.size ≤ 9223372036854775807) : Calls Tryz.prog 66 #[.string s] w fun e w' => e = .returned (.bool b) ∧ w = w' := h ▸ ref6_plain s w hs
theorem ref1_Tok_at (s : ByteArray) (b : Bool) (w : World) (h : allB isTokB s = b) (hs : s.size ≤ 9223372036854775807) : Calls Tryz.prog 43 #[.string s] w fun e w' => e = .returned (.bool b) ∧ w = w' := h ▸ ref1_Token s w hs
theorem ref1_Trim_at (s x : ByteArray) (w : World) (h : octTrim s = x) (hs : s.size ≤ 9223372036854775807) : Calls Tryz.prog 65 #[.string s] w fun e w' => e = .returned (.string x) ∧ w = w' := h ▸ ref1_Trim s w hs
theorem fieldOk_eq (a b : ByteArray) : fieldOk a b = (allB isTokB a && Nat.ble a.size 64 && Nat.ble b.size 512 && (L b).all valB && eqB (octTrim b) b) := by
  unfold fieldOk nameE valE
  cases allB isTokB a
  · simp
  · cases (L b).all valB
    · simp
    · by_cases h1 : 64 < a.size
      · rw [ble_no (show ¬ a.size ≤ 64 by omega)]; simp [h1]
      · rw [ble_yes (show a.size ≤ 64 by omega)]
        by_cases h2 : 512 < b.size
        · rw [ble_no (show ¬ b.size ≤ 512 by omega)]; simp [h1, h2]
        · rw [ble_yes (show b.size ≤ 512 by omega)]; simp [h1, h2]
set_option maxRecDepth 100000 in
set_option maxHeartbeats 4000000 in
theorem ref6_IsField (a b : ByteArray) (w : World) (ha : a.size ≤ 9223372036854775807) (hb : b.size ≤ 9223372036854775807) :
    Calls Tryz.prog 45 #[.agg #[.string a, .string b]] w fun e w' => e = .returned (.bool (fieldOk a b)) ∧ Below w.heap.size w w' := by
  have hw0 := fr_alloc (fr_refl w) (.cells #[.string a, .string b] 77)
  have hB0 := Box.new w [.string a, .string b] 77
  have b0 : (w.alloc (.cells #[.string a, .string b] 77)).cell? ⟨w.heap.size, 0, none⟩ = some (.string a) := hB0.2 0 _ rfl
  have b1 : (w.alloc (.cells #[.string a, .string b] 77)).cell? ⟨w.heap.size, 1, none⟩ = some (.string b) := hB0.2 1 _ rfl
  have HW0 := Lib.hid hw0
  have hE := fieldOk_eq a b
  obtain ⟨R, hR⟩ : ∃ R, fieldOk a b = R := ⟨_, rfl⟩
  rw [hR] at hE ⊢
  clear hw0 hB0 hR
  obtain ⟨x, hx⟩ : ∃ x, octTrim b = x := ⟨_, rfl⟩
  rw [hx] at hE
  have HX := Lib.hid hx; have HA := Lib.hid ha; have HB := Lib.hid hb
  clear hx ha hb
  cases htk : allB isTokB a
  · have HTK := Lib.hid htk
    have HR := Lib.hid (show R = false by rw [hE, htk]; rfl)
    clear htk hE
    go_enter Tryz.func45, Tryz.ntmps45
    go_wp2_with fail
    go_quiet (first | (go_at_call 43; refine Calls.quiet_of_same (same_sym (ref1_Tok_at a _ _ HTK.out HA.out))))
    go_wp2
    go_ret
    exact ⟨by rw [HR.out]; rfl, fr_drewN HW0.out _⟩
  · have HTK := Lib.hid htk
    by_cases h1 : a.size ≤ 64
    · have h1I : (a.size : Int) ≤ 64 := by omega
      by_cases h2 : b.size ≤ 512
      · have h2I : (b.size : Int) ≤ 512 := by omega
        cases hpl : (L b).all valB
        · have HPL := Lib.hid hpl
          have HR := Lib.hid (show R = false by rw [hE, htk, hpl]; simp)
          clear htk hE hpl
          go_enter Tryz.func45, Tryz.ntmps45
          go_wp2_with fail
          go_quiet (first | (go_at_call 43; refine Calls.quiet_of_same (same_sym (ref1_Tok_at a _ _ HTK.out HA.out))) | (go_at_call 66; refine Calls.quiet_of_same (same_sym (ref6_plain_at b _ _ HPL.out HB.out))))
          go_wp2
          go_ret
          exact ⟨by rw [HR.out]; rfl, fr_drewN HW0.out _⟩
        · have HPL := Lib.hid hpl
          have HR := Lib.hid (show R = (x.toList == b.toList) by rw [hE, htk, hpl, ble_yes h1, ble_yes h2]; rfl)
          clear htk hE hpl
          go_enter Tryz.func45, Tryz.ntmps45
          go_wp2_with fail
          go_quiet (first | (go_at_call 43; refine Calls.quiet_of_same (same_sym (ref1_Tok_at a _ _ HTK.out HA.out))) | (go_at_call 66; refine Calls.quiet_of_same (same_sym (ref6_plain_at b _ _ HPL.out HB.out))) | (go_at_call 65; refine Calls.quiet_of_same (same_sym (ref1_Trim_at b x _ HX.out HB.out))))
          go_wp2
          go_ret
          exact ⟨by rw [HR.out]; rfl, fr_drewN HW0.out _⟩
      · have h2I : decide ((b.size : Int) ≤ 512) = false := by simp; omega
        have HR := Lib.hid (show R = false by rw [hE, ble_no h2]; simp)
        clear htk hE
        go_enter Tryz.func45, Tryz.ntmps45
        go_wp2_with fail
        go_quiet (first | (go_at_call 43; refine Calls.quiet_of_same (same_sym (ref1_Tok_at a _ _ HTK.out HA.out))))
        go_wp2
        go_ret
        exact ⟨by rw [HR.out]; rfl, fr_drewN HW0.out _⟩
    · have h1I : decide ((a.size : Int) ≤ 64) = false := by simp; omega
      have HR := Lib.hid (show R = false by rw [hE, ble_no h1]; simp)
      clear htk hE
      go_enter Tryz.func45, Tryz.ntmps45
      go_wp2_with fail
      go_quiet (first | (go_at_call 43; refine Calls.quiet_of_same (same_sym (ref1_Tok_at a _ _ HTK.out HA.out))))
      go_wp2
      go_ret
      exact ⟨by rw [HR.out]; rfl, fr_drewN HW0.out _⟩
end Go.Proofs.YthjnmcciejfpcaaGreatDoor
