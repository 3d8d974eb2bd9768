/- conduitref6.target. -/
import Derived.Test.YtdagppbpeibdgaaDoorRS
namespace Go.Proofs.YtdagppbpeibdgaaDoor
set_option linter.unusedVariables false
set_option linter.unusedSimpArgs false
open Go.RowKit

def tarR (m t : ByteArray) : Bool := !(targE m t == 10)
theorem tarB_or (c : UInt8) : tarB c = !((decide ((c.toNat : Int) < 33) || decide (126 < (c.toNat : Int))) || ((c.toNat : Int) == 35)) := by
  unfold tarB
  generalize (c.toNat : Int) = n
  by_cases h1 : n < 33
  · simp [h1]; omega
  · by_cases h2 : 126 < n
    · simp [h1, h2]; omega
    · have k1 : 33 ≤ n := by omega
      have k2 : n ≤ 126 := by omega
      simp [h1, h2, k1, k2]
theorem prefix_one (t : ByteArray) (c : UInt8) : Lib.hasPrefix (L t) [c] = if h : 0 < t.size then t[0] == c else false := by
  by_cases h : 0 < t.size
  · rw [dif_pos h]
    have e : L t = t[0] :: (L t).drop 1 := List.drop_eq_getElem_cons (show 0 < (L t).length from h)
    rw [e]
    simp [Lib.hasPrefix, Bool.beq_comm]
    simp [List.isPrefixOf, Bool.beq_comm]
  · rw [dif_neg h]
    have : L t = [] := List.eq_nil_of_length_eq_zero (by rw [L_len]; omega)
    rw [this]; rfl
set_option maxRecDepth 100000 in
set_option maxHeartbeats 2000000 in
theorem ref6_target (m t : ByteArray) (w : World) (hs : t.size ≤ 1000000000) :
    Calls Tryd.prog 55 #[.string m, .string t] w fun e w' => e = .returned (.bool (tarR m t)) ∧ w = w' := by
  cases h42 : (L t == [42])
  · have hU : tarR m t = (Lib.hasPrefix (L t) [47] && (L t).all tarB) := by
      unfold tarR targE; rw [h42]
      cases h1 : Lib.hasPrefix (L t) [47] <;> cases h2 : (L t).all tarB <;> (simp; try (split <;> simp))
    rw [prefix_one] at hU
    have h42' : (t.toList == [42]) = false := by rw [toList_L]; exact h42
    have hlen : (L t).length = t.size := rfl
    obtain ⟨l, hl⟩ : ∃ l, L t = l := ⟨_, rfl⟩
    rw [hl] at hlen hU
    have HL := Lib.hid hl; have HU := Lib.hid hU; have HN := Lib.hid hlen
    clear hl hU hlen h42
    go_enter Tryd.func55, Tryd.ntmps55
    go_wp2
    go_loop [5] (fun i => ∃ k : Nat, k ≤ t.size ∧ i = .int .i64 k ∧ (l.take k).all tarB = true) (fun i => t.size - (intOf i).toNat)
    case atStart => exact ⟨0, Nat.zero_le _, rfl, rfl⟩
    case round =>
      obtain ⟨k, hk, rfl, hall⟩ := hrel
      by_cases hlt : k < t.size
      · have hkl : k < l.length := by have := HN.out; omega
        have hat : l[k] = t[k] := by have := HL.out; subst this; rfl
        obtain ⟨c, hc⟩ : ∃ c, t[k] = c := ⟨_, rfl⟩
        rw [hc] at hat
        have HA := Lib.hid hall; have HAT := Lib.hid hat; clear hall hat
        have hv := tarB_or c
        have hbad : tarB c = false → tarR m t = false := fun h => by
          rw [HU.out, all_drop hkl HA.out (by rw [HAT.out]; exact h), Bool.and_false]
        have HBAD := Lib.hid hbad; clear hbad
        by_cases h1 : (c.toNat : Int) < 33
        · have HQ := Lib.hid (HBAD.out (by rw [hv]; simp [h1]))
          clear hv
          go_wp2
          all_goals
            go_ret
            exact ⟨by rw [HQ.out]; rfl, rfl⟩
        · by_cases h2 : 126 < (c.toNat : Int)
          · have HQ := Lib.hid (HBAD.out (by rw [hv]; simp [h2]))
            clear hv
            go_wp2
            all_goals
              go_ret
              exact ⟨by rw [HQ.out]; rfl, rfl⟩
          · cases h35 : ((c.toNat : Int) == 35)
            · have hq : tarB c = true := by rw [hv, h35]; simp [h1, h2]
              have HQ := Lib.hid hq
              clear hv hq
              go_wp2
              go_round
              case measure => exact meas hlt .i64 .i64
              case rel => exact ⟨k + 1, by omega, by go_num, all_succ hkl HA.out (by rw [HAT.out]; exact HQ.out)⟩
            · have HQ := Lib.hid (HBAD.out (by rw [hv, h35]; simp))
              clear hv
              go_wp2
              all_goals
                go_ret
                exact ⟨by rw [HQ.out]; rfl, rfl⟩
      · have e : l.take k = l := List.take_of_length_le (by have := HN.out; omega)
        rw [e] at hall
        have HA := Lib.hid hall; clear hall e
        by_cases h0 : 0 < t.size
        · have h0I : (0 : Int) < (t.size : Int) := by omega
          obtain ⟨c, hc⟩ : ∃ c, t[0] = c := ⟨_, rfl⟩
          have he : tarR m t = (c == 47) := by rw [HU.out, HA.out, Bool.and_true, dif_pos h0, hc]
          have HE := Lib.hid he; clear he
          cases h47 : ((c.toNat : Int) == 47)
          · have hq : (c == 47) = false := by
              rw [beq_eq_false_iff_ne] at h47 ⊢
              intro h; exact h47 (by rw [h]; rfl)
            have HQ := Lib.hid hq; clear hq
            go_wp2
            go_ret
            exact ⟨by rw [HE.out, HQ.out]; rfl, rfl⟩
          · have hq : (c == 47) = true := by
              rw [beq_iff_eq] at h47 ⊢
              exact UInt8.toNat_inj.1 (by show c.toNat = 47; omega)
            have HQ := Lib.hid hq; clear hq
            go_wp2
            go_ret
            exact ⟨by rw [HE.out, HQ.out]; rfl, rfl⟩
        · have h0I : ¬ (0 : Int) < (t.size : Int) := by omega
          have he : tarR m t = false := by rw [HU.out, dif_neg h0]; rfl
          have HE := Lib.hid he; clear he
          go_wp2
          go_ret
          exact ⟨by rw [HE.out]; rfl, rfl⟩
  · have hU : tarR m t = (m.toList == [79, 80, 84, 73, 79, 78, 83]) := by
      unfold tarR targE; rw [h42, toList_L]
      have : L t = [42] := beq_iff_eq.1 h42
      rw [this]
      cases h : (L m == [79, 80, 84, 73, 79, 78, 83])
      · rfl
      · rfl
    have h42' : (t.toList == [42]) = true := by rw [toList_L]; exact h42
    have HU := Lib.hid hU; clear hU h42
    go_enter Tryd.func55, Tryd.ntmps55
    go_wp2
    go_ret
    exact ⟨by rw [HU.out]; rfl, rfl⟩
end Go.Proofs.YtdagppbpeibdgaaDoor
