/- field.isValue, name, value, Is. -/
import Derived.Test.YthjnmcciejfpcaaGreatDoorMC
import Derived.Deep.RegionHeld3
import Derived.Deep.DeepCutAuto
import Derived.Deep.QuietTactic
import Derived.BigQuiet
namespace Go.Proofs.YthjnmcciejfpcaaGreatDoor
set_option linter.unusedVariables false
set_option linter.unusedSimpArgs false
open Go.RowKit

def valB (c : UInt8) : Bool := c == 9 || (decide (32 ≤ (c.toNat : Int)) && !(c == 127))
theorem valB_eq (c : UInt8) : valB c = (((c.toNat : Int) == 9) || (decide (32 ≤ (c.toNat : Int)) && !((c.toNat : Int) == 127))) := by
  unfold valB
  have h : ∀ d : UInt8, (c == d) = ((c.toNat : Int) == (d.toNat : Int)) := fun d => by
    rw [Bool.eq_iff_iff, beq_iff_eq, beq_iff_eq]
    constructor
    · rintro rfl; rfl
    · intro h; exact UInt8.toNat_inj.1 (by omega)
  rw [h 9, h 127]; rfl
theorem fld_isValue (c : UInt8) (w : World) : Calls Tryz.prog 79 #[.int .u8 (c.toNat : Int)] w fun e w' => e = .returned (.bool (valB c)) ∧ w = w' := by
  have HE := Lib.hid (valB_eq c)
  obtain ⟨n, hn⟩ : ∃ n : Int, (c.toNat : Int) = n := ⟨_, rfl⟩
  rw [hn] at HE ⊢
  by_cases h9 : n = 9
  · subst h9
    go_enter Tryz.func79, Tryz.ntmps79
    go_wp2
    go_ret
    exact ⟨by rw [HE.out]; rfl, rfl⟩
  · by_cases h32 : n < 32
    · have hq : ¬ 32 ≤ n := by omega
      go_enter Tryz.func79, Tryz.ntmps79
      go_wp2
      go_ret
      exact ⟨by rw [HE.out]; simp [h9]; intro h; omega, rfl⟩
    · have hq : 32 ≤ n := by omega
      by_cases h127 : n = 127
      · subst h127
        go_enter Tryz.func79, Tryz.ntmps79
        go_wp2
        go_ret
        exact ⟨by rw [HE.out]; rfl, rfl⟩
      · have k1 : (n == 9) = false := by simp; omega
        have k2 : (n == 127) = false := by simp; omega
        go_enter Tryz.func79, Tryz.ntmps79
        go_wp2
        go_ret
        exact ⟨by rw [HE.out]; simp [k1, k2, hq], rfl⟩
def nameE (s : ByteArray) : Int := if allB isTokB s = false then 10 else if 64 < s.size then 12 else 0
def valE (s : ByteArray) : Int := if (L s).all valB = false then 10 else if 512 < s.size then 12 else 0
def fieldOk (a b : ByteArray) : Bool := nameE a == 0 && valE b == 0 && eqB (octTrim b) b
theorem fld_name (s : ByteArray) (w : World) (hs : s.size ≤ 9223372036854775807) : Calls Tryz.prog 54 #[.string s] w fun e w' => e = .returned (errV (nameE s)) ∧ w = w' := by
  cases hq : allB isTokB s
  · have he : nameE s = 10 := by unfold nameE; rw [hq]; rfl
    rw [he]; clear he
    have HQ := Lib.hid hq; clear hq
    go_enter Tryz.func54, Tryz.ntmps54
    go_wp2_with fail
    refine (oct_Token s _ hs).mono ?_
    rintro e w1 ⟨rfl, rfl⟩
    rw [HQ.out]
    go_wp2
    go_ret
    exact ⟨rfl, rfl⟩
  · have HQ := Lib.hid hq
    by_cases h64 : 64 < s.size
    · have he : nameE s = 12 := by unfold nameE; rw [hq, if_neg (by decide), if_pos h64]
      rw [he]; clear he hq
      have h64I : (64 : Int) < (s.size : Int) := by omega
      go_enter Tryz.func54, Tryz.ntmps54
      go_wp2_with fail
      refine (oct_Token s _ hs).mono ?_
      rintro e w1 ⟨rfl, rfl⟩
      rw [HQ.out]
      go_wp2
      go_ret
      exact ⟨rfl, rfl⟩
    · have he : nameE s = 0 := by unfold nameE; rw [hq, if_neg (by decide), if_neg h64]
      rw [he]; clear he hq
      have h64I : (s.size : Int) ≤ 64 := by omega
      go_enter Tryz.func54, Tryz.ntmps54
      go_wp2_with fail
      refine (oct_Token s _ hs).mono ?_
      rintro e w1 ⟨rfl, rfl⟩
      rw [HQ.out]
      go_wp2
      go_ret
      exact ⟨rfl, rfl⟩
set_option maxHeartbeats 1000000 in
theorem fld_value (s : ByteArray) (w : World) (hs : s.size ≤ 9223372036854775807) : Calls Tryz.prog 55 #[.string s] w fun e w' => e = .returned (errV (valE s)) ∧ w = w' := by
  have hlen : (L s).length = s.size := rfl
  obtain ⟨l, hl⟩ : ∃ l, L s = l := ⟨_, rfl⟩
  rw [hl] at hlen
  have he : valE s = if l.all valB = false then 10 else if 512 < s.size then 12 else 0 := by unfold valE; rw [hl]
  have HE := Lib.hid he; have HL := Lib.hid hl; have HN := Lib.hid hlen
  clear he hlen hl
  go_enter Tryz.func55, Tryz.ntmps55
  go_wp2
  go_loop [6] (fun i => ∃ k : Nat, k ≤ s.size ∧ i = .int .i64 k ∧ (l.take k).all valB = true) (fun i => s.size - (intOf i).toNat)
  case atStart => exact ⟨0, Nat.zero_le _, rfl, rfl⟩
  case round =>
    obtain ⟨k, hk, rfl, hall⟩ := hrel
    by_cases hlt : k < s.size
    · have hkl : k < l.length := by have := HN.out; omega
      have hat : l[k] = s[k] := by have := HL.out; subst this; rfl
      obtain ⟨c, hc⟩ : ∃ c, s[k] = c := ⟨_, rfl⟩
      rw [hc] at hat
      have HA := Lib.hid hall; have HAT := Lib.hid hat; clear hall hat
      go_wp2_with fail
      refine (fld_isValue c _).mono ?_
      rintro e w1 ⟨rfl, rfl⟩
      cases hq : valB c
      · have HQ := Lib.hid hq
        go_wp2
        go_ret
        exact ⟨by rw [HE.out, all_drop hkl HA.out (by rw [HAT.out]; exact HQ.out)]; rfl, rfl⟩
      · have HQ := Lib.hid hq
        go_wp2
        go_round
        case measure => exact meas hlt .i64 .i64
        case rel => exact ⟨k + 1, by omega, by go_num, all_succ hkl HA.out (by rw [HAT.out]; exact HQ.out)⟩
    · have e : l.take k = l := List.take_of_length_le (by have := HN.out; omega)
      rw [e] at hall
      have HA := Lib.hid hall; clear hall e
      by_cases h512 : 512 < s.size
      · have hI : (512 : Int) < (s.size : Int) := by omega
        go_wp2
        go_ret
        exact ⟨by rw [HE.out, HA.out, if_neg (by decide), if_pos h512]; rfl, rfl⟩
      · have hI : (s.size : Int) ≤ 512 := by omega
        go_wp2
        go_ret
        exact ⟨by rw [HE.out, HA.out, if_neg (by decide), if_neg h512]; rfl, rfl⟩
theorem nameE_cases (s : ByteArray) : nameE s = 10 ∨ nameE s = 12 ∨ nameE s = 0 := by unfold nameE; split <;> (try split) <;> simp
theorem valE_cases (s : ByteArray) : valE s = 10 ∨ valE s = 12 ∨ valE s = 0 := by unfold valE; split <;> (try split) <;> simp
theorem fld_name_at (s : ByteArray) (n : Int) (w : World) (hn : nameE s = n) (hs : s.size ≤ 9223372036854775807) : Calls Tryz.prog 54 #[.string s] w fun e w' => e = .returned (errV n) ∧ w = w' := hn ▸ fld_name s w hs
theorem fld_value_at (s : ByteArray) (n : Int) (w : World) (hn : valE s = n) (hs : s.size ≤ 9223372036854775807) : Calls Tryz.prog 55 #[.string s] w fun e w' => e = .returned (errV n) ∧ w = w' := hn ▸ fld_value s w hs
theorem same_sym {P : Program} {f : FuncId} {args : Array Value} {w : World} {v : Value} (h : Calls P f args w fun e w' => e = .returned v ∧ w = w') : Calls P f args w fun e w' => e = .returned v ∧ w' = w := h.mono fun _ _ ⟨a, b⟩ => ⟨a, b.symm⟩
theorem fld_name_0 (s : ByteArray) (w : World) (hn : nameE s = 0) (hs : s.size ≤ 9223372036854775807) : Calls Tryz.prog 54 #[.string s] w fun e w' => e = .returned .nilIface ∧ w = w' := by
  have := fld_name s w hs; rw [hn] at this; exact this
theorem fld_name_n (s : ByteArray) (n : Int) (w : World) (hn : nameE s = n) (h0 : n ≠ 0) (hs : s.size ≤ 9223372036854775807) : Calls Tryz.prog 54 #[.string s] w fun e w' => e = .returned (.iface 31 (.int .i64 n)) ∧ w = w' := by
  have := fld_name s w hs; rw [hn] at this; unfold errV at this; rw [if_neg h0] at this; exact this
theorem fld_value_0 (s : ByteArray) (w : World) (hn : valE s = 0) (hs : s.size ≤ 9223372036854775807) : Calls Tryz.prog 55 #[.string s] w fun e w' => e = .returned .nilIface ∧ w = w' := by
  have := fld_value s w hs; rw [hn] at this; exact this
theorem fld_value_n (s : ByteArray) (n : Int) (w : World) (hn : valE s = n) (h0 : n ≠ 0) (hs : s.size ≤ 9223372036854775807) : Calls Tryz.prog 55 #[.string s] w fun e w' => e = .returned (.iface 31 (.int .i64 n)) ∧ w = w' := by
  have := fld_value s w hs; rw [hn] at this; unfold errV at this; rw [if_neg h0] at this; exact this
set_option maxHeartbeats 2000000 in
theorem fld_Is (a b : ByteArray) (w : World) (ha : a.size ≤ 9223372036854775807) (hb : b.size ≤ 9223372036854775807) :
    Calls Tryz.prog 39 #[.agg #[.string a, .string b]] w fun e w' => e = .returned (.bool (fieldOk a b)) ∧ Below w.heap.size w w' := by
  have hw0 := fr_alloc (fr_refl w) (.cells #[.string a, .string b] 77)
  have HW := Lib.hid (fr_drew hw0)
  have HW0 := Lib.hid hw0
  have HB0 := Lib.hid (Box.new w [.string a, .string b] 77)
  have hE : fieldOk a b = (nameE a == 0 && valE b == 0 && eqB (octTrim b) b) := rfl
  have HE := Lib.hid hE
  clear hw0 hE
  have b0 : (w.alloc (.cells #[.string a, .string b] 77)).cell? ⟨w.heap.size, 0, none⟩ = some (.string a) := HB0.out.2 0 _ rfl
  have b1 : (w.alloc (.cells #[.string a, .string b] 77)).cell? ⟨w.heap.size, 1, none⟩ = some (.string b) := HB0.out.2 1 _ rfl
  have d0 : (w.alloc (.cells #[.string a, .string b] 77)).drew.cell? ⟨w.heap.size, 0, none⟩ = some (.string a) := b0
  have d1 : (w.alloc (.cells #[.string a, .string b] 77)).drew.cell? ⟨w.heap.size, 1, none⟩ = some (.string b) := b1
  by_cases h : nameE a = 0
  · have HH := Lib.hid h; clear h
    by_cases h : valE b = 0
    · have HV := Lib.hid h; clear h
      go_enter Tryz.func39, Tryz.ntmps39
      go_wp2_with fail
      go_region_held3 (fun w' => w'.cell? ⟨w.heap.size, 0, none⟩ = some (.string a) ∧ w'.cell? ⟨w.heap.size, 1, none⟩ = some (.string b)) (first | exact ⟨b0, b1⟩ | exact ⟨d0, d1⟩ | exact ⟨fr_cell hb1 d0, fr_cell hb1 d1⟩)
        (first
        | (go_at_call 54; refine (fld_name_0 a _ HH.out ha).mono ?_; rintro e wq ⟨rfl, rfl⟩)
        | (go_at_call 55; refine (fld_value_0 b _ HV.out hb).mono ?_; rintro e wq ⟨rfl, rfl⟩)
        | (go_at_call 56; refine (oct_Trim b _ hb).mono ?_; rintro e w1 ⟨rfl, hb1⟩))
      all_goals
        go_wp2
        go_ret
        exact ⟨by rw [HE.out, HH.out, HV.out]; rfl, fr_trans HW.out hb1⟩
    · have HV := Lib.hid h
      have hv0 : (valE b == 0) = false := by simpa using h
      have HV0 := Lib.hid hv0; clear h hv0
      obtain ⟨n, hn⟩ : ∃ n, valE b = n := ⟨_, rfl⟩
      have hn0 : n ≠ 0 := by rw [← hn]; exact HV.out
      have HN := Lib.hid hn; have HN0 := Lib.hid hn0; clear hn hn0
      go_enter Tryz.func39, Tryz.ntmps39
      go_wp2_with fail
      go_quiet
        (first
        | (go_at_call 54; refine Calls.quiet_of_same (same_sym (fld_name_0 a _ HH.out ha)))
        | (go_at_call 55; refine Calls.quiet_of_same (same_sym (fld_value_n b n _ HN.out HN0.out hb))))
      go_wp2
      go_ret
      exact ⟨by rw [HE.out, HH.out, HV0.out]; rfl, fr_drewN HW0.out _⟩
  · have hv0 : (nameE a == 0) = false := by simpa using h
    obtain ⟨n, hn⟩ : ∃ n, nameE a = n := ⟨_, rfl⟩
    have hn0 : n ≠ 0 := by rw [← hn]; exact h
    have HN := Lib.hid hn; have HN0 := Lib.hid hn0; have HV0 := Lib.hid hv0; clear hn hn0 h hv0
    go_enter Tryz.func39, Tryz.ntmps39
    go_wp2_with fail
    go_quiet
      (first
      | (go_at_call 54; refine Calls.quiet_of_same (same_sym (fld_name_n a n _ HN.out HN0.out ha))))
    go_wp2
    go_ret
    exact ⟨by rw [HE.out, HV0.out]; rfl, fr_drewN HW0.out _⟩
end Go.Proofs.YthjnmcciejfpcaaGreatDoor
