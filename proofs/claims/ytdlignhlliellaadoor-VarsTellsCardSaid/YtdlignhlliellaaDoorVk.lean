/- slices.Index, Contains over strings; vars.isKept. -/
import Derived.Test.YtdlignhlliellaaDoorVg
import Derived.Test.YtdlignhlliellaaDoorLib
namespace Go.Proofs.YtdlignhlliellaaDoor
set_option linter.unusedVariables false
set_option linter.unusedSimpArgs false
open Go.RowKit

def hasB (l : List ByteArray) (x : ByteArray) : Bool := l.any (eqB x)
set_option maxHeartbeats 1000000 in
theorem sl_Index (A : Option Addr) (n c : Nat) (l : List ByteArray) (x : ByteArray) (w : World) (hn : l.length = n) (hS : Strs w A l) (hn9 : n ≤ 4398046511103) :
    Calls Tryd.prog 57 #[.slice A n c, .string x] w fun e w' => (∃ i : Int, e = .returned (.int .i64 i) ∧ decide (0 ≤ i) = hasB l x) ∧ w = w' := by
  have HN := Lib.hid hn; have HS := Lib.hid hS
  clear hn hS
  go_enter Tryd.func57, Tryd.ntmps57
  go_wp2
  go_loop [8] (fun i => ∃ k : Nat, k ≤ n ∧ i = .int .i64 k ∧ (l.take k).any (eqB x) = false) (fun i => n - (intOf i).toNat)
  case atStart => exact ⟨0, Nat.zero_le _, rfl, rfl⟩
  case round =>
    obtain ⟨k, hk, rfl, hall⟩ := hrel
    have HA := Lib.hid hall; clear hall
    by_cases hlt : k < n
    · have hkl : k < l.length := by have := HN.out; omega
      obtain ⟨b, off, rfl, hbl, hc⟩ := HS.out.at_ hkl
      obtain ⟨y, hy⟩ : ∃ y, l[k] = y := ⟨_, rfl⟩
      rw [hy] at hc
      have HY := Lib.hid hy
      have kI : (k : Int) < (n : Int) := by omega
      have k0 : (0 : Int) ≤ (k : Int) := by omega
      clear hy
      cases hq : eqB x y
      · have HQ := Lib.hid hq
        unfold eqB at hq
        go_wp2
        go_round
        case measure => exact meas hlt .i64 .i64
        case rel => exact ⟨k + 1, by omega, by go_num, by rw [List.take_succ_eq_append_getElem hkl, List.any_append, HA.out, HY.out]; simp [HQ.out]⟩
      · have HQ := Lib.hid hq
        unfold eqB at hq
        go_wp2
        go_ret
        refine ⟨⟨(k : Int), rfl, ?_⟩, rfl⟩
        have : hasB l x = true := List.any_eq_true.2 ⟨y, by rw [← HY.out]; exact List.getElem_mem hkl, HQ.out⟩
        rw [this]; simp
    · have e : l.take k = l := List.take_of_length_le (by have := HN.out; omega)
      have ha := HA.out
      rw [e] at ha
      have HA2 := Lib.hid (show hasB l x = false from ha)
      clear e ha
      go_wp2
      go_ret
      exact ⟨⟨-1, rfl, by rw [HA2.out]; rfl⟩, rfl⟩
theorem sl_Contains (A : Option Addr) (n c : Nat) (l : List ByteArray) (x : ByteArray) (w : World) (hn : l.length = n) (hS : Strs w A l) (hn9 : n ≤ 4398046511103) :
    Calls Tryd.prog 48 #[.slice A n c, .string x] w fun e w' => e = .returned (.bool (hasB l x)) ∧ w = w' := by
  have HC := Lib.hid (sl_Index A n c l x w hn hS hn9)
  clear hn hS hn9
  go_enter Tryd.func48, Tryd.ntmps48
  go_wp2_with fail
  refine HC.out.mono ?_
  rintro e w1 ⟨⟨i, rfl, hi⟩, rfl⟩
  go_wp2
  go_ret
  exact ⟨by first | exact congrArg (fun b => Ending.returned (Value.bool b)) hi | (rw [← hi]; rfl), rfl⟩
def keptL : List ByteArray := [⟨#[97, 117, 116, 104, 111, 114, 105, 122, 97, 116, 105, 111, 110]⟩, ⟨#[99, 111, 110, 110, 101, 99, 116, 105, 111, 110]⟩, ⟨#[99, 111, 110, 116, 101, 110, 116, 45, 108, 101, 110, 103, 116, 104]⟩, ⟨#[99, 111, 110, 116, 101, 110, 116, 45, 116, 121, 112, 101]⟩, ⟨#[104, 111, 115, 116]⟩, ⟨#[112, 114, 111, 120, 121]⟩, ⟨#[116, 114, 97, 110, 115, 102, 101, 114, 45, 101, 110, 99, 111, 100, 105, 110, 103]⟩]
def isKept (s : ByteArray) : Bool := hasB keptL (lowB s)
theorem vars_isKept (s : ByteArray) (w : World) (hs : s.size ≤ 9223372036854775807) :
    Calls Tryd.prog 39 #[.string s] w fun e w' => e = .returned (.bool (isKept s)) ∧ Below w.heap.size w w' := by
  have hS := Strs.new w keptL 9
  have hf := fr_alloc (fr_refl w) (.cells (keptL.map Value.string).toArray 9)
  have HS := Lib.hid hS; have HF := Lib.hid hf
  clear hS hf
  go_enter Tryd.func39, Tryd.ntmps39
  go_wp2_with fail
  refine (octet_Lower s _ hs).mono ?_
  rintro e w1 ⟨rfl, hb1⟩
  have HS1 := Lib.hid (HS.out.fr hb1); have H1 := Lib.hid (fr_trans HF.out hb1)
  clear hb1
  go_wp2_with fail
  refine (sl_Contains _ 7 7 keptL _ _ rfl HS1.out (by decide)).mono ?_
  rintro e w2 ⟨rfl, rfl⟩
  go_wp2
  go_ret
  exact ⟨rfl, H1.out⟩
end Go.Proofs.YtdlignhlliellaaDoor
