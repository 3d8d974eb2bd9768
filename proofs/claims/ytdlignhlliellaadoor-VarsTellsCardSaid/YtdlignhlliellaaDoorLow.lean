/- octet.Lower, conduitref1.Lower: small letters. -/
import Derived.Test.YtdlignhlliellaaDoorBase
import Derived.Test.YtdlignhlliellaaDoorProg
namespace Go.Proofs.YtdlignhlliellaaDoor
set_option linter.unusedVariables false
set_option linter.unusedSimpArgs false
open Go.RowKit

def low (c : UInt8) : UInt8 := if 65 ≤ (c.toNat : Int) ∧ (c.toNat : Int) ≤ 90 then c + 32 else c
def lowL (l : List UInt8) : List UInt8 := l.map low
def lowB (s : ByteArray) : ByteArray := ⟨(lowL s.data.toList).toArray⟩
theorem low_yes {c : UInt8} (h1 : 65 ≤ (c.toNat : Int)) (h2 : (c.toNat : Int) ≤ 90) : ((low c).toNat : Int) = (c.toNat : Int) + 32 := by
  unfold low; rw [if_pos ⟨h1, h2⟩, UInt8.toNat_add]; show (((c.toNat + 32) % 256 : Nat) : Int) = _; omega
theorem low_no {c : UInt8} (h : ¬ (65 ≤ (c.toNat : Int) ∧ (c.toNat : Int) ≤ 90)) : low c = c := by
  unfold low; rw [if_neg h]
theorem lowB_size (s : ByteArray) : (lowB s).size = s.size := by show (lowL s.data.toList).toArray.size = s.data.size; simp [lowL]

def low1 (l : List UInt8) (k : Nat) : List UInt8 := lowL (l.take k) ++ l.drop k
theorem low1_len (l : List UInt8) (k : Nat) : (low1 l k).length = l.length := by simp [low1, lowL]; omega
theorem low1_at {l : List UInt8} {k : Nat} (h : k < l.length) : (low1 l k)[k]'(by rw [low1_len]; exact h) = l[k] := by
  simp [low1, lowL, List.getElem_append, Nat.min_eq_left (Nat.le_of_lt h)]
theorem low1_succ {l : List UInt8} {k : Nat} (h : k < l.length) : low1 l (k + 1) = (low1 l k).set k (low l[k]) := by
  apply List.ext_getElem
  · simp [low1_len]
  · intro i h1 h2
    have hi : i < l.length := by rw [low1_len] at h1; exact h1
    simp only [low1, lowL, List.getElem_append, List.getElem_map, List.getElem_take, List.getElem_drop, List.length_map, List.length_take, List.getElem_set]
    by_cases e : k = i
    · subst e; rw [dif_pos (by omega)]; simp
    · rw [if_neg e]
      by_cases e2 : i < k
      · rw [dif_pos (by omega), dif_pos (by omega)]
      · rw [dif_neg (by omega), dif_neg (by omega)]; congr 1; omega
theorem low1_same {l : List UInt8} {k : Nat} (h : k < l.length) (hc : low l[k] = l[k]) : low1 l (k + 1) = low1 l k := by
  rw [low1_succ h, hc]
  have : (low1 l k)[k]'(by rw [low1_len]; exact h) = l[k] := low1_at h
  rw [← this, List.set_getElem_self]
theorem low1_all {l : List UInt8} {k n : Nat} (h : l.length = n) (hk : k = n) : low1 l k = lowL l := by
  simp only [low1]; rw [List.take_of_length_le (by omega), List.drop_of_length_le (by omega), List.append_nil]

set_option maxHeartbeats 400000 in
theorem ref1_Lower (s : ByteArray) (w : World) (hs : s.size ≤ 9223372036854775807) :
    Calls Tryd.prog 32 #[.string s] w fun e w' => e = .returned (.string (lowB s)) ∧ Below w.heap.size w w' := by
  have hconv := run_bytes_of_string (P := Tryd.prog) w 9 68 5 s Tryd.underlying9 Tryd.underlying68 Tryd.underlying5
  obtain ⟨l, hl⟩ : ∃ l, l = s.data.toList := ⟨_, rfl⟩
  have hsz : l.length = s.size := by rw [hl]; rfl
  have HZ := Lib.hid hsz; clear hsz
  have HL := Lib.hid hl; clear hl
  go_enter Tryd.func32, Tryd.ntmps32
  go_wp2
  go_loopw [4] (fun i wr => ∃ k : Nat, k ≤ s.size ∧ i = .int .i64 k ∧ Below w.heap.size w wr ∧ Buf wr w.heap.size (low1 l k)) (fun i _ => s.size - (intOf i).toNat)
  case atStart => exact ⟨0, Nat.zero_le _, rfl, fr_drew (fr_alloc (fr_refl _) _), by rw [HL.out]; exact (Buf.new w s _ _).drew⟩
  case round =>
    obtain ⟨k, hk, rfl, hb, hbuf⟩ := hrel
    by_cases hlt : k < s.size
    · have hlt' : k < l.length := by rw [HZ.out]; exact hlt
      obtain ⟨hc, hf⟩ := hbuf.2 k (by rw [low1_len]; exact hlt')
      rw [low1_at hlt'] at hc
      have H := Lib.hid hbuf; clear hbuf hconv
      go_wp2
      all_goals go_roundw
      case measure => exact meas hlt _ _
      case rel => exact ⟨k + 1, by omega, by go_num, fr_set hb (Nat.le_refl _) _, by rw [low1_succ hlt']; exact H.out.set (by rw [low1_len]; exact hlt') (low_yes ‹_› ‹_›).symm⟩
      case measure => exact meas hlt _ _
      case rel => exact ⟨k + 1, by omega, by go_num, hb, by rw [low1_same hlt' (low_no (by omega))]; exact H.out⟩
      case measure => exact meas hlt _ _
      case rel => exact ⟨k + 1, by omega, by go_num, hb, by rw [low1_same hlt' (low_no (by omega))]; exact H.out⟩
    · have hback := hbuf.back (P := Tryd.prog) (n := s.size) (by rw [low1_len]; exact HZ.out) 68 9 5 (grownCap w s.size 0 5) Tryd.underlying68 Tryd.underlying5 Tryd.underlying9
      rw [low1_all HZ.out (by omega)] at hback
      clear hbuf hconv
      go_wp2
      go_ret
      exact ⟨by rw [HL.out]; rfl, hb⟩

set_option maxHeartbeats 400000 in
theorem octet_Lower (s : ByteArray) (w : World) (hs : s.size ≤ 9223372036854775807) :
    Calls Tryd.prog 47 #[.string s] w fun e w' => e = .returned (.string (lowB s)) ∧ Below w.heap.size w w' := by
  have hconv := run_bytes_of_string (P := Tryd.prog) w 9 68 5 s Tryd.underlying9 Tryd.underlying68 Tryd.underlying5
  obtain ⟨l, hl⟩ : ∃ l, l = s.data.toList := ⟨_, rfl⟩
  have hsz : l.length = s.size := by rw [hl]; rfl
  have HZ := Lib.hid hsz; clear hsz
  have HL := Lib.hid hl; clear hl
  go_enter Tryd.func47, Tryd.ntmps47
  go_wp2
  go_loopw [10] (fun i wr => ∃ k : Nat, k ≤ s.size ∧ i = .int .i64 k ∧ Below w.heap.size w wr ∧ Buf wr w.heap.size (low1 l k)) (fun i _ => s.size - (intOf i).toNat)
  case atStart => exact ⟨0, Nat.zero_le _, rfl, fr_drew (fr_alloc (fr_refl _) _), by rw [HL.out]; exact (Buf.new w s _ _).drew⟩
  case round =>
    obtain ⟨k, hk, rfl, hb, hbuf⟩ := hrel
    by_cases hlt : k < s.size
    · have hlt' : k < l.length := by rw [HZ.out]; exact hlt
      obtain ⟨hc, hf⟩ := hbuf.2 k (by rw [low1_len]; exact hlt')
      rw [low1_at hlt'] at hc
      have H := Lib.hid hbuf; clear hbuf hconv
      go_wp2
      all_goals go_roundw
      case measure => exact meas hlt _ _
      case rel => exact ⟨k + 1, by omega, by go_num, fr_set hb (Nat.le_refl _) _, by rw [low1_succ hlt']; exact H.out.set (by rw [low1_len]; exact hlt') (by rw [low_yes ‹_› ‹_›]; omega)⟩
      case measure => exact meas hlt _ _
      case rel => exact ⟨k + 1, by omega, by go_num, hb, by rw [low1_same hlt' (low_no (by omega))]; exact H.out⟩
      case measure => exact meas hlt _ _
      case rel => exact ⟨k + 1, by omega, by go_num, hb, by rw [low1_same hlt' (low_no (by omega))]; exact H.out⟩
    · have hback := hbuf.back (P := Tryd.prog) (n := s.size) (by rw [low1_len]; exact HZ.out) 68 9 5 (grownCap w s.size 0 5) Tryd.underlying68 Tryd.underlying5 Tryd.underlying9
      rw [low1_all HZ.out (by omega)] at hback
      clear hbuf hconv
      go_wp2
      go_ret
      exact ⟨by rw [HL.out]; rfl, hb⟩
end Go.Proofs.YtdlignhlliellaaDoor
