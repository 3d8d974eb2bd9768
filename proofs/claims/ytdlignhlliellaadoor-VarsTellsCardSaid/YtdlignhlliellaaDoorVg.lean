/- vars.great, Name: a name in great letters. -/
import Derived.Test.YtdlignhlliellaaDoorLow
namespace Go.Proofs.YtdlignhlliellaaDoor
set_option linter.unusedVariables false
set_option linter.unusedSimpArgs false
open Go.RowKit

def gr (c : UInt8) : UInt8 := if 97 ≤ (c.toNat : Int) ∧ (c.toNat : Int) ≤ 122 then c - 32 else if (65 ≤ (c.toNat : Int) ∧ (c.toNat : Int) ≤ 90) ∨ (48 ≤ (c.toNat : Int) ∧ (c.toNat : Int) ≤ 57) then c else 95
def greatB (s : ByteArray) : ByteArray := ⟨(s.data.toList.map gr).toArray⟩
theorem gr_a {c : UInt8} (h1 : 97 ≤ (c.toNat : Int)) (h2 : (c.toNat : Int) ≤ 122) : ((gr c).toNat : Int) = (c.toNat : Int) - 32 := by
  unfold gr; rw [if_pos ⟨h1, h2⟩, UInt8.toNat_sub]; show (((2 ^ 8 - 32 + c.toNat) % 2 ^ 8 : Nat) : Int) = _; omega
theorem gr_k {c : UInt8} (h : (65 ≤ (c.toNat : Int) ∧ (c.toNat : Int) ≤ 90) ∨ (48 ≤ (c.toNat : Int) ∧ (c.toNat : Int) ≤ 57)) : gr c = c := by
  unfold gr; rw [if_neg (by omega), if_pos h]
theorem gr_d {c : UInt8} (h0 : ¬ (97 ≤ (c.toNat : Int) ∧ (c.toNat : Int) ≤ 122)) (h : ¬ ((65 ≤ (c.toNat : Int) ∧ (c.toNat : Int) ≤ 90) ∨ (48 ≤ (c.toNat : Int) ∧ (c.toNat : Int) ≤ 57))) : ((gr c).toNat : Int) = 95 := by
  unfold gr; rw [if_neg h0, if_neg h]; rfl
theorem greatB_size (s : ByteArray) : (greatB s).size = s.size := by show (s.data.toList.map gr).toArray.size = s.data.size; simp
def map1 (l : List UInt8) (k : Nat) : List UInt8 := (l.take k).map gr ++ l.drop k
theorem map1_len (l : List UInt8) (k : Nat) : (map1 l k).length = l.length := by simp [map1]; omega
theorem map1_at {l : List UInt8} {k : Nat} (h : k < l.length) : (map1 l k)[k]'(by rw [map1_len]; exact h) = l[k] := by
  simp [map1, List.getElem_append, Nat.min_eq_left (Nat.le_of_lt h)]
theorem map1_succ {l : List UInt8} {k : Nat} (h : k < l.length) : map1 l (k + 1) = (map1 l k).set k (gr l[k]) := by
  apply List.ext_getElem
  · simp [map1_len]
  · intro i h1 h2
    have hi : i < l.length := by rw [map1_len] at h1; exact h1
    simp only [map1, List.getElem_append, List.getElem_map, List.getElem_take, List.getElem_drop, List.length_map, List.length_take, List.getElem_set]
    by_cases e : k = i
    · subst e; rw [dif_pos (by omega)]; simp
    · rw [if_neg e]
      by_cases e2 : i < k
      · rw [dif_pos (by omega), dif_pos (by omega)]
      · rw [dif_neg (by omega), dif_neg (by omega)]; congr 1; omega
theorem map1_same {l : List UInt8} {k : Nat} (h : k < l.length) (hc : gr l[k] = l[k]) : map1 l (k + 1) = map1 l k := by
  rw [map1_succ h, hc]
  have : (map1 l k)[k]'(by rw [map1_len]; exact h) = l[k] := map1_at h
  rw [← this, List.set_getElem_self]
theorem map1_all {l : List UInt8} {k n : Nat} (h : l.length = n) (hk : k = n) : map1 l k = l.map gr := by
  simp only [map1]; rw [List.take_of_length_le (by omega), List.drop_of_length_le (by omega), List.append_nil]
set_option maxHeartbeats 1000000 in
theorem vars_great (s : ByteArray) (w : World) (hs : s.size ≤ 9223372036854775807) :
    Calls Tryd.prog 20 #[.string s] w fun e w' => e = .returned (.string (greatB s)) ∧ Below w.heap.size w w' := by
  have hconv := run_bytes_of_string (P := Tryd.prog) w 9 68 5 s Tryd.underlying9 Tryd.underlying68 Tryd.underlying5
  obtain ⟨l, hl⟩ : ∃ l, l = s.data.toList := ⟨_, rfl⟩
  have hsz : l.length = s.size := by rw [hl]; rfl
  have HZ := Lib.hid hsz; clear hsz
  have HL := Lib.hid hl; clear hl
  go_enter Tryd.func20, Tryd.ntmps20
  go_wp2
  go_loopw [10] (fun i wr => ∃ k : Nat, k ≤ s.size ∧ i = .int .i64 k ∧ Below w.heap.size w wr ∧ Buf wr w.heap.size (map1 l k)) (fun i _ => s.size - (intOf i).toNat)
  case atStart => exact ⟨0, Nat.zero_le _, rfl, fr_drew (fr_alloc (fr_refl _) _), by rw [HL.out]; exact (Buf.new w s _ _).drew⟩
  case round =>
    obtain ⟨k, hk, rfl, hb, hbuf⟩ := hrel
    by_cases hlt : k < s.size
    · have hlt' : k < l.length := by rw [HZ.out]; exact hlt
      obtain ⟨hc, hf⟩ := hbuf.2 k (by rw [map1_len]; exact hlt')
      rw [map1_at hlt'] at hc
      have H := Lib.hid hbuf; clear hbuf hconv
      have HS := Lib.hid (map1_succ hlt'); have HM := Lib.hid (fun h => map1_same hlt' h)
      have HLN := Lib.hid (show k < (map1 l k).length by rw [map1_len]; exact hlt')
      obtain ⟨c, hcc⟩ : ∃ c, l[k] = c := ⟨_, rfl⟩
      rw [hcc] at hc HS HM
      clear hcc hlt'
      have hcs : (97 ≤ (c.toNat : Int) ∧ (c.toNat : Int) ≤ 122) ∨ (¬ (97 ≤ (c.toNat : Int) ∧ (c.toNat : Int) ≤ 122) ∧ ((65 ≤ (c.toNat : Int) ∧ (c.toNat : Int) ≤ 90) ∨ (48 ≤ (c.toNat : Int) ∧ (c.toNat : Int) ≤ 57))) ∨ (¬ (97 ≤ (c.toNat : Int) ∧ (c.toNat : Int) ≤ 122) ∧ ¬ ((65 ≤ (c.toNat : Int) ∧ (c.toNat : Int) ≤ 90) ∨ (48 ≤ (c.toNat : Int) ∧ (c.toNat : Int) ≤ 57))) := by omega
      rcases hcs with ⟨h1, h2⟩ | ⟨h0, h1⟩ | ⟨h0, h1⟩
      · have HV := Lib.hid (gr_a h1 h2)
        go_wp2
        go_roundw
        case measure => exact meas hlt _ _
        case rel => exact ⟨k + 1, by omega, by go_num, fr_set hb (Nat.le_refl _) _, by rw [HS.out]; exact H.out.set HLN.out (by rw [HV.out]; omega)⟩
      · have HV := Lib.hid (HM.out (gr_k h1))
        go_wp2
        all_goals first | (exfalso; omega) | skip
        all_goals go_roundw
        all_goals first | exact meas hlt _ _ | exact ⟨k + 1, by omega, by go_num, hb, by rw [HV.out]; exact H.out⟩
      · have HV := Lib.hid (gr_d h0 h1)
        go_wp2
        all_goals first | (exfalso; omega) | skip
        all_goals go_roundw
        all_goals first | exact meas hlt _ _ | exact ⟨k + 1, by omega, by go_num, fr_set hb (Nat.le_refl _) _, by rw [HS.out]; exact H.out.set HLN.out (by rw [HV.out])⟩
    · have hback := hbuf.back (P := Tryd.prog) (n := s.size) (by rw [map1_len]; exact HZ.out) 68 9 5 (grownCap w s.size 0 5) Tryd.underlying68 Tryd.underlying5 Tryd.underlying9
      rw [map1_all HZ.out (by omega)] at hback
      clear hbuf hconv
      go_wp2
      go_ret
      exact ⟨by rw [HL.out]; rfl, hb⟩
theorem vars_Name (s : ByteArray) (w : World) (hs : s.size ≤ 9000000000000000000) :
    Calls Tryd.prog 9 #[.string s] w fun e w' => e = .returned (.string (⟨#[72, 84, 84, 80, 95]⟩ ++ greatB s)) ∧ Below w.heap.size w w' := by
  have hz := greatB_size s
  have HG := Lib.hid (fun W => vars_great s W (by omega))
  obtain ⟨x, hx⟩ : ∃ x, greatB s = x := ⟨_, rfl⟩
  rw [hx] at hz HG ⊢
  have h1 : ¬ 9223372036854775807 < 5 + x.size := by omega
  clear hx
  go_enter Tryd.func9, Tryd.ntmps9
  go_wp2_with fail
  refine (HG.out _).mono ?_
  rintro e w1 ⟨rfl, hb1⟩
  go_wp2
  go_ret
  exact ⟨rfl, hb1⟩
end Go.Proofs.YtdlignhlliellaaDoor
