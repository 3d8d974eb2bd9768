/- conduitref11.great, Name: a name in great letters, as the document has it. -/
import Derived.Test.YtdlignhlliellaaDoorVg
namespace Go.Proofs.YtdlignhlliellaaDoor
set_option linter.unusedVariables false
set_option linter.unusedSimpArgs false
open Go.RowKit

set_option maxHeartbeats 1000000 in
theorem ref_great (s : ByteArray) (w : World) (hs : s.size ≤ 9223372036854775807) :
    Calls Tryd.prog 30 #[.string s] w fun e w' => e = .returned (.string (greatB s)) ∧ Below w.heap.size w w' := by
  have hconv := run_bytes_of_string (P := Tryd.prog) w 9 68 5 s Tryd.underlying9 Tryd.underlying68 Tryd.underlying5
  obtain ⟨l, hl⟩ : ∃ l, l = s.data.toList := ⟨_, rfl⟩
  have hsz : l.length = s.size := by rw [hl]; rfl
  have HZ := Lib.hid hsz; clear hsz
  have HL := Lib.hid hl; clear hl
  go_enter Tryd.func30, Tryd.ntmps30
  go_wp2
  go_loopw [4] (fun i wr => ∃ k : Nat, k ≤ s.size ∧ i = .int .i64 k ∧ Below w.heap.size w wr ∧ Buf wr w.heap.size (map1 l k)) (fun i _ => s.size - (intOf i).toNat)
  case atStart => exact ⟨0, Nat.zero_le _, rfl, fr_drew (fr_alloc (fr_refl _) _), by rw [HL.out]; exact (Buf.new w s _ _).drew⟩
  case round =>
    obtain ⟨k, hk, rfl, hb, hbuf⟩ := hrel
    by_cases hlt : k < s.size
    · have hlt' : k < l.length := by rw [HZ.out]; exact hlt
      obtain ⟨hc, hf⟩ := hbuf.2 k (by rw [map1_len]; exact hlt')
      rw [map1_at hlt'] at hc
      have H := Lib.hid hbuf; clear hbuf hconv
      have HS := Lib.hid (map1_succ hlt'); have HM := Lib.hid (fun h => map1_same hlt' h)
      have HLN := Lib.hid (show k < (map1 l k).length by rw [map1_len]; exact hlt')
      obtain ⟨c, hcc⟩ : ∃ c, l[k] = c := ⟨_, rfl⟩
      rw [hcc] at hc HS HM
      clear hcc hlt'
      have hcs : (97 ≤ (c.toNat : Int) ∧ (c.toNat : Int) ≤ 122) ∨ (¬ (97 ≤ (c.toNat : Int) ∧ (c.toNat : Int) ≤ 122) ∧ ((65 ≤ (c.toNat : Int) ∧ (c.toNat : Int) ≤ 90) ∨ (48 ≤ (c.toNat : Int) ∧ (c.toNat : Int) ≤ 57))) ∨ (¬ (97 ≤ (c.toNat : Int) ∧ (c.toNat : Int) ≤ 122) ∧ ¬ ((65 ≤ (c.toNat : Int) ∧ (c.toNat : Int) ≤ 90) ∨ (48 ≤ (c.toNat : Int) ∧ (c.toNat : Int) ≤ 57))) := by omega
      rcases hcs with ⟨h1, h2⟩ | ⟨h0, h1⟩ | ⟨h0, h1⟩
      · have HV := Lib.hid (gr_a h1 h2)
        go_wp2
        go_roundw
        case measure => exact meas hlt _ _
        case rel => exact ⟨k + 1, by omega, by go_num, fr_set hb (Nat.le_refl _) _, by rw [HS.out]; exact H.out.set HLN.out (by rw [HV.out])⟩
      · have HV := Lib.hid (HM.out (gr_k h1))
        go_wp2
        all_goals first | (exfalso; omega) | skip
        all_goals go_roundw
        all_goals first | exact meas hlt _ _ | exact ⟨k + 1, by omega, by go_num, hb, by rw [HV.out]; exact H.out⟩
      · have HV := Lib.hid (gr_d h0 h1)
        go_wp2
        all_goals first | (exfalso; omega) | skip
        all_goals go_roundw
        all_goals first | exact meas hlt _ _ | exact ⟨k + 1, by omega, by go_num, fr_set hb (Nat.le_refl _) _, by rw [HS.out]; exact H.out.set HLN.out (by rw [HV.out])⟩
    · have hback := hbuf.back (P := Tryd.prog) (n := s.size) (by rw [map1_len]; exact HZ.out) 68 9 5 (grownCap w s.size 0 5) Tryd.underlying68 Tryd.underlying5 Tryd.underlying9
      rw [map1_all HZ.out (by omega)] at hback
      clear hbuf hconv
      go_wp2
      go_ret
      exact ⟨by rw [HL.out]; rfl, hb⟩
theorem ref_Name (s : ByteArray) (w : World) (hs : s.size ≤ 9000000000000000000) :
    Calls Tryd.prog 10 #[.string s] w fun e w' => e = .returned (.string (⟨#[72, 84, 84, 80, 95]⟩ ++ greatB s)) ∧ Below w.heap.size w w' := by
  have hz := greatB_size s
  have HG := Lib.hid (fun W => ref_great s W (by omega))
  obtain ⟨x, hx⟩ : ∃ x, greatB s = x := ⟨_, rfl⟩
  rw [hx] at hz HG ⊢
  have h1 : ¬ 9223372036854775807 < 5 + x.size := by omega
  clear hx
  go_enter Tryd.func10, Tryd.ntmps10
  go_wp2_with fail
  refine (HG.out _).mono ?_
  rintro e w1 ⟨rfl, hb1⟩
  go_wp2
  go_ret
  exact ⟨rfl, hb1⟩
end Go.Proofs.YtdlignhlliellaaDoor
