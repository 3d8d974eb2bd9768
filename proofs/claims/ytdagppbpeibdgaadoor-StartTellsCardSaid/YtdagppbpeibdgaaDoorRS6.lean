/- conduitref6.Start answers what start.Parse answers: startS. -/
import Derived.Test.YtdagppbpeibdgaaDoorRS5
namespace Go.Proofs.YtdagppbpeibdgaaDoor
set_option linter.unusedVariables false
set_option linter.unusedSimpArgs false
open Go.RowKit

theorem tarR_ok {m t : ByteArray} (h : tarR m t = true) : (t.size ≤ 256 → targE m t = 0) ∧ (256 < t.size → targE m t = 12) := by
  unfold tarR at h
  unfold targE at h ⊢
  split at h
  · rename_i h1
    rw [if_pos h1]
    rw [Bool.and_eq_true, beq_iff_eq] at h1
    have h2 : t.size = 1 := by rw [← L_len, h1.1]; rfl
    exact ⟨fun _ => rfl, fun h => by omega⟩
  · rename_i h1
    rw [if_neg h1]
    split at h
    · cases h
    · rename_i h2
      rw [if_neg h2]
      split at h
      · cases h
      · rename_i h3
        rw [if_neg h3]
        refine ⟨fun hs => by rw [ble_yes hs]; rfl, fun hs => ?_⟩
        rw [ble_no (by omega)]; rfl
theorem cut3 {line : ByteArray} (hl : (cutB line 32).length = 3) : ∃ m t v, cutB line 32 = [m, t, v] := by
  match hq : cutB line 32 with
  | [a, b, c] => exact ⟨a, b, c, rfl⟩
  | [] => rw [hq] at hl; cases hl
  | [a] => rw [hq] at hl; cases hl
  | [a, b] => rw [hq] at hl; cases hl
  | a :: b :: c :: d :: r => rw [hq] at hl; simp at hl
theorem ref6_splitN (s : ByteArray) (n : Nat) (w : World) (hn : (cutB s 32).length = n) (hs : s.size ≤ 1000000000) :
    Calls Tryd.prog 53 #[.string s, .int .u8 32] w fun e w' => (∃ A c, e = .returned (.slice A n c)) ∧ Below w.heap.size w w' := by
  have hsp := ref6_split s 32 w hs
  rw [show (((32 : UInt8).toNat : Int)) = 32 from rfl, splitL_cutB, hn] at hsp
  refine hsp.mono ?_
  rintro e w' ⟨⟨v0, rfl, hown⟩, hb⟩
  refine ⟨?_, hb⟩
  rcases hown.2 with ⟨h1, h0⟩ | ⟨g, cap, cur, rfl, _⟩
  · exact ⟨none, 0, by rw [h1]; simp [h0]⟩
  · exact ⟨_, cap, rfl⟩
set_option maxRecDepth 100000 in
set_option maxHeartbeats 4000000 in
theorem rst_ne (line : ByteArray) (w : World) (hl : (cutB line 32).length ≠ 3) (hs : line.size ≤ 1000000000) :
    Calls Tryd.prog 23 #[.string line] w fun e w' => e = .returned (startQ (10, ⟨#[]⟩, ⟨#[]⟩, 0)) ∧ Below w.heap.size w w' := by
  have hlen := cutB_len line 32
  obtain ⟨n, hn⟩ : ∃ n, (cutB line 32).length = n := ⟨_, rfl⟩
  rw [hn] at hl hlen
  have hn3 : ((n : Int) != 3) = true := by simp; omega
  have hn9 : n ≤ 1000000001 := by omega
  have HN := Lib.hid hn; have HS := Lib.hid hs
  clear hn hs hl hlen
  go_enter Tryd.func23, Tryd.ntmps23
  go_wp2_with fail
  refine (ref6_splitN line n _ HN.out HS.out).mono ?_
  rintro e w1 ⟨⟨A, cp, rfl⟩, hb⟩
  have hZ1 : Blk w1 w.heap.size 46 reqZ := (Blk.new w 46 reqZ).fr hb
  have HZ := Lib.hid hZ1; have HF := Lib.hid (fr_trans (fr_alloc (fr_refl w) _) hb)
  clear hb
  have zc0 : w1.cell? ⟨w.heap.size, 0, none⟩ = some (.string ⟨#[]⟩) := hZ1.cell 0
  have zf0 : w1.frozen? ⟨w.heap.size, 0, none⟩ = false := hZ1.frozen 0
  have zc1 : w1.cell? ⟨w.heap.size, 1, none⟩ = some (.string ⟨#[]⟩) := hZ1.cell 1
  have zf1 : w1.frozen? ⟨w.heap.size, 1, none⟩ = false := hZ1.frozen 1
  have zc2 : w1.cell? ⟨w.heap.size, 2, none⟩ = some (.int .i64 0) := hZ1.cell 2
  have zf2 : w1.frozen? ⟨w.heap.size, 2, none⟩ = false := hZ1.frozen 2
  have zc3 : w1.cell? ⟨w.heap.size, 3, none⟩ = some (.slice none 0 0) := hZ1.cell 3
  have zf3 : w1.frozen? ⟨w.heap.size, 3, none⟩ = false := hZ1.frozen 3
  have zc4 : w1.cell? ⟨w.heap.size, 4, none⟩ = some (.string ⟨#[]⟩) := hZ1.cell 4
  have zf4 : w1.frozen? ⟨w.heap.size, 4, none⟩ = false := hZ1.frozen 4
  have zlt : w.heap.size < w1.heap.size := hZ1.lt
  clear hZ1
  go_wp2
  refine bodyPost_ret (res_req (g := w.heap.size) (v0 := .string ⟨#[]⟩) (v1 := .string ⟨#[]⟩) (v2 := .int .i64 0) (v3 := .slice none 0 0) (v4 := .string ⟨#[]⟩) Tryd.results23 rfl (((((HZ.out.set_ 0 _).set_ 1 _).set_ 2 _).set_ 3 _).set_ 4 _)) rfl ?_
  exact ⟨rfl, fr_req HF.out⟩
theorem rst_tail (line m t v : ByteArray) (w : World) (hl : cutB line 32 = [m, t, v]) (hs : line.size ≤ 1000000000) (hm : m.size ≤ 9223372036854775807) (ht : t.size ≤ 1000000000) (htk : allB isTokB m = true) (h16 : ¬ (16 : Int) < (m.size : Int)) (hver : (v = ⟨#[72, 84, 84, 80, 47, 49, 46, 48]⟩) ∨ (v = ⟨#[72, 84, 84, 80, 47, 49, 46, 49]⟩)) :
    Calls Tryd.prog 23 #[.string line] w fun e w' => e = .returned (startQ (if versE v ≠ 0 then (versE v, ⟨#[]⟩, ⟨#[]⟩, 0) else if targE m t ≠ 0 then (targE m t, ⟨#[]⟩, ⟨#[]⟩, 0) else (0, m, t, versN v))) ∧ Below w.heap.size w w' := by
  have hv0 : versE v = 0 := by rcases hver with rfl | rfl <;> rfl
  have h5 : ¬ (v.size : Int) < 5 := by rcases hver with rfl | rfl <;> decide
  have hp : ((v.extract 0 5).toList == [72, 84, 84, 80, 47]) = true := by rcases hver with rfl | rfl <;> (rw [toList_L, L_ext]; rfl)
  have hv2 : (v.toList == [72, 84, 84, 80, 47, 49, 46, 48]) = true ∨ ((v.toList == [72, 84, 84, 80, 47, 49, 46, 48]) = false ∧ (v.toList == [72, 84, 84, 80, 47, 49, 46, 49]) = true) := by
    rcases hver with rfl | rfl
    · exact .inl (by rw [toList_L]; rfl)
    · exact .inr ⟨by rw [toList_L]; rfl, by rw [toList_L]; rfl⟩
  rw [if_neg (by rw [hv0]; decide)]
  cases htg : tarR m t
  · have h10 : targE m t = 10 := by unfold tarR at htg; simpa using htg
    rw [h10, if_pos (by decide)]
    exact rst_tar line m t v w hl hs hm ht htk h16 h5 hp hv2 htg
  · obtain ⟨k1, k2⟩ := tarR_ok htg
    by_cases h256 : t.size ≤ 256
    · rw [k1 h256, if_neg (by decide)]
      exact rst_ok line m t v w hl hs hm ht htk h16 htg (by omega) hver
    · rw [k2 (by omega), if_pos (by decide)]
      exact rst_256 line m t v w hl hs hm ht htk h16 h5 hp hv2 htg (by omega)
theorem ref6_Start (line : ByteArray) (w : World) (hs : line.size ≤ 1000000000) :
    Calls Tryd.prog 23 #[.string line] w fun e w' => e = .returned (startQ (startS line)) ∧ Below w.heap.size w w' := by
  by_cases hl : (cutB line 32).length = 3
  · obtain ⟨m, t, v, hc⟩ := cut3 hl
    rw [startS_eq hc]
    have hm := cutB_size (s := line) (c := 32) (x := m) (by rw [hc]; simp)
    have ht := cutB_size (s := line) (c := 32) (x := t) (by rw [hc]; simp)
    have hm9 : m.size ≤ 9223372036854775807 := by omega
    have ht9 : t.size ≤ 1000000000 := by omega
    cases htk : allB isTokB m
    · have e : ((L m).all isTokB && !(L m).isEmpty && Nat.ble m.size 16) = false := by
        unfold allB at htk; rw [toList_L] at htk; rw [htk]; rfl
      rw [if_pos e]
      exact rst_tok line m t v w hc hs hm9 ht9 htk
    · have htk2 : ((L m).all isTokB && !(L m).isEmpty) = true := by unfold allB at htk; rw [toList_L] at htk; exact htk
      by_cases h16 : m.size ≤ 16
      · rw [if_neg (by rw [htk2, ble_yes h16]; decide)]
        have h16I : ¬ (16 : Int) < (m.size : Int) := by omega
        by_cases h5 : 5 ≤ v.size
        · have h5I : ¬ (v.size : Int) < 5 := by omega
          cases hp : ((v.extract 0 5).toList == [72, 84, 84, 80, 47])
          · have hv : versE v = 10 := by
              have hpre := prefix_five v h5
              rw [hp] at hpre
              unfold versE
              cases h10 : (L v == [72, 84, 84, 80, 47, 49, 46, 48])
              · cases h11 : (L v == [72, 84, 84, 80, 47, 49, 46, 49])
                · rw [hpre]; rfl
                · rw [beq_iff_eq.1 h11] at hpre; exact absurd hpre (by decide)
              · rw [beq_iff_eq.1 h10] at hpre; exact absurd hpre (by decide)
            rw [hv, if_pos (by decide)]
            exact rst_pre line m t v w hc hs hm9 ht9 htk h16I h5I hp
          · have hpre := prefix_five v h5
            rw [hp] at hpre
            cases h10 : (v.toList == [72, 84, 84, 80, 47, 49, 46, 48])
            · cases h11 : (v.toList == [72, 84, 84, 80, 47, 49, 46, 49])
              · have hv : versE v = 13 := by
                  unfold versE
                  rw [← toList_L, h10, h11, toList_L, hpre]; rfl
                rw [hv, if_pos (by decide)]
                exact rst_13 line m t v w hc hs hm9 ht9 htk h16I h5I hp h10 h11
              · exact rst_tail line m t v w hc hs hm9 ht9 htk h16I (.inr (L_inj (by rw [← toList_L]; exact beq_iff_eq.1 h11)))
            · exact rst_tail line m t v w hc hs hm9 ht9 htk h16I (.inl (L_inj (by rw [← toList_L]; exact beq_iff_eq.1 h10)))
        · have h5I : (v.size : Int) < 5 := by omega
          have hv : versE v = 10 := by
            have hpre := prefix_short v h5
            unfold versE
            cases h10 : (L v == [72, 84, 84, 80, 47, 49, 46, 48])
            · cases h11 : (L v == [72, 84, 84, 80, 47, 49, 46, 49])
              · rw [hpre]; rfl
              · rw [beq_iff_eq.1 h11] at hpre; exact absurd hpre (by decide)
            · rw [beq_iff_eq.1 h10] at hpre; exact absurd hpre (by decide)
          rw [hv, if_pos (by decide)]
          exact rst_5 line m t v w hc hs hm9 ht9 htk h16I h5I
      · rw [if_pos (by rw [htk2, ble_no h16]; rfl)]
        exact rst_16 line m t v w hc hs hm9 ht9 htk (by omega)
  · rw [startS_ne hl]
    exact rst_ne line w hl hs
end Go.Proofs.YtdagppbpeibdgaaDoor
