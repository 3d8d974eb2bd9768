/- conduitref6.Chunks: Feed. -/
import Derived.Test.YtkodkojbeehhjaaDoorChunks2
namespace Go.Proofs.YtkodkojbeehhjaaDoor
open Go.RowKit

def feedL : CS → List UInt8 → Int → CS × Int × Int
  | t, [], k => (t, k, 0)
  | t, c :: cs, k => if t.state = 4 then (t, k, 0) else if (byteS t c).2 = 0 then feedL (byteS t c).1 cs (k + 1) else ({ (byteS t c).1 with dead := true }, k + 1, (byteS t c).2)
def feedS (t : CS) (s : ByteArray) : CS × Int × Int := if t.dead then (t, 0, 18) else feedL t s.data.toList 0

set_option maxHeartbeats 2000000 in
theorem chunks_Feed (g : Nat) (t : CS) (s : ByteArray) (n : Nat) (w : World) (hB : Blk w g 40 t.cells) (hf : t.Fits n) (hn : 268435456 ≤ n) (hns : n + s.size ≤ 1000000000) :
    Calls Tryd.prog 22 #[.pointer (some ⟨g, 0, none⟩), .string s] w fun e w' => e = .returned (.tuple #[.int .i64 (feedS t s).2.1, .int .i64 (feedS t s).2.2]) ∧ Blk w' g 40 (feedS t s).1.cells ∧ w.grownBy w' (some g) := by
  cases hd : t.dead
  · have c7 : w.cell? ⟨g, 7, none⟩ = some (.bool false) := by have h : w.cell? ⟨g, 7, none⟩ = some (.bool t.dead) := hB.cell 7; rwa [hd] at h
    have he : feedS t s = feedL t s.data.toList 0 := by unfold feedS; rw [hd]; rfl
    rw [he]
    obtain ⟨R, hR⟩ : ∃ R, feedL t s.data.toList 0 = R := ⟨_, rfl⟩
    rw [hR]
    have HR := Lib.hid hR
    have HB := Lib.hid hB
    have HF := Lib.hid hf
    have HN := Lib.hid hns
    have HN2 := Lib.hid hn
    have hss : s.size < 4611686018427387904 := by omega
    clear he hB hf hd hR hn hns
    go_enter Tryd.func22, Tryd.ntmps22
    go_wp2
    go_loopw [6] (fun i wr => ∃ (k : Nat) (u : CS), k ≤ s.size ∧ i = .int .i64 k ∧ Blk wr g 40 u.cells ∧ w.grownBy wr (some g) ∧ feedL u (s.data.toList.drop k) k = R ∧ u.Fits (n + k)) (fun i _ => s.size - (intOf i).toNat)
    case atStart => exact ⟨0, t, Nat.zero_le _, rfl, HB.out, only_refl _ _, HR.out, HF.out⟩
    case round =>
      obtain ⟨k, u, hk, rfl, hb, ho, hr, hfu⟩ := hrel
      have d1 : wr.cell? ⟨g, 1, none⟩ = some (.int .i64 u.state) := hb.cell 1
      have HB1 := Lib.hid hb; clear hb
      by_cases hlt : k < s.size
      · rw [str_at s k hlt] at hr
        unfold feedL at hr
        have HFU := Lib.hid hfu; clear hfu
        by_cases h4 : u.state = 4
        · rw [if_pos h4] at hr
          have HR1 := Lib.hid hr; clear hr
          have h4' : (u.state == 4) = true := by simpa using h4
          clear h4
          go_wp2_with fail
          go_ret2
          rw [← HR1.out]
          exact ⟨rfl, HB1.out, ho⟩
        · rw [if_neg h4] at hr
          have HR1 := Lib.hid hr; clear hr
          have h4' : (u.state == 4) = false := by simpa using h4
          clear h4
          go_wp2_with fail
          refine (chunks_byte g u s[k] _ HB1.out (by have h1 := HFU.out; have h2 := HN.out; obtain ⟨a1, a2, a3, a4, a5, a6⟩ := h1; exact ⟨by omega, by omega, by omega, by omega, by omega, by omega⟩)).mono ?_
          rintro e w1 ⟨rfl, hb2, ho2⟩
          have hfit := byteS_fits u s[k] (n + k) (by have := HN2.out; omega) HFU.out
          have HFIT := Lib.hid hfit; clear hfit
          have hr := HR1.out
          clear HR1
          obtain ⟨p, hp⟩ : ∃ p, byteS u s[k] = p := ⟨_, rfl⟩
          rw [hp] at hr hb2 HFIT ⊢
          have ho3 := only_trans ho ho2
          clear hp ho2 d1 HB1
          obtain ⟨u2, ev⟩ := p
          simp only at hr hb2 HFIT ⊢
          have e7 : w1.cell? ⟨g, 7, none⟩ = some (.bool u2.dead) := hb2.cell 7
          have k7 : w1.frozen? ⟨g, 7, none⟩ = false := hb2.frozen 7
          have HB2 := Lib.hid hb2; clear hb2
          by_cases he0 : ev = 0
          · rw [if_pos he0] at hr
            have HR2 := Lib.hid hr; clear hr
            have he0' : (ev == 0) = true := by simpa using he0
            clear he0
            go_wp2_with fail
            go_roundw
            case measure => exact meas hlt _ _
            case rel => exact ⟨k + 1, u2, by omega, by go_num, HB2.out, ho3, by have := HR2.out; rwa [show ((k : Int) + 1) = ((k + 1 : Nat) : Int) by omega] at this, HFIT.out⟩
          · rw [if_neg he0] at hr
            have HR2 := Lib.hid hr; clear hr
            have he0' : (ev == 0) = false := by simpa using he0
            clear he0
            go_wp2_with fail
            go_ret2
            rw [← HR2.out]
            exact ⟨rfl, HB2.out.set_ 7 _, only_set ho3 _ _⟩
      · obtain rfl : k = s.size := by omega
        have hnil : s.data.toList.drop s.size = [] := List.drop_of_length_le (Nat.le_refl _)
        rw [hnil] at hr
        unfold feedL at hr
        have HR1 := Lib.hid hr; clear hr hnil
        go_wp2
        go_ret2
        rw [← HR1.out]
        exact ⟨rfl, HB1.out, ho⟩
  · have c7 : w.cell? ⟨g, 7, none⟩ = some (.bool true) := by have h : w.cell? ⟨g, 7, none⟩ = some (.bool t.dead) := hB.cell 7; rwa [hd] at h
    have he : feedS t s = (t, 0, 18) := by unfold feedS; rw [hd]; rfl
    rw [he]
    have HB := Lib.hid hB
    clear he hB hf hd
    go_enter Tryd.func22, Tryd.ntmps22
    go_wp2
    go_ret2
    exact ⟨rfl, HB.out, only_refl _ _⟩
end Go.Proofs.YtkodkojbeehhjaaDoor
