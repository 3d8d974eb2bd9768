/- conduitref6.Chunks: byte and Feed. -/
import Derived.Test.YtkodkojbeehhjaaDoorChunks
namespace Go.Proofs.YtkodkojbeehhjaaDoor
open Go.RowKit
attribute [local go_sem ↓] Go.wp_at_zero Go.wp_at_succ

def byteS (t : CS) (c : UInt8) : CS × Int :=
  if t.state = 1 then ({ t with b := t.b ++ ⟨#[c]⟩, left := t.left - 1, state := if t.left - 1 = 0 then 2 else 1 }, 0)
  else if (t.cr && c.toNat != 10 || !t.cr && c.toNat == 10) = true then (t, 10)
  else if c.toNat = 13 then ({ t with cr := true }, 0)
  else if t.state = 2 ∧ t.cr = false then (t, 10)
  else if c.toNat = 10 then lineS { t with cr := false, line := ⟨#[]⟩ } t.line
  else ({ t with line := t.line ++ ⟨#[c]⟩, extra := if t.state = 3 then t.extra + 1 else t.extra },
    if 1024 < ((t.line ++ ⟨#[c]⟩).size : Int) ∨ 1024 < (if t.state = 3 then t.extra + 1 else t.extra) then 12 else 0)
def CS.Fits (t : CS) (n : Nat) : Prop := t.b.size ≤ n ∧ t.line.size ≤ n ∧ -(n : Int) ≤ t.left ∧ t.left ≤ n ∧ -(n : Int) ≤ t.extra ∧ t.extra ≤ n
theorem lineS_fits (t : CS) (l : ByteArray) (n : Nat) (hn : 268435456 ≤ n) (h : t.Fits n) : (lineS t l).1.Fits n := by
  obtain ⟨h1, h2, h3, h4, h5, h6⟩ := h
  unfold lineS
  split
  · exact ⟨h1, h2, h3, h4, h5, h6⟩
  · split
    · split <;> exact ⟨h1, h2, h3, h4, h5, h6⟩
    · split
      · exact ⟨h1, h2, h3, h4, h5, h6⟩
      · rename_i m hm
        have := hexV_lt _ _ hm
        split
        · exact ⟨h1, h2, h3, h4, h5, h6⟩
        · exact ⟨h1, h2, by show -(n : Int) ≤ (m : Int); omega, by show (m : Int) ≤ n; omega, h5, h6⟩
theorem byteS_fits (t : CS) (c : UInt8) (n : Nat) (hn : 268435456 ≤ n) (h : t.Fits n) : (byteS t c).1.Fits (n + 1) := by
  have h0 := h
  obtain ⟨h1, h2, h3, h4, h5, h6⟩ := h
  have hup : ∀ u : CS, u.Fits n → u.Fits (n + 1) := fun u hu => by
    obtain ⟨a1, a2, a3, a4, a5, a6⟩ := hu
    exact ⟨by omega, by omega, by omega, by omega, by omega, by omega⟩
  unfold byteS
  split
  · exact ⟨by show (t.b ++ ⟨#[c]⟩).size ≤ n + 1; rw [size_app]; show _ + 1 ≤ _; omega, by show t.line.size ≤ _; omega, by show _ ≤ t.left - 1; omega, by show t.left - 1 ≤ _; omega, by show _ ≤ t.extra; omega, by show t.extra ≤ _; omega⟩
  · split
    · exact hup _ h0
    · split
      · exact hup _ ⟨h1, h2, h3, h4, h5, h6⟩
      · split
        · exact hup _ h0
        · split
          · exact hup _ (lineS_fits _ _ _ hn ⟨h1, by show 0 ≤ n; omega, h3, h4, h5, h6⟩)
          · exact ⟨by show t.b.size ≤ _; omega, by show (t.line ++ ⟨#[c]⟩).size ≤ n + 1; rw [size_app]; show _ + 1 ≤ _; omega, by show _ ≤ t.left; omega, by show t.left ≤ _; omega,
              by show _ ≤ (if t.state = 3 then t.extra + 1 else t.extra); split <;> omega, by show (if t.state = 3 then t.extra + 1 else t.extra) ≤ _; split <;> omega⟩

set_option maxHeartbeats 2000000 in
theorem chunks_byte (g : Nat) (t : CS) (c : UInt8) (w : World) (hB : Blk w g 40 t.cells) (hf : t.Fits 1000000000) :
    Calls Tryd.prog 37 #[.pointer (some ⟨g, 0, none⟩), .int .u8 (c.toNat : Int)] w fun e w' => e = .returned (.int .i64 (byteS t c).2) ∧ Blk w' g 40 (byteS t c).1.cells ∧ w.grownBy w' (some g) := by
  obtain ⟨most, state, line, cr, left, extra, b, dead, big⟩ := t
  obtain ⟨z1, z2, z3, z4, z5, z6⟩ := hf
  simp only at z1 z2 z3 z4 z5 z6
  have c1 : w.cell? ⟨g, 1, none⟩ = some (.int .i64 state) := hB.cell 1
  have c2 : w.cell? ⟨g, 2, none⟩ = some (.string line) := hB.cell 2
  have c3 : w.cell? ⟨g, 3, none⟩ = some (.bool cr) := hB.cell 3
  have c4 : w.cell? ⟨g, 4, none⟩ = some (.int .i64 left) := hB.cell 4
  have c5 : w.cell? ⟨g, 5, none⟩ = some (.int .i64 extra) := hB.cell 5
  have c6 : w.cell? ⟨g, 6, none⟩ = some (.string b) := hB.cell 6
  have f1 : w.frozen? ⟨g, 1, none⟩ = false := hB.frozen 1
  have f2 : w.frozen? ⟨g, 2, none⟩ = false := hB.frozen 2
  have f3 : w.frozen? ⟨g, 3, none⟩ = false := hB.frozen 3
  have f4 : w.frozen? ⟨g, 4, none⟩ = false := hB.frozen 4
  have f5 : w.frozen? ⟨g, 5, none⟩ = false := hB.frozen 5
  have f6 : w.frozen? ⟨g, 6, none⟩ = false := hB.frozen 6
  have hlt := hB.lt
  have HB := Lib.hid hB; clear hB
  obtain ⟨x, hx⟩ : ∃ x : Int, x = (c.toNat : Int) := ⟨_, rfl⟩
  have hx0 : 0 ≤ x := by omega
  have hx1 : x ≤ 255 := by have := c.toNat_lt; omega
  have hz : (⟨#[UInt8.ofNat x.toNat]⟩ : ByteArray) = ⟨#[c]⟩ := by rw [hx]; simp
  have hcv : ∀ W : World, (convert 66 9 (.slice (some ⟨W.heap.size, 0, none⟩) 1 1)).run Tryd.prog (W.alloc (.cells #[.int .u8 x] 5)) = .ok (.string ⟨#[c]⟩) (W.alloc (.cells #[.int .u8 x] 5)) := fun W => by
    rw [← hz]; exact conv1_new W x _ _ _ Tryd.underlying66 Tryd.underlying5 Tryd.underlying9
  have hcv2 : ∀ (W : World) (g : Nat), W.cell? ⟨g, 0, none⟩ = some (.int .u8 x) → (convert 66 9 (.slice (some ⟨g, 0, none⟩) 1 1)).run Tryd.prog W = .ok (.string ⟨#[c]⟩) W := fun W g h => by
    rw [← hz]; exact conv1 W g x _ _ _ 1 Tryd.underlying66 Tryd.underlying5 Tryd.underlying9 h
  rw [← hx]
  obtain ⟨z, hze⟩ : ∃ z : ByteArray, z = ⟨#[c]⟩ := ⟨_, rfl⟩
  have hzs : z.size ≤ 1 := by rw [hze]; exact Nat.le_refl _
  rw [← hze] at hcv hcv2
  clear hz
  by_cases h1 : state = 1
  · subst h1
    have e : byteS ⟨most, 1, line, cr, left, extra, b, dead, big⟩ c = (⟨most, if left - 1 = 0 then 2 else 1, line, cr, left - 1, extra, b ++ ⟨#[c]⟩, dead, big⟩, 0) := by unfold byteS; rw [if_pos rfl]
    have E := Lib.hid e; clear e
    clear c2 c3 c5 f2 f3 f5
    go_enter Tryd.func37, Tryd.ntmps37
    go_wp2_with fail
    go_region
    have hb2 := ((HB.out.set_ 6 (.string (b ++ ⟨#[c]⟩))).alloc (.cells #[.int .u8 (c.toNat : Int)] 5)).drew
    have ho2 := only_drew (only_alloc (only_set (only_refl w (some g)) 6 (.string (b ++ ⟨#[c]⟩))) (.cells #[.int .u8 (c.toNat : Int)] 5))
    generalize (((w.setCell ⟨g, 6, none⟩ (.string (b ++ ⟨#[c]⟩))).alloc (.cells #[.int .u8 (c.toNat : Int)] 5)).drew) = w2 at *
    have d1 : w2.cell? ⟨g, 1, none⟩ = some (.int .i64 1) := hb2.cell 1
    have d4 : w2.cell? ⟨g, 4, none⟩ = some (.int .i64 left) := hb2.cell 4
    have k1 : w2.frozen? ⟨g, 1, none⟩ = false := hb2.frozen 1
    have k4 : w2.frozen? ⟨g, 4, none⟩ = false := hb2.frozen 4
    have HB2 := Lib.hid hb2
    clear hb2 c1 c4 c6 f1 f4 f6
    by_cases hl : left - 1 = 0
    · have hl' : (left - 1 == 0) = true := by simpa using hl
      have HL := Lib.hid hl; clear hl
      go_wp2_with fail
      go_ret
      rw [E.out, if_pos HL.out]
      exact ⟨rfl, (HB2.out.set_ 4 _).set_ 1 _, only_set (only_set ho2 _ _) _ _⟩
    · have hl' : (left - 1 == 0) = false := by simpa using hl
      have HL := Lib.hid hl; clear hl
      go_wp2_with fail
      go_ret
      rw [E.out, if_neg HL.out]
      exact ⟨rfl, HB2.out.set_ 4 _, only_set ho2 _ _⟩
  · have hn1 : (state == 1) = false := by simpa using h1
    have e : byteS ⟨most, state, line, cr, left, extra, b, dead, big⟩ c =
        if (cr && c.toNat != 10 || !cr && c.toNat == 10) = true then (⟨most, state, line, cr, left, extra, b, dead, big⟩, 10)
        else if c.toNat = 13 then (⟨most, state, line, true, left, extra, b, dead, big⟩, 0)
        else if state = 2 ∧ cr = false then (⟨most, state, line, cr, left, extra, b, dead, big⟩, 10)
        else if c.toNat = 10 then lineS ⟨most, state, ⟨#[]⟩, false, left, extra, b, dead, big⟩ line
        else (⟨most, state, line ++ ⟨#[c]⟩, cr, left, if state = 3 then extra + 1 else extra, b, dead, big⟩,
          if 1024 < ((line ++ ⟨#[c]⟩).size : Int) ∨ 1024 < (if state = 3 then extra + 1 else extra) then 12 else 0) := by
      unfold byteS; rw [if_neg h1]
    clear h1
    cases cr
    · by_cases hx10 : c.toNat = 10
      · have hx10' : (x == 10) = true := by simp; omega
        rw [if_pos (by simp [hx10])] at e
        have E := Lib.hid e; clear e hx10
        go_enter Tryd.func37, Tryd.ntmps37
        go_wp2_with fail
        go_ret
        rw [E.out]
        exact ⟨rfl, HB.out, only_refl _ _⟩
      · have hx10' : (x == 10) = false := by simp; omega
        rw [if_neg (by simp [hx10])] at e
        by_cases hx13 : c.toNat = 13
        · have hx13' : (x == 13) = true := by simp; omega
          rw [if_pos hx13] at e
          have E := Lib.hid e; clear e hx10 hx13
          go_enter Tryd.func37, Tryd.ntmps37
          go_wp2_with fail
          go_ret
          rw [E.out]
          exact ⟨rfl, HB.out.set_ 3 _, only_set (only_refl _ _) _ _⟩
        · have hx13' : (x == 13) = false := by simp; omega
          rw [if_neg hx13] at e
          by_cases h2 : state = 2
          · have h2' : (state == 2) = true := by simpa using h2
            rw [if_pos ⟨h2, rfl⟩] at e
            have E := Lib.hid e; clear e hx10 hx13 h2
            go_enter Tryd.func37, Tryd.ntmps37
            go_wp2_with fail
            go_ret
            rw [E.out]
            exact ⟨rfl, HB.out, only_refl _ _⟩
          · have h2' : (state == 2) = false := by simpa using h2
            rw [if_neg (fun h => h2 h.1), if_neg hx10] at e
            have E := Lib.hid e; clear e hx10 hx13 h2
            go_enter Tryd.func37, Tryd.ntmps37
            go_wp2_with fail
            go_region
            have hb2 := ((HB.out.set_ 2 (.string (line ++ ⟨#[c]⟩))).alloc (.cells #[.int .u8 (c.toNat : Int)] 5)).drew
            have ho2 := only_drew (only_alloc (only_set (only_refl w (some g)) 2 (.string (line ++ ⟨#[c]⟩))) (.cells #[.int .u8 (c.toNat : Int)] 5))
            generalize (((w.setCell ⟨g, 2, none⟩ (.string (line ++ ⟨#[c]⟩))).alloc (.cells #[.int .u8 (c.toNat : Int)] 5)).drew) = w2 at *
            have d1 : w2.cell? ⟨g, 1, none⟩ = some (.int .i64 state) := hb2.cell 1
            have d2 : w2.cell? ⟨g, 2, none⟩ = some (.string (line ++ ⟨#[c]⟩)) := hb2.cell 2
            have d5 : w2.cell? ⟨g, 5, none⟩ = some (.int .i64 extra) := hb2.cell 5
            have k5 : w2.frozen? ⟨g, 5, none⟩ = false := hb2.frozen 5
            have HB2 := Lib.hid hb2
            clear hb2 c1 c2 c3 c4 c5 c6 f1 f2 f3 f4 f5 f6 hcv hcv2
            by_cases h3 : state = 3
            · have h3' : (state == 3) = true := by simpa using h3
              have e := E.out
              rw [if_pos h3] at e
              have hsum : ∀ q1 q2 : Bool, decide (1024 < ((line ++ ⟨#[c]⟩).size : Int)) = q1 → decide (1024 < extra + 1) = q2 → (if 1024 < ((line ++ ⟨#[c]⟩).size : Int) ∨ 1024 < extra + 1 then (12 : Int) else 0) = if q1 || q2 then 12 else 0 := fun q1 q2 h1 h2 => by subst h1 h2; simp only [Bool.or_eq_true, decide_eq_true_eq]
              obtain ⟨ln, hln⟩ : ∃ ln, ln = line ++ ⟨#[c]⟩ := ⟨_, rfl⟩
              rw [← hln] at d2 hsum
              cases hq1 : decide (1024 < (ln.size : Int)) <;> cases hq2 : decide (1024 < extra + 1)
              all_goals
                rw [← hln, hsum _ _ hq1 hq2] at e
                have E2 := Lib.hid e; clear e h3 E hsum
                have HLN := Lib.hid hln; clear hln
                clear z1 z2 z3 z4 hzs
                go_wp2_with fail
                all_goals (go_ret; rw [E2.out, HLN.out]; exact ⟨rfl, HB2.out.set_ 5 _, only_set ho2 _ _⟩)
            · have h3' : (state == 3) = false := by simpa using h3
              have e := E.out
              rw [if_neg h3] at e
              have hsum : ∀ q1 q2 : Bool, decide (1024 < ((line ++ ⟨#[c]⟩).size : Int)) = q1 → decide (1024 < extra) = q2 → (if 1024 < ((line ++ ⟨#[c]⟩).size : Int) ∨ 1024 < extra then (12 : Int) else 0) = if q1 || q2 then 12 else 0 := fun q1 q2 h1 h2 => by subst h1 h2; simp only [Bool.or_eq_true, decide_eq_true_eq]
              obtain ⟨ln, hln⟩ : ∃ ln, ln = line ++ ⟨#[c]⟩ := ⟨_, rfl⟩
              rw [← hln] at d2 hsum
              cases hq1 : decide (1024 < (ln.size : Int)) <;> cases hq2 : decide (1024 < extra)
              all_goals
                rw [← hln, hsum _ _ hq1 hq2] at e
                have E2 := Lib.hid e; clear e h3 E hsum
                have HLN := Lib.hid hln; clear hln
                clear z1 z2 z3 z4 hzs
                go_wp2_with fail
                all_goals (go_ret; rw [E2.out, HLN.out]; exact ⟨rfl, HB2.out, ho2⟩)
    · by_cases hx10 : c.toNat = 10
      · have hx10' : x = 10 := by omega
        rw [if_neg (by simp [hx10]), if_neg (by omega), if_neg (by simp), if_pos hx10] at e
        have E := Lib.hid e; clear e hx10 hcv hcv2
        have hb2 := (HB.out.set_ 3 (.bool false)).set_ 2 (.string ⟨#[]⟩)
        have ho2 := only_set (only_set (only_refl w (some g)) 3 (.bool false)) 2 (.string ⟨#[]⟩)
        have HB2 := Lib.hid hb2; have HO2 := Lib.hid ho2; clear hb2 ho2
        have c2' : (w.setCell ⟨g, 3, none⟩ (.bool false)).cell? ⟨g, 2, none⟩ = some (.string line) := (HB.out.set_ 3 (.bool false)).cell 2
        have f2' : (w.setCell ⟨g, 3, none⟩ (.bool false)).frozen? ⟨g, 2, none⟩ = false := (HB.out.set_ 3 (.bool false)).frozen 2
        subst hx10'
        by_cases h2 : state = 2
        all_goals first | subst h2 | have h2' : (state == 2) = false := (by simpa using h2)
        all_goals clear hze
        all_goals
          go_enter Tryd.func37, Tryd.ntmps37
          go_wp2_with fail
          refine (chunks_line g ⟨most, _, ⟨#[]⟩, false, left, extra, b, dead, big⟩ line _ HB2.out (by omega) (by show b.size ≤ _; omega)).mono ?_
          rintro e w3 ⟨rfl, hb3, ho3⟩
          have ho4 := only_trans HO2.out ho3
          have HB3 := Lib.hid hb3
          clear hb3 ho3 c1 c2 c3 c4 c5 c6 f1 f2 f3 f4 f5 f6
          go_wp2_with fail
          go_ret
          rw [E.out]
          exact ⟨rfl, HB3.out, ho4⟩
      · have hx10' : (x == 10) = false := by simp; omega
        have hx10n : ¬ x = 10 := by omega
        rw [if_pos (by simp [hx10])] at e
        have E := Lib.hid e; clear e hx10
        go_enter Tryd.func37, Tryd.ntmps37
        go_wp2_with fail
        go_ret
        rw [E.out]
        exact ⟨rfl, HB.out, only_refl _ _⟩
end Go.Proofs.YtkodkojbeehhjaaDoor
