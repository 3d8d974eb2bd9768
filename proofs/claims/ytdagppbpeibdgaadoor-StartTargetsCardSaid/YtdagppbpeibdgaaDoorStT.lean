/- conduitlaw7.StartTargets: true. -/
import Derived.Test.YtdagppbpeibdgaaDoorSt4
namespace Go.Proofs.YtdagppbpeibdgaaDoor
set_option linter.unusedVariables false
set_option linter.unusedSimpArgs false
open Go.RowKit

theorem parse_some (line : ByteArray) (w : World) (h : (startS line).1 = 0) (hm : MaxL w) (hE : ErrT w) (hs : line.size ≤ 1000000000) :
    Calls Tryd.prog 22 #[.string line] w fun e w' => e = .returned (.tuple #[.agg #[.string (startS line).2.1, .string (startS line).2.2.1, .int .i64 (startS line).2.2.2, .slice none 0 0, .string ⟨#[]⟩], .nilIface]) ∧ Below w.heap.size w w' := by
  have := st_Parse line w hm hE hs
  unfold startR at this
  rw [h] at this
  exact this
theorem stT_eq (b : Nat) (z : ByteArray) (hz : (⟨#[UInt8.ofNat b]⟩ : ByteArray) = z) : ⟨#[71, 69, 84, 32, 47, 97]⟩ ++ z ++ ⟨#[32, 72, 84, 84, 80, 47, 49, 46, 49]⟩ = stT b := by
  subst hz
  apply L_inj
  unfold stT
  rw [L_mk, L_app, L_app]
set_option maxRecDepth 100000 in
set_option maxHeartbeats 4000000 in
theorem targets_walk (b : Nat) (star : Bool) (w : World) (hm : MaxL w) (hE : ErrT w) (hT : Tab w) (hb : b < 256) :
    Calls Tryd.prog 9 #[.int .u8 (b : Int), .bool star] w fun e w' => e = .returned (.bool true) ∧ Below w.heap.size w w' := by
  have HM := Lib.hid hm; have HE := Lib.hid hE; have HT := Lib.hid hT
  clear hm hE hT
  cases star
  · have hone := stOne b hb
    have hzz : (⟨#[UInt8.ofNat ((b : Int)).toNat]⟩ : ByteArray) = ⟨#[UInt8.ofNat b]⟩ := by rw [Int.toNat_natCast]
    obtain ⟨z, hz⟩ : ∃ z : ByteArray, (⟨#[UInt8.ofNat b]⟩ : ByteArray) = z := ⟨_, rfl⟩
    have hl := stT_eq b z hz
    have hzs : z.size = 1 := by rw [← hz]; rfl
    rw [hz] at hzz hone
    have hv1 : ∀ (W : World) (g : Nat), W.cell? ⟨g, 0, none⟩ = some (.int .u8 (b : Int)) → (convert 36 9 (.slice (some ⟨g, 0, none⟩) 1 1)).run Tryd.prog W = .ok (.string z) W := fun W g h => by
      rw [← hzz]; exact conv1 W g (b : Int) _ _ _ 1 Tryd.underlying36 Tryd.underlying5 Tryd.underlying9 h
    have hv2 : ∀ W : World, (convert 36 9 (.slice (some ⟨W.heap.size, 0, none⟩) 1 1)).run Tryd.prog (W.alloc (.cells #[.int .u8 (b : Int)] 5)) = .ok (.string z) (W.alloc (.cells #[.int .u8 (b : Int)] 5)) := fun W => hv1 _ _ (by rw [World.cell?_alloc_mark]; rfl)
    have hls : (⟨#[71, 69, 84, 32, 47, 97]⟩ ++ z ++ ⟨#[32, 72, 84, 84, 80, 47, 49, 46, 49]⟩).size ≤ 1000000000 := by rw [size_app, size_app, hzs]; decide
    have t1 : ¬ 9223372036854775807 < 6 + z.size := by omega
    have t2 : ¬ 9223372036854775807 < 6 + z.size + 9 := by omega
    have t3 : ¬ 9223372036854775807 < 2 + z.size := by omega
    rw [← hl] at hone
    have HLS := Lib.hid hls
    clear hl hls hz hzz hzs
    rcases hone with ⟨hg, h0, ht⟩ | ⟨hg, h0⟩
    · have H0 := Lib.hid h0
      obtain ⟨⟨rn, rm, rt, rk⟩, hr⟩ : ∃ r, startS (⟨#[71, 69, 84, 32, 47, 97]⟩ ++ z ++ ⟨#[32, 72, 84, 84, 80, 47, 49, 46, 49]⟩) = r := ⟨_, rfl⟩
      rw [hr] at h0 ht
      simp only at h0 ht
      subst h0 ht
      have HR := Lib.hid hr
      unfold stGood at hg
      simp only [Bool.and_eq_true, Nat.ble_eq, Bool.not_eq_true'] at hg
      obtain ⟨⟨g33, g126⟩, g35'⟩ := hg
      have g35 : b ≠ 35 := fun h => by rw [h] at g35'; cases g35'
      clear g35'
      have k1 : decide ((33 : Int) ≤ (b : Int)) = true := by simp; omega
      have k2 : decide ((b : Int) ≤ 126) = true := by simp; omega
      have k3 : ((b : Int) != 35) = true := by simp; omega
      clear hr g33 g126 g35 H0
      go_enter Tryd.func9, Tryd.ntmps9
      go_wp2_with fail
      refine (law7_known _ HM.out HE.out HT.out).mono ?_
      rintro e w1 ⟨rfl, hb1⟩
      have H1 := Lib.hid (fr_alloc hb1 (.cells #[.int .u8 (b : Int)] 5))
      clear hb1
      go_wp2_with fail
      refine (parse_ok _ _ _ _ _ HR.out (HM.out.fr H1.out) (HE.out.fr H1.out) HLS.out).mono ?_
      rintro e w2 ⟨rfl, hb2⟩
      have H2 := Lib.hid (fr_trans H1.out hb2)
      clear hb2
      go_wp2
      go_ret
      exact ⟨rfl, fr_alloc (fr_alloc H2.out _) _⟩
    · have H0 := Lib.hid h0
      unfold stGood at hg
      have hor : (b : Int) < 33 ∨ (33 ≤ (b : Int) ∧ 126 < (b : Int)) ∨ (33 ≤ (b : Int) ∧ (b : Int) ≤ 126 ∧ (b : Int) = 35) := by
        simp only [Bool.and_eq_false_iff, Bool.not_eq_false'] at hg
        rcases hg with (h | h) | h
        · left; have : ¬ 33 ≤ b := fun h2 => by rw [← Nat.ble_eq] at h2; rw [h2] at h; cases h
          omega
        · have : ¬ b ≤ 126 := fun h2 => by rw [← Nat.ble_eq] at h2; rw [h2] at h; cases h
          omega
        · have : b = 35 := Nat.eq_of_beq_eq_true h
          omega
      clear h0 hg
      have base : ∀ (k1 : Bool) (k2 : Bool) (k3 : Bool), True := fun _ _ _ => trivial
      clear base
      rcases hor with h | ⟨h1, h2⟩ | ⟨h1, h2, h3⟩
      · have k1 : decide ((33 : Int) ≤ (b : Int)) = false := by simp; omega
        clear h
        go_enter Tryd.func9, Tryd.ntmps9
        go_wp2_with fail
        refine (law7_known _ HM.out HE.out HT.out).mono ?_
        rintro e w1 ⟨rfl, hb1⟩
        have H1 := Lib.hid (fr_alloc hb1 (.cells #[.int .u8 (b : Int)] 5))
        clear hb1
        go_wp2_with fail
        refine (parse_no _ _ _ H0.out (by decide) (HM.out.fr H1.out) (HE.out.fr H1.out) HLS.out).mono ?_
        rintro e w2 ⟨rfl, hb2⟩
        have H2 := Lib.hid (fr_trans H1.out hb2)
        clear hb2
        go_wp2_with fail
        refine (is_errno 10 10 _).mono ?_
        rintro e wq ⟨rfl, rfl⟩
        go_wp2
        go_ret
        exact ⟨rfl, fr_alloc H2.out _⟩
      · have k1 : decide ((33 : Int) ≤ (b : Int)) = true := by simp; omega
        have k2 : decide ((b : Int) ≤ 126) = false := by simp; omega
        clear h1 h2
        go_enter Tryd.func9, Tryd.ntmps9
        go_wp2_with fail
        refine (law7_known _ HM.out HE.out HT.out).mono ?_
        rintro e w1 ⟨rfl, hb1⟩
        have H1 := Lib.hid (fr_alloc hb1 (.cells #[.int .u8 (b : Int)] 5))
        clear hb1
        go_wp2_with fail
        refine (parse_no _ _ _ H0.out (by decide) (HM.out.fr H1.out) (HE.out.fr H1.out) HLS.out).mono ?_
        rintro e w2 ⟨rfl, hb2⟩
        have H2 := Lib.hid (fr_trans H1.out hb2)
        clear hb2
        go_wp2_with fail
        refine (is_errno 10 10 _).mono ?_
        rintro e wq ⟨rfl, rfl⟩
        go_wp2
        go_ret
        exact ⟨rfl, fr_alloc H2.out _⟩
      · have k1 : decide ((33 : Int) ≤ (b : Int)) = true := by simp; omega
        have k2 : decide ((b : Int) ≤ 126) = true := by simp; omega
        have k3 : ((b : Int) != 35) = false := by simp; omega
        clear h1 h2 h3
        go_enter Tryd.func9, Tryd.ntmps9
        go_wp2_with fail
        refine (law7_known _ HM.out HE.out HT.out).mono ?_
        rintro e w1 ⟨rfl, hb1⟩
        have H1 := Lib.hid (fr_alloc hb1 (.cells #[.int .u8 (b : Int)] 5))
        clear hb1
        go_wp2_with fail
        refine (parse_no _ _ _ H0.out (by decide) (HM.out.fr H1.out) (HE.out.fr H1.out) HLS.out).mono ?_
        rintro e w2 ⟨rfl, hb2⟩
        have H2 := Lib.hid (fr_trans H1.out hb2)
        clear hb2
        go_wp2_with fail
        refine (is_errno 10 10 _).mono ?_
        rintro e wq ⟨rfl, rfl⟩
        go_wp2
        go_ret
        exact ⟨rfl, fr_alloc H2.out _⟩
  · go_enter Tryd.func9, Tryd.ntmps9
    go_wp2_with fail
    refine (law7_known _ HM.out HE.out HT.out).mono ?_
    rintro e w1 ⟨rfl, hb1⟩
    have H1 := Lib.hid hb1
    clear hb1
    go_wp2_with fail
    refine (parse_some _ _ stS1 (HM.out.fr H1.out) (HE.out.fr H1.out) (by decide)).mono ?_
    rintro e w2 ⟨rfl, hb2⟩
    generalize (startS ⟨#[79, 80, 84, 73, 79, 78, 83, 32, 42, 32, 72, 84, 84, 80, 47, 49, 46, 49]⟩).2.1 = x1
    generalize (startS ⟨#[79, 80, 84, 73, 79, 78, 83, 32, 42, 32, 72, 84, 84, 80, 47, 49, 46, 49]⟩).2.2.1 = x2
    generalize (startS ⟨#[79, 80, 84, 73, 79, 78, 83, 32, 42, 32, 72, 84, 84, 80, 47, 49, 46, 49]⟩).2.2.2 = x3
    have H2 := Lib.hid (fr_alloc (fr_trans H1.out hb2) (.cells #[.string x1, .string x2, .int .i64 x3, .slice none 0 0, .string ⟨#[]⟩] 46))
    clear hb2
    go_wp2_with fail
    refine (parse_no _ _ _ stS2 (by decide) (HM.out.fr H2.out) (HE.out.fr H2.out) (by decide)).mono ?_
    rintro e w3 ⟨rfl, hb3⟩
    have H3 := Lib.hid (fr_alloc (fr_trans H2.out hb3) (.cells reqZ 46))
    clear hb3
    go_wp2_with fail
    refine (parse_no _ _ _ stS3 (by decide) (HM.out.fr H3.out) (HE.out.fr H3.out) (by decide)).mono ?_
    rintro e w4 ⟨rfl, hb4⟩
    have H4 := Lib.hid (fr_trans H3.out hb4)
    clear hb4
    go_wp2_with fail
    refine (is_errno 10 10 _).mono ?_
    rintro e wq ⟨rfl, rfl⟩
    go_wp2_with fail
    refine (is_errno 10 10 _).mono ?_
    rintro e wq ⟨rfl, rfl⟩
    go_wp2
    go_ret
    exact ⟨rfl, fr_alloc H4.out _⟩
theorem law7_targets (x : Int) (star : Bool) (w : World) (hm : MaxL w) (hE : ErrT w) (hT : Tab w) (x0 : 0 ≤ x) (x1 : x ≤ 255) :
    Calls Tryd.prog 9 #[.int .u8 x, .bool star] w fun e w' => e = .returned (.bool true) ∧ Below w.heap.size w w' := by
  obtain ⟨b, rfl⟩ : ∃ b : Nat, x = (b : Int) := ⟨x.toNat, by omega⟩
  exact targets_walk b star w hm hE hT (by omega)
end Go.Proofs.YtdagppbpeibdgaaDoor
