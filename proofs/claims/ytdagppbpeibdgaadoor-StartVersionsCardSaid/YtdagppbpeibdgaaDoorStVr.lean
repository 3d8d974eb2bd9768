/- conduitlaw7.StartVersions: true. -/
import Derived.Test.YtdagppbpeibdgaaDoorStT
namespace Go.Proofs.YtdagppbpeibdgaaDoor
set_option linter.unusedVariables false
set_option linter.unusedSimpArgs false
open Go.RowKit

theorem vr_eq (a b : UInt8) (z y : ByteArray) (hz : (⟨#[a]⟩ : ByteArray) = z) (hy : (⟨#[b]⟩ : ByteArray) = y) : ⟨#[71, 69, 84, 32, 47, 32, 72, 84, 84, 80, 47]⟩ ++ z ++ ⟨#[46]⟩ ++ y = vrS a b := by
  subst hz hy
  apply L_inj
  unfold vrS
  rw [L_mk, L_app, L_app, L_app]
  rfl
theorem conv1b {P : Program} (W : World) (g : Nat) (c : UInt8) (src dst e : TypeId) (cap : Nat) (z : ByteArray) (hz : (⟨#[c]⟩ : ByteArray) = z) (hs : P.underlying src = some (.slice e)) (he : P.underlying e = some (.int .u8)) (hd : P.underlying dst = some .string)
    (h : W.cell? ⟨g, 0, none⟩ = some (.int .u8 (c.toNat : Int))) : (convert src dst (.slice (some ⟨g, 0, none⟩) 1 cap)).run P W = .ok (.string z) W := by
  subst hz
  have := conv1 W g (c.toNat : Int) src dst e cap hs he hd h
  rw [this]
  simp
set_option maxRecDepth 100000 in
set_option maxHeartbeats 4000000 in
theorem versions_walk (a b : UInt8) (w : World) (hm : MaxL w) (hE : ErrT w) (hT : Tab w) :
    Calls Tryd.prog 11 #[.int .u8 (a.toNat : Int), .int .u8 (b.toNat : Int)] w fun e w' => e = .returned (.bool true) ∧ Below w.heap.size w w' := by
  have HM := Lib.hid hm; have HE := Lib.hid hE; have HT := Lib.hid hT
  clear hm hE hT
  have eqI : ∀ (c d : UInt8), ((c.toNat : Int) == (d.toNat : Int)) = (c == d) := fun c d => by
    rw [Bool.eq_iff_iff, beq_iff_eq, beq_iff_eq]
    constructor
    · intro h; exact UInt8.toNat_inj.1 (by omega)
    · rintro rfl; rfl
  by_cases ha : a = 32
  · have k1 : ((a.toNat : Int) == 32) = true := by rw [ha]; rfl
    clear eqI ha
    go_enter Tryd.func11, Tryd.ntmps11
    go_wp2_with fail
    refine (law7_known _ HM.out HE.out HT.out).mono ?_
    rintro e w1 ⟨rfl, hb1⟩
    go_wp2
    go_ret
    exact ⟨rfl, hb1⟩
  have k1 : ((a.toNat : Int) == 32) = false := (eqI a 32).trans (by simpa using ha)
  by_cases hb : b = 32
  · have k2 : ((b.toNat : Int) == 32) = true := by rw [hb]; rfl
    clear eqI ha hb
    go_enter Tryd.func11, Tryd.ntmps11
    go_wp2_with fail
    refine (law7_known _ HM.out HE.out HT.out).mono ?_
    rintro e w1 ⟨rfl, hb1⟩
    go_wp2
    go_ret
    exact ⟨rfl, hb1⟩
  have k2 : ((b.toNat : Int) == 32) = false := (eqI b 32).trans (by simpa using hb)
  have hone := vrOne a b ha hb
  have e49a : ((a.toNat : Int) == 49) = (a == 49) := eqI a 49
  have e48b : ((b.toNat : Int) == 48) = (b == 48) := eqI b 48
  have e49b : ((b.toNat : Int) == 49) = (b == 49) := eqI b 49
  have hb0 : 0 ≤ (b.toNat : Int) := by omega
  have hb255 := b.toNat_lt
  obtain ⟨z, hz⟩ : ∃ z : ByteArray, (⟨#[a]⟩ : ByteArray) = z := ⟨_, rfl⟩
  obtain ⟨y, hy⟩ : ∃ z : ByteArray, (⟨#[b]⟩ : ByteArray) = z := ⟨_, rfl⟩
  have hl := vr_eq a b z y hz hy
  have hzs : z.size = 1 := by rw [← hz]; rfl
  have hys : y.size = 1 := by rw [← hy]; rfl
  have hv1 : ∀ (W : World) (g : Nat), W.cell? ⟨g, 0, none⟩ = some (.int .u8 (a.toNat : Int)) → (convert 36 9 (.slice (some ⟨g, 0, none⟩) 1 1)).run Tryd.prog W = .ok (.string z) W := fun W g h => conv1b W g a _ _ _ 1 z hz Tryd.underlying36 Tryd.underlying5 Tryd.underlying9 h
  have hv2 : ∀ W : World, (convert 36 9 (.slice (some ⟨W.heap.size, 0, none⟩) 1 1)).run Tryd.prog (W.alloc (.cells #[.int .u8 (a.toNat : Int)] 5)) = .ok (.string z) (W.alloc (.cells #[.int .u8 (a.toNat : Int)] 5)) := fun W => hv1 _ _ (by rw [World.cell?_alloc_mark]; rfl)
  have hy1 : ∀ (W : World) (g : Nat), W.cell? ⟨g, 0, none⟩ = some (.int .u8 (b.toNat : Int)) → (convert 36 9 (.slice (some ⟨g, 0, none⟩) 1 1)).run Tryd.prog W = .ok (.string y) W := fun W g h => conv1b W g b _ _ _ 1 y hy Tryd.underlying36 Tryd.underlying5 Tryd.underlying9 h
  have hy2 : ∀ W : World, (convert 36 9 (.slice (some ⟨W.heap.size, 0, none⟩) 1 1)).run Tryd.prog (W.alloc (.cells #[.int .u8 (b.toNat : Int)] 5)) = .ok (.string y) (W.alloc (.cells #[.int .u8 (b.toNat : Int)] 5)) := fun W => hy1 _ _ (by rw [World.cell?_alloc_mark]; rfl)
  have hls : (⟨#[71, 69, 84, 32, 47, 32, 72, 84, 84, 80, 47]⟩ ++ z ++ ⟨#[46]⟩ ++ y).size ≤ 1000000000 := by rw [size_app, size_app, size_app, hzs, hys]; decide
  have t1 : ¬ 9223372036854775807 < 11 + z.size := by omega
  have t2 : ¬ 9223372036854775807 < 11 + z.size + 1 := by omega
  have t3 : ¬ 9223372036854775807 < 11 + z.size + 1 + y.size := by omega
  rw [← hl] at hone
  have HLS := Lib.hid hls
  clear hl hls hz hy hzs hys eqI ha hb
  have hcase : ((a == 49) = true ∧ ((b == 48) = true ∨ ((b == 48) = false ∧ (b == 49) = true)) ∧ ∃ m t, startS (⟨#[71, 69, 84, 32, 47, 32, 72, 84, 84, 80, 47]⟩ ++ z ++ ⟨#[46]⟩ ++ y) = (0, m, t, (b.toNat : Int) - 48)) ∨
      ((((a == 49) = false) ∨ ((a == 49) = true ∧ (b == 48) = false ∧ (b == 49) = false)) ∧ (startS (⟨#[71, 69, 84, 32, 47, 32, 72, 84, 84, 80, 47]⟩ ++ z ++ ⟨#[46]⟩ ++ y)).1 = 13) := by
    rcases hone with ⟨h1, h2, h3, h4⟩ | ⟨h1, h2⟩
    · refine .inl ⟨by rw [h1]; rfl, ?_, ?_⟩
      · rcases h2 with h2 | h2
        · exact .inl (by rw [h2]; rfl)
        · exact .inr ⟨by rw [h2]; rfl, by rw [h2]; rfl⟩
      · obtain ⟨⟨rn, rm, rt, rk⟩, hr⟩ : ∃ r, startS (⟨#[71, 69, 84, 32, 47, 32, 72, 84, 84, 80, 47]⟩ ++ z ++ ⟨#[46]⟩ ++ y) = r := ⟨_, rfl⟩
        rw [hr] at h3 h4 ⊢
        simp only at h3 h4
        subst h3 h4
        exact ⟨rm, rt, rfl⟩
    · refine .inr ⟨?_, h2⟩
      cases ha : (a == 49)
      · exact .inl rfl
      · refine .inr ⟨rfl, ?_, ?_⟩
        · cases hb : (b == 48)
          · rfl
          · exact absurd ⟨beq_iff_eq.1 ha, .inl (beq_iff_eq.1 hb)⟩ h1
        · cases hb : (b == 49)
          · rfl
          · exact absurd ⟨beq_iff_eq.1 ha, .inr (beq_iff_eq.1 hb)⟩ h1
  clear hone
  have hvr0 : (startS ⟨#[71, 69, 84, 32, 47, 32, 104, 116, 116, 112, 47, 49, 46, 49]⟩).1 = 10 := vrBad
  clear hvr0
  rcases hcase with ⟨h1, h2, rm, rt, hr⟩ | ⟨h1, h13⟩
  · have HR := Lib.hid hr
    have hsub : 48 ≤ (b.toNat : Int) := by
      rcases h2 with h2 | ⟨_, h2⟩
      · rw [beq_iff_eq.1 h2]; decide
      · rw [beq_iff_eq.1 h2]; decide
    rw [h1] at e49a
    clear hr
    have hb01 : ((b == 48) = true ∨ ((b == 48) = false ∧ (b == 49) = true)) := h2
    rcases hb01 with h2 | ⟨h2, h3⟩
    all_goals
      rw [h2] at e48b
      try rw [h3] at e49b
      go_enter Tryd.func11, Tryd.ntmps11
      go_wp2_with fail
      refine (law7_known _ HM.out HE.out HT.out).mono ?_
      rintro e w1 ⟨rfl, hb1⟩
      have H1 := Lib.hid (fr_alloc (fr_alloc hb1 (.cells #[.int .u8 (a.toNat : Int)] 5)) (.cells #[.int .u8 (b.toNat : Int)] 5))
      clear hb1
      go_wp2_with fail
      refine (parse_ok _ _ _ _ _ HR.out (HM.out.fr H1.out) (HE.out.fr H1.out) HLS.out).mono ?_
      rintro e w2 ⟨rfl, hb2⟩
      have HB2 := Lib.hid (Box.new w2 [.string rm, .string rt, .int .i64 ((b.toNat : Int) - 48), .slice none 0 0, .string ⟨#[]⟩] 46)
      have H2 := Lib.hid (fr_alloc (fr_trans H1.out hb2) (.cells #[.string rm, .string rt, .int .i64 ((b.toNat : Int) - 48), .slice none 0 0, .string ⟨#[]⟩] 46))
      clear hb2
      go_wp2_with fail
      refine (parse_no _ _ _ vrBad (by decide) (HM.out.fr H2.out) (HE.out.fr H2.out) (by decide)).mono ?_
      rintro e w3 ⟨rfl, hb3⟩
      have hB3 := HB2.out.fr hb3
      have qc0 : w3.cell? ⟨w2.heap.size, 0, none⟩ = some (.string rm) := hB3.2 0 _ rfl
      have qc1 : w3.cell? ⟨w2.heap.size, 1, none⟩ = some (.string rt) := hB3.2 1 _ rfl
      have qc2 : w3.cell? ⟨w2.heap.size, 2, none⟩ = some (.int .i64 ((b.toNat : Int) - 48)) := hB3.2 2 _ rfl
      have qc3 : w3.cell? ⟨w2.heap.size, 3, none⟩ = some (.slice none 0 0) := hB3.2 3 _ rfl
      have qc4 : w3.cell? ⟨w2.heap.size, 4, none⟩ = some (.string ⟨#[]⟩) := hB3.2 4 _ rfl
      have qlt : w2.heap.size < w3.heap.size := hB3.1
      have H3 := Lib.hid (fr_trans H2.out hb3)
      clear hb3 hB3
      go_wp2_with fail
      refine (is_errno 10 10 _).mono ?_
      rintro e wq ⟨rfl, rfl⟩
      go_wp2
      go_ret
      exact ⟨rfl, fr_alloc H3.out _⟩
  · have H13 := Lib.hid h13
    clear h13
    rcases h1 with h1 | ⟨h1, h2, h3⟩
    all_goals
      rw [h1] at e49a
      try rw [h2] at e48b
      try rw [h3] at e49b
      go_enter Tryd.func11, Tryd.ntmps11
      go_wp2_with fail
      refine (law7_known _ HM.out HE.out HT.out).mono ?_
      rintro e w1 ⟨rfl, hb1⟩
      have H1 := Lib.hid (fr_alloc (fr_alloc hb1 (.cells #[.int .u8 (a.toNat : Int)] 5)) (.cells #[.int .u8 (b.toNat : Int)] 5))
      clear hb1
      go_wp2_with fail
      refine (parse_no _ _ _ H13.out (by decide) (HM.out.fr H1.out) (HE.out.fr H1.out) HLS.out).mono ?_
      rintro e w2 ⟨rfl, hb2⟩
      have H2 := Lib.hid (fr_alloc (fr_trans H1.out hb2) (.cells reqZ 46))
      clear hb2
      go_wp2_with fail
      refine (parse_no _ _ _ vrBad (by decide) (HM.out.fr H2.out) (HE.out.fr H2.out) (by decide)).mono ?_
      rintro e w3 ⟨rfl, hb3⟩
      have H3 := Lib.hid (fr_trans H2.out hb3)
      clear hb3
      go_wp2_with fail
      refine (is_errno 13 13 _).mono ?_
      rintro e wq ⟨rfl, rfl⟩
      go_wp2_with fail
      refine (is_errno 10 10 _).mono ?_
      rintro e wq ⟨rfl, rfl⟩
      go_wp2
      go_ret
      exact ⟨rfl, fr_alloc H3.out _⟩
theorem u8_of (x : Int) (h0 : 0 ≤ x) (h1 : x ≤ 255) : ∃ c : UInt8, x = (c.toNat : Int) :=
  ⟨UInt8.ofNat x.toNat, by
    have h : x.toNat < 256 := by omega
    have := UInt8.toNat_ofNat_of_lt' h
    omega⟩
theorem law7_versions (x y : Int) (w : World) (hm : MaxL w) (hE : ErrT w) (hT : Tab w) (x0 : 0 ≤ x) (x1 : x ≤ 255) (y0 : 0 ≤ y) (y1 : y ≤ 255) :
    Calls Tryd.prog 11 #[.int .u8 x, .int .u8 y] w fun e w' => e = .returned (.bool true) ∧ Below w.heap.size w w' := by
  obtain ⟨a, rfl⟩ := u8_of x x0 x1
  obtain ⟨b, rfl⟩ := u8_of y y0 y1
  exact versions_walk _ _ w hm hE hT
end Go.Proofs.YtdagppbpeibdgaaDoor
