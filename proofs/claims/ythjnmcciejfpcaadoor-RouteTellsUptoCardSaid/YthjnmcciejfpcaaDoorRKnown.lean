/- conduitlaw13.known: true. -/
import Derived.Test.YthjnmcciejfpcaaDoorRoute5
import Derived.Test.YthjnmcciejfpcaaDoorMI
namespace Go.Proofs.YthjnmcciejfpcaaDoor
set_option linter.unusedVariables false
set_option linter.unusedSimpArgs false
open Go.RowKit

def rv (k : Int) (h p : ByteArray) : RV := ⟨k, h, p, 0, none, 0, 0⟩
def knownL : List RV := [rv 3 ⟨#[]⟩ ⟨#[47]⟩, rv 3 ⟨#[]⟩ ⟨#[47, 97, 112, 112]⟩, rv 1 ⟨#[]⟩ ⟨#[47, 97, 112, 112, 47, 120]⟩, rv 2 ⟨#[]⟩ ⟨#[47, 117, 47, 58, 105, 100]⟩, rv 4 ⟨#[]⟩ ⟨#[46, 112, 104, 112]⟩, rv 3 ⟨#[104]⟩ ⟨#[47]⟩]
theorem choose_at {ru : Int} {sc inf : ByteArray} {nm : List Pr} {kd ms : Int} (n' : Nat) (ok : Bool) (A : Option Addr) (c n : Nat) (l : List RV) (host p : ByteArray) (w : World) (h : chooseS l host p = ⟨ru, sc, inf, nm, kd, ms⟩) (hn' : nm.length = n') (hok : decide (0 < kd) = ok) (hn : l.length = n)
    (hm : MaxL w) (hR : Rules w A l) (hf : ∀ r ∈ l, FitsR r.path p r.kind) (hl : l.length ≤ 1000000000) (hh : host.size ≤ 9223372036854775807) :
    Calls Tryd.prog 8 #[.slice A n c, .string host, .string p] w fun e w' => (∃ A c, e = .returned (.tuple #[.agg #[.int .i64 ru, .string sc, .string inf, .slice A n' c], .bool ok]) ∧ FPairs w.heap.size w' A nm) ∧ Below w.heap.size w w' := by
  subst hn hn' hok
  have h1 := route_Choose A c l host p w hm hR hf hl hh
  rw [h] at h1
  exact h1
theorem match_at {sc inf : ByteArray} {nm : List Pr} (n' : Nat) (k : Int) (h0 rp : ByteArray) (b0 : Int) (wA : Option Addr) (wn wc : Nat) (p : ByteArray) (w : World) (h : matchS k rp p = some (sc, inf, nm)) (hn' : nm.length = n') (hm : MaxL w) (hf : FitsR rp p k) :
    Calls Tryd.prog 11 #[.agg #[.int .i64 k, .string h0, .string rp, .int .i64 b0, .slice wA wn wc], .string p] w fun e w' => (∃ A c, e = .returned (.tuple #[.agg #[.int .i64 0, .string sc, .string inf, .slice A n' c], .bool true]) ∧ FPairs w.heap.size w' A nm) ∧ Below w.heap.size w w' := by
  subst hn'
  have h1 := route_Match k h0 rp b0 wA wn wc p w hm hf
  rw [h] at h1
  exact h1
theorem fits_of {l : List RV} {p : ByteArray} (h : l.all (fun r => fitsE r p) = true) : ∀ r ∈ l, FitsR r.path p r.kind := by
  intro r hr
  have h1 := List.all_eq_true.1 h r hr
  unfold fitsE at h1
  simp only [Bool.and_eq_true, Nat.ble_eq] at h1
  refine ⟨h1.1.1, h1.1.2, fun h3 hb => ?_⟩
  have h2 := h1.2
  rw [begE_eq] at hb
  rw [h3, hb] at h2
  simpa using h2
theorem kc1 : chooseS knownL ⟨#[]⟩ ⟨#[47, 97, 112, 112, 47, 121]⟩ = ⟨1, ⟨#[47, 97, 112, 112]⟩, ⟨#[47, 121]⟩, [], 3, 1⟩ := by rw [chooseE_eq]; kernel_rfl
theorem kc2 : chooseS knownL ⟨#[]⟩ ⟨#[47, 97, 112, 112, 47, 120]⟩ = ⟨2, ⟨#[47, 97, 112, 112, 47, 120]⟩, ⟨#[]⟩, [], 1, 0⟩ := by rw [chooseE_eq]; kernel_rfl
theorem kc3 : chooseS knownL ⟨#[113]⟩ ⟨#[47, 117, 47, 55]⟩ = ⟨3, ⟨#[47, 117, 47, 55]⟩, ⟨#[]⟩, [(⟨#[105, 100]⟩, ⟨#[55]⟩)], 2, 1⟩ := by rw [chooseE_eq]; kernel_rfl
theorem kc4 : chooseS knownL ⟨#[72, 58, 56, 48]⟩ ⟨#[47, 97, 112, 112, 47, 120]⟩ = ⟨5, ⟨#[]⟩, ⟨#[47, 97, 112, 112, 47, 120]⟩, [], 3, 0⟩ := by rw [chooseE_eq]; kernel_rfl
theorem kc5 : matchS 4 ⟨#[46, 112, 104, 112]⟩ ⟨#[47, 97, 47, 105, 46, 112, 104, 112, 47, 109, 111, 114, 101]⟩ = some (⟨#[47, 97, 47, 105, 46, 112, 104, 112]⟩, ⟨#[47, 109, 111, 114, 101]⟩, []) := by rw [matchE_eq]; kernel_rfl
theorem kc6 : chooseS [] ⟨#[]⟩ ⟨#[47]⟩ = ⟨0, ⟨#[]⟩, ⟨#[]⟩, [], 0, 0⟩ := by rw [chooseE_eq]; kernel_rfl
theorem kf1 : ∀ r ∈ knownL, FitsR r.path ⟨#[47, 97, 112, 112, 47, 121]⟩ r.kind := fits_of (by kernel_rfl)
theorem kf2 : ∀ r ∈ knownL, FitsR r.path ⟨#[47, 97, 112, 112, 47, 120]⟩ r.kind := fits_of (by kernel_rfl)
theorem kf3 : ∀ r ∈ knownL, FitsR r.path ⟨#[47, 117, 47, 55]⟩ r.kind := fits_of (by kernel_rfl)

def knownC : Array Value := #[.int .i64 3, .string ⟨#[]⟩, .string ⟨#[47]⟩, .int .i64 0, .slice none 0 0, .int .i64 3, .string ⟨#[]⟩, .string ⟨#[47, 97, 112, 112]⟩, .int .i64 0, .slice none 0 0, .int .i64 1, .string ⟨#[]⟩, .string ⟨#[47, 97, 112, 112, 47, 120]⟩, .int .i64 0, .slice none 0 0, .int .i64 2, .string ⟨#[]⟩, .string ⟨#[47, 117, 47, 58, 105, 100]⟩, .int .i64 0, .slice none 0 0, .int .i64 4, .string ⟨#[]⟩, .string ⟨#[46, 112, 104, 112]⟩, .int .i64 0, .slice none 0 0, .int .i64 3, .string ⟨#[104]⟩, .string ⟨#[47]⟩, .int .i64 0, .slice none 0 0]
set_option maxHeartbeats 4000000 in
theorem law13_known (w : World) (hm : MaxL w) : Calls Tryd.prog 5 #[] w fun e w' => e = .returned (.bool true) ∧ Below w.heap.size w w' := by
  have HM := Lib.hid hm; clear hm
  have HR : RowKit.Hid (Rules (w.alloc (.cells knownC 36)) (some ⟨w.heap.size, 0, none⟩) knownL) := Rules.new w knownL 36
  have hw0 : Below w.heap.size w (w.alloc (.cells knownC 36)) := fr_alloc (fr_refl _) _
  have hB0 := Box.new w knownC.toList 36
  have HB0 : RowKit.Hid (Box (w.alloc (.cells knownC 36)) w.heap.size knownC.toList) := hB0
  clear hB0
  go_enter Tryd.func5, Tryd.ntmps5
  go_wp2_with fail
  refine (choose_at 0 true _ 6 6 knownL ⟨#[]⟩ ⟨#[47, 97, 112, 112, 47, 121]⟩ _ kc1 rfl rfl rfl (HM.out.fr hw0) HR.out kf1 (by decide) (by decide)).mono ?_
  rintro e w1 ⟨⟨A1, c1, rfl, hp1⟩, hb1⟩
  have hw1 := fr_alloc (fr_trans hw0 hb1) (.cells #[.int .i64 1, .string ⟨#[47, 97, 112, 112]⟩, .string ⟨#[47, 121]⟩, .slice A1 0 c1] 29)
  have H1 := Lib.hid (Box.new w1 [.int .i64 1, .string ⟨#[47, 97, 112, 112]⟩, .string ⟨#[47, 121]⟩, .slice A1 0 c1] 29)
  have HR1 := Lib.hid ((HR.out.fr hb1).fr (fr_alloc (fr_refl _) (.cells #[.int .i64 1, .string ⟨#[47, 97, 112, 112]⟩, .string ⟨#[47, 121]⟩, .slice A1 0 c1] 29)))
  have F1 := Lib.hid hb1
  clear hb1 hp1
  go_wp2_with fail
  refine (choose_at 0 true _ 6 6 knownL ⟨#[]⟩ ⟨#[47, 97, 112, 112, 47, 120]⟩ _ kc2 rfl rfl rfl (HM.out.fr hw1) HR1.out kf2 (by decide) (by decide)).mono ?_
  rintro e w2 ⟨⟨A2, c2, rfl, hp2⟩, hb2⟩
  have hw2 := fr_alloc (fr_trans hw1 hb2) (.cells #[.int .i64 2, .string ⟨#[47, 97, 112, 112, 47, 120]⟩, .string ⟨#[]⟩, .slice A2 0 c2] 29)
  have H2 := Lib.hid (Box.new w2 [.int .i64 2, .string ⟨#[47, 97, 112, 112, 47, 120]⟩, .string ⟨#[]⟩, .slice A2 0 c2] 29)
  have HR2 := Lib.hid ((HR1.out.fr hb2).fr (fr_alloc (fr_refl _) (.cells #[.int .i64 2, .string ⟨#[47, 97, 112, 112, 47, 120]⟩, .string ⟨#[]⟩, .slice A2 0 c2] 29)))
  have F2 := Lib.hid hb2
  clear hb2 hp2
  go_wp2_with fail
  refine (choose_at 1 true _ 6 6 knownL ⟨#[113]⟩ ⟨#[47, 117, 47, 55]⟩ _ kc3 rfl rfl rfl (HM.out.fr hw2) HR2.out kf3 (by decide) (by decide)).mono ?_
  rintro e w3 ⟨⟨A3, c3, rfl, hp3⟩, hb3⟩
  have hw3 := fr_alloc (fr_trans hw2 hb3) (.cells #[.int .i64 3, .string ⟨#[47, 117, 47, 55]⟩, .string ⟨#[]⟩, .slice A3 1 c3] 29)
  have H3 := Lib.hid (Box.new w3 [.int .i64 3, .string ⟨#[47, 117, 47, 55]⟩, .string ⟨#[]⟩, .slice A3 1 c3] 29)
  have HR3 := Lib.hid ((HR2.out.fr hb3).fr (fr_alloc (fr_refl _) (.cells #[.int .i64 3, .string ⟨#[47, 117, 47, 55]⟩, .string ⟨#[]⟩, .slice A3 1 c3] 29)))
  have HP3 := Lib.hid (hp3.pairs.fr (fr_alloc (fr_refl _) (.cells #[.int .i64 3, .string ⟨#[47, 117, 47, 55]⟩, .string ⟨#[]⟩, .slice A3 1 c3] 29)))
  have F3 := Lib.hid hb3
  clear hb3 hp3
  go_wp2_with fail
  refine (choose_at 0 true _ 6 6 knownL ⟨#[72, 58, 56, 48]⟩ ⟨#[47, 97, 112, 112, 47, 120]⟩ _ kc4 rfl rfl rfl (HM.out.fr hw3) HR3.out kf2 (by decide) (by decide)).mono ?_
  rintro e w4 ⟨⟨A4, c4, rfl, hp4⟩, hb4⟩
  have hw4' := fr_trans hw3 hb4
  have hw4 := fr_alloc hw4' (.cells #[.int .i64 5, .string ⟨#[]⟩, .string ⟨#[47, 97, 112, 112, 47, 120]⟩, .slice A4 0 c4] 29)
  have H4 := Lib.hid (Box.new w4 [.int .i64 5, .string ⟨#[]⟩, .string ⟨#[47, 97, 112, 112, 47, 120]⟩, .slice A4 0 c4] 29)
  have F4 := Lib.hid hb4
  have hB4 := (((HB0.out.fr F1.out).fr (fr_alloc (fr_refl _) (.cells #[.int .i64 1, .string ⟨#[47, 97, 112, 112]⟩, .string ⟨#[47, 121]⟩, .slice A1 0 c1] 29))).fr F2.out).fr (fr_alloc (fr_refl _) (.cells #[.int .i64 2, .string ⟨#[47, 97, 112, 112, 47, 120]⟩, .string ⟨#[]⟩, .slice A2 0 c2] 29))
  have hB5 := ((hB4.fr F3.out).fr (fr_alloc (fr_refl _) (.cells #[.int .i64 3, .string ⟨#[47, 117, 47, 55]⟩, .string ⟨#[]⟩, .slice A3 1 c3] 29))).fr F4.out
  have q0 : w4.cell? ⟨w.heap.size, 20, none⟩ = some (.int .i64 4) := hB5.2 20 _ rfl
  have q1 : w4.cell? ⟨w.heap.size, 21, none⟩ = some (.string ⟨#[]⟩) := hB5.2 21 _ rfl
  have q2 : w4.cell? ⟨w.heap.size, 22, none⟩ = some (.string ⟨#[46, 112, 104, 112]⟩) := hB5.2 22 _ rfl
  have q3 : w4.cell? ⟨w.heap.size, 23, none⟩ = some (.int .i64 0) := hB5.2 23 _ rfl
  have q4 : w4.cell? ⟨w.heap.size, 24, none⟩ = some (.slice none 0 0) := hB5.2 24 _ rfl
  have qlt : w.heap.size < w4.heap.size := hB5.1
  clear hb4 hp4 hB4 hB5 hw4'
  go_wp2_with fail
  refine (match_at 0 4 ⟨#[]⟩ ⟨#[46, 112, 104, 112]⟩ 0 none 0 0 ⟨#[47, 97, 47, 105, 46, 112, 104, 112, 47, 109, 111, 114, 101]⟩ _ kc5 rfl (HM.out.fr hw4) ⟨by decide, by decide, fun h => by cases h⟩).mono ?_
  rintro e w5 ⟨⟨A5, c5, rfl, hp5⟩, hb5⟩
  have hw5 := fr_alloc (fr_trans hw4 hb5) (.cells #[.int .i64 0, .string ⟨#[47, 97, 47, 105, 46, 112, 104, 112]⟩, .string ⟨#[47, 109, 111, 114, 101]⟩, .slice A5 0 c5] 29)
  have H5 := Lib.hid (Box.new w5 [.int .i64 0, .string ⟨#[47, 97, 47, 105, 46, 112, 104, 112]⟩, .string ⟨#[47, 109, 111, 114, 101]⟩, .slice A5 0 c5] 29)
  have F5 := Lib.hid hb5
  clear hb5 hp5 q0 q1 q2 q3 q4 qlt
  go_wp2_with fail
  refine (choose_at 0 false _ 0 0 [] ⟨#[]⟩ ⟨#[47]⟩ _ kc6 rfl rfl rfl (HM.out.fr hw5) (Rules.nil _ _) (fun r h => by cases h) (by decide) (by decide)).mono ?_
  rintro e w6 ⟨⟨A6, c6, rfl, hp6⟩, hb6⟩
  have hw6 := fr_trans hw5 hb6
  have G4 := fr_trans (fr_alloc F5.out (.cells #[.int .i64 0, .string ⟨#[47, 97, 47, 105, 46, 112, 104, 112]⟩, .string ⟨#[47, 109, 111, 114, 101]⟩, .slice A5 0 c5] 29)) hb6
  have G3 := fr_trans (fr_alloc F4.out (.cells #[.int .i64 5, .string ⟨#[]⟩, .string ⟨#[47, 97, 112, 112, 47, 120]⟩, .slice A4 0 c4] 29)) G4
  have G2 := fr_trans (fr_alloc F3.out (.cells #[.int .i64 3, .string ⟨#[47, 117, 47, 55]⟩, .string ⟨#[]⟩, .slice A3 1 c3] 29)) G3
  have G1 := fr_trans (fr_alloc F2.out (.cells #[.int .i64 2, .string ⟨#[47, 97, 112, 112, 47, 120]⟩, .string ⟨#[]⟩, .slice A2 0 c2] 29)) G2
  have b1 := H1.out.fr G1
  have pc0 : w6.cell? ⟨w1.heap.size, 0, none⟩ = some (.int .i64 1) := b1.2 0 _ rfl
  have pc1 : w6.cell? ⟨w1.heap.size, 1, none⟩ = some (.string ⟨#[47, 97, 112, 112]⟩) := b1.2 1 _ rfl
  have pc2 : w6.cell? ⟨w1.heap.size, 2, none⟩ = some (.string ⟨#[47, 121]⟩) := b1.2 2 _ rfl
  have plt : w1.heap.size < w6.heap.size := b1.1
  have b2 := H2.out.fr G2
  have qc0 : w6.cell? ⟨w2.heap.size, 0, none⟩ = some (.int .i64 2) := b2.2 0 _ rfl
  have qlt : w2.heap.size < w6.heap.size := b2.1
  have b3 := H3.out.fr G3
  have rc0 : w6.cell? ⟨w3.heap.size, 0, none⟩ = some (.int .i64 3) := b3.2 0 _ rfl
  have rc3 : w6.cell? ⟨w3.heap.size, 3, none⟩ = some (.slice A3 1 c3) := b3.2 3 _ rfl
  have rlt : w3.heap.size < w6.heap.size := b3.1
  obtain ⟨nb, no, rfl, nlt, hnc⟩ := (HP3.out.fr G3) (by decide)
  have n1 : w6.cell? ⟨nb, no + 1, none⟩ = some (.string ⟨#[55]⟩) := (hnc 0 (by decide)).2
  have b4 := H4.out.fr G4
  have sc0 : w6.cell? ⟨w4.heap.size, 0, none⟩ = some (.int .i64 5) := b4.2 0 _ rfl
  have slt : w4.heap.size < w6.heap.size := b4.1
  have b5 := H5.out.fr hb6
  have tc1 : w6.cell? ⟨w5.heap.size, 1, none⟩ = some (.string ⟨#[47, 97, 47, 105, 46, 112, 104, 112]⟩) := b5.2 1 _ rfl
  have tc2 : w6.cell? ⟨w5.heap.size, 2, none⟩ = some (.string ⟨#[47, 109, 111, 114, 101]⟩) := b5.2 2 _ rfl
  have tlt : w5.heap.size < w6.heap.size := b5.1
  have HW6 := Lib.hid hw6
  clear b1 b2 b3 b4 b5 G1 G2 G3 G4 hb6 hw6 hw5 hw4 hw3 hw2 hw1 hw0 hnc hp6
  go_wp2
  go_ret
  exact ⟨rfl, fr_alloc HW6.out _⟩
end Go.Proofs.YthjnmcciejfpcaaDoor
