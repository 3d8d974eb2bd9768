/- conduitlaw7.known. -/
import Derived.Test.YtdagppbpeibdgaaDoorSt3
namespace Go.Proofs.YtdagppbpeibdgaaDoor
set_option linter.unusedVariables false
set_option linter.unusedSimpArgs false
open Go.RowKit

theorem k7a : startS ⟨#[71, 69, 84, 32, 47, 97, 63, 98, 32, 72, 84, 84, 80, 47, 49, 46, 49]⟩ = (0, ⟨#[71, 69, 84]⟩, ⟨#[47, 97, 63, 98]⟩, 1) := by kernel_rfl
theorem k7b : (startS ⟨#[71, 69, 84, 32, 32, 47, 32, 72, 84, 84, 80, 47, 49, 46, 49]⟩).1 = 10 := by kernel_rfl
theorem k7c : (startS ⟨#[71, 69, 84, 32, 47, 32, 72, 84, 84, 80, 47, 50, 46, 48]⟩).1 = 13 := by kernel_rfl
theorem k7d : (startS ⟨#[71, 69, 84, 32, 97, 32, 72, 84, 84, 80, 47, 49, 46, 48]⟩).1 = 10 := by kernel_rfl
theorem k7e : cutS ⟨#[47, 97, 63, 98, 63, 99]⟩ 63 = (⟨#[47, 97]⟩, ⟨#[98, 63, 99]⟩, true) := by rw [cutE_eq]; kernel_rfl
theorem k7f : printS ⟨#[71, 69, 84]⟩ ⟨#[47, 97, 63, 98]⟩ 1 = ⟨#[71, 69, 84, 32, 47, 97, 63, 98, 32, 72, 84, 84, 80, 47, 49, 46, 49]⟩ := by unfold printS; rw [itoa1]; rfl
set_option maxRecDepth 100000 in
set_option maxHeartbeats 4000000 in
theorem law7_known (w : World) (hm : MaxL w) (hE : ErrT w) (hT : Tab w) : Calls Tryd.prog 21 #[] w fun e w' => e = .returned (.bool true) ∧ Below w.heap.size w w' := by
  have HM := Lib.hid hm; have HE := Lib.hid hE; have HT := Lib.hid hT
  clear hm hE hT
  go_enter Tryd.func21, Tryd.ntmps21
  go_wp2_with fail
  refine (parse_ok _ _ _ _ _ k7a HM.out HE.out (by decide)).mono ?_
  rintro e w1 ⟨rfl, hb1⟩
  have HB1 := Lib.hid (Box.new w1 [.string ⟨#[71, 69, 84]⟩, .string ⟨#[47, 97, 63, 98]⟩, .int .i64 1, .slice none 0 0, .string ⟨#[]⟩] 46)
  have H1 := Lib.hid (fr_alloc hb1 (.cells #[.string ⟨#[71, 69, 84]⟩, .string ⟨#[47, 97, 63, 98]⟩, .int .i64 1, .slice none 0 0, .string ⟨#[]⟩] 46))
  clear hb1
  go_wp2_with fail
  refine (parse_no _ _ _ k7b (by decide) (HM.out.fr H1.out) (HE.out.fr H1.out) (by decide)).mono ?_
  rintro e w2 ⟨rfl, hb2⟩
  have HB2 := Lib.hid ((HB1.out.fr hb2).fr (fr_alloc (fr_refl _) (.cells reqZ 46)))
  have H2 := Lib.hid (fr_alloc (fr_trans H1.out hb2) (.cells reqZ 46))
  clear hb2
  go_wp2_with fail
  refine (parse_no _ _ _ k7c (by decide) (HM.out.fr H2.out) (HE.out.fr H2.out) (by decide)).mono ?_
  rintro e w3 ⟨rfl, hb3⟩
  have HB3 := Lib.hid ((HB2.out.fr hb3).fr (fr_alloc (fr_refl _) (.cells reqZ 46)))
  have H3 := Lib.hid (fr_alloc (fr_trans H2.out hb3) (.cells reqZ 46))
  clear hb3
  go_wp2_with fail
  refine (parse_no _ _ _ k7d (by decide) (HM.out.fr H3.out) (HE.out.fr H3.out) (by decide)).mono ?_
  rintro e w4 ⟨rfl, hb4⟩
  have HB4 := Lib.hid ((HB3.out.fr hb4).fr (fr_alloc (fr_refl _) (.cells reqZ 46)))
  have H4 := Lib.hid (fr_alloc (fr_trans H3.out hb4) (.cells reqZ 46))
  clear hb4
  go_wp2_with fail
  refine (st_Split _ _ _ _ _ k7e (by decide)).mono ?_
  rintro e w5 ⟨rfl, hb5⟩
  have hB5 := HB4.out.fr hb5
  have qc0 : w5.cell? ⟨w1.heap.size, 0, none⟩ = some (.string ⟨#[71, 69, 84]⟩) := hB5.2 0 _ rfl
  have qc1 : w5.cell? ⟨w1.heap.size, 1, none⟩ = some (.string ⟨#[47, 97, 63, 98]⟩) := hB5.2 1 _ rfl
  have qc2 : w5.cell? ⟨w1.heap.size, 2, none⟩ = some (.int .i64 1) := hB5.2 2 _ rfl
  have qc3 : w5.cell? ⟨w1.heap.size, 3, none⟩ = some (.slice none 0 0) := hB5.2 3 _ rfl
  have qc4 : w5.cell? ⟨w1.heap.size, 4, none⟩ = some (.string ⟨#[]⟩) := hB5.2 4 _ rfl
  have qlt : w1.heap.size < w5.heap.size := hB5.1
  have H5 := Lib.hid (fr_trans H4.out hb5)
  clear hb5 hB5
  go_wp2_with fail
  refine (is_errno 10 10 _).mono ?_
  rintro e wq ⟨rfl, rfl⟩
  go_wp2_with fail
  refine (is_errno 13 13 _).mono ?_
  rintro e wq ⟨rfl, rfl⟩
  go_wp2_with fail
  refine (is_errno 10 10 _).mono ?_
  rintro e wq ⟨rfl, rfl⟩
  go_wp2_with fail
  refine (st_Print _ _ 1 _ _ _ _ _ (HT.out.fr H5.out) (by decide) (by decide) (by decide) (by decide)).mono ?_
  rintro e w6 ⟨rfl, hb6⟩
  rw [k7f]
  go_wp2
  go_ret
  exact ⟨rfl, fr_trans H5.out hb6⟩
end Go.Proofs.YtdagppbpeibdgaaDoor
