/- start.Split, Print; conduitlaw7.known. -/
import Derived.Test.YtdagppbpeibdgaaDoorSt2
import Derived.Test.YtdagppbpeibdgaaDoorStV
import Derived.Test.YtdagppbpeibdgaaDoorFV
import Derived.Test.YtdagppbpeibdgaaDoorNum
import Derived.Deep.RegionHeld3
namespace Go.Proofs.YtdagppbpeibdgaaDoor
set_option linter.unusedVariables false
set_option linter.unusedSimpArgs false
open Go.RowKit

theorem startS_no {line : ByteArray} {n : Int} (h : (startS line).1 = n) (h0 : n ≠ 0) : startS line = (n, ⟨#[]⟩, ⟨#[]⟩, 0) := by
  by_cases hl : (cutB line 32).length = 3
  · obtain ⟨m, t, v, hc⟩ : ∃ m t v, cutB line 32 = [m, t, v] := by
      match hq : cutB line 32 with
      | [a, b, c] => exact ⟨a, b, c, rfl⟩
      | [] => rw [hq] at hl; cases hl
      | [a] => rw [hq] at hl; cases hl
      | [a, b] => rw [hq] at hl; cases hl
      | a :: b :: c :: d :: r => rw [hq] at hl; simp at hl
    rw [startS_eq hc] at h ⊢
    split at h
    · rename_i h1; rw [if_pos h1, ← h]
    · rename_i h1
      rw [if_neg h1]
      split at h
      · rename_i h2; rw [if_pos h2, ← h]
      · rename_i h2
        rw [if_neg h2]
        split at h
        · rename_i h3; rw [if_pos h3, ← h]
        · exact absurd h.symm h0
  · rw [startS_ne hl] at h ⊢
    rw [← h]
theorem parse_no (line : ByteArray) (n : Int) (w : World) (h : (startS line).1 = n) (h0 : n ≠ 0) (hm : MaxL w) (hE : ErrT w) (hs : line.size ≤ 1000000000) :
    Calls Tryd.prog 22 #[.string line] w fun e w' => e = .returned (.tuple #[.agg #[.string ⟨#[]⟩, .string ⟨#[]⟩, .int .i64 0, .slice none 0 0, .string ⟨#[]⟩], .iface 38 (.int .i64 n)]) ∧ Below w.heap.size w w' := by
  have := st_Parse line w hm hE hs
  rw [startS_no h h0] at this
  unfold startR errV at this
  rw [if_neg h0] at this
  exact this
theorem parse_ok (line m t : ByteArray) (k : Int) (w : World) (h : startS line = (0, m, t, k)) (hm : MaxL w) (hE : ErrT w) (hs : line.size ≤ 1000000000) :
    Calls Tryd.prog 22 #[.string line] w fun e w' => e = .returned (.tuple #[.agg #[.string m, .string t, .int .i64 k, .slice none 0 0, .string ⟨#[]⟩], .nilIface]) ∧ Below w.heap.size w w' := by
  have := st_Parse line w hm hE hs
  rw [h] at this
  exact this
theorem st_Split (t p q : ByteArray) (o : Bool) (w : World) (h : cutS t 63 = (p, q, o)) (hs : t.size ≤ 9223372036854775807) :
    Calls Tryd.prog 24 #[.string t] w fun e w' => e = .returned (.tuple #[.string p, .string q]) ∧ Below w.heap.size w w' := by
  have hc := fun W => lib_Cut t 63 W hs
  rw [h] at hc
  have HC := Lib.hid hc
  clear hc h
  go_enter Tryd.func24, Tryd.ntmps24
  go_wp2_with fail
  refine (HC.out _).mono ?_
  rintro e w1 ⟨rfl, hb1⟩
  go_wp2
  go_ret2
  exact ⟨rfl, hb1⟩
def printS (m t : ByteArray) (k : Int) : ByteArray := m ++ ⟨#[32]⟩ ++ t ++ ⟨#[32, 72, 84, 84, 80, 47, 49, 46]⟩ ++ itoaB k
set_option maxHeartbeats 2000000 in
theorem st_Print (m t : ByteArray) (k : Int) (A : Option Addr) (n c : Nat) (bd : ByteArray) (w : World) (hT : Tab w) (h0 : -9223372036854775808 ≤ k) (h1 : k ≤ 9223372036854775807) (hm : m.size ≤ 1000000000000) (ht : t.size ≤ 1000000000000) :
    Calls Tryd.prog 28 #[.agg #[.string m, .string t, .int .i64 k, .slice A n c, .string bd]] w fun e w' => e = .returned (.string (printS m t k)) ∧ Below w.heap.size w w' := by
  have hw0 := fr_alloc (fr_refl w) (.cells #[.string m, .string t, .int .i64 k, .slice A n c, .string bd] 46)
  have hB := Box.new w [.string m, .string t, .int .i64 k, .slice A n c, .string bd] 46
  have hz : (itoaB k).size ≤ 100 := Nat.le_trans (itoaB_size k h0 h1) (by decide)
  have hI := fun W hT => strconv_Itoa k h0 h1 W hT
  obtain ⟨z, hzz⟩ : ∃ z, itoaB k = z := ⟨_, rfl⟩
  have hP : printS m t k = m ++ ⟨#[32]⟩ ++ t ++ ⟨#[32, 72, 84, 84, 80, 47, 49, 46]⟩ ++ z := by unfold printS; rw [hzz]
  rw [hzz] at hz hI
  have HI := Lib.hid hI; have HP := Lib.hid hP; have HW := Lib.hid (fr_drew hw0); have HTT := Lib.hid (hT.fr (fr_drew hw0))
  have b0 := hB.at_ 0 (.string m)
  have b1 := hB.at_ 1 (.string t)
  have b2 := hB.at_ 2 (.int .i64 k)
  have s1 : ¬ 9223372036854775807 < m.size + 1 := by omega
  have s2 : ¬ 9223372036854775807 < m.size + 1 + t.size := by omega
  have s3 : ¬ 9223372036854775807 < m.size + 1 + t.size + 8 := by omega
  have s4 : ¬ 9223372036854775807 < m.size + 1 + t.size + 8 + z.size := by omega
  have d0 : (w.alloc (.cells [.string m, .string t, .int .i64 k, .slice A n c, .string bd].toArray 46)).drew.cell? ⟨w.heap.size, 0, none⟩ = some (.string m) := b0
  have d1 : (w.alloc (.cells [.string m, .string t, .int .i64 k, .slice A n c, .string bd].toArray 46)).drew.cell? ⟨w.heap.size, 1, none⟩ = some (.string t) := b1
  have d2 : (w.alloc (.cells [.string m, .string t, .int .i64 k, .slice A n c, .string bd].toArray 46)).drew.cell? ⟨w.heap.size, 2, none⟩ = some (.int .i64 k) := b2
  clear hw0 hB hI hP hzz hz hT
  go_enter Tryd.func28, Tryd.ntmps28
  go_wp2_with fail
  go_region_held3 (fun w' => w'.cell? ⟨w.heap.size, 0, none⟩ = some (.string m) ∧ w'.cell? ⟨w.heap.size, 1, none⟩ = some (.string t) ∧ w'.cell? ⟨w.heap.size, 2, none⟩ = some (.int .i64 k)) (first | exact ⟨b0, b1, b2⟩ | exact ⟨d0, d1, d2⟩ | exact ⟨fr_cell hb1 d0, fr_cell hb1 d1, fr_cell hb1 d2⟩)
    (first
    | (go_at_call 56; refine (HI.out _ HTT.out).mono ?_; rintro e w1 ⟨rfl, hb1⟩))
  all_goals
    go_wp2
    go_ret
    exact ⟨by rw [HP.out]; rfl, fr_trans HW.out hb1⟩
end Go.Proofs.YtdagppbpeibdgaaDoor
