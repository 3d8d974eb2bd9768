/- conduitlaw7.StartTells: true of every line and every target. -/
import Derived.Test.YtdagppbpeibdgaaDoorRS6
import Derived.Test.YtdagppbpeibdgaaDoorSt4
import Derived.Deep.RegionHeld3
namespace Go.Proofs.YtdagppbpeibdgaaDoor
set_option linter.unusedVariables false
set_option linter.unusedSimpArgs false
open Go.RowKit

theorem parse7_at (line m t : ByteArray) (n k : Int) (w : World) (h : startS line = (n, m, t, k)) (hm : MaxL w) (hE : ErrT w) (hs : line.size ≤ 1000000000) :
    Calls Tryd.prog 22 #[.string line] w fun e w' => e = .returned (.tuple #[.agg #[.string m, .string t, .int .i64 k, .slice none 0 0, .string ⟨#[]⟩], errV n]) ∧ Below w.heap.size w w' := by
  have := st_Parse line w hm hE hs
  rw [h] at this
  exact this
theorem ref6_Start_at (line m t : ByteArray) (n k : Int) (w : World) (h : startS line = (n, m, t, k)) (hs : line.size ≤ 1000000000) :
    Calls Tryd.prog 23 #[.string line] w fun e w' => e = .returned (.tuple #[.agg #[.string m, .string t, .int .i64 k, .slice none 0 0, .string ⟨#[]⟩], .int .i64 n]) ∧ Below w.heap.size w w' := by
  have := ref6_Start line w hs
  rw [h] at this
  exact this
theorem ref6_Split_at (t p q : ByteArray) (o : Bool) (w : World) (h : cutS t 63 = (p, q, o)) (hs : t.size ≤ 1000000000) :
    Calls Tryd.prog 25 #[.string t] w fun e w' => e = .returned (.tuple #[.string p, .string q]) ∧ Below w.heap.size w w' := by
  have := ref6_Split t w hs
  rw [h] at this
  exact this
set_option maxRecDepth 100000 in
set_option maxHeartbeats 4000000 in
theorem law7_tells (line tg : ByteArray) (w : World) (hm : MaxL w) (hE : ErrT w) (hT : Tab w) :
    Calls Tryd.prog 7 #[.string line, .string tg] w fun e w' => e = .returned (.bool true) ∧ Below w.heap.size w w' := by
  have HM := Lib.hid hm; have HE := Lib.hid hE; have HT := Lib.hid hT
  clear hm hE hT
  by_cases h1 : line.size ≤ 800
  · have h1I : ¬ (800 : Int) < (line.size : Int) := by omega
    by_cases h2 : tg.size ≤ 800
    · have h2I : ¬ (800 : Int) < (tg.size : Int) := by omega
      have hs1 : line.size ≤ 1000000000 := by omega
      have hs2 : tg.size ≤ 1000000000 := by omega
      have hs3 : tg.size ≤ 9223372036854775807 := by omega
      obtain ⟨⟨n, m, t, k⟩, hr⟩ : ∃ r, startS line = r := ⟨_, rfl⟩
      obtain ⟨⟨p, q, o⟩, hc⟩ : ∃ c, cutS tg 63 = c := ⟨_, rfl⟩
      have en : (n == n) = true := by simp
      have ep : (p.toList == p.toList) = true := by simp
      have eq : (q.toList == q.toList) = true := by simp
      have HR := Lib.hid hr; have HC := Lib.hid hc; have HS1 := Lib.hid hs1; have HS2 := Lib.hid hs2; have HS3 := Lib.hid hs3
      clear hr hc hs1 hs2 hs3 h1 h2
      go_enter Tryd.func7, Tryd.ntmps7
      go_wp2_with fail
      refine (law7_known _ HM.out HE.out HT.out).mono ?_
      rintro e w1 ⟨rfl, hb1⟩
      have H1 := Lib.hid hb1; clear hb1
      go_wp2_with fail
      refine (parse7_at _ _ _ _ _ _ HR.out (HM.out.fr H1.out) (HE.out.fr H1.out) HS1.out).mono ?_
      rintro e w2 ⟨rfl, hb2⟩
      have H2 := Lib.hid (fr_trans H1.out hb2); clear hb2
      go_wp2_with fail
      refine (ref6_Start_at _ _ _ _ _ _ HR.out HS1.out).mono ?_
      rintro e w3 ⟨rfl, hb3⟩
      have HA := Lib.hid ((Box.new w2 [.string m, .string t, .int .i64 k, .slice none 0 0, .string ⟨#[]⟩] 46).fr hb3)
      have H3 := Lib.hid (fr_trans (fr_alloc H2.out (.cells #[.string m, .string t, .int .i64 k, .slice none 0 0, .string ⟨#[]⟩] 46)) hb3)
      clear hb3
      have HB := Lib.hid (Box.new w3 [.string m, .string t, .int .i64 k, .slice none 0 0, .string ⟨#[]⟩] 46)
      have HA3 := Lib.hid (HA.out.fr (fr_alloc (fr_refl w3) (.cells #[.string m, .string t, .int .i64 k, .slice none 0 0, .string ⟨#[]⟩] 46)))
      have H4 := Lib.hid (fr_alloc H3.out (.cells #[.string m, .string t, .int .i64 k, .slice none 0 0, .string ⟨#[]⟩] 46))
      clear HA
      go_wp2_with fail
      refine (st_Split _ _ _ _ _ HC.out HS3.out).mono ?_
      rintro e w4 ⟨rfl, hb4⟩
      have HA4 := Lib.hid (HA3.out.fr hb4); have HB4 := Lib.hid (HB.out.fr hb4); have H5 := Lib.hid (fr_trans H4.out hb4)
      clear hb4 HA3 HB
      go_wp2_with fail
      refine (ref6_Split_at _ _ _ _ _ HC.out HS2.out).mono ?_
      rintro e w5 ⟨rfl, hb5⟩
      have hA5 := HA4.out.fr hb5
      have hB5 := HB4.out.fr hb5
      have H6 := Lib.hid (fr_trans H5.out hb5)
      clear hb5
      have ac0 : w5.cell? ⟨w2.heap.size, 0, none⟩ = some (.string m) := hA5.2 0 _ rfl
      have ac1 : w5.cell? ⟨w2.heap.size, 1, none⟩ = some (.string t) := hA5.2 1 _ rfl
      have ac2 : w5.cell? ⟨w2.heap.size, 2, none⟩ = some (.int .i64 k) := hA5.2 2 _ rfl
      have ac3 : w5.cell? ⟨w2.heap.size, 3, none⟩ = some (.slice none 0 0) := hA5.2 3 _ rfl
      have ac4 : w5.cell? ⟨w2.heap.size, 4, none⟩ = some (.string ⟨#[]⟩) := hA5.2 4 _ rfl
      have alt : w2.heap.size < w5.heap.size := hA5.1
      have bc0 : w5.cell? ⟨w3.heap.size, 0, none⟩ = some (.string m) := hB5.2 0 _ rfl
      have bc1 : w5.cell? ⟨w3.heap.size, 1, none⟩ = some (.string t) := hB5.2 1 _ rfl
      have bc2 : w5.cell? ⟨w3.heap.size, 2, none⟩ = some (.int .i64 k) := hB5.2 2 _ rfl
      have bc3 : w5.cell? ⟨w3.heap.size, 3, none⟩ = some (.slice none 0 0) := hB5.2 3 _ rfl
      have bc4 : w5.cell? ⟨w3.heap.size, 4, none⟩ = some (.string ⟨#[]⟩) := hB5.2 4 _ rfl
      have blt : w3.heap.size < w5.heap.size := hB5.1
      clear hA5 hB5
      go_wp2_with fail
      refine (ref6_Same _ _ _ _).mono ?_
      rintro e w6 ⟨rfl, hb6⟩
      have H7 := Lib.hid (fr_trans H6.out hb6); clear hb6
      go_wp2_with fail
      refine (law7_code _ _ (HE.out.fr H7.out)).mono ?_
      rintro e w7 ⟨rfl, hb7⟩
      have H8 := Lib.hid (fr_trans H7.out hb7); clear hb7
      go_wp2
      go_ret
      exact ⟨by first | rfl | simp, H8.out⟩
    · have h2I : (800 : Int) < (tg.size : Int) := by omega
      clear h1 h2
      go_enter Tryd.func7, Tryd.ntmps7
      go_wp2_with fail
      refine (law7_known _ HM.out HE.out HT.out).mono ?_
      rintro e w1 ⟨rfl, hb1⟩
      have H1 := Lib.hid hb1; clear hb1
      go_wp2
      go_ret
      exact ⟨rfl, H1.out⟩
  · have h1I : (800 : Int) < (line.size : Int) := by omega
    clear h1
    go_enter Tryd.func7, Tryd.ntmps7
    go_wp2_with fail
    refine (law7_known _ HM.out HE.out HT.out).mono ?_
    rintro e w1 ⟨rfl, hb1⟩
    have H1 := Lib.hid hb1; clear hb1
    go_wp2
    go_ret
    exact ⟨rfl, H1.out⟩
end Go.Proofs.YtdagppbpeibdgaaDoor
