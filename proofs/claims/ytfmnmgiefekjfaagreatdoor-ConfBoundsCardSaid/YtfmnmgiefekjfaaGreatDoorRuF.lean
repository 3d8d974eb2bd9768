/- rule.Ware (methods; none), rule.Is (without wares). -/
import Derived.Test.YtfmnmgiefekjfaaGreatDoorRuE
namespace Go.Proofs.YtfmnmgiefekjfaaGreatDoor
set_option linter.unusedVariables false
set_option linter.unusedSimpArgs false
open Go.RowKit

def confR (b : Bool) : Value := if b then .nilIface else .iface 31 (.int .i64 14)
set_option maxHeartbeats 2000000 in
theorem rule_Ware1 (a b : ByteArray) (n : Int) (w : World) (hm : MaxL w) (hs : a.size ≤ 1000000000) :
    Calls Tryz.prog 29 #[.agg #[.int .i64 1, .string a, .string b, .int .i64 n]] w fun e w' => e = .returned (confR (methOk a)) ∧ Below w.heap.size w w' := by
  have HM := Lib.hid (hm.fr (fr_alloc (fr_refl w) (.cells #[.int .i64 1, .string a, .string b, .int .i64 n] 58)))
  have HW := Lib.hid (fr_alloc (fr_refl w) (.cells #[.int .i64 1, .string a, .string b, .int .i64 n] 58))
  clear hm
  cases hq : methOk a
  all_goals
    have HQ := Lib.hid hq
    go_enter Tryz.func29, Tryz.ntmps29
    go_wp2_with fail
    refine (rule_isMethods a _ HM.out hs).mono ?_
    rintro e w1 ⟨rfl, hb1⟩
    rw [HQ.out]
    go_wp2
    go_ret
    exact ⟨rfl, fr_trans HW.out hb1⟩
theorem rule_Ware0 (a b : ByteArray) (n : Int) (w : World) :
    Calls Tryz.prog 29 #[.agg #[.int .i64 0, .string a, .string b, .int .i64 n]] w fun e w' => e = .returned (confR false) ∧ Below w.heap.size w w' := by
  go_enter Tryz.func29, Tryz.ntmps29
  go_wp2
  go_ret
  exact ⟨rfl, fr_alloc (fr_refl _) _⟩
def isOk0 (k : Int) (h p : ByteArray) (b n : Int) : Bool := decide (0 ≤ b) && decide (b < n) && hostOk h && pathOk k p
set_option maxHeartbeats 4000000 in
theorem rule_Is0 (k : Int) (h p : ByteArray) (b n : Int) (w : World) (hm : MaxL w) (hh : h.size ≤ 1000000000) (hp : p.size ≤ 2000000) :
    Calls Tryz.prog 14 #[.agg #[.int .i64 k, .string h, .string p, .int .i64 b, .slice none 0 0], .int .i64 n] w fun e w' => e = .returned (confR (isOk0 k h p b n)) ∧ Below w.heap.size w w' := by
  have hw0 := fr_alloc (fr_refl w) (.cells #[.int .i64 k, .string h, .string p, .int .i64 b, .slice none 0 0] 40)
  have HB0 := Lib.hid (Box.new w [.int .i64 k, .string h, .string p, .int .i64 b, .slice none 0 0] 40)
  have HM := Lib.hid hm
  have HW := Lib.hid hw0
  have hh9 : h.size ≤ 9223372036854775807 := by omega
  have HH := Lib.hid hh9
  clear hm hw0 hh9 hh
  have hU : isOk0 k h p b n = (decide (0 ≤ b) && decide (b < n) && hostOk h && pathOk k p) := rfl
  have HU := Lib.hid hU
  clear hU
  by_cases b0 : b < 0
  · have HD := Lib.hid (show decide (0 ≤ b) = false by simp; omega)
    go_enter Tryz.func14, Tryz.ntmps14
    go_wp2
    go_ret
    exact ⟨by rw [HU.out, HD.out]; rfl, HW.out⟩
  · have HD := Lib.hid (show decide (0 ≤ b) = true by simp; omega)
    by_cases b1 : n ≤ b
    · have HE := Lib.hid (show decide (b < n) = false by simp; omega)
      go_enter Tryz.func14, Tryz.ntmps14
      go_wp2
      go_ret
      exact ⟨by rw [HU.out, HD.out, HE.out]; rfl, HW.out⟩
    · have HE := Lib.hid (show decide (b < n) = true by simp; omega)
      cases hq : hostOk h
      · have HQ := Lib.hid hq
        go_enter Tryz.func14, Tryz.ntmps14
        go_wp2_with fail
        refine (rule_isHost h _ HH.out).mono ?_
        rintro e w1 ⟨rfl, hb1⟩
        rw [HQ.out]
        go_wp2
        go_ret
        exact ⟨by rw [HU.out, HD.out, HE.out, HQ.out]; rfl, fr_trans HW.out hb1⟩
      · have HQ := Lib.hid hq
        cases hr : pathOk k p
        all_goals
          have HR := Lib.hid hr
          go_enter Tryz.func14, Tryz.ntmps14
          go_wp2_with fail
          refine (rule_isHost h _ HH.out).mono ?_
          rintro e w1 ⟨rfl, hb1⟩
          rw [HQ.out]
          have x1 := HB0.out.fr hb1
          have qc0 : w1.cell? ⟨w.heap.size, 0, none⟩ = some (.int .i64 k) := x1.2 0 _ rfl
          have qc1 : w1.cell? ⟨w.heap.size, 1, none⟩ = some (.string h) := x1.2 1 _ rfl
          have qc2 : w1.cell? ⟨w.heap.size, 2, none⟩ = some (.string p) := x1.2 2 _ rfl
          have qc3 : w1.cell? ⟨w.heap.size, 3, none⟩ = some (.int .i64 b) := x1.2 3 _ rfl
          have qc4 : w1.cell? ⟨w.heap.size, 4, none⟩ = some (.slice none 0 0) := x1.2 4 _ rfl
          have qlt : w.heap.size < w1.heap.size := x1.1
          have HX1 := Lib.hid x1
          have HB1 := Lib.hid (fr_trans HW.out hb1)
          clear hb1 x1
          go_wp2_with fail
          refine (rule_isPath k p _ (HM.out.fr HB1.out) hp).mono ?_
          rintro e w2 ⟨rfl, hb2⟩
          rw [HR.out]
          have x2 := HX1.out.fr hb2
          have rc0 : w2.cell? ⟨w.heap.size, 0, none⟩ = some (.int .i64 k) := x2.2 0 _ rfl
          have rc1 : w2.cell? ⟨w.heap.size, 1, none⟩ = some (.string h) := x2.2 1 _ rfl
          have rc2 : w2.cell? ⟨w.heap.size, 2, none⟩ = some (.string p) := x2.2 2 _ rfl
          have rc3 : w2.cell? ⟨w.heap.size, 3, none⟩ = some (.int .i64 b) := x2.2 3 _ rfl
          have rc4 : w2.cell? ⟨w.heap.size, 4, none⟩ = some (.slice none 0 0) := x2.2 4 _ rfl
          have rlt : w.heap.size < w2.heap.size := x2.1
          have HB2 := Lib.hid (fr_trans HB1.out hb2)
          clear hb2 x2
        · go_wp2
          go_ret
          exact ⟨by rw [HU.out, HD.out, HE.out, HQ.out, HR.out]; rfl, HB2.out⟩
        · go_wp2
          go_loopw [41] (fun i wr => i = .int .i64 0 ∧ w2 = wr) (fun _ _ => 0)
          case atStart => exact ⟨rfl, rfl⟩
          case round =>
            obtain ⟨rfl, rfl⟩ := hrel
            go_wp2
            go_ret
            exact ⟨by rw [HU.out, HD.out, HE.out, HQ.out, HR.out]; rfl, HB2.out⟩
end Go.Proofs.YtfmnmgiefekjfaaGreatDoor
