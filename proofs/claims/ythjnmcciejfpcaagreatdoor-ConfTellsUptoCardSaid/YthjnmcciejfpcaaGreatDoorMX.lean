/- rule.Ware (methods; none), rule.Is (without wares). conduitlaw12.known: true. -/
import Derived.Test.YthjnmcciejfpcaaGreatDoorRuE
import Derived.KernelRfl
namespace Go.Proofs.YthjnmcciejfpcaaGreatDoor
set_option linter.unusedVariables false
set_option linter.unusedSimpArgs false
open Go.RowKit

def confR (b : Bool) : Value := if b then .nilIface else .iface 31 (.int .i64 14)
set_option maxHeartbeats 2000000 in
theorem rule_Ware1 (a b : ByteArray) (n : Int) (w : World) (hm : MaxL w) (hs : a.size ≤ 1000000000) :
    Calls Tryz.prog 28 #[.agg #[.int .i64 1, .string a, .string b, .int .i64 n]] w fun e w' => e = .returned (confR (methOk a)) ∧ Below w.heap.size w w' := by
  have HM := Lib.hid (hm.fr (fr_alloc (fr_refl w) (.cells #[.int .i64 1, .string a, .string b, .int .i64 n] 56)))
  have HW := Lib.hid (fr_alloc (fr_refl w) (.cells #[.int .i64 1, .string a, .string b, .int .i64 n] 56))
  clear hm
  cases hq : methOk a
  all_goals
    have HQ := Lib.hid hq
    go_enter Tryz.func28, Tryz.ntmps28
    go_wp2_with fail
    refine (rule_isMethods a _ HM.out hs).mono ?_
    rintro e w1 ⟨rfl, hb1⟩
    rw [HQ.out]
    go_wp2
    go_ret
    exact ⟨rfl, fr_trans HW.out hb1⟩
theorem rule_Ware0 (a b : ByteArray) (n : Int) (w : World) :
    Calls Tryz.prog 28 #[.agg #[.int .i64 0, .string a, .string b, .int .i64 n]] w fun e w' => e = .returned (confR false) ∧ Below w.heap.size w w' := by
  go_enter Tryz.func28, Tryz.ntmps28
  go_wp2
  go_ret
  exact ⟨rfl, fr_alloc (fr_refl _) _⟩
def isOk0 (k : Int) (h p : ByteArray) (b n : Int) : Bool := decide (0 ≤ b) && decide (b < n) && hostOk h && pathOk k p
set_option maxHeartbeats 4000000 in
theorem rule_Is0 (k : Int) (h p : ByteArray) (b n : Int) (w : World) (hm : MaxL w) (hh : h.size ≤ 1000000000) (hp : p.size ≤ 2000000) :
    Calls Tryz.prog 13 #[.agg #[.int .i64 k, .string h, .string p, .int .i64 b, .slice none 0 0], .int .i64 n] w fun e w' => e = .returned (confR (isOk0 k h p b n)) ∧ Below w.heap.size w w' := by
  have hw0 := fr_alloc (fr_refl w) (.cells #[.int .i64 k, .string h, .string p, .int .i64 b, .slice none 0 0] 38)
  have HB0 := Lib.hid (Box.new w [.int .i64 k, .string h, .string p, .int .i64 b, .slice none 0 0] 38)
  have HM := Lib.hid hm
  have HW := Lib.hid hw0
  have hh9 : h.size ≤ 9223372036854775807 := by omega
  have HH := Lib.hid hh9
  clear hm hw0 hh9 hh
  have hU : isOk0 k h p b n = (decide (0 ≤ b) && decide (b < n) && hostOk h && pathOk k p) := rfl
  have HU := Lib.hid hU
  clear hU
  by_cases b0 : b < 0
  · have HD := Lib.hid (show decide (0 ≤ b) = false by simp; omega)
    go_enter Tryz.func13, Tryz.ntmps13
    go_wp2
    go_ret
    exact ⟨by rw [HU.out, HD.out]; rfl, HW.out⟩
  · have HD := Lib.hid (show decide (0 ≤ b) = true by simp; omega)
    by_cases b1 : n ≤ b
    · have HE := Lib.hid (show decide (b < n) = false by simp; omega)
      go_enter Tryz.func13, Tryz.ntmps13
      go_wp2
      go_ret
      exact ⟨by rw [HU.out, HD.out, HE.out]; rfl, HW.out⟩
    · have HE := Lib.hid (show decide (b < n) = true by simp; omega)
      cases hq : hostOk h
      · have HQ := Lib.hid hq
        go_enter Tryz.func13, Tryz.ntmps13
        go_wp2_with fail
        refine (rule_isHost h _ HH.out).mono ?_
        rintro e w1 ⟨rfl, hb1⟩
        rw [HQ.out]
        go_wp2
        go_ret
        exact ⟨by rw [HU.out, HD.out, HE.out, HQ.out]; rfl, fr_trans HW.out hb1⟩
      · have HQ := Lib.hid hq
        cases hr : pathOk k p
        all_goals
          have HR := Lib.hid hr
          go_enter Tryz.func13, Tryz.ntmps13
          go_wp2_with fail
          refine (rule_isHost h _ HH.out).mono ?_
          rintro e w1 ⟨rfl, hb1⟩
          rw [HQ.out]
          have x1 := HB0.out.fr hb1
          have qc0 : w1.cell? ⟨w.heap.size, 0, none⟩ = some (.int .i64 k) := x1.2 0 _ rfl
          have qc1 : w1.cell? ⟨w.heap.size, 1, none⟩ = some (.string h) := x1.2 1 _ rfl
          have qc2 : w1.cell? ⟨w.heap.size, 2, none⟩ = some (.string p) := x1.2 2 _ rfl
          have qc3 : w1.cell? ⟨w.heap.size, 3, none⟩ = some (.int .i64 b) := x1.2 3 _ rfl
          have qc4 : w1.cell? ⟨w.heap.size, 4, none⟩ = some (.slice none 0 0) := x1.2 4 _ rfl
          have qlt : w.heap.size < w1.heap.size := x1.1
          have HX1 := Lib.hid x1
          have HB1 := Lib.hid (fr_trans HW.out hb1)
          clear hb1 x1
          go_wp2_with fail
          refine (rule_isPath k p _ (HM.out.fr HB1.out) hp).mono ?_
          rintro e w2 ⟨rfl, hb2⟩
          rw [HR.out]
          have x2 := HX1.out.fr hb2
          have rc0 : w2.cell? ⟨w.heap.size, 0, none⟩ = some (.int .i64 k) := x2.2 0 _ rfl
          have rc1 : w2.cell? ⟨w.heap.size, 1, none⟩ = some (.string h) := x2.2 1 _ rfl
          have rc2 : w2.cell? ⟨w.heap.size, 2, none⟩ = some (.string p) := x2.2 2 _ rfl
          have rc3 : w2.cell? ⟨w.heap.size, 3, none⟩ = some (.int .i64 b) := x2.2 3 _ rfl
          have rc4 : w2.cell? ⟨w.heap.size, 4, none⟩ = some (.slice none 0 0) := x2.2 4 _ rfl
          have rlt : w.heap.size < w2.heap.size := x2.1
          have HB2 := Lib.hid (fr_trans HB1.out hb2)
          clear hb2 x2
        · go_wp2
          go_ret
          exact ⟨by rw [HU.out, HD.out, HE.out, HQ.out, HR.out]; rfl, HB2.out⟩
        · go_wp2
          go_loopw [41] (fun i wr => i = .int .i64 0 ∧ w2 = wr) (fun _ _ => 0)
          case atStart => exact ⟨rfl, rfl⟩
          case round =>
            obtain ⟨rfl, rfl⟩ := hrel
            go_wp2
            go_ret
            exact ⟨by rw [HU.out, HD.out, HE.out, HQ.out, HR.out]; rfl, HB2.out⟩
end Go.Proofs.YthjnmcciejfpcaaGreatDoor

namespace Go.Proofs.YthjnmcciejfpcaaGreatDoor
set_option linter.unusedVariables false
set_option linter.unusedSimpArgs false
open Go.RowKit

def cleanOkE (s : ByteArray) : Bool := match cleanE (escB s) with
  | some p => L p == L s
  | none => false
theorem cleanOkE_eq (s : ByteArray) : cleanOk s = cleanOkE s := by
  unfold cleanOk cleanOkE
  rw [cleanE_eq]
  cases cleanE (escB s) with
  | none => rfl
  | some p => exact eqB_L p s
def extOkE (s : ByteArray) : Bool := Lib.hasPrefix (L s) [46] && !(L (tailE s)).isEmpty && Nat.ble (tailE s).size 8 && (L (tailE s)).all (fun c => (L letSet).contains c)
theorem extOkE_eq (s : ByteArray) : extOk s = extOkE s := by unfold extOk extOkE; rw [toList_L]
def allE (p : UInt8 → Bool) (s : ByteArray) : Bool := (L s).all p && !(L s).isEmpty
theorem allE_eq (p : UInt8 → Bool) (s : ByteArray) : allB p s = allE p s := by unfold allB allE; rw [toList_L]
def segOkE (x : ByteArray) : Bool := !(Lib.hasPrefix (L x) [58]) || allE isTokB (tailC x)
def segsOkE (s : ByteArray) : Bool := (segsE' s).all segOkE && Nat.ble (segsE' s).length 8
theorem segsOkE_eq (s : ByteArray) : segsOk s = segsOkE s := by
  unfold segsOk segsOkE
  rw [segsE'_eq]
  have : segOk = segOkE := by funext x; unfold segOk segOkE; rw [allE_eq]
  rw [this]
def pathOkE (k : Int) (s : ByteArray) : Bool := if k = 4 then extOkE s else if k = 2 then segsOkE s && cleanOkE s else if k = 1 ∨ k = 3 then cleanOkE s else false
theorem pathOkE_eq (k : Int) (s : ByteArray) : pathOk k s = pathOkE k s := by unfold pathOk pathOkE; rw [extOkE_eq, segsOkE_eq, cleanOkE_eq]
def fullE (s : ByteArray) : Bool := !(L s).isEmpty
theorem fullE_eq : full = fullE := by funext s; unfold full fullE; rw [toList_L]
def okME (m : ByteArray) : Bool := allE isTokB m && Nat.ble m.size 16
def listE (s : ByteArray) : List ByteArray := ((cutB s 44).map octTrim).filter fullE
theorem listE_eq (s : ByteArray) : listS s = listE s := by
  unfold listS lN listE
  rw [List.take_length, fullE_eq]
def methOkE (s : ByteArray) : Bool := (listE s).all okME && Nat.blt 0 (listE s).length && Nat.ble s.size 1024
theorem methOkE_eq (s : ByteArray) : methOk s = methOkE s := by
  unfold methOk methOkE
  rw [listE_eq]
  have : okM = okME := by funext x; unfold okM okME; rw [allE_eq]
  rw [this]
theorem root_ok : pathOk 3 ⟨#[47]⟩ = true := by rw [pathOkE_eq]; kernel_rfl
end Go.Proofs.YthjnmcciejfpcaaGreatDoor
