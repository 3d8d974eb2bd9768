/- rule.Ware at every kind. -/
import Derived.Test.YtoplnepbjjcbcaaGreatDoorRuG
import Derived.Test.YtoplnepbjjcbcaaGreatDoorFld
namespace Go.Proofs.YtoplnepbjjcbcaaGreatDoor
set_option linter.unusedVariables false
set_option linter.unusedSimpArgs false
open Go.RowKit

structure WV where
  kind : Int
  a : ByteArray
  b : ByteArray
  n : Int
def WV.cells (r : WV) : List Value := [.int .i64 r.kind, .string r.a, .string r.b, .int .i64 r.n]
def Wares (w : World) (A : Option Addr) (l : List WV) : Prop :=
  0 < l.length → ∃ b off, A = some ⟨b, off, none⟩ ∧ b < w.heap.size ∧ ∀ k (h : k < l.length) j v, l[k].cells[j]? = some v → w.cell? ⟨b, off + k * 4 + j, none⟩ = some v
theorem Wares.nil (w : World) (A : Option Addr) : Wares w A [] := fun h => absurd h (by simp)
theorem Wares.fr {w w' : World} {A : Option Addr} {l : List WV} (h : Wares w A l) (hb : Below w.heap.size w w') : Wares w' A l := fun h0 => by
  obtain ⟨b, off, rfl, hlt, hc⟩ := h h0
  exact ⟨b, off, rfl, Nat.lt_of_lt_of_le hlt hb.size, fun k hk j v hv => fr_cell hb (hc k hk j v hv)⟩
theorem Wares.one {w : World} {g : Nat} (r : WV) (h : Box w g r.cells) : Wares w (some ⟨g, 0, none⟩) [r] := fun _ =>
  ⟨g, 0, rfl, h.1, fun k hk j v hv => by
    have : k = 0 := by simp at hk; exact hk
    subst this
    have e : 0 + 0 * 4 + j = j := by omega
    rw [e]
    exact h.2 j v hv⟩
def wareOk (r : WV) : Bool :=
  if r.kind = 1 then methOk r.a else if r.kind = 2 then fieldOk r.a r.b else if r.kind = 3 then allB isTokB r.a && Nat.ble r.a.size 64
  else if r.kind = 4 then cleanOk r.a && cleanOk r.b else if r.kind = 5 then decide (0 ≤ r.n) && decide (r.n ≤ 4000) else false
theorem isClean_at (s : ByteArray) (v : Bool) (w : World) (h : cleanOk s = v) (hm : MaxL w) (hs : s.size ≤ 2000000) : Calls Tryz.prog 39 #[.string s] w fun e w' => e = .returned (.bool v) ∧ Below w.heap.size w w' := h ▸ rule_isClean s w hm hs
theorem fld_Is_at (a b : ByteArray) (v : Bool) (w : World) (h : fieldOk a b = v) (ha : a.size ≤ 9223372036854775807) (hb : b.size ≤ 9223372036854775807) :
    Calls Tryz.prog 37 #[.agg #[.string a, .string b]] w fun e w' => e = .returned (.bool v) ∧ Below w.heap.size w w' := h ▸ fld_Is a b w ha hb
theorem oct_Token_at (s : ByteArray) (v : Bool) (w : World) (h : allB isTokB s = v) (hs : s.size ≤ 9223372036854775807) : Calls Tryz.prog 38 #[.string s] w fun e w' => e = .returned (.bool v) ∧ w = w' := h ▸ oct_Token s w hs
set_option maxHeartbeats 4000000 in
theorem rule_Ware (k : Int) (a b : ByteArray) (n : Int) (w : World) (hm : MaxL w) (ha : a.size ≤ 2000000) (hb : b.size ≤ 2000000) :
    Calls Tryz.prog 20 #[.agg #[.int .i64 k, .string a, .string b, .int .i64 n]] w fun e w' => e = .returned (confR (wareOk ⟨k, a, b, n⟩)) ∧ Below w.heap.size w w' := by
  have hw0 := fr_alloc (fr_refl w) (.cells #[.int .i64 k, .string a, .string b, .int .i64 n] 45)
  have HW := Lib.hid hw0
  have HM := Lib.hid (hm.fr hw0)
  have HB0 := Lib.hid (Box.new w [.int .i64 k, .string a, .string b, .int .i64 n] 45)
  have ha9 : a.size ≤ 9223372036854775807 := by omega
  have hb9 : b.size ≤ 9223372036854775807 := by omega
  have HA9 := Lib.hid ha9; have HB9 := Lib.hid hb9; have HA := Lib.hid ha; have HBB := Lib.hid hb
  clear ha9 hb9
  by_cases k1 : k = 1
  · subst k1
    exact rule_Ware1 a b n w hm (by omega)
  by_cases k2 : k = 2
  · subst k2
    have HE := Lib.hid (show wareOk ⟨2, a, b, n⟩ = fieldOk a b from rfl)
    clear hm ha hb hw0
    cases hq : fieldOk a b
    all_goals
      have HQ := Lib.hid hq; clear hq
      go_enter Tryz.func20, Tryz.ntmps20
      go_wp2_with fail
      refine (fld_Is_at a b _ _ HQ.out HA9.out HB9.out).mono ?_
      rintro e w1 ⟨rfl, hb1⟩
      have x1 := HB0.out.fr hb1
      have qc0 : w1.cell? ⟨w.heap.size, 0, none⟩ = some (.int .i64 2) := x1.2 0 _ rfl
      have qc1 : w1.cell? ⟨w.heap.size, 1, none⟩ = some (.string a) := x1.2 1 _ rfl
      have qc2 : w1.cell? ⟨w.heap.size, 2, none⟩ = some (.string b) := x1.2 2 _ rfl
      have qc3 : w1.cell? ⟨w.heap.size, 3, none⟩ = some (.int .i64 n) := x1.2 3 _ rfl
      have qlt : w.heap.size < w1.heap.size := x1.1
      have HF := Lib.hid (fr_trans HW.out hb1)
      clear hb1 x1
      go_wp2
      go_ret
      exact ⟨by rw [HE.out, HQ.out]; rfl, HF.out⟩
  by_cases k3 : k = 3
  · subst k3
    have HE := Lib.hid (show wareOk ⟨3, a, b, n⟩ = (allB isTokB a && Nat.ble a.size 64) from rfl)
    clear hm ha hb hw0
    cases hq : allB isTokB a
    · have HQ := Lib.hid hq; clear hq
      go_enter Tryz.func20, Tryz.ntmps20
      go_wp2_with fail
      refine (oct_Token_at a _ _ HQ.out HA9.out).mono ?_
      rintro e w1 ⟨rfl, rfl⟩
      go_wp2
      go_ret
      exact ⟨by rw [HE.out, HQ.out]; rfl, HW.out⟩
    · have HQ := Lib.hid hq; clear hq
      by_cases h64 : a.size ≤ 64
      · have hI : decide ((a.size : Int) ≤ 64) = true := by simp; omega
        have HL := Lib.hid (ble_yes h64); clear h64
        go_enter Tryz.func20, Tryz.ntmps20
        go_wp2_with fail
        refine (oct_Token_at a _ _ HQ.out HA9.out).mono ?_
        rintro e w1 ⟨rfl, rfl⟩
        go_wp2
        go_ret
        exact ⟨by rw [HE.out, HQ.out, HL.out]; rfl, HW.out⟩
      · have hI : decide ((a.size : Int) ≤ 64) = false := by simp; omega
        have HL := Lib.hid (ble_no h64); clear h64
        go_enter Tryz.func20, Tryz.ntmps20
        go_wp2_with fail
        refine (oct_Token_at a _ _ HQ.out HA9.out).mono ?_
        rintro e w1 ⟨rfl, rfl⟩
        go_wp2
        go_ret
        exact ⟨by rw [HE.out, HQ.out, HL.out]; rfl, HW.out⟩
  by_cases k4 : k = 4
  · subst k4
    have HE := Lib.hid (show wareOk ⟨4, a, b, n⟩ = (cleanOk a && cleanOk b) from rfl)
    clear hm ha hb hw0
    cases hq : cleanOk a
    · have HQ := Lib.hid hq; clear hq
      go_enter Tryz.func20, Tryz.ntmps20
      go_wp2_with fail
      refine (isClean_at a _ _ HQ.out HM.out HA.out).mono ?_
      rintro e w1 ⟨rfl, hb1⟩
      have HF := Lib.hid (fr_trans HW.out hb1)
      clear hb1
      go_wp2
      go_ret
      exact ⟨by rw [HE.out, HQ.out]; rfl, HF.out⟩
    · have HQ := Lib.hid hq; clear hq
      cases hq : cleanOk b
      all_goals
        have HQ2 := Lib.hid hq; clear hq
        go_enter Tryz.func20, Tryz.ntmps20
        go_wp2_with fail
        refine (isClean_at a _ _ HQ.out HM.out HA.out).mono ?_
        rintro e w1 ⟨rfl, hb1⟩
        have x1 := HB0.out.fr hb1
        have qc0 : w1.cell? ⟨w.heap.size, 0, none⟩ = some (.int .i64 4) := x1.2 0 _ rfl
        have qc1 : w1.cell? ⟨w.heap.size, 1, none⟩ = some (.string a) := x1.2 1 _ rfl
        have qc2 : w1.cell? ⟨w.heap.size, 2, none⟩ = some (.string b) := x1.2 2 _ rfl
        have qc3 : w1.cell? ⟨w.heap.size, 3, none⟩ = some (.int .i64 n) := x1.2 3 _ rfl
        have qlt : w.heap.size < w1.heap.size := x1.1
        have HF := Lib.hid (fr_trans HW.out hb1)
        have HM1 := Lib.hid (HM.out.fr hb1)
        clear hb1 x1
        go_wp2_with fail
        refine (isClean_at b _ _ HQ2.out HM1.out HBB.out).mono ?_
        rintro e w2 ⟨rfl, hb2⟩
        have HF2 := Lib.hid (fr_trans HF.out hb2)
        clear hb2
        go_wp2
        go_ret
        exact ⟨by rw [HE.out, HQ.out, HQ2.out]; rfl, HF2.out⟩
  by_cases k5 : k = 5
  · subst k5
    have HE := Lib.hid (show wareOk ⟨5, a, b, n⟩ = (decide (0 ≤ n) && decide (n ≤ 4000)) from rfl)
    clear hm ha hb hw0
    by_cases n0 : 0 ≤ n
    · have HN := Lib.hid (show decide (0 ≤ n) = true by simpa using n0)
      by_cases n1 : n ≤ 4000
      · have HN1 := Lib.hid (show decide (n ≤ 4000) = true by simpa using n1)
        go_enter Tryz.func20, Tryz.ntmps20
        go_wp2
        go_ret
        exact ⟨by rw [HE.out, HN.out, HN1.out]; rfl, HW.out⟩
      · have HN1 := Lib.hid (show decide (n ≤ 4000) = false by simpa using n1)
        have n2 : 4000 < n := by omega
        go_enter Tryz.func20, Tryz.ntmps20
        go_wp2
        go_ret
        exact ⟨by rw [HE.out, HN.out, HN1.out]; rfl, HW.out⟩
    · have HN := Lib.hid (show decide (0 ≤ n) = false by simpa using n0)
      have n2 : n < 0 := by omega
      go_enter Tryz.func20, Tryz.ntmps20
      go_wp2
      go_ret
      exact ⟨by rw [HE.out, HN.out]; rfl, HW.out⟩
  · have HE := Lib.hid (show wareOk ⟨k, a, b, n⟩ = false by unfold wareOk; simp only [k1, k2, k3, k4, k5, if_false])
    clear hm ha hb hw0
    have q1 : (k == 1) = false := by simpa using k1
    have q2 : (k == 2) = false := by simpa using k2
    have q3 : (k == 3) = false := by simpa using k3
    have q4 : (k == 4) = false := by simpa using k4
    have q5 : (k == 5) = false := by simpa using k5
    go_enter Tryz.func20, Tryz.ntmps20
    go_wp2
    go_ret
    exact ⟨by rw [HE.out]; rfl, HW.out⟩
end Go.Proofs.YtoplnepbjjcbcaaGreatDoor
