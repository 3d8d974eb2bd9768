/- rule.Ware at every kind. rule.Is with wares. conduitref1.letter, digit, In, Token; conduitref6.plain. -/
import Derived.Test.YthjnmcciejfpcaaGreatDoorMX
import Derived.Test.YthjnmcciejfpcaaGreatDoorFld
namespace Go.Proofs.YthjnmcciejfpcaaGreatDoor
set_option linter.unusedVariables false
set_option linter.unusedSimpArgs false
open Go.RowKit

structure WV where
  kind : Int
  a : ByteArray
  b : ByteArray
  n : Int
def WV.cells (r : WV) : List Value := [.int .i64 r.kind, .string r.a, .string r.b, .int .i64 r.n]
def Wares (w : World) (A : Option Addr) (l : List WV) : Prop :=
  0 < l.length → ∃ b off, A = some ⟨b, off, none⟩ ∧ b < w.heap.size ∧ ∀ k (h : k < l.length) j v, l[k].cells[j]? = some v → w.cell? ⟨b, off + k * 4 + j, none⟩ = some v
theorem Wares.nil (w : World) (A : Option Addr) : Wares w A [] := fun h => absurd h (by simp)
theorem Wares.fr {w w' : World} {A : Option Addr} {l : List WV} (h : Wares w A l) (hb : Below w.heap.size w w') : Wares w' A l := fun h0 => by
  obtain ⟨b, off, rfl, hlt, hc⟩ := h h0
  exact ⟨b, off, rfl, Nat.lt_of_lt_of_le hlt hb.size, fun k hk j v hv => fr_cell hb (hc k hk j v hv)⟩
theorem Wares.one {w : World} {g : Nat} (r : WV) (h : Box w g r.cells) : Wares w (some ⟨g, 0, none⟩) [r] := fun _ =>
  ⟨g, 0, rfl, h.1, fun k hk j v hv => by
    have : k = 0 := by simp at hk; exact hk
    subst this
    have e : 0 + 0 * 4 + j = j := by omega
    rw [e]
    exact h.2 j v hv⟩
def wareOk (r : WV) : Bool :=
  if r.kind = 1 then methOk r.a else if r.kind = 2 then fieldOk r.a r.b else if r.kind = 3 then allB isTokB r.a && Nat.ble r.a.size 64
  else if r.kind = 4 then cleanOk r.a && cleanOk r.b else if r.kind = 5 then decide (0 ≤ r.n) && decide (r.n ≤ 4000) else false
theorem isClean_at (s : ByteArray) (v : Bool) (w : World) (h : cleanOk s = v) (hm : MaxL w) (hs : s.size ≤ 2000000) : Calls Tryz.prog 37 #[.string s] w fun e w' => e = .returned (.bool v) ∧ Below w.heap.size w w' := h ▸ rule_isClean s w hm hs
theorem fld_Is_at (a b : ByteArray) (v : Bool) (w : World) (h : fieldOk a b = v) (ha : a.size ≤ 9223372036854775807) (hb : b.size ≤ 9223372036854775807) :
    Calls Tryz.prog 39 #[.agg #[.string a, .string b]] w fun e w' => e = .returned (.bool v) ∧ Below w.heap.size w w' := h ▸ fld_Is a b w ha hb
theorem oct_Token_at (s : ByteArray) (v : Bool) (w : World) (h : allB isTokB s = v) (hs : s.size ≤ 9223372036854775807) : Calls Tryz.prog 40 #[.string s] w fun e w' => e = .returned (.bool v) ∧ w = w' := h ▸ oct_Token s w hs
set_option maxHeartbeats 4000000 in
theorem rule_Ware (k : Int) (a b : ByteArray) (n : Int) (w : World) (hm : MaxL w) (ha : a.size ≤ 2000000) (hb : b.size ≤ 2000000) :
    Calls Tryz.prog 28 #[.agg #[.int .i64 k, .string a, .string b, .int .i64 n]] w fun e w' => e = .returned (confR (wareOk ⟨k, a, b, n⟩)) ∧ Below w.heap.size w w' := by
  have hw0 := fr_alloc (fr_refl w) (.cells #[.int .i64 k, .string a, .string b, .int .i64 n] 56)
  have HW := Lib.hid hw0
  have HM := Lib.hid (hm.fr hw0)
  have HB0 := Lib.hid (Box.new w [.int .i64 k, .string a, .string b, .int .i64 n] 56)
  have ha9 : a.size ≤ 9223372036854775807 := by omega
  have hb9 : b.size ≤ 9223372036854775807 := by omega
  have HA9 := Lib.hid ha9; have HB9 := Lib.hid hb9; have HA := Lib.hid ha; have HBB := Lib.hid hb
  clear ha9 hb9
  by_cases k1 : k = 1
  · subst k1
    exact rule_Ware1 a b n w hm (by omega)
  by_cases k2 : k = 2
  · subst k2
    have HE := Lib.hid (show wareOk ⟨2, a, b, n⟩ = fieldOk a b from rfl)
    clear hm ha hb hw0
    cases hq : fieldOk a b
    all_goals
      have HQ := Lib.hid hq; clear hq
      go_enter Tryz.func28, Tryz.ntmps28
      go_wp2_with fail
      refine (fld_Is_at a b _ _ HQ.out HA9.out HB9.out).mono ?_
      rintro e w1 ⟨rfl, hb1⟩
      have x1 := HB0.out.fr hb1
      have qc0 : w1.cell? ⟨w.heap.size, 0, none⟩ = some (.int .i64 2) := x1.2 0 _ rfl
      have qc1 : w1.cell? ⟨w.heap.size, 1, none⟩ = some (.string a) := x1.2 1 _ rfl
      have qc2 : w1.cell? ⟨w.heap.size, 2, none⟩ = some (.string b) := x1.2 2 _ rfl
      have qc3 : w1.cell? ⟨w.heap.size, 3, none⟩ = some (.int .i64 n) := x1.2 3 _ rfl
      have qlt : w.heap.size < w1.heap.size := x1.1
      have HF := Lib.hid (fr_trans HW.out hb1)
      clear hb1 x1
      go_wp2
      go_ret
      exact ⟨by rw [HE.out, HQ.out]; rfl, HF.out⟩
  by_cases k3 : k = 3
  · subst k3
    have HE := Lib.hid (show wareOk ⟨3, a, b, n⟩ = (allB isTokB a && Nat.ble a.size 64) from rfl)
    clear hm ha hb hw0
    cases hq : allB isTokB a
    · have HQ := Lib.hid hq; clear hq
      go_enter Tryz.func28, Tryz.ntmps28
      go_wp2_with fail
      refine (oct_Token_at a _ _ HQ.out HA9.out).mono ?_
      rintro e w1 ⟨rfl, rfl⟩
      go_wp2
      go_ret
      exact ⟨by rw [HE.out, HQ.out]; rfl, HW.out⟩
    · have HQ := Lib.hid hq; clear hq
      by_cases h64 : a.size ≤ 64
      · have hI : decide ((a.size : Int) ≤ 64) = true := by simp; omega
        have HL := Lib.hid (ble_yes h64); clear h64
        go_enter Tryz.func28, Tryz.ntmps28
        go_wp2_with fail
        refine (oct_Token_at a _ _ HQ.out HA9.out).mono ?_
        rintro e w1 ⟨rfl, rfl⟩
        go_wp2
        go_ret
        exact ⟨by rw [HE.out, HQ.out, HL.out]; rfl, HW.out⟩
      · have hI : decide ((a.size : Int) ≤ 64) = false := by simp; omega
        have HL := Lib.hid (ble_no h64); clear h64
        go_enter Tryz.func28, Tryz.ntmps28
        go_wp2_with fail
        refine (oct_Token_at a _ _ HQ.out HA9.out).mono ?_
        rintro e w1 ⟨rfl, rfl⟩
        go_wp2
        go_ret
        exact ⟨by rw [HE.out, HQ.out, HL.out]; rfl, HW.out⟩
  by_cases k4 : k = 4
  · subst k4
    have HE := Lib.hid (show wareOk ⟨4, a, b, n⟩ = (cleanOk a && cleanOk b) from rfl)
    clear hm ha hb hw0
    cases hq : cleanOk a
    · have HQ := Lib.hid hq; clear hq
      go_enter Tryz.func28, Tryz.ntmps28
      go_wp2_with fail
      refine (isClean_at a _ _ HQ.out HM.out HA.out).mono ?_
      rintro e w1 ⟨rfl, hb1⟩
      have HF := Lib.hid (fr_trans HW.out hb1)
      clear hb1
      go_wp2
      go_ret
      exact ⟨by rw [HE.out, HQ.out]; rfl, HF.out⟩
    · have HQ := Lib.hid hq; clear hq
      cases hq : cleanOk b
      all_goals
        have HQ2 := Lib.hid hq; clear hq
        go_enter Tryz.func28, Tryz.ntmps28
        go_wp2_with fail
        refine (isClean_at a _ _ HQ.out HM.out HA.out).mono ?_
        rintro e w1 ⟨rfl, hb1⟩
        have x1 := HB0.out.fr hb1
        have qc0 : w1.cell? ⟨w.heap.size, 0, none⟩ = some (.int .i64 4) := x1.2 0 _ rfl
        have qc1 : w1.cell? ⟨w.heap.size, 1, none⟩ = some (.string a) := x1.2 1 _ rfl
        have qc2 : w1.cell? ⟨w.heap.size, 2, none⟩ = some (.string b) := x1.2 2 _ rfl
        have qc3 : w1.cell? ⟨w.heap.size, 3, none⟩ = some (.int .i64 n) := x1.2 3 _ rfl
        have qlt : w.heap.size < w1.heap.size := x1.1
        have HF := Lib.hid (fr_trans HW.out hb1)
        have HM1 := Lib.hid (HM.out.fr hb1)
        clear hb1 x1
        go_wp2_with fail
        refine (isClean_at b _ _ HQ2.out HM1.out HBB.out).mono ?_
        rintro e w2 ⟨rfl, hb2⟩
        have HF2 := Lib.hid (fr_trans HF.out hb2)
        clear hb2
        go_wp2
        go_ret
        exact ⟨by rw [HE.out, HQ.out, HQ2.out]; rfl, HF2.out⟩
  by_cases k5 : k = 5
  · subst k5
    have HE := Lib.hid (show wareOk ⟨5, a, b, n⟩ = (decide (0 ≤ n) && decide (n ≤ 4000)) from rfl)
    clear hm ha hb hw0
    by_cases n0 : 0 ≤ n
    · have HN := Lib.hid (show decide (0 ≤ n) = true by simpa using n0)
      by_cases n1 : n ≤ 4000
      · have HN1 := Lib.hid (show decide (n ≤ 4000) = true by simpa using n1)
        go_enter Tryz.func28, Tryz.ntmps28
        go_wp2
        go_ret
        exact ⟨by rw [HE.out, HN.out, HN1.out]; rfl, HW.out⟩
      · have HN1 := Lib.hid (show decide (n ≤ 4000) = false by simpa using n1)
        have n2 : 4000 < n := by omega
        go_enter Tryz.func28, Tryz.ntmps28
        go_wp2
        go_ret
        exact ⟨by rw [HE.out, HN.out, HN1.out]; rfl, HW.out⟩
    · have HN := Lib.hid (show decide (0 ≤ n) = false by simpa using n0)
      have n2 : n < 0 := by omega
      go_enter Tryz.func28, Tryz.ntmps28
      go_wp2
      go_ret
      exact ⟨by rw [HE.out, HN.out]; rfl, HW.out⟩
  · have HE := Lib.hid (show wareOk ⟨k, a, b, n⟩ = false by unfold wareOk; simp only [k1, k2, k3, k4, k5, if_false])
    clear hm ha hb hw0
    have q1 : (k == 1) = false := by simpa using k1
    have q2 : (k == 2) = false := by simpa using k2
    have q3 : (k == 3) = false := by simpa using k3
    have q4 : (k == 4) = false := by simpa using k4
    have q5 : (k == 5) = false := by simpa using k5
    go_enter Tryz.func28, Tryz.ntmps28
    go_wp2
    go_ret
    exact ⟨by rw [HE.out]; rfl, HW.out⟩
end Go.Proofs.YthjnmcciejfpcaaGreatDoor

namespace Go.Proofs.YthjnmcciejfpcaaGreatDoor
set_option linter.unusedVariables false
set_option linter.unusedSimpArgs false
open Go.RowKit

theorem rule_Ware_at (r : WV) (v : Bool) (w : World) (h : wareOk r = v) (hm : MaxL w) (ha : r.a.size ≤ 2000000) (hb : r.b.size ≤ 2000000) :
    Calls Tryz.prog 28 #[.agg #[.int .i64 r.kind, .string r.a, .string r.b, .int .i64 r.n]] w fun e w' => e = .returned (confR v) ∧ Below w.heap.size w w' := by
  subst h; exact rule_Ware r.kind r.a r.b r.n w hm ha hb
def isOkW (k : Int) (h p : ByteArray) (b n : Int) (ws : List WV) : Bool := decide (0 ≤ b) && decide (b < n) && hostOk h && Nat.ble ws.length 8 && pathOk k p && ws.all wareOk
theorem wall_no {l : List WV} {k : Nat} (h : k < l.length) (hp : wareOk l[k] = false) : l.all wareOk = false := by
  rw [← List.take_append_drop k l, List.all_append, List.drop_eq_getElem_cons h, List.all_cons, hp]; simp
theorem wall_succ {l : List WV} {k : Nat} (h : k < l.length) (hk : (l.take k).all wareOk = true) (hp : wareOk l[k] = true) : (l.take (k + 1)).all wareOk = true := by
  rw [List.take_succ_eq_append_getElem h, List.all_append, hk]; simp [hp]
set_option maxRecDepth 100000 in
set_option maxHeartbeats 4000000 in
theorem rule_Is (k : Int) (h p : ByteArray) (b n : Int) (A : Option Addr) (m c : Nat) (ws : List WV) (w : World) (hn : ws.length = m) (hw : Wares w A ws) (hm : MaxL w) (hh : h.size ≤ 1000000000) (hp : p.size ≤ 2000000)
    (hws : ∀ r ∈ ws, r.a.size ≤ 2000000 ∧ r.b.size ≤ 2000000) (hm9 : m ≤ 9223372036854775807) :
    Calls Tryz.prog 13 #[.agg #[.int .i64 k, .string h, .string p, .int .i64 b, .slice A m c], .int .i64 n] w fun e w' => e = .returned (confR (isOkW k h p b n ws)) ∧ Below w.heap.size w w' := by
  have hw0 := fr_alloc (fr_refl w) (.cells #[.int .i64 k, .string h, .string p, .int .i64 b, .slice A m c] 38)
  have HB0 := Lib.hid (Box.new w [.int .i64 k, .string h, .string p, .int .i64 b, .slice A m c] 38)
  have HM := Lib.hid hm
  have HW := Lib.hid hw0
  have hh9 : h.size ≤ 9223372036854775807 := by omega
  have HH := Lib.hid hh9
  have HWS := Lib.hid (hw.fr hw0)
  have HZ := Lib.hid hws; have HN := Lib.hid hn
  clear hm hw0 hh9 hh hw hws
  have hU : isOkW k h p b n ws = (decide (0 ≤ b) && decide (b < n) && hostOk h && Nat.ble ws.length 8 && pathOk k p && ws.all wareOk) := rfl
  rw [hn] at hU
  have HU := Lib.hid hU
  clear hU
  by_cases b0 : b < 0
  · have HD := Lib.hid (show decide (0 ≤ b) = false by simp; omega)
    go_enter Tryz.func13, Tryz.ntmps13
    go_wp2
    go_ret
    exact ⟨by rw [HU.out, HD.out]; rfl, HW.out⟩
  have HD := Lib.hid (show decide (0 ≤ b) = true by simp; omega)
  by_cases b1 : n ≤ b
  · have HE := Lib.hid (show decide (b < n) = false by simp; omega)
    go_enter Tryz.func13, Tryz.ntmps13
    go_wp2
    go_ret
    exact ⟨by rw [HU.out, HD.out, HE.out]; rfl, HW.out⟩
  have HE := Lib.hid (show decide (b < n) = true by simp; omega)
  cases hq : hostOk h
  · have HQ := Lib.hid hq
    go_enter Tryz.func13, Tryz.ntmps13
    go_wp2_with fail
    refine (rule_isHost h _ HH.out).mono ?_
    rintro e w1 ⟨rfl, hb1⟩
    rw [HQ.out]
    go_wp2
    go_ret
    exact ⟨by rw [HU.out, HD.out, HE.out, HQ.out]; rfl, fr_trans HW.out hb1⟩
  have HQ := Lib.hid hq
  by_cases hm8 : 8 < m
  · have hI : (8 : Int) < (m : Int) := by omega
    have HM8 := Lib.hid (ble_no (show ¬ m ≤ 8 by omega))
    clear hm8
    go_enter Tryz.func13, Tryz.ntmps13
    go_wp2_with fail
    refine (rule_isHost h _ HH.out).mono ?_
    rintro e w1 ⟨rfl, hb1⟩
    rw [HQ.out]
    have x1 := HB0.out.fr hb1
    have qc0 : w1.cell? ⟨w.heap.size, 0, none⟩ = some (.int .i64 k) := x1.2 0 _ rfl
    have qc1 : w1.cell? ⟨w.heap.size, 1, none⟩ = some (.string h) := x1.2 1 _ rfl
    have qc2 : w1.cell? ⟨w.heap.size, 2, none⟩ = some (.string p) := x1.2 2 _ rfl
    have qc3 : w1.cell? ⟨w.heap.size, 3, none⟩ = some (.int .i64 b) := x1.2 3 _ rfl
    have qc4 : w1.cell? ⟨w.heap.size, 4, none⟩ = some (.slice A m c) := x1.2 4 _ rfl
    have qlt : w.heap.size < w1.heap.size := x1.1
    have HB1 := Lib.hid (fr_trans HW.out hb1)
    clear hb1 x1
    go_wp2
    go_ret
    exact ⟨by rw [HU.out, HD.out, HE.out, HQ.out, HM8.out]; rfl, HB1.out⟩
  have hI : (m : Int) ≤ 8 := by omega
  have HM8 := Lib.hid (ble_yes (show m ≤ 8 by omega))
  clear hm8
  cases hr : pathOk k p
  all_goals
    have HR := Lib.hid hr
    go_enter Tryz.func13, Tryz.ntmps13
    go_wp2_with fail
    refine (rule_isHost h _ HH.out).mono ?_
    rintro e w1 ⟨rfl, hb1⟩
    rw [HQ.out]
    have x1 := HB0.out.fr hb1
    have qc0 : w1.cell? ⟨w.heap.size, 0, none⟩ = some (.int .i64 k) := x1.2 0 _ rfl
    have qc1 : w1.cell? ⟨w.heap.size, 1, none⟩ = some (.string h) := x1.2 1 _ rfl
    have qc2 : w1.cell? ⟨w.heap.size, 2, none⟩ = some (.string p) := x1.2 2 _ rfl
    have qc3 : w1.cell? ⟨w.heap.size, 3, none⟩ = some (.int .i64 b) := x1.2 3 _ rfl
    have qc4 : w1.cell? ⟨w.heap.size, 4, none⟩ = some (.slice A m c) := x1.2 4 _ rfl
    have qlt : w.heap.size < w1.heap.size := x1.1
    have HX1 := Lib.hid x1
    have HB1 := Lib.hid (fr_trans HW.out hb1)
    have HW1 := Lib.hid (HWS.out.fr hb1)
    clear hb1 x1
    go_wp2_with fail
    refine (rule_isPath k p _ (HM.out.fr HB1.out) hp).mono ?_
    rintro e w2 ⟨rfl, hb2⟩
    rw [HR.out]
    have x2 := HX1.out.fr hb2
    have rc0 : w2.cell? ⟨w.heap.size, 0, none⟩ = some (.int .i64 k) := x2.2 0 _ rfl
    have rc1 : w2.cell? ⟨w.heap.size, 1, none⟩ = some (.string h) := x2.2 1 _ rfl
    have rc2 : w2.cell? ⟨w.heap.size, 2, none⟩ = some (.string p) := x2.2 2 _ rfl
    have rc3 : w2.cell? ⟨w.heap.size, 3, none⟩ = some (.int .i64 b) := x2.2 3 _ rfl
    have rc4 : w2.cell? ⟨w.heap.size, 4, none⟩ = some (.slice A m c) := x2.2 4 _ rfl
    have rlt : w.heap.size < w2.heap.size := x2.1
    have HB2 := Lib.hid (fr_trans HB1.out hb2)
    have HW2 := Lib.hid (HW1.out.fr hb2)
    clear hb2 x2
  · go_wp2
    go_ret
    exact ⟨by rw [HU.out, HD.out, HE.out, HQ.out, HM8.out, HR.out]; rfl, HB2.out⟩
  · go_wp2
    go_loopw [41] (fun i wr => ∃ j : Nat, j ≤ m ∧ i = .int .i64 j ∧ Below w2.heap.size w2 wr ∧ (ws.take j).all wareOk = true) (fun i _ => m - (intOf i).toNat)
    case atStart => exact ⟨0, Nat.zero_le _, rfl, fr_refl _, rfl⟩
    case round =>
      obtain ⟨j, hj, rfl, hb, hall⟩ := hrel
      have HB := Lib.hid hb; have HA := Lib.hid hall
      clear hb hall
      by_cases hlt : j < m
      · have hjl : j < ws.length := by have := HN.out; omega
        obtain ⟨g, off, rfl, hgl, hc⟩ := (HW2.out.fr HB.out) (by omega)
        obtain ⟨r, hr2⟩ : ∃ r, ws[j] = r := ⟨_, rfl⟩
        have hcr := hc j hjl
        rw [hr2] at hcr
        have c0 := hcr 0 _ rfl
        have c1 := hcr 1 _ rfl
        have c2 := hcr 2 _ rfl
        have c3 := hcr 3 _ rfl
        rw [Nat.add_zero] at c0
        obtain ⟨hza, hzb⟩ := HZ.out r (by rw [← hr2]; exact List.getElem_mem hjl)
        have HR2 := Lib.hid hr2
        have hnb := Box.new wr [.int .i64 r.kind, .string r.a, .string r.b, .int .i64 r.n] 56
        have HNB := Lib.hid hnb
        clear hcr hc hr2 hnb
        cases hwo : wareOk r
        · have HO := Lib.hid hwo; clear hwo
          go_wp2_with fail
          refine (rule_Ware_at r _ _ HO.out (HM.out.fr (fr_alloc (fr_trans HB2.out HB.out) _)) hza hzb).mono ?_
          rintro e w3 ⟨rfl, hb3⟩
          have HB3 := Lib.hid (fr_trans (fr_alloc HB.out _) hb3)
          clear hb3 c0 c1 c2 c3
          unfold confR
          go_wp2_with fail
          refine (is_errno 14 14 _).mono ?_
          rintro e w7 ⟨rfl, rfl⟩
          go_wp2
          go_ret
          exact ⟨by rw [HU.out, HD.out, HE.out, HQ.out, HM8.out, HR.out, wall_no hjl (by rw [HR2.out]; exact HO.out)]; rfl, fr_trans HB2.out HB3.out⟩
        · have HO := Lib.hid hwo; clear hwo
          go_wp2_with fail
          refine (rule_Ware_at r _ _ HO.out (HM.out.fr (fr_alloc (fr_trans HB2.out HB.out) _)) hza hzb).mono ?_
          rintro e w3 ⟨rfl, hb3⟩
          have HB3 := Lib.hid (fr_trans (fr_alloc HB.out _) hb3)
          clear hb3 c0 c1 c2 c3
          unfold confR
          go_wp2_with fail
          refine (is_nil 14 _).mono ?_
          rintro e w7 ⟨rfl, rfl⟩
          go_wp2
          go_roundw
          case measure => exact meas hlt .i64 .i64
          case rel => exact ⟨j + 1, by omega, by go_num, HB3.out, wall_succ hjl HA.out (by rw [HR2.out]; exact HO.out)⟩
      · have e : ws.take j = ws := List.take_of_length_le (by have := HN.out; omega)
        have HA2 := Lib.hid (show ws.all wareOk = true by have := HA.out; rwa [e] at this)
        clear e
        go_wp2
        go_ret
        exact ⟨by rw [HU.out, HD.out, HE.out, HQ.out, HM8.out, HR.out, HA2.out]; rfl, fr_trans HB2.out HB.out⟩
end Go.Proofs.YthjnmcciejfpcaaGreatDoor

namespace Go.Proofs.YthjnmcciejfpcaaGreatDoor
set_option linter.unusedVariables false
set_option linter.unusedSimpArgs false
open Go.RowKit

def letN (c : UInt8) : Bool := (decide (97 ≤ (c.toNat : Int)) && decide ((c.toNat : Int) ≤ 122)) || (decide (65 ≤ (c.toNat : Int)) && decide ((c.toNat : Int) ≤ 90))
def digN (c : UInt8) : Bool := decide (48 ≤ (c.toNat : Int)) && decide ((c.toNat : Int) ≤ 57)
theorem ref1_letter (c : UInt8) (w : World) : Calls Tryz.prog 62 #[.int .u8 (c.toNat : Int)] w fun e w' => e = .returned (.bool (letN c)) ∧ w = w' := by
  go_enter Tryz.func62, Tryz.ntmps62
  go_wp2
  all_goals (go_ret; refine ⟨?_, rfl⟩; (simp_all [letN] <;> omega))
theorem ref1_digit (c : UInt8) (w : World) : Calls Tryz.prog 63 #[.int .u8 (c.toNat : Int)] w fun e w' => e = .returned (.bool (digN c)) ∧ w = w' := by
  go_enter Tryz.func63, Tryz.ntmps63
  go_wp2
  all_goals (go_ret; refine ⟨?_, rfl⟩; (simp_all [digN] <;> omega))
set_option maxHeartbeats 400000 in
theorem ref1_In (c : UInt8) (s : ByteArray) (w : World) (hs : s.size ≤ 1000000000) : Calls Tryz.prog 64 #[.int .u8 (c.toNat : Int), .string s] w fun e w' => e = .returned (.bool ((L s).contains c)) ∧ w = w' := by
  go_enter Tryz.func64, Tryz.ntmps64
  go_wp2
  go_loopw [5] (fun i wr => ∃ k : Nat, k ≤ s.size ∧ i = .int .i64 k ∧ (L s).contains c = ((L s).drop k).contains c ∧ w = wr) (fun i _ => s.size - (intOf i).toNat)
  case atStart => exact ⟨0, Nat.zero_le _, rfl, rfl, rfl⟩
  case round =>
    obtain ⟨k, hk, rfl, hc, rfl⟩ := hrel
    by_cases hlt : k < s.size
    · have hd : (L s).drop k = s[k] :: (L s).drop (k + 1) := by rw [List.drop_eq_getElem_cons (by show k < s.data.size; exact hlt)]; rfl
      rw [hd, List.contains_cons] at hc
      by_cases he : c = s[k]
      · have he' : ((s[k].toNat : Int) == (c.toNat : Int)) = true := by rw [he]; simp
        have hr : (L s).contains c = true := by rw [hc, he]; simp
        have HR := Lib.hid hr
        clear hr hc hd he
        go_wp2
        go_ret
        exact ⟨by rw [HR.out]; rfl, rfl⟩
      · have he' : ((s[k].toNat : Int) == (c.toNat : Int)) = false := by
          simp; intro h; exact he (UInt8.toNat_inj.1 (by omega))
        have hr : (L s).contains c = ((L s).drop (k + 1)).contains c := by rw [hc]; simp [he]
        have HR := Lib.hid hr
        clear hr hc hd he
        go_wp2
        go_roundw
        case measure => exact meas hlt .i64 .i64
        case rel => exact ⟨k + 1, by omega, by go_num, HR.out, trivial⟩
    · have hd : (L s).drop k = [] := List.drop_eq_nil_of_le (by rw [L_len]; omega)
      rw [hd] at hc
      have HC := Lib.hid hc
      clear hc hd
      go_wp2
      go_ret
      exact ⟨by rw [HC.out]; rfl, rfl⟩
theorem ref1_letter_at (c : UInt8) (b : Bool) (w : World) (h : letN c = b) : Calls Tryz.prog 62 #[.int .u8 (c.toNat : Int)] w fun e w' => e = .returned (.bool b) ∧ w = w' := h ▸ ref1_letter c w
theorem ref1_digit_at (c : UInt8) (b : Bool) (w : World) (h : digN c = b) : Calls Tryz.prog 63 #[.int .u8 (c.toNat : Int)] w fun e w' => e = .returned (.bool b) ∧ w = w' := h ▸ ref1_digit c w
theorem ref1_In_at (c : UInt8) (s : ByteArray) (b : Bool) (w : World) (h : (L s).contains c = b) (hs : s.size ≤ 1000000000) : Calls Tryz.prog 64 #[.int .u8 (c.toNat : Int), .string s] w fun e w' => e = .returned (.bool b) ∧ w = w' := h ▸ ref1_In c s w hs
def tok14 : ByteArray := ⟨#[33, 35, 36, 37, 38, 39, 42, 43, 45, 46, 94, 95, 124, 126]⟩
theorem tok_eq : ∀ c : UInt8, isTokB c = (letN c || digN c || (L tok14).contains c || c == 96) := by
  have h : ∀ n : Fin 256, isTokB (UInt8.ofNat n) = (letN (UInt8.ofNat n) || digN (UInt8.ofNat n) || (L tok14).contains (UInt8.ofNat n) || (UInt8.ofNat n) == 96) := by decide +kernel
  intro c
  have := h ⟨c.toNat, c.toNat_lt⟩
  simpa using this
set_option maxHeartbeats 2000000 in
theorem ref1_Token (s : ByteArray) (w : World) (hs : s.size ≤ 9223372036854775807) : Calls Tryz.prog 43 #[.string s] w fun e w' => e = .returned (.bool (allB isTokB s)) ∧ w = w' := by
  have hlen : (L s).length = s.size := rfl
  obtain ⟨l, hl⟩ : ∃ l, L s = l := ⟨_, rfl⟩
  rw [hl] at hlen
  have he : allB isTokB s = (l.all isTokB && !s.toList.isEmpty) := by unfold allB; rw [hl]
  have HE := Lib.hid he; have HL0 := Lib.hid hl; have HN := Lib.hid hlen
  clear he hlen hl
  go_enter Tryz.func43, Tryz.ntmps43
  go_wp2
  go_loop [3] (fun i => ∃ k : Nat, k ≤ s.size ∧ i = .int .i64 k ∧ (l.take k).all isTokB = true) (fun i => s.size - (intOf i).toNat)
  case atStart => exact ⟨0, Nat.zero_le _, rfl, rfl⟩
  case round =>
    obtain ⟨k, hk, rfl, hall⟩ := hrel
    by_cases hlt : k < s.size
    · have hkl : k < l.length := by have := HN.out; omega
      have hat : l[k] = s[k] := by have := HL0.out; subst this; rfl
      obtain ⟨c, hc⟩ : ∃ c, s[k] = c := ⟨_, rfl⟩
      rw [hc] at hat
      have HA := Lib.hid hall; have HAT := Lib.hid hat; clear hall hat
      have ht := tok_eq c
      cases hl : letN c
      · cases hd : digN c
        · cases hi : (L tok14).contains c
          · by_cases h96 : c = 96
            · have hq : isTokB c = true := by rw [h96]; decide +kernel
              have hn : ((c.toNat : Int) == 96) = true := by rw [h96]; rfl
              have HQ := Lib.hid hq; have HL := Lib.hid hl; have HD := Lib.hid hd; have HI := Lib.hid hi
              clear hq hl hd hi ht h96
              go_wp2_with fail
              refine (ref1_letter_at c _ _ HL.out).mono ?_
              rintro e w1 ⟨rfl, rfl⟩
              go_wp2_with fail
              refine (ref1_digit_at c _ _ HD.out).mono ?_
              rintro e w1 ⟨rfl, rfl⟩
              go_wp2_with fail
              refine (ref1_In_at c tok14 _ _ HI.out (by decide)).mono ?_
              rintro e w1 ⟨rfl, rfl⟩
              go_wp2
              go_round
              case measure => exact meas hlt .i64 .i64
              case rel => exact ⟨k + 1, by omega, by go_num, all_succ hkl HA.out (by rw [HAT.out]; exact HQ.out)⟩
            · have hn : ((c.toNat : Int) == 96) = false := by
                simp; intro h; exact h96 (UInt8.toNat_inj.1 (by show c.toNat = 96; omega))
              have hn2 : ((c.toNat : Int) != 96) = true := by simpa using hn
              have hq : isTokB c = false := by rw [ht, hl, hd, hi]; simp [h96]
              have HQ := Lib.hid hq; have HL := Lib.hid hl; have HD := Lib.hid hd; have HI := Lib.hid hi
              clear hq hl hd hi ht
              go_wp2_with fail
              refine (ref1_letter_at c _ _ HL.out).mono ?_
              rintro e w1 ⟨rfl, rfl⟩
              go_wp2_with fail
              refine (ref1_digit_at c _ _ HD.out).mono ?_
              rintro e w1 ⟨rfl, rfl⟩
              go_wp2_with fail
              refine (ref1_In_at c tok14 _ _ HI.out (by decide)).mono ?_
              rintro e w1 ⟨rfl, rfl⟩
              go_wp2
              go_ret
              exact ⟨by rw [HE.out, all_drop hkl HA.out (by rw [HAT.out]; exact HQ.out)]; rfl, rfl⟩
          · have hq : isTokB c = true := by rw [ht, hl, hd, hi]; rfl
            have HQ := Lib.hid hq; have HL := Lib.hid hl; have HD := Lib.hid hd; have HI := Lib.hid hi
            clear hq hl hd hi ht
            go_wp2_with fail
            refine (ref1_letter_at c _ _ HL.out).mono ?_
            rintro e w1 ⟨rfl, rfl⟩
            go_wp2_with fail
            refine (ref1_digit_at c _ _ HD.out).mono ?_
            rintro e w1 ⟨rfl, rfl⟩
            go_wp2_with fail
            refine (ref1_In_at c tok14 _ _ HI.out (by decide)).mono ?_
            rintro e w1 ⟨rfl, rfl⟩
            go_wp2
            go_round
            case measure => exact meas hlt .i64 .i64
            case rel => exact ⟨k + 1, by omega, by go_num, all_succ hkl HA.out (by rw [HAT.out]; exact HQ.out)⟩
        · have hq : isTokB c = true := by rw [ht, hl, hd]; rfl
          have HQ := Lib.hid hq; have HL := Lib.hid hl; have HD := Lib.hid hd
          clear hq hl hd ht
          go_wp2_with fail
          refine (ref1_letter_at c _ _ HL.out).mono ?_
          rintro e w1 ⟨rfl, rfl⟩
          go_wp2_with fail
          refine (ref1_digit_at c _ _ HD.out).mono ?_
          rintro e w1 ⟨rfl, rfl⟩
          go_wp2
          go_round
          case measure => exact meas hlt .i64 .i64
          case rel => exact ⟨k + 1, by omega, by go_num, all_succ hkl HA.out (by rw [HAT.out]; exact HQ.out)⟩
      · have hq : isTokB c = true := by rw [ht, hl]; rfl
        have HQ := Lib.hid hq; have HL := Lib.hid hl
        clear hq hl ht
        go_wp2_with fail
        refine (ref1_letter_at c _ _ HL.out).mono ?_
        rintro e w1 ⟨rfl, rfl⟩
        go_wp2
        go_round
        case measure => exact meas hlt .i64 .i64
        case rel => exact ⟨k + 1, by omega, by go_num, all_succ hkl HA.out (by rw [HAT.out]; exact HQ.out)⟩
    · have e : l.take k = l := List.take_of_length_le (by have := HN.out; omega)
      rw [e] at hall
      have HA := Lib.hid hall; clear hall e
      cases hq : s.toList.isEmpty
      all_goals
        have HQ := Lib.hid hq
        go_wp2
        go_ret
        exact ⟨by rw [HE.out, HA.out, HQ.out]; rfl, rfl⟩
theorem valB_plain (c : UInt8) : valB c = !((decide ((c.toNat : Int) < 32) && !((c.toNat : Int) == 9)) || ((c.toNat : Int) == 127)) := by
  rw [valB_eq]
  generalize (c.toNat : Int) = n
  by_cases h9 : n = 9
  · subst h9; rfl
  · by_cases h127 : n = 127
    · subst h127; rfl
    · have k1 : (n == 9) = false := by simp; omega
      have k2 : (n == 127) = false := by simp; omega
      rw [k1, k2]
      by_cases h : 32 ≤ n
      · simp [h]
      · simp [h]; omega
set_option maxHeartbeats 2000000 in
theorem ref6_plain (s : ByteArray) (w : World) (hs : s.size ≤ 9223372036854775807) : Calls Tryz.prog 66 #[.string s] w fun e w' => e = .returned (.bool ((L s).all valB)) ∧ w = w' := by
  have hlen : (L s).length = s.size := rfl
  obtain ⟨l, hl⟩ : ∃ l, L s = l := ⟨_, rfl⟩
  rw [hl] at hlen ⊢
  have HL0 := Lib.hid hl; have HN := Lib.hid hlen
  clear hlen hl
  go_enter Tryz.func66, Tryz.ntmps66
  go_wp2
  go_loop [3] (fun i => ∃ k : Nat, k ≤ s.size ∧ i = .int .i64 k ∧ (l.take k).all valB = true) (fun i => s.size - (intOf i).toNat)
  case atStart => exact ⟨0, Nat.zero_le _, rfl, rfl⟩
  case round =>
    obtain ⟨k, hk, rfl, hall⟩ := hrel
    by_cases hlt : k < s.size
    · have hkl : k < l.length := by have := HN.out; omega
      have hat : l[k] = s[k] := by have := HL0.out; subst this; rfl
      obtain ⟨c, hc⟩ : ∃ c, s[k] = c := ⟨_, rfl⟩
      rw [hc] at hat
      have HA := Lib.hid hall; have HAT := Lib.hid hat; clear hall hat
      have hv := valB_plain c
      by_cases h1 : (c.toNat : Int) < 32
      · cases h9 : ((c.toNat : Int) == 9)
        · have hq : valB c = false := by rw [hv, h9]; simp [h1]
          have h9' : ((c.toNat : Int) != 9) = true := by simpa using h9
          have HQ := Lib.hid hq
          clear hq hv
          go_wp2
          all_goals
            go_ret
            exact ⟨by rw [all_drop hkl HA.out (by rw [HAT.out]; exact HQ.out)]; rfl, rfl⟩
        · have hn : ((c.toNat : Int) == 127) = false := by simp; omega
          have hq : valB c = true := by rw [hv, h9, hn]; simp
          have h9' : ((c.toNat : Int) != 9) = false := by simpa using h9
          have HQ := Lib.hid hq
          clear hq hv
          go_wp2
          go_round
          case measure => exact meas hlt .i64 .i64
          case rel => exact ⟨k + 1, by omega, by go_num, all_succ hkl HA.out (by rw [HAT.out]; exact HQ.out)⟩
      · have h1' : 32 ≤ (c.toNat : Int) := by omega
        cases hn : ((c.toNat : Int) == 127)
        · have hq : valB c = true := by rw [hv, hn]; simp [h1]
          have HQ := Lib.hid hq
          clear hq hv
          go_wp2
          go_round
          case measure => exact meas hlt .i64 .i64
          case rel => exact ⟨k + 1, by omega, by go_num, all_succ hkl HA.out (by rw [HAT.out]; exact HQ.out)⟩
        · have hq : valB c = false := by rw [hv, hn]; simp
          have HQ := Lib.hid hq
          clear hq hv
          go_wp2
          go_ret
          exact ⟨by rw [all_drop hkl HA.out (by rw [HAT.out]; exact HQ.out)]; rfl, rfl⟩
    · have e : l.take k = l := List.take_of_length_le (by have := HN.out; omega)
      rw [e] at hall
      have HA := Lib.hid hall; clear hall e
      go_wp2
      go_ret
      exact ⟨by rw [HA.out]; rfl, rfl⟩
end Go.Proofs.YthjnmcciejfpcaaGreatDoor
