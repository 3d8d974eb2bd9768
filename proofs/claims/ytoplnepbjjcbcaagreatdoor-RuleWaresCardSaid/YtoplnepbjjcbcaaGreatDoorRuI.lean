/- rule.Is with wares. -/
import Derived.Test.YtoplnepbjjcbcaaGreatDoorRuH
namespace Go.Proofs.YtoplnepbjjcbcaaGreatDoor
set_option linter.unusedVariables false
set_option linter.unusedSimpArgs false
open Go.RowKit

theorem rule_Ware_at (r : WV) (v : Bool) (w : World) (h : wareOk r = v) (hm : MaxL w) (ha : r.a.size ≤ 2000000) (hb : r.b.size ≤ 2000000) :
    Calls Tryz.prog 20 #[.agg #[.int .i64 r.kind, .string r.a, .string r.b, .int .i64 r.n]] w fun e w' => e = .returned (confR v) ∧ Below w.heap.size w w' := by
  subst h; exact rule_Ware r.kind r.a r.b r.n w hm ha hb
def isOkW (k : Int) (h p : ByteArray) (b n : Int) (ws : List WV) : Bool := decide (0 ≤ b) && decide (b < n) && hostOk h && Nat.ble ws.length 8 && pathOk k p && ws.all wareOk
theorem wall_no {l : List WV} {k : Nat} (h : k < l.length) (hp : wareOk l[k] = false) : l.all wareOk = false := by
  rw [← List.take_append_drop k l, List.all_append, List.drop_eq_getElem_cons h, List.all_cons, hp]; simp
theorem wall_succ {l : List WV} {k : Nat} (h : k < l.length) (hk : (l.take k).all wareOk = true) (hp : wareOk l[k] = true) : (l.take (k + 1)).all wareOk = true := by
  rw [List.take_succ_eq_append_getElem h, List.all_append, hk]; simp [hp]
set_option maxRecDepth 100000 in
set_option maxHeartbeats 4000000 in
theorem rule_Is (k : Int) (h p : ByteArray) (b n : Int) (A : Option Addr) (m c : Nat) (ws : List WV) (w : World) (hn : ws.length = m) (hw : Wares w A ws) (hm : MaxL w) (hh : h.size ≤ 1000000000) (hp : p.size ≤ 2000000)
    (hws : ∀ r ∈ ws, r.a.size ≤ 2000000 ∧ r.b.size ≤ 2000000) (hm9 : m ≤ 9223372036854775807) :
    Calls Tryz.prog 18 #[.agg #[.int .i64 k, .string h, .string p, .int .i64 b, .slice A m c], .int .i64 n] w fun e w' => e = .returned (confR (isOkW k h p b n ws)) ∧ Below w.heap.size w w' := by
  have hw0 := fr_alloc (fr_refl w) (.cells #[.int .i64 k, .string h, .string p, .int .i64 b, .slice A m c] 40)
  have HB0 := Lib.hid (Box.new w [.int .i64 k, .string h, .string p, .int .i64 b, .slice A m c] 40)
  have HM := Lib.hid hm
  have HW := Lib.hid hw0
  have hh9 : h.size ≤ 9223372036854775807 := by omega
  have HH := Lib.hid hh9
  have HWS := Lib.hid (hw.fr hw0)
  have HZ := Lib.hid hws; have HN := Lib.hid hn
  clear hm hw0 hh9 hh hw hws
  have hU : isOkW k h p b n ws = (decide (0 ≤ b) && decide (b < n) && hostOk h && Nat.ble ws.length 8 && pathOk k p && ws.all wareOk) := rfl
  rw [hn] at hU
  have HU := Lib.hid hU
  clear hU
  by_cases b0 : b < 0
  · have HD := Lib.hid (show decide (0 ≤ b) = false by simp; omega)
    go_enter Tryz.func18, Tryz.ntmps18
    go_wp2
    go_ret
    exact ⟨by rw [HU.out, HD.out]; rfl, HW.out⟩
  have HD := Lib.hid (show decide (0 ≤ b) = true by simp; omega)
  by_cases b1 : n ≤ b
  · have HE := Lib.hid (show decide (b < n) = false by simp; omega)
    go_enter Tryz.func18, Tryz.ntmps18
    go_wp2
    go_ret
    exact ⟨by rw [HU.out, HD.out, HE.out]; rfl, HW.out⟩
  have HE := Lib.hid (show decide (b < n) = true by simp; omega)
  cases hq : hostOk h
  · have HQ := Lib.hid hq
    go_enter Tryz.func18, Tryz.ntmps18
    go_wp2_with fail
    refine (rule_isHost h _ HH.out).mono ?_
    rintro e w1 ⟨rfl, hb1⟩
    rw [HQ.out]
    go_wp2
    go_ret
    exact ⟨by rw [HU.out, HD.out, HE.out, HQ.out]; rfl, fr_trans HW.out hb1⟩
  have HQ := Lib.hid hq
  by_cases hm8 : 8 < m
  · have hI : (8 : Int) < (m : Int) := by omega
    have HM8 := Lib.hid (ble_no (show ¬ m ≤ 8 by omega))
    clear hm8
    go_enter Tryz.func18, Tryz.ntmps18
    go_wp2_with fail
    refine (rule_isHost h _ HH.out).mono ?_
    rintro e w1 ⟨rfl, hb1⟩
    rw [HQ.out]
    have x1 := HB0.out.fr hb1
    have qc0 : w1.cell? ⟨w.heap.size, 0, none⟩ = some (.int .i64 k) := x1.2 0 _ rfl
    have qc1 : w1.cell? ⟨w.heap.size, 1, none⟩ = some (.string h) := x1.2 1 _ rfl
    have qc2 : w1.cell? ⟨w.heap.size, 2, none⟩ = some (.string p) := x1.2 2 _ rfl
    have qc3 : w1.cell? ⟨w.heap.size, 3, none⟩ = some (.int .i64 b) := x1.2 3 _ rfl
    have qc4 : w1.cell? ⟨w.heap.size, 4, none⟩ = some (.slice A m c) := x1.2 4 _ rfl
    have qlt : w.heap.size < w1.heap.size := x1.1
    have HB1 := Lib.hid (fr_trans HW.out hb1)
    clear hb1 x1
    go_wp2
    go_ret
    exact ⟨by rw [HU.out, HD.out, HE.out, HQ.out, HM8.out]; rfl, HB1.out⟩
  have hI : (m : Int) ≤ 8 := by omega
  have HM8 := Lib.hid (ble_yes (show m ≤ 8 by omega))
  clear hm8
  cases hr : pathOk k p
  all_goals
    have HR := Lib.hid hr
    go_enter Tryz.func18, Tryz.ntmps18
    go_wp2_with fail
    refine (rule_isHost h _ HH.out).mono ?_
    rintro e w1 ⟨rfl, hb1⟩
    rw [HQ.out]
    have x1 := HB0.out.fr hb1
    have qc0 : w1.cell? ⟨w.heap.size, 0, none⟩ = some (.int .i64 k) := x1.2 0 _ rfl
    have qc1 : w1.cell? ⟨w.heap.size, 1, none⟩ = some (.string h) := x1.2 1 _ rfl
    have qc2 : w1.cell? ⟨w.heap.size, 2, none⟩ = some (.string p) := x1.2 2 _ rfl
    have qc3 : w1.cell? ⟨w.heap.size, 3, none⟩ = some (.int .i64 b) := x1.2 3 _ rfl
    have qc4 : w1.cell? ⟨w.heap.size, 4, none⟩ = some (.slice A m c) := x1.2 4 _ rfl
    have qlt : w.heap.size < w1.heap.size := x1.1
    have HX1 := Lib.hid x1
    have HB1 := Lib.hid (fr_trans HW.out hb1)
    have HW1 := Lib.hid (HWS.out.fr hb1)
    clear hb1 x1
    go_wp2_with fail
    refine (rule_isPath k p _ (HM.out.fr HB1.out) hp).mono ?_
    rintro e w2 ⟨rfl, hb2⟩
    rw [HR.out]
    have x2 := HX1.out.fr hb2
    have rc0 : w2.cell? ⟨w.heap.size, 0, none⟩ = some (.int .i64 k) := x2.2 0 _ rfl
    have rc1 : w2.cell? ⟨w.heap.size, 1, none⟩ = some (.string h) := x2.2 1 _ rfl
    have rc2 : w2.cell? ⟨w.heap.size, 2, none⟩ = some (.string p) := x2.2 2 _ rfl
    have rc3 : w2.cell? ⟨w.heap.size, 3, none⟩ = some (.int .i64 b) := x2.2 3 _ rfl
    have rc4 : w2.cell? ⟨w.heap.size, 4, none⟩ = some (.slice A m c) := x2.2 4 _ rfl
    have rlt : w.heap.size < w2.heap.size := x2.1
    have HB2 := Lib.hid (fr_trans HB1.out hb2)
    have HW2 := Lib.hid (HW1.out.fr hb2)
    clear hb2 x2
  · go_wp2
    go_ret
    exact ⟨by rw [HU.out, HD.out, HE.out, HQ.out, HM8.out, HR.out]; rfl, HB2.out⟩
  · go_wp2
    go_loopw [41] (fun i wr => ∃ j : Nat, j ≤ m ∧ i = .int .i64 j ∧ Below w2.heap.size w2 wr ∧ (ws.take j).all wareOk = true) (fun i _ => m - (intOf i).toNat)
    case atStart => exact ⟨0, Nat.zero_le _, rfl, fr_refl _, rfl⟩
    case round =>
      obtain ⟨j, hj, rfl, hb, hall⟩ := hrel
      have HB := Lib.hid hb; have HA := Lib.hid hall
      clear hb hall
      by_cases hlt : j < m
      · have hjl : j < ws.length := by have := HN.out; omega
        obtain ⟨g, off, rfl, hgl, hc⟩ := (HW2.out.fr HB.out) (by omega)
        obtain ⟨r, hr2⟩ : ∃ r, ws[j] = r := ⟨_, rfl⟩
        have hcr := hc j hjl
        rw [hr2] at hcr
        have c0 := hcr 0 _ rfl
        have c1 := hcr 1 _ rfl
        have c2 := hcr 2 _ rfl
        have c3 := hcr 3 _ rfl
        rw [Nat.add_zero] at c0
        obtain ⟨hza, hzb⟩ := HZ.out r (by rw [← hr2]; exact List.getElem_mem hjl)
        have HR2 := Lib.hid hr2
        have hnb := Box.new wr [.int .i64 r.kind, .string r.a, .string r.b, .int .i64 r.n] 45
        have HNB := Lib.hid hnb
        clear hcr hc hr2 hnb
        cases hwo : wareOk r
        · have HO := Lib.hid hwo; clear hwo
          go_wp2_with fail
          refine (rule_Ware_at r _ _ HO.out (HM.out.fr (fr_alloc (fr_trans HB2.out HB.out) _)) hza hzb).mono ?_
          rintro e w3 ⟨rfl, hb3⟩
          have HB3 := Lib.hid (fr_trans (fr_alloc HB.out _) hb3)
          clear hb3 c0 c1 c2 c3
          unfold confR
          go_wp2_with fail
          refine (is_errno 14 14 _).mono ?_
          rintro e w7 ⟨rfl, rfl⟩
          go_wp2
          go_ret
          exact ⟨by rw [HU.out, HD.out, HE.out, HQ.out, HM8.out, HR.out, wall_no hjl (by rw [HR2.out]; exact HO.out)]; rfl, fr_trans HB2.out HB3.out⟩
        · have HO := Lib.hid hwo; clear hwo
          go_wp2_with fail
          refine (rule_Ware_at r _ _ HO.out (HM.out.fr (fr_alloc (fr_trans HB2.out HB.out) _)) hza hzb).mono ?_
          rintro e w3 ⟨rfl, hb3⟩
          have HB3 := Lib.hid (fr_trans (fr_alloc HB.out _) hb3)
          clear hb3 c0 c1 c2 c3
          unfold confR
          go_wp2_with fail
          refine (is_nil 14 _).mono ?_
          rintro e w7 ⟨rfl, rfl⟩
          go_wp2
          go_roundw
          case measure => exact meas hlt .i64 .i64
          case rel => exact ⟨j + 1, by omega, by go_num, HB3.out, wall_succ hjl HA.out (by rw [HR2.out]; exact HO.out)⟩
      · have e : ws.take j = ws := List.take_of_length_le (by have := HN.out; omega)
        have HA2 := Lib.hid (show ws.all wareOk = true by have := HA.out; rwa [e] at this)
        clear e
        go_wp2
        go_ret
        exact ⟨by rw [HU.out, HD.out, HE.out, HQ.out, HM8.out, HR.out, HA2.out]; rfl, fr_trans HB2.out HB.out⟩
end Go.Proofs.YtoplnepbjjcbcaaGreatDoor
