/- conf.Is at one rule of no wares; Small. -/
import Derived.Test.YthjnmcciejfpcaaGreatDoorMX
import Derived.KernelRfl
namespace Go.Proofs.YthjnmcciejfpcaaGreatDoor
set_option linter.unusedVariables false
set_option linter.unusedSimpArgs false
open Go.RowKit

def inB (n a b : Int) : Bool := decide (a ≤ n) && decide (n ≤ b)
theorem conf_in0 (n a b : Int) (w : World) : Calls Tryz.prog 11 #[.int .i64 n, .int .i64 a, .int .i64 b] w fun e w' => e = .returned (.bool (inB n a b)) ∧ w = w' := by
  by_cases h1 : a ≤ n
  · by_cases h2 : n ≤ b
    · go_enter Tryz.func11, Tryz.ntmps11
      go_wp2
      go_ret
      exact ⟨by rw [show inB n a b = true by unfold inB; simp [h1, h2]]; rfl, rfl⟩
    · have h2' : decide (n ≤ b) = false := by simp; omega
      go_enter Tryz.func11, Tryz.ntmps11
      go_wp2
      go_ret
      exact ⟨by rw [show inB n a b = false by unfold inB; simp; omega]; rfl, rfl⟩
  · have h1' : decide (a ≤ n) = false := by simp; omega
    go_enter Tryz.func11, Tryz.ntmps11
    go_wp2
    go_ret
    exact ⟨by rw [show inB n a b = false by unfold inB; simp; omega]; rfl, rfl⟩
theorem conf_in (n a b : Int) (v : Bool) (w : World) (h : inB n a b = v) : Calls Tryz.prog 11 #[.int .i64 n, .int .i64 a, .int .i64 b] w fun e w' => e = .returned (.bool v) ∧ w = w' := h ▸ conf_in0 n a b w
theorem errors_Is14 (w : World) : Calls Tryz.prog 7 #[.nilIface, .iface 31 (.int .i64 14)] w fun e w' => e = .returned (.bool false) ∧ w = w' := is_nil 14 w
theorem rule_root (b : Int) (w : World) (hm : MaxL w) (h : 1 ≤ b) : Calls Tryz.prog 13 #[.agg #[.int .i64 3, .string ⟨#[]⟩, .string ⟨#[47]⟩, .int .i64 0, .slice none 0 0], .int .i64 b] w fun e w' => e = .returned .nilIface ∧ Below w.heap.size w w' := by
  have := rule_Is0 3 ⟨#[]⟩ ⟨#[47]⟩ 0 b w hm (by decide) (by decide)
  have hp : (hostOk ⟨#[]⟩ && pathOk 3 ⟨#[47]⟩) = true := by
    rw [root_ok]; rfl
  have e : isOk0 3 ⟨#[]⟩ ⟨#[47]⟩ 0 b = true := by
    unfold isOk0
    rw [Bool.and_assoc, hp]
    simp; omega
  rw [e] at this
  exact this
def RootAt (w : World) (A : Option Addr) : Prop := ∃ g, A = some ⟨g, 0, none⟩ ∧ w.cell? ⟨g, 0, none⟩ = some (.int .i64 3) ∧ w.cell? ⟨g, 1, none⟩ = some (.string ⟨#[]⟩) ∧ w.cell? ⟨g, 2, none⟩ = some (.string ⟨#[47]⟩) ∧ w.cell? ⟨g, 3, none⟩ = some (.int .i64 0) ∧ w.cell? ⟨g, 4, none⟩ = some (.slice none 0 0)
theorem RootAt.fr {w w' : World} {A : Option Addr} (h : RootAt w A) (hb : Below w.heap.size w w') : RootAt w' A := by
  obtain ⟨g, rfl, h0, h1, h2, h3, h4⟩ := h
  exact ⟨g, rfl, fr_cell hb h0, fr_cell hb h1, fr_cell hb h2, fr_cell hb h3, fr_cell hb h4⟩
def confV (nm : ByteArray) (p : Int) (A : Option Addr) (n c : Nat) (co id he bo ou ti ba : Int) : Array Value := #[.string nm, .int .i64 p, .slice A n c, .int .i64 co, .int .i64 id, .int .i64 he, .int .i64 bo, .int .i64 ou, .int .i64 ti, .int .i64 ba]

set_option maxRecDepth 100000 in
set_option maxHeartbeats 4000000 in
theorem conf_ok (nm : ByteArray) (p : Int) (A : Option Addr) (n c : Nat) (co id he bo ou ti ba : Int) (w : World) (hm : MaxL w) (hnz : nm.size ≤ 1000) (hnm : inB nm.size 1 64 = true) (htr : trimB nm hostSet = ⟨#[]⟩) (hn8 : n ≤ 8) (hba : inB ba 1 2 = true) (hco : inB co 1 4 = true) (hid : inB id 1 8 = true) (hhe : inB he 1 2000 = true) (hbo : inB bo 0 4000 = true) (hou : inB ou 500 8000 = true) (hp : inB p 1 65535 = true) (hti : inB ti 1 100 = true) (hr : RootAt w A) (hn1 : n = 1) :
    Calls Tryz.prog 5 #[.agg (confV nm p A n c co id he bo ou ti ba)] w fun e w' => e = .returned (.nilIface) ∧ Below w.heap.size w w' := by
  unfold confV
  obtain ⟨g, rfl, r0, r1, r2, r3, r4⟩ := hr
  subst hn1
  have hB := Box.new w [.string nm, .int .i64 p, .slice (some ⟨g, 0, none⟩) 1 c, .int .i64 co, .int .i64 id, .int .i64 he, .int .i64 bo, .int .i64 ou, .int .i64 ti, .int .i64 ba] 24
  have HF := Lib.hid (fr_alloc (fr_refl w) (.cells [.string nm, .int .i64 p, .slice (some ⟨g, 0, none⟩) 1 c, .int .i64 co, .int .i64 id, .int .i64 he, .int .i64 bo, .int .i64 ou, .int .i64 ti, .int .i64 ba].toArray 24))
  obtain ⟨W0, hW0⟩ : ∃ W0, w.alloc (.cells #[.string nm, .int .i64 p, .slice (some ⟨g, 0, none⟩) 1 c, .int .i64 co, .int .i64 id, .int .i64 he, .int .i64 bo, .int .i64 ou, .int .i64 ti, .int .i64 ba] 24) = W0 := ⟨_, rfl⟩
  have hB' : Box W0 w.heap.size [.string nm, .int .i64 p, .slice (some ⟨g, 0, none⟩) 1 c, .int .i64 co, .int .i64 id, .int .i64 he, .int .i64 bo, .int .i64 ou, .int .i64 ti, .int .i64 ba] := hW0 ▸ hB
  have hF' : Below w.heap.size w W0 := hW0 ▸ HF.out
  have HM := Lib.hid (hm.fr hF')
  have ac0 : W0.cell? ⟨w.heap.size, 0, none⟩ = some (.string nm) := hB'.2 0 _ rfl
  have ac1 : W0.cell? ⟨w.heap.size, 1, none⟩ = some (.int .i64 p) := hB'.2 1 _ rfl
  have ac2 : W0.cell? ⟨w.heap.size, 2, none⟩ = some (.slice (some ⟨g, 0, none⟩) 1 c) := hB'.2 2 _ rfl
  have ac3 : W0.cell? ⟨w.heap.size, 3, none⟩ = some (.int .i64 co) := hB'.2 3 _ rfl
  have ac4 : W0.cell? ⟨w.heap.size, 4, none⟩ = some (.int .i64 id) := hB'.2 4 _ rfl
  have ac5 : W0.cell? ⟨w.heap.size, 5, none⟩ = some (.int .i64 he) := hB'.2 5 _ rfl
  have ac6 : W0.cell? ⟨w.heap.size, 6, none⟩ = some (.int .i64 bo) := hB'.2 6 _ rfl
  have ac7 : W0.cell? ⟨w.heap.size, 7, none⟩ = some (.int .i64 ou) := hB'.2 7 _ rfl
  have ac8 : W0.cell? ⟨w.heap.size, 8, none⟩ = some (.int .i64 ti) := hB'.2 8 _ rfl
  have ac9 : W0.cell? ⟨w.heap.size, 9, none⟩ = some (.int .i64 ba) := hB'.2 9 _ rfl
  have alt : w.heap.size < W0.heap.size := hB'.1
  have HB := Lib.hid hB'; have H0 := Lib.hid hF'; have HNM := Lib.hid hnm; have HTR := Lib.hid htr
  have Hba := Lib.hid hba
  have Hco := Lib.hid hco
  have Hid := Lib.hid hid
  have Hhe := Lib.hid hhe
  have Hbo := Lib.hid hbo
  have Hou := Lib.hid hou
  have Hp := Lib.hid hp
  have Hti := Lib.hid hti
  have hn8I : ((1 : Nat) : Int) ≤ 8 := by omega
  have R0 := Lib.hid (fr_cell hF' r0); have R1 := Lib.hid (fr_cell hF' r1); have R2 := Lib.hid (fr_cell hF' r2); have R3 := Lib.hid (fr_cell hF' r3); have R4 := Lib.hid (fr_cell hF' r4)
  clear r0 r1 r2 r3 r4
  clear hB HF hB' hF' hm hnm htr hba hco hid hhe hbo hou hp hti
  go_enter Tryz.func5, Tryz.ntmps5
  go_wp2_with fail
  refine (conf_in nm.size 1 64 true _ HNM.out).mono ?_
  rintro e wq ⟨rfl, rfl⟩
  go_wp2_with fail
  refine (lib_Trim nm hostSet _ (by omega) (by decide) (by decide)).mono ?_
  rintro e w1 ⟨rfl, hb1⟩
  rw [HTR.out]
  have hx := HB.out.fr hb1
  have bc0 : w1.cell? ⟨w.heap.size, 0, none⟩ = some (.string nm) := hx.2 0 _ rfl
  have bc1 : w1.cell? ⟨w.heap.size, 1, none⟩ = some (.int .i64 p) := hx.2 1 _ rfl
  have bc2 : w1.cell? ⟨w.heap.size, 2, none⟩ = some (.slice (some ⟨g, 0, none⟩) 1 c) := hx.2 2 _ rfl
  have bc3 : w1.cell? ⟨w.heap.size, 3, none⟩ = some (.int .i64 co) := hx.2 3 _ rfl
  have bc4 : w1.cell? ⟨w.heap.size, 4, none⟩ = some (.int .i64 id) := hx.2 4 _ rfl
  have bc5 : w1.cell? ⟨w.heap.size, 5, none⟩ = some (.int .i64 he) := hx.2 5 _ rfl
  have bc6 : w1.cell? ⟨w.heap.size, 6, none⟩ = some (.int .i64 bo) := hx.2 6 _ rfl
  have bc7 : w1.cell? ⟨w.heap.size, 7, none⟩ = some (.int .i64 ou) := hx.2 7 _ rfl
  have bc8 : w1.cell? ⟨w.heap.size, 8, none⟩ = some (.int .i64 ti) := hx.2 8 _ rfl
  have bc9 : w1.cell? ⟨w.heap.size, 9, none⟩ = some (.int .i64 ba) := hx.2 9 _ rfl
  have blt : w.heap.size < w1.heap.size := hx.1
  have HB1 := Lib.hid hx; have H1 := Lib.hid (fr_trans H0.out hb1); have HM1 := Lib.hid (HM.out.fr hb1)
  have q0 := fr_cell hb1 R0.out; have q1 := fr_cell hb1 R1.out; have q2 := fr_cell hb1 R2.out; have q3 := fr_cell hb1 R3.out; have q4 := fr_cell hb1 R4.out
  have qlt := World.block_lt_of_cell? w1 _ q0
  clear hb1 hx ac0 ac1 ac2 ac3 ac4 ac5 ac6 ac7 ac8 ac9
  go_wp2_with fail
  refine (conf_in ba 1 2 true _ Hba.out).mono ?_
  rintro e wq ⟨rfl, rfl⟩
  go_wp2_with fail
  refine (conf_in co 1 4 true _ Hco.out).mono ?_
  rintro e wq ⟨rfl, rfl⟩
  go_wp2_with fail
  refine (conf_in id 1 8 true _ Hid.out).mono ?_
  rintro e wq ⟨rfl, rfl⟩
  go_wp2_with fail
  refine (conf_in he 1 2000 true _ Hhe.out).mono ?_
  rintro e wq ⟨rfl, rfl⟩
  go_wp2_with fail
  refine (conf_in bo 0 4000 true _ Hbo.out).mono ?_
  rintro e wq ⟨rfl, rfl⟩
  go_wp2_with fail
  refine (conf_in ou 500 8000 true _ Hou.out).mono ?_
  rintro e wq ⟨rfl, rfl⟩
  go_wp2_with fail
  refine (conf_in p 1 65535 true _ Hp.out).mono ?_
  rintro e wq ⟨rfl, rfl⟩
  go_wp2_with fail
  refine (conf_in ti 1 100 true _ Hti.out).mono ?_
  rintro e wq ⟨rfl, rfl⟩
  go_wp2
  go_loopw [87] (fun i wr => (i = .int .i64 0 ∧ wr = w1) ∨ (i = .int .i64 1 ∧ Below w1.heap.size w1 wr)) (fun i _ => 1 - (intOf i).toNat)
  case atStart => exact .inl ⟨rfl, rfl⟩
  case round =>
    rcases hrel with ⟨rfl, rfl⟩ | ⟨rfl, hb⟩
    · have hb1 : 1 ≤ ba := by
        have := Hba.out
        unfold inB at this
        simp at this
        omega
      have H2 := Lib.hid (fr_alloc (fr_refl wr) (.cells #[.int .i64 3, .string ⟨#[]⟩, .string ⟨#[47]⟩, .int .i64 0, .slice none 0 0] 38))
      go_wp2_with fail
      refine (rule_root ba _ (HM1.out.fr H2.out) hb1).mono ?_
      rintro e w3 ⟨rfl, hb3⟩
      have H3 := Lib.hid (fr_trans H2.out hb3)
      clear hb3
      go_wp2_with fail
      refine (errors_Is14 _).mono ?_
      rintro e wq ⟨rfl, rfl⟩
      go_wp2
      go_roundw
      case measure => show 1 - 1 < 1 - 0; decide
      case rel => exact .inr ⟨by first | rfl | go_num, H3.out⟩
    · go_wp2
      go_ret
      exact ⟨rfl, fr_trans H1.out hb⟩
end Go.Proofs.YthjnmcciejfpcaaGreatDoor
