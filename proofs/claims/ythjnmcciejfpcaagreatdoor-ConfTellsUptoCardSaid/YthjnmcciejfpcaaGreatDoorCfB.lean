/- conf.Is where one number is out of its bounds. -/
import Derived.Test.YthjnmcciejfpcaaGreatDoorCf
namespace Go.Proofs.YthjnmcciejfpcaaGreatDoor
set_option linter.unusedVariables false
set_option linter.unusedSimpArgs false
open Go.RowKit

set_option maxRecDepth 100000 in
set_option maxHeartbeats 4000000 in
theorem conf_no_he (nm : ByteArray) (p : Int) (A : Option Addr) (n c : Nat) (co id he bo ou ti ba : Int) (w : World) (hm : MaxL w) (hnz : nm.size ≤ 1000) (hnm : inB nm.size 1 64 = true) (htr : trimB nm hostSet = ⟨#[]⟩) (hn8 : n ≤ 8) (hba : inB ba 1 2 = true) (hco : inB co 1 4 = true) (hid : inB id 1 8 = true) (hhe : inB he 1 2000 = false) :
    Calls Tryz.prog 5 #[.agg (confV nm p A n c co id he bo ou ti ba)] w fun e w' => e = .returned (.iface 31 (.int .i64 14)) ∧ Below w.heap.size w w' := by
  unfold confV
  have hB := Box.new w [.string nm, .int .i64 p, .slice A n c, .int .i64 co, .int .i64 id, .int .i64 he, .int .i64 bo, .int .i64 ou, .int .i64 ti, .int .i64 ba] 24
  have HF := Lib.hid (fr_alloc (fr_refl w) (.cells [.string nm, .int .i64 p, .slice A n c, .int .i64 co, .int .i64 id, .int .i64 he, .int .i64 bo, .int .i64 ou, .int .i64 ti, .int .i64 ba].toArray 24))
  obtain ⟨W0, hW0⟩ : ∃ W0, w.alloc (.cells #[.string nm, .int .i64 p, .slice A n c, .int .i64 co, .int .i64 id, .int .i64 he, .int .i64 bo, .int .i64 ou, .int .i64 ti, .int .i64 ba] 24) = W0 := ⟨_, rfl⟩
  have hB' : Box W0 w.heap.size [.string nm, .int .i64 p, .slice A n c, .int .i64 co, .int .i64 id, .int .i64 he, .int .i64 bo, .int .i64 ou, .int .i64 ti, .int .i64 ba] := hW0 ▸ hB
  have hF' : Below w.heap.size w W0 := hW0 ▸ HF.out
  have HM := Lib.hid (hm.fr hF')
  have ac0 : W0.cell? ⟨w.heap.size, 0, none⟩ = some (.string nm) := hB'.2 0 _ rfl
  have ac1 : W0.cell? ⟨w.heap.size, 1, none⟩ = some (.int .i64 p) := hB'.2 1 _ rfl
  have ac2 : W0.cell? ⟨w.heap.size, 2, none⟩ = some (.slice A n c) := hB'.2 2 _ rfl
  have ac3 : W0.cell? ⟨w.heap.size, 3, none⟩ = some (.int .i64 co) := hB'.2 3 _ rfl
  have ac4 : W0.cell? ⟨w.heap.size, 4, none⟩ = some (.int .i64 id) := hB'.2 4 _ rfl
  have ac5 : W0.cell? ⟨w.heap.size, 5, none⟩ = some (.int .i64 he) := hB'.2 5 _ rfl
  have ac6 : W0.cell? ⟨w.heap.size, 6, none⟩ = some (.int .i64 bo) := hB'.2 6 _ rfl
  have ac7 : W0.cell? ⟨w.heap.size, 7, none⟩ = some (.int .i64 ou) := hB'.2 7 _ rfl
  have ac8 : W0.cell? ⟨w.heap.size, 8, none⟩ = some (.int .i64 ti) := hB'.2 8 _ rfl
  have ac9 : W0.cell? ⟨w.heap.size, 9, none⟩ = some (.int .i64 ba) := hB'.2 9 _ rfl
  have alt : w.heap.size < W0.heap.size := hB'.1
  have HB := Lib.hid hB'; have H0 := Lib.hid hF'; have HNM := Lib.hid hnm; have HTR := Lib.hid htr
  have Hba := Lib.hid hba
  have Hco := Lib.hid hco
  have Hid := Lib.hid hid
  have Hhe := Lib.hid hhe
  have hn8I : (n : Int) ≤ 8 := by omega
  clear hB HF hB' hF' hm hnm htr hba hco hid hhe
  go_enter Tryz.func5, Tryz.ntmps5
  go_wp2_with fail
  refine (conf_in nm.size 1 64 true _ HNM.out).mono ?_
  rintro e wq ⟨rfl, rfl⟩
  go_wp2_with fail
  refine (lib_Trim nm hostSet _ (by omega) (by decide) (by decide)).mono ?_
  rintro e w1 ⟨rfl, hb1⟩
  rw [HTR.out]
  have hx := HB.out.fr hb1
  have bc0 : w1.cell? ⟨w.heap.size, 0, none⟩ = some (.string nm) := hx.2 0 _ rfl
  have bc1 : w1.cell? ⟨w.heap.size, 1, none⟩ = some (.int .i64 p) := hx.2 1 _ rfl
  have bc2 : w1.cell? ⟨w.heap.size, 2, none⟩ = some (.slice A n c) := hx.2 2 _ rfl
  have bc3 : w1.cell? ⟨w.heap.size, 3, none⟩ = some (.int .i64 co) := hx.2 3 _ rfl
  have bc4 : w1.cell? ⟨w.heap.size, 4, none⟩ = some (.int .i64 id) := hx.2 4 _ rfl
  have bc5 : w1.cell? ⟨w.heap.size, 5, none⟩ = some (.int .i64 he) := hx.2 5 _ rfl
  have bc6 : w1.cell? ⟨w.heap.size, 6, none⟩ = some (.int .i64 bo) := hx.2 6 _ rfl
  have bc7 : w1.cell? ⟨w.heap.size, 7, none⟩ = some (.int .i64 ou) := hx.2 7 _ rfl
  have bc8 : w1.cell? ⟨w.heap.size, 8, none⟩ = some (.int .i64 ti) := hx.2 8 _ rfl
  have bc9 : w1.cell? ⟨w.heap.size, 9, none⟩ = some (.int .i64 ba) := hx.2 9 _ rfl
  have blt : w.heap.size < w1.heap.size := hx.1
  have HB1 := Lib.hid hx; have H1 := Lib.hid (fr_trans H0.out hb1); have HM1 := Lib.hid (HM.out.fr hb1)
  clear hb1 hx ac0 ac1 ac2 ac3 ac4 ac5 ac6 ac7 ac8 ac9
  go_wp2_with fail
  refine (conf_in ba 1 2 true _ Hba.out).mono ?_
  rintro e wq ⟨rfl, rfl⟩
  go_wp2_with fail
  refine (conf_in co 1 4 true _ Hco.out).mono ?_
  rintro e wq ⟨rfl, rfl⟩
  go_wp2_with fail
  refine (conf_in id 1 8 true _ Hid.out).mono ?_
  rintro e wq ⟨rfl, rfl⟩
  go_wp2_with fail
  refine (conf_in he 1 2000 false _ Hhe.out).mono ?_
  rintro e wq ⟨rfl, rfl⟩
  go_wp2
  go_ret
  exact ⟨rfl, H1.out⟩
set_option maxRecDepth 100000 in
set_option maxHeartbeats 4000000 in
theorem conf_no_bo (nm : ByteArray) (p : Int) (A : Option Addr) (n c : Nat) (co id he bo ou ti ba : Int) (w : World) (hm : MaxL w) (hnz : nm.size ≤ 1000) (hnm : inB nm.size 1 64 = true) (htr : trimB nm hostSet = ⟨#[]⟩) (hn8 : n ≤ 8) (hba : inB ba 1 2 = true) (hco : inB co 1 4 = true) (hid : inB id 1 8 = true) (hhe : inB he 1 2000 = true) (hbo : inB bo 0 4000 = false) :
    Calls Tryz.prog 5 #[.agg (confV nm p A n c co id he bo ou ti ba)] w fun e w' => e = .returned (.iface 31 (.int .i64 14)) ∧ Below w.heap.size w w' := by
  unfold confV
  have hB := Box.new w [.string nm, .int .i64 p, .slice A n c, .int .i64 co, .int .i64 id, .int .i64 he, .int .i64 bo, .int .i64 ou, .int .i64 ti, .int .i64 ba] 24
  have HF := Lib.hid (fr_alloc (fr_refl w) (.cells [.string nm, .int .i64 p, .slice A n c, .int .i64 co, .int .i64 id, .int .i64 he, .int .i64 bo, .int .i64 ou, .int .i64 ti, .int .i64 ba].toArray 24))
  obtain ⟨W0, hW0⟩ : ∃ W0, w.alloc (.cells #[.string nm, .int .i64 p, .slice A n c, .int .i64 co, .int .i64 id, .int .i64 he, .int .i64 bo, .int .i64 ou, .int .i64 ti, .int .i64 ba] 24) = W0 := ⟨_, rfl⟩
  have hB' : Box W0 w.heap.size [.string nm, .int .i64 p, .slice A n c, .int .i64 co, .int .i64 id, .int .i64 he, .int .i64 bo, .int .i64 ou, .int .i64 ti, .int .i64 ba] := hW0 ▸ hB
  have hF' : Below w.heap.size w W0 := hW0 ▸ HF.out
  have HM := Lib.hid (hm.fr hF')
  have ac0 : W0.cell? ⟨w.heap.size, 0, none⟩ = some (.string nm) := hB'.2 0 _ rfl
  have ac1 : W0.cell? ⟨w.heap.size, 1, none⟩ = some (.int .i64 p) := hB'.2 1 _ rfl
  have ac2 : W0.cell? ⟨w.heap.size, 2, none⟩ = some (.slice A n c) := hB'.2 2 _ rfl
  have ac3 : W0.cell? ⟨w.heap.size, 3, none⟩ = some (.int .i64 co) := hB'.2 3 _ rfl
  have ac4 : W0.cell? ⟨w.heap.size, 4, none⟩ = some (.int .i64 id) := hB'.2 4 _ rfl
  have ac5 : W0.cell? ⟨w.heap.size, 5, none⟩ = some (.int .i64 he) := hB'.2 5 _ rfl
  have ac6 : W0.cell? ⟨w.heap.size, 6, none⟩ = some (.int .i64 bo) := hB'.2 6 _ rfl
  have ac7 : W0.cell? ⟨w.heap.size, 7, none⟩ = some (.int .i64 ou) := hB'.2 7 _ rfl
  have ac8 : W0.cell? ⟨w.heap.size, 8, none⟩ = some (.int .i64 ti) := hB'.2 8 _ rfl
  have ac9 : W0.cell? ⟨w.heap.size, 9, none⟩ = some (.int .i64 ba) := hB'.2 9 _ rfl
  have alt : w.heap.size < W0.heap.size := hB'.1
  have HB := Lib.hid hB'; have H0 := Lib.hid hF'; have HNM := Lib.hid hnm; have HTR := Lib.hid htr
  have Hba := Lib.hid hba
  have Hco := Lib.hid hco
  have Hid := Lib.hid hid
  have Hhe := Lib.hid hhe
  have Hbo := Lib.hid hbo
  have hn8I : (n : Int) ≤ 8 := by omega
  clear hB HF hB' hF' hm hnm htr hba hco hid hhe hbo
  go_enter Tryz.func5, Tryz.ntmps5
  go_wp2_with fail
  refine (conf_in nm.size 1 64 true _ HNM.out).mono ?_
  rintro e wq ⟨rfl, rfl⟩
  go_wp2_with fail
  refine (lib_Trim nm hostSet _ (by omega) (by decide) (by decide)).mono ?_
  rintro e w1 ⟨rfl, hb1⟩
  rw [HTR.out]
  have hx := HB.out.fr hb1
  have bc0 : w1.cell? ⟨w.heap.size, 0, none⟩ = some (.string nm) := hx.2 0 _ rfl
  have bc1 : w1.cell? ⟨w.heap.size, 1, none⟩ = some (.int .i64 p) := hx.2 1 _ rfl
  have bc2 : w1.cell? ⟨w.heap.size, 2, none⟩ = some (.slice A n c) := hx.2 2 _ rfl
  have bc3 : w1.cell? ⟨w.heap.size, 3, none⟩ = some (.int .i64 co) := hx.2 3 _ rfl
  have bc4 : w1.cell? ⟨w.heap.size, 4, none⟩ = some (.int .i64 id) := hx.2 4 _ rfl
  have bc5 : w1.cell? ⟨w.heap.size, 5, none⟩ = some (.int .i64 he) := hx.2 5 _ rfl
  have bc6 : w1.cell? ⟨w.heap.size, 6, none⟩ = some (.int .i64 bo) := hx.2 6 _ rfl
  have bc7 : w1.cell? ⟨w.heap.size, 7, none⟩ = some (.int .i64 ou) := hx.2 7 _ rfl
  have bc8 : w1.cell? ⟨w.heap.size, 8, none⟩ = some (.int .i64 ti) := hx.2 8 _ rfl
  have bc9 : w1.cell? ⟨w.heap.size, 9, none⟩ = some (.int .i64 ba) := hx.2 9 _ rfl
  have blt : w.heap.size < w1.heap.size := hx.1
  have HB1 := Lib.hid hx; have H1 := Lib.hid (fr_trans H0.out hb1); have HM1 := Lib.hid (HM.out.fr hb1)
  clear hb1 hx ac0 ac1 ac2 ac3 ac4 ac5 ac6 ac7 ac8 ac9
  go_wp2_with fail
  refine (conf_in ba 1 2 true _ Hba.out).mono ?_
  rintro e wq ⟨rfl, rfl⟩
  go_wp2_with fail
  refine (conf_in co 1 4 true _ Hco.out).mono ?_
  rintro e wq ⟨rfl, rfl⟩
  go_wp2_with fail
  refine (conf_in id 1 8 true _ Hid.out).mono ?_
  rintro e wq ⟨rfl, rfl⟩
  go_wp2_with fail
  refine (conf_in he 1 2000 true _ Hhe.out).mono ?_
  rintro e wq ⟨rfl, rfl⟩
  go_wp2_with fail
  refine (conf_in bo 0 4000 false _ Hbo.out).mono ?_
  rintro e wq ⟨rfl, rfl⟩
  go_wp2
  go_ret
  exact ⟨rfl, H1.out⟩
set_option maxRecDepth 100000 in
set_option maxHeartbeats 4000000 in
theorem conf_no_ou (nm : ByteArray) (p : Int) (A : Option Addr) (n c : Nat) (co id he bo ou ti ba : Int) (w : World) (hm : MaxL w) (hnz : nm.size ≤ 1000) (hnm : inB nm.size 1 64 = true) (htr : trimB nm hostSet = ⟨#[]⟩) (hn8 : n ≤ 8) (hba : inB ba 1 2 = true) (hco : inB co 1 4 = true) (hid : inB id 1 8 = true) (hhe : inB he 1 2000 = true) (hbo : inB bo 0 4000 = true) (hou : inB ou 500 8000 = false) :
    Calls Tryz.prog 5 #[.agg (confV nm p A n c co id he bo ou ti ba)] w fun e w' => e = .returned (.iface 31 (.int .i64 14)) ∧ Below w.heap.size w w' := by
  unfold confV
  have hB := Box.new w [.string nm, .int .i64 p, .slice A n c, .int .i64 co, .int .i64 id, .int .i64 he, .int .i64 bo, .int .i64 ou, .int .i64 ti, .int .i64 ba] 24
  have HF := Lib.hid (fr_alloc (fr_refl w) (.cells [.string nm, .int .i64 p, .slice A n c, .int .i64 co, .int .i64 id, .int .i64 he, .int .i64 bo, .int .i64 ou, .int .i64 ti, .int .i64 ba].toArray 24))
  obtain ⟨W0, hW0⟩ : ∃ W0, w.alloc (.cells #[.string nm, .int .i64 p, .slice A n c, .int .i64 co, .int .i64 id, .int .i64 he, .int .i64 bo, .int .i64 ou, .int .i64 ti, .int .i64 ba] 24) = W0 := ⟨_, rfl⟩
  have hB' : Box W0 w.heap.size [.string nm, .int .i64 p, .slice A n c, .int .i64 co, .int .i64 id, .int .i64 he, .int .i64 bo, .int .i64 ou, .int .i64 ti, .int .i64 ba] := hW0 ▸ hB
  have hF' : Below w.heap.size w W0 := hW0 ▸ HF.out
  have HM := Lib.hid (hm.fr hF')
  have ac0 : W0.cell? ⟨w.heap.size, 0, none⟩ = some (.string nm) := hB'.2 0 _ rfl
  have ac1 : W0.cell? ⟨w.heap.size, 1, none⟩ = some (.int .i64 p) := hB'.2 1 _ rfl
  have ac2 : W0.cell? ⟨w.heap.size, 2, none⟩ = some (.slice A n c) := hB'.2 2 _ rfl
  have ac3 : W0.cell? ⟨w.heap.size, 3, none⟩ = some (.int .i64 co) := hB'.2 3 _ rfl
  have ac4 : W0.cell? ⟨w.heap.size, 4, none⟩ = some (.int .i64 id) := hB'.2 4 _ rfl
  have ac5 : W0.cell? ⟨w.heap.size, 5, none⟩ = some (.int .i64 he) := hB'.2 5 _ rfl
  have ac6 : W0.cell? ⟨w.heap.size, 6, none⟩ = some (.int .i64 bo) := hB'.2 6 _ rfl
  have ac7 : W0.cell? ⟨w.heap.size, 7, none⟩ = some (.int .i64 ou) := hB'.2 7 _ rfl
  have ac8 : W0.cell? ⟨w.heap.size, 8, none⟩ = some (.int .i64 ti) := hB'.2 8 _ rfl
  have ac9 : W0.cell? ⟨w.heap.size, 9, none⟩ = some (.int .i64 ba) := hB'.2 9 _ rfl
  have alt : w.heap.size < W0.heap.size := hB'.1
  have HB := Lib.hid hB'; have H0 := Lib.hid hF'; have HNM := Lib.hid hnm; have HTR := Lib.hid htr
  have Hba := Lib.hid hba
  have Hco := Lib.hid hco
  have Hid := Lib.hid hid
  have Hhe := Lib.hid hhe
  have Hbo := Lib.hid hbo
  have Hou := Lib.hid hou
  have hn8I : (n : Int) ≤ 8 := by omega
  clear hB HF hB' hF' hm hnm htr hba hco hid hhe hbo hou
  go_enter Tryz.func5, Tryz.ntmps5
  go_wp2_with fail
  refine (conf_in nm.size 1 64 true _ HNM.out).mono ?_
  rintro e wq ⟨rfl, rfl⟩
  go_wp2_with fail
  refine (lib_Trim nm hostSet _ (by omega) (by decide) (by decide)).mono ?_
  rintro e w1 ⟨rfl, hb1⟩
  rw [HTR.out]
  have hx := HB.out.fr hb1
  have bc0 : w1.cell? ⟨w.heap.size, 0, none⟩ = some (.string nm) := hx.2 0 _ rfl
  have bc1 : w1.cell? ⟨w.heap.size, 1, none⟩ = some (.int .i64 p) := hx.2 1 _ rfl
  have bc2 : w1.cell? ⟨w.heap.size, 2, none⟩ = some (.slice A n c) := hx.2 2 _ rfl
  have bc3 : w1.cell? ⟨w.heap.size, 3, none⟩ = some (.int .i64 co) := hx.2 3 _ rfl
  have bc4 : w1.cell? ⟨w.heap.size, 4, none⟩ = some (.int .i64 id) := hx.2 4 _ rfl
  have bc5 : w1.cell? ⟨w.heap.size, 5, none⟩ = some (.int .i64 he) := hx.2 5 _ rfl
  have bc6 : w1.cell? ⟨w.heap.size, 6, none⟩ = some (.int .i64 bo) := hx.2 6 _ rfl
  have bc7 : w1.cell? ⟨w.heap.size, 7, none⟩ = some (.int .i64 ou) := hx.2 7 _ rfl
  have bc8 : w1.cell? ⟨w.heap.size, 8, none⟩ = some (.int .i64 ti) := hx.2 8 _ rfl
  have bc9 : w1.cell? ⟨w.heap.size, 9, none⟩ = some (.int .i64 ba) := hx.2 9 _ rfl
  have blt : w.heap.size < w1.heap.size := hx.1
  have HB1 := Lib.hid hx; have H1 := Lib.hid (fr_trans H0.out hb1); have HM1 := Lib.hid (HM.out.fr hb1)
  clear hb1 hx ac0 ac1 ac2 ac3 ac4 ac5 ac6 ac7 ac8 ac9
  go_wp2_with fail
  refine (conf_in ba 1 2 true _ Hba.out).mono ?_
  rintro e wq ⟨rfl, rfl⟩
  go_wp2_with fail
  refine (conf_in co 1 4 true _ Hco.out).mono ?_
  rintro e wq ⟨rfl, rfl⟩
  go_wp2_with fail
  refine (conf_in id 1 8 true _ Hid.out).mono ?_
  rintro e wq ⟨rfl, rfl⟩
  go_wp2_with fail
  refine (conf_in he 1 2000 true _ Hhe.out).mono ?_
  rintro e wq ⟨rfl, rfl⟩
  go_wp2_with fail
  refine (conf_in bo 0 4000 true _ Hbo.out).mono ?_
  rintro e wq ⟨rfl, rfl⟩
  go_wp2_with fail
  refine (conf_in ou 500 8000 false _ Hou.out).mono ?_
  rintro e wq ⟨rfl, rfl⟩
  go_wp2
  go_ret
  exact ⟨rfl, H1.out⟩
end Go.Proofs.YthjnmcciejfpcaaGreatDoor
