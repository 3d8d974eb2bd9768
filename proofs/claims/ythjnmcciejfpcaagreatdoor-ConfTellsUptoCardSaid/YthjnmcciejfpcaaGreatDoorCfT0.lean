/- conf.Is of every configuration. -/
import Derived.Test.YthjnmcciejfpcaaGreatDoorCf
import Derived.Test.YthjnmcciejfpcaaGreatDoorOpenR
import Derived.Deep.DeepCutAuto
namespace Go.Proofs.YthjnmcciejfpcaaGreatDoor
set_option linter.unusedVariables false
set_option linter.unusedSimpArgs false
open Go.RowKit

def okU (n : Int) (u : RU) : Bool := isOkW u.v.kind u.v.host u.v.path u.v.backend n u.ws
theorem uall_no {p : RU → Bool} {l : List RU} {k : Nat} (h : k < l.length) (hp : p l[k] = false) : l.all p = false := by
  rw [← List.take_append_drop k l, List.all_append, List.drop_eq_getElem_cons h, List.all_cons, hp]; simp
theorem uall_succ {p : RU → Bool} {l : List RU} {k : Nat} (h : k < l.length) (hk : (l.take k).all p = true) (hp : p l[k] = true) : (l.take (k + 1)).all p = true := by
  rw [List.take_succ_eq_append_getElem h, List.all_append, hk]; simp [hp]
theorem rule_Is_at (u : RU) (n : Int) (v : Bool) (w : World) (h : okU n u = v) (hm : MaxL w) (hu : u.Has w) (hf : u.Fit 1048576) :
    Calls Tryz.prog 13 #[.agg #[.int .i64 u.v.kind, .string u.v.host, .string u.v.path, .int .i64 u.v.backend, .slice u.v.wA u.v.wn u.v.wc], .int .i64 n] w fun e w' => e = .returned (confR v) ∧ Below w.heap.size w w' := by
  subst h
  obtain ⟨h1, h2, h3, h4⟩ := hf
  exact rule_Is u.v.kind u.v.host u.v.path u.v.backend n u.v.wA u.v.wn u.v.wc u.ws w hu.1 hu.2 hm (by omega) (by omega) (fun r hr => by have := h4 r hr; omega) (by have := hu.1; omega)
theorem ruleU {w : World} {ab ao : Nat} {l : List RU} (hc : ∀ k (h : k < (l.map (fun u : RU => u.v)).length) j v, (l.map (fun u : RU => u.v))[k].cells[j]? = some v → w.cell? ⟨ab, ao + k * 5 + j, none⟩ = some v) {w' : World} (hb : Below w.heap.size w w') {k : Nat} (h : k < l.length) {u : RU} (hr : l[k] = u) :
    w'.cell? ⟨ab, ao + k * 5, none⟩ = some (.int .i64 u.v.kind) ∧ w'.cell? ⟨ab, ao + k * 5 + 1, none⟩ = some (.string u.v.host) ∧ w'.cell? ⟨ab, ao + k * 5 + 2, none⟩ = some (.string u.v.path) ∧ w'.cell? ⟨ab, ao + k * 5 + 3, none⟩ = some (.int .i64 u.v.backend) ∧ w'.cell? ⟨ab, ao + k * 5 + 4, none⟩ = some (.slice u.v.wA u.v.wn u.v.wc) := by
  have hcr := hc k (by rw [List.length_map]; exact h)
  rw [List.getElem_map, hr] at hcr
  exact ⟨fr_cell hb (hcr 0 _ rfl), fr_cell hb (hcr 1 _ rfl), fr_cell hb (hcr 2 _ rfl), fr_cell hb (hcr 3 _ rfl), fr_cell hb (hcr 4 _ rfl)⟩
def nameB (nm : ByteArray) : Bool := inB nm.size 1 64 && (trimB nm hostSet).toList.isEmpty
def cntB (n : Nat) (co id ba : Int) : Bool := inB ba 1 2 && inB co 1 4 && inB id 1 8 && decide (n ≤ 8)
def sizB (he bo ou : Int) : Bool := inB he 1 2000 && inB bo 0 4000 && inB ou 500 8000
def confB (nm : ByteArray) (p : Int) (l : List RU) (co id he bo ou ti ba : Int) : Bool := nameB nm && cntB l.length co id ba && sizB he bo ou && inB p 1 65535 && inB ti 1 100 && l.all (okU ba)
set_option maxRecDepth 100000 in
set_option maxHeartbeats 4000000 in
theorem conf_Is (nm : ByteArray) (p : Int) (A : Option Addr) (n c : Nat) (co id he bo ou ti ba : Int) (l : List RU) (w : World) (hm : MaxL w) (hnz : nm.size ≤ 1000) (hn : l.length = n) (hn9 : n ≤ 1000) (hR : Rules w A (l.map (·.v))) (hH : ∀ u ∈ l, u.Has w) (hFt : ∀ u ∈ l, u.Fit 1048576) :
    Calls Tryz.prog 5 #[.agg (confV nm p A n c co id he bo ou ti ba)] w fun e w' => e = .returned (confR (confB nm p l co id he bo ou ti ba)) ∧ Below w.heap.size w w' := by
  unfold confV
  have hB := Box.new w [.string nm, .int .i64 p, .slice A n c, .int .i64 co, .int .i64 id, .int .i64 he, .int .i64 bo, .int .i64 ou, .int .i64 ti, .int .i64 ba] 24
  have HF := Lib.hid (fr_alloc (fr_refl w) (.cells [.string nm, .int .i64 p, .slice A n c, .int .i64 co, .int .i64 id, .int .i64 he, .int .i64 bo, .int .i64 ou, .int .i64 ti, .int .i64 ba].toArray 24))
  obtain ⟨W0, hW0⟩ : ∃ W0, w.alloc (.cells #[.string nm, .int .i64 p, .slice A n c, .int .i64 co, .int .i64 id, .int .i64 he, .int .i64 bo, .int .i64 ou, .int .i64 ti, .int .i64 ba] 24) = W0 := ⟨_, rfl⟩
  have hB' : Box W0 w.heap.size [.string nm, .int .i64 p, .slice A n c, .int .i64 co, .int .i64 id, .int .i64 he, .int .i64 bo, .int .i64 ou, .int .i64 ti, .int .i64 ba] := hW0 ▸ hB
  have hF' : Below w.heap.size w W0 := hW0 ▸ HF.out
  have HM := Lib.hid (hm.fr hF')
  have ac0 : W0.cell? ⟨w.heap.size, 0, none⟩ = some (.string nm) := hB'.2 0 _ rfl
  have ac1 : W0.cell? ⟨w.heap.size, 1, none⟩ = some (.int .i64 p) := hB'.2 1 _ rfl
  have ac2 : W0.cell? ⟨w.heap.size, 2, none⟩ = some (.slice A n c) := hB'.2 2 _ rfl
  have ac3 : W0.cell? ⟨w.heap.size, 3, none⟩ = some (.int .i64 co) := hB'.2 3 _ rfl
  have ac4 : W0.cell? ⟨w.heap.size, 4, none⟩ = some (.int .i64 id) := hB'.2 4 _ rfl
  have ac5 : W0.cell? ⟨w.heap.size, 5, none⟩ = some (.int .i64 he) := hB'.2 5 _ rfl
  have ac6 : W0.cell? ⟨w.heap.size, 6, none⟩ = some (.int .i64 bo) := hB'.2 6 _ rfl
  have ac7 : W0.cell? ⟨w.heap.size, 7, none⟩ = some (.int .i64 ou) := hB'.2 7 _ rfl
  have ac8 : W0.cell? ⟨w.heap.size, 8, none⟩ = some (.int .i64 ti) := hB'.2 8 _ rfl
  have ac9 : W0.cell? ⟨w.heap.size, 9, none⟩ = some (.int .i64 ba) := hB'.2 9 _ rfl
  have alt : w.heap.size < W0.heap.size := hB'.1
  have HB := Lib.hid hB'; have H0 := Lib.hid hF'; have HR := Lib.hid hR; have HH := Lib.hid hH; have HFT := Lib.hid hFt; have HN := Lib.hid hn
  have hU : confB nm p l co id he bo ou ti ba = (nameB nm && cntB l.length co id ba && sizB he bo ou && inB p 1 65535 && inB ti 1 100 && l.all (okU ba)) := rfl
  rw [hn] at hU
  have HU := Lib.hid hU
  clear hB HF hB' hF' hm hR hH hFt hn hU
  go_enter Tryz.func5, Tryz.ntmps5
  go_upto_region 2 with fail
  go_cut [4] (fun s4 wx => s4 = .bool (nameB nm) ∧ Below W0.heap.size W0 wx)
  case first =>
    cases hq : inB nm.size 1 64
    · have HQ := Lib.hid hq; clear hq
      go_wp2_with fail
      refine (conf_in nm.size 1 64 _ _ HQ.out).mono ?_
      rintro e wq ⟨rfl, rfl⟩
      go_wp2_with fail
      go_meet
      exact ⟨by unfold nameB; rw [HQ.out]; rfl, fr_refl _⟩
    · have HQ := Lib.hid hq; clear hq
      go_wp2_with fail
      refine (conf_in nm.size 1 64 _ _ HQ.out).mono ?_
      rintro e wq ⟨rfl, rfl⟩
      go_wp2_with fail
      refine (lib_Trim nm hostSet _ (by omega) (by decide) (by decide)).mono ?_
      rintro e w1 ⟨rfl, hb1⟩
      have HB1 := Lib.hid hb1; clear hb1
      have hnb : nameB nm = (trimB nm hostSet).toList.isEmpty := by unfold nameB; rw [HQ.out]; rfl
      have HNB := Lib.hid hnb; clear hnb
      go_wp2_with fail
      go_meet
      exact ⟨by rw [HNB.out], HB1.out⟩
  case rest =>
  obtain ⟨rfl, hb1⟩ := hcut
  have hx := HB.out.fr hb1
  have bc0 : wc.cell? ⟨w.heap.size, 0, none⟩ = some (.string nm) := hx.2 0 _ rfl
  have bc1 : wc.cell? ⟨w.heap.size, 1, none⟩ = some (.int .i64 p) := hx.2 1 _ rfl
  have bc2 : wc.cell? ⟨w.heap.size, 2, none⟩ = some (.slice A n c) := hx.2 2 _ rfl
  have bc3 : wc.cell? ⟨w.heap.size, 3, none⟩ = some (.int .i64 co) := hx.2 3 _ rfl
  have bc4 : wc.cell? ⟨w.heap.size, 4, none⟩ = some (.int .i64 id) := hx.2 4 _ rfl
  have bc5 : wc.cell? ⟨w.heap.size, 5, none⟩ = some (.int .i64 he) := hx.2 5 _ rfl
  have bc6 : wc.cell? ⟨w.heap.size, 6, none⟩ = some (.int .i64 bo) := hx.2 6 _ rfl
  have bc7 : wc.cell? ⟨w.heap.size, 7, none⟩ = some (.int .i64 ou) := hx.2 7 _ rfl
  have bc8 : wc.cell? ⟨w.heap.size, 8, none⟩ = some (.int .i64 ti) := hx.2 8 _ rfl
  have bc9 : wc.cell? ⟨w.heap.size, 9, none⟩ = some (.int .i64 ba) := hx.2 9 _ rfl
  have blt : w.heap.size < wc.heap.size := hx.1
  have HB1 := Lib.hid hx; have H1 := Lib.hid (fr_trans H0.out hb1); have HM1 := Lib.hid (HM.out.fr hb1)
  clear hb1 hx ac0 ac1 ac2 ac3 ac4 ac5 ac6 ac7 ac8 ac9
  go_upto_region 3 with fail
  go_cut [5] (fun s5 wx => s5 = .bool (cntB n co id ba) ∧ wx = wc)
  case first =>
    cases hq : inB ba 1 2
    · have HQ := Lib.hid hq; clear hq
      go_wp2_with fail
      refine (conf_in ba 1 2 _ _ HQ.out).mono ?_
      rintro e wq ⟨rfl, rfl⟩
      go_wp2_with fail
      go_meet
      exact ⟨by unfold cntB; rw [HQ.out]; rfl, rfl⟩
    have HQ := Lib.hid hq; clear hq
    cases hq : inB co 1 4
    · have HQ2 := Lib.hid hq; clear hq
      go_wp2_with fail
      refine (conf_in ba 1 2 _ _ HQ.out).mono ?_
      rintro e wq ⟨rfl, rfl⟩
      go_wp2_with fail
      refine (conf_in co 1 4 _ _ HQ2.out).mono ?_
      rintro e wq ⟨rfl, rfl⟩
      go_wp2_with fail
      go_meet
      exact ⟨by unfold cntB; rw [HQ.out, HQ2.out]; rfl, rfl⟩
    have HQ2 := Lib.hid hq; clear hq
    cases hq : inB id 1 8
    · have HQ3 := Lib.hid hq; clear hq
      go_wp2_with fail
      refine (conf_in ba 1 2 _ _ HQ.out).mono ?_
      rintro e wq ⟨rfl, rfl⟩
      go_wp2_with fail
      refine (conf_in co 1 4 _ _ HQ2.out).mono ?_
      rintro e wq ⟨rfl, rfl⟩
      go_wp2_with fail
      refine (conf_in id 1 8 _ _ HQ3.out).mono ?_
      rintro e wq ⟨rfl, rfl⟩
      go_wp2_with fail
      go_meet
      exact ⟨by unfold cntB; rw [HQ.out, HQ2.out, HQ3.out]; rfl, rfl⟩
    have HQ3 := Lib.hid hq; clear hq
    by_cases h8 : n ≤ 8
    · have h8I : decide ((n : Int) ≤ 8) = true := by simp; omega
      have h8N : decide (n ≤ 8) = true := by simp; omega
      have H8 := Lib.hid h8N
      clear h8
      go_wp2_with fail
      refine (conf_in ba 1 2 _ _ HQ.out).mono ?_
      rintro e wq ⟨rfl, rfl⟩
      go_wp2_with fail
      refine (conf_in co 1 4 _ _ HQ2.out).mono ?_
      rintro e wq ⟨rfl, rfl⟩
      go_wp2_with fail
      refine (conf_in id 1 8 _ _ HQ3.out).mono ?_
      rintro e wq ⟨rfl, rfl⟩
      go_wp2_with fail
      go_meet
      exact ⟨by unfold cntB; rw [HQ.out, HQ2.out, HQ3.out, H8.out]; rfl, rfl⟩
    · have h8I : decide ((n : Int) ≤ 8) = false := by simp; omega
      have h8N : decide (n ≤ 8) = false := by simp; omega
      have H8 := Lib.hid h8N
      clear h8
      go_wp2_with fail
      refine (conf_in ba 1 2 _ _ HQ.out).mono ?_
      rintro e wq ⟨rfl, rfl⟩
      go_wp2_with fail
      refine (conf_in co 1 4 _ _ HQ2.out).mono ?_
      rintro e wq ⟨rfl, rfl⟩
      go_wp2_with fail
      refine (conf_in id 1 8 _ _ HQ3.out).mono ?_
      rintro e wq ⟨rfl, rfl⟩
      go_wp2_with fail
      go_meet
      exact ⟨by unfold cntB; rw [HQ.out, HQ2.out, HQ3.out, H8.out]; rfl, rfl⟩
  case rest =>
  obtain ⟨rfl, rfl⟩ := hcut
  go_upto_region 4 with fail
  go_cut [6] (fun s6 wx => s6 = .bool (sizB he bo ou) ∧ wx = wc)
  case first =>
    cases hq : inB he 1 2000
    · have HQ := Lib.hid hq; clear hq
      go_wp2_with fail
      refine (conf_in he 1 2000 _ _ HQ.out).mono ?_
      rintro e wq ⟨rfl, rfl⟩
      go_wp2_with fail
      go_meet
      exact ⟨by unfold sizB; rw [HQ.out]; rfl, rfl⟩
    have HQ := Lib.hid hq; clear hq
    cases hq : inB bo 0 4000
    · have HQ2 := Lib.hid hq; clear hq
      go_wp2_with fail
      refine (conf_in he 1 2000 _ _ HQ.out).mono ?_
      rintro e wq ⟨rfl, rfl⟩
      go_wp2_with fail
      refine (conf_in bo 0 4000 _ _ HQ2.out).mono ?_
      rintro e wq ⟨rfl, rfl⟩
      go_wp2_with fail
      go_meet
      exact ⟨by unfold sizB; rw [HQ.out, HQ2.out]; rfl, rfl⟩
    have HQ2 := Lib.hid hq; clear hq
    cases hq : inB ou 500 8000
    all_goals
      have HQ3 := Lib.hid hq; clear hq
      go_wp2_with fail
      refine (conf_in he 1 2000 _ _ HQ.out).mono ?_
      rintro e wq ⟨rfl, rfl⟩
      go_wp2_with fail
      refine (conf_in bo 0 4000 _ _ HQ2.out).mono ?_
      rintro e wq ⟨rfl, rfl⟩
      go_wp2_with fail
      refine (conf_in ou 500 8000 _ _ HQ3.out).mono ?_
      rintro e wq ⟨rfl, rfl⟩
      go_wp2_with fail
      go_meet
      exact ⟨by unfold sizB; rw [HQ.out, HQ2.out, HQ3.out]; rfl, rfl⟩
  case rest =>
  obtain ⟨rfl, rfl⟩ := hcut
  cases hq1 : nameB nm
  · have HQ1 := Lib.hid hq1
    go_wp2_with fail
    go_ret
    exact ⟨by rw [HU.out, HQ1.out]; rfl, H1.out⟩
  have HQ1 := Lib.hid hq1
  cases hq2 : cntB n co id ba
  · have HQ2 := Lib.hid hq2
    go_wp2_with fail
    go_ret
    exact ⟨by rw [HU.out, HQ1.out, HQ2.out]; rfl, H1.out⟩
  have HQ2 := Lib.hid hq2
  cases hq3 : sizB he bo ou
  · have HQ3 := Lib.hid hq3
    go_wp2_with fail
    go_ret
    exact ⟨by rw [HU.out, HQ1.out, HQ2.out, HQ3.out]; rfl, H1.out⟩
  have HQ3 := Lib.hid hq3
  cases hq4 : inB p 1 65535
  · have HQ4 := Lib.hid hq4; clear hq4
    go_wp2_with fail
    refine (conf_in p 1 65535 _ _ HQ4.out).mono ?_
    rintro e wq ⟨rfl, rfl⟩
    go_wp2_with fail
    go_ret
    exact ⟨by rw [HU.out, HQ1.out, HQ2.out, HQ3.out, HQ4.out]; rfl, H1.out⟩
  have HQ4 := Lib.hid hq4; clear hq4
  cases hq5 : inB ti 1 100
  · have HQ5 := Lib.hid hq5; clear hq5
    go_wp2_with fail
    refine (conf_in p 1 65535 _ _ HQ4.out).mono ?_
    rintro e wq ⟨rfl, rfl⟩
    go_wp2_with fail
    refine (conf_in ti 1 100 _ _ HQ5.out).mono ?_
    rintro e wq ⟨rfl, rfl⟩
    go_wp2_with fail
    go_ret
    exact ⟨by rw [HU.out, HQ1.out, HQ2.out, HQ3.out, HQ4.out, HQ5.out]; rfl, H1.out⟩
  have HQ5 := Lib.hid hq5; clear hq5
  go_wp2_with fail
  refine (conf_in p 1 65535 _ _ HQ4.out).mono ?_
  rintro e wq ⟨rfl, rfl⟩
  go_wp2_with fail
  refine (conf_in ti 1 100 _ _ HQ5.out).mono ?_
  rintro e wq ⟨rfl, rfl⟩
  go_wp2
  go_loopw [87] (fun i wr => ∃ k : Nat, k ≤ n ∧ i = .int .i64 k ∧ Below wc.heap.size wc wr ∧ (l.take k).all (okU ba) = true) (fun i _ => n - (intOf i).toNat)
  case atStart => exact ⟨0, Nat.zero_le _, rfl, fr_refl _, rfl⟩
  case round =>
    obtain ⟨k, hk, rfl, hb, hall⟩ := hrel
    have hx := HB1.out.fr hb
    have rc0 : wr.cell? ⟨w.heap.size, 0, none⟩ = some (.string nm) := hx.2 0 _ rfl
    have rc1 : wr.cell? ⟨w.heap.size, 1, none⟩ = some (.int .i64 p) := hx.2 1 _ rfl
    have rc2 : wr.cell? ⟨w.heap.size, 2, none⟩ = some (.slice A n c) := hx.2 2 _ rfl
    have rc3 : wr.cell? ⟨w.heap.size, 3, none⟩ = some (.int .i64 co) := hx.2 3 _ rfl
    have rc4 : wr.cell? ⟨w.heap.size, 4, none⟩ = some (.int .i64 id) := hx.2 4 _ rfl
    have rc5 : wr.cell? ⟨w.heap.size, 5, none⟩ = some (.int .i64 he) := hx.2 5 _ rfl
    have rc6 : wr.cell? ⟨w.heap.size, 6, none⟩ = some (.int .i64 bo) := hx.2 6 _ rfl
    have rc7 : wr.cell? ⟨w.heap.size, 7, none⟩ = some (.int .i64 ou) := hx.2 7 _ rfl
    have rc8 : wr.cell? ⟨w.heap.size, 8, none⟩ = some (.int .i64 ti) := hx.2 8 _ rfl
    have rc9 : wr.cell? ⟨w.heap.size, 9, none⟩ = some (.int .i64 ba) := hx.2 9 _ rfl
    have rlt : w.heap.size < wr.heap.size := hx.1
    have HBW := Lib.hid (fr_trans H1.out hb); have HMW := Lib.hid (HM1.out.fr hb); have HBC := Lib.hid hb; have HA := Lib.hid hall
    clear hx hb hall
    by_cases hlt : k < n
    · have kx : k < l.length := by have := HN.out; omega
      obtain ⟨ab, ao, rfl, habl, hcell⟩ := HR.out (by rw [List.length_map]; omega)
      obtain ⟨u, hu⟩ : ∃ u, l[k] = u := ⟨_, rfl⟩
      obtain ⟨q0, q1, q2, q3, q4⟩ := ruleU hcell HBW.out kx hu
      have hmem : u ∈ l := by rw [← hu]; exact List.getElem_mem kx
      have HHU := Lib.hid ((HH.out u hmem).fr (fr_alloc HBW.out (.cells #[.int .i64 u.v.kind, .string u.v.host, .string u.v.path, .int .i64 u.v.backend, .slice u.v.wA u.v.wn u.v.wc] 38)))
      have HFU := Lib.hid (HFT.out u hmem)
      have HUE := Lib.hid hu
      have HMA := Lib.hid (HMW.out.fr (fr_alloc (fr_refl _) (.cells #[.int .i64 u.v.kind, .string u.v.host, .string u.v.path, .int .i64 u.v.backend, .slice u.v.wA u.v.wn u.v.wc] 38)))
      have habr : ab < wr.heap.size := World.block_lt_of_cell? wr _ q0
      have hkI : (k : Int) < (n : Int) := by omega
      have hk0 : (0 : Int) ≤ (k : Int) := by omega
      clear hcell hu hmem
      cases hok : okU ba u
      · have HO := Lib.hid hok; clear hok
        go_wp2_with fail
        refine (rule_Is_at u ba _ _ HO.out HMA.out HHU.out HFU.out).mono ?_
        rintro e w3 ⟨rfl, hb3⟩
        have HB3 := Lib.hid (fr_trans (fr_alloc HBW.out _) hb3)
        clear hb3 q0 q1 q2 q3 q4
        unfold confR
        go_wp2_with fail
        refine (is_errno 14 14 _).mono ?_
        rintro e w7 ⟨rfl, rfl⟩
        go_wp2
        go_ret
        exact ⟨by rw [HU.out, uall_no kx (by rw [HUE.out]; exact HO.out), Bool.and_false]; rfl, HB3.out⟩
      · have HO := Lib.hid hok; clear hok
        go_wp2_with fail
        refine (rule_Is_at u ba _ _ HO.out HMA.out HHU.out HFU.out).mono ?_
        rintro e w3 ⟨rfl, hb3⟩
        have HB3 := Lib.hid (fr_trans (fr_alloc HBC.out _) hb3)
        clear hb3 q0 q1 q2 q3 q4
        unfold confR
        go_wp2_with fail
        refine (is_nil 14 _).mono ?_
        rintro e w7 ⟨rfl, rfl⟩
        go_wp2
        go_roundw
        case measure => exact meas hlt .i64 .i64
        case rel => exact ⟨k + 1, by omega, by go_num, HB3.out, uall_succ kx HA.out (by rw [HUE.out]; exact HO.out)⟩
    · have e : l.take k = l := List.take_of_length_le (by have := HN.out; omega)
      have HA2 := Lib.hid (show l.all (okU ba) = true by have := HA.out; rwa [e] at this)
      clear e
      go_wp2
      go_ret
      exact ⟨by rw [HU.out, HQ1.out, HQ2.out, HQ3.out, HQ4.out, HQ5.out, HA2.out]; rfl, HBW.out⟩
end Go.Proofs.YthjnmcciejfpcaaGreatDoor
