/- conduitref11.IsConf: what conf.Is answers; conduitlaw17.ConfTells: true. -/
import Derived.Test.YthjnmcciejfpcaaGreatDoorCfT0
import Derived.Test.YthjnmcciejfpcaaGreatDoorRI2
import Derived.Deep.RegionHeld3
namespace Go.Proofs.YthjnmcciejfpcaaGreatDoor
set_option linter.unusedVariables false
set_option linter.unusedSimpArgs false
open Go.RowKit

theorem nameB_eq (nm : ByteArray) : nameB nm = (!nm.toList.isEmpty && hostOk nm) := by
  have h1 : nm.toList.isEmpty = (L nm).isEmpty := by rw [toList_L]
  have hz : nm.size = (L nm).length := rfl
  unfold nameB hostOk inB
  rw [trimB_empty, h1]
  have e1 : decide ((1 : Int) ≤ (nm.size : Int)) = !(L nm).isEmpty := by
    rw [hz]; cases L nm with
    | nil => rfl
    | cons a r => simp; omega
  have e2 : decide ((nm.size : Int) ≤ 64) = Nat.ble nm.size 64 := by
    by_cases h : nm.size ≤ 64
    · rw [ble_yes h]; simp; omega
    · rw [ble_no h]; simp; omega
  rw [e1, e2]
  show (!(L nm).isEmpty && Nat.ble nm.size 64 && (L nm).all (fun c => (L hostSet).contains c)) = _
  rw [Bool.and_assoc]
theorem ref11_IsRule_at (u : RU) (n : Int) (v : Bool) (w : World) (h : okU n u = v) (hu : u.Has w) (hf : u.Fit 1048576) :
    Calls Tryz.prog 15 #[.agg #[.int .i64 u.v.kind, .string u.v.host, .string u.v.path, .int .i64 u.v.backend, .slice u.v.wA u.v.wn u.v.wc], .int .i64 n] w fun e w' => e = .returned (.bool v) ∧ Below w.heap.size w w' := by
  subst h
  obtain ⟨h1, h2, h3, h4⟩ := hf
  exact ref11_IsRule u.v.kind u.v.host u.v.path u.v.backend n u.v.wA u.v.wn u.v.wc u.ws w hu.1 hu.2 (by omega) (by omega) (fun r hr => by have := h4 r hr; omega) (by have := hu.1; omega)
theorem confB_eq (nm : ByteArray) (p : Int) (l : List RU) (co id he bo ou ti ba : Int) :
    confB nm p l co id he bo ou ti ba = (nameB nm && decide (1 ≤ p) && decide (p ≤ 65535) && decide (l.length ≤ 8) && l.all (okU ba) && (decide (1 ≤ ba) && decide (ba ≤ 2) && decide (1 ≤ co) && decide (co ≤ 4) && decide (1 ≤ id) && decide (id ≤ 8) && decide (1 ≤ he) && decide (he ≤ 2000) && decide (0 ≤ bo) && decide (bo ≤ 4000) && decide (500 ≤ ou) && decide (ou ≤ 8000) && decide (1 ≤ ti) && decide (ti ≤ 100))) := by
  unfold confB cntB sizB inB
  generalize nameB nm = a0
  generalize l.all (okU ba) = a1
  rw [Bool.eq_iff_iff]
  simp only [Bool.and_eq_true]
  constructor
  · rintro ⟨⟨⟨⟨⟨h0, ⟨⟨⟨⟨h1, h2⟩, ⟨h3, h4⟩⟩, ⟨h5, h6⟩⟩, h7⟩⟩, ⟨⟨⟨h8, h9⟩, ⟨h10, h11⟩⟩, ⟨h12, h13⟩⟩⟩, ⟨h14, h15⟩⟩, ⟨h16, h17⟩⟩, h18⟩
    exact ⟨⟨⟨⟨⟨h0, h14⟩, h15⟩, h7⟩, h18⟩, ⟨⟨⟨⟨⟨⟨⟨⟨⟨⟨⟨⟨⟨h1, h2⟩, h3⟩, h4⟩, h5⟩, h6⟩, h8⟩, h9⟩, h10⟩, h11⟩, h12⟩, h13⟩, h16⟩, h17⟩⟩
  · rintro ⟨⟨⟨⟨⟨h0, h14⟩, h15⟩, h7⟩, h18⟩, ⟨⟨⟨⟨⟨⟨⟨⟨⟨⟨⟨⟨⟨h1, h2⟩, h3⟩, h4⟩, h5⟩, h6⟩, h8⟩, h9⟩, h10⟩, h11⟩, h12⟩, h13⟩, h16⟩, h17⟩⟩
    exact ⟨⟨⟨⟨⟨h0, ⟨⟨⟨⟨h1, h2⟩, ⟨h3, h4⟩⟩, ⟨h5, h6⟩⟩, h7⟩⟩, ⟨⟨⟨h8, h9⟩, ⟨h10, h11⟩⟩, ⟨h12, h13⟩⟩⟩, ⟨h14, h15⟩⟩, ⟨h16, h17⟩⟩, h18⟩
set_option maxRecDepth 100000 in
set_option maxHeartbeats 8000000 in
theorem ref11_IsConf (nm : ByteArray) (p : Int) (A : Option Addr) (n c : Nat) (co id he bo ou ti ba : Int) (l : List RU) (w : World) (hnz : nm.size ≤ 1000) (hn : l.length = n) (hn9 : n ≤ 1000) (hR : Rules w A (l.map (·.v))) (hH : ∀ u ∈ l, u.Has w) (hFt : ∀ u ∈ l, u.Fit 1048576) :
    Calls Tryz.prog 6 #[.agg (confV nm p A n c co id he bo ou ti ba)] w fun e w' => e = .returned (.bool (confB nm p l co id he bo ou ti ba)) ∧ Below w.heap.size w w' := by
  unfold confV
  have hB := Box.new w [.string nm, .int .i64 p, .slice A n c, .int .i64 co, .int .i64 id, .int .i64 he, .int .i64 bo, .int .i64 ou, .int .i64 ti, .int .i64 ba] 24
  have HF := Lib.hid (fr_alloc (fr_refl w) (.cells [.string nm, .int .i64 p, .slice A n c, .int .i64 co, .int .i64 id, .int .i64 he, .int .i64 bo, .int .i64 ou, .int .i64 ti, .int .i64 ba].toArray 24))
  obtain ⟨W0, hW0⟩ : ∃ W0, w.alloc (.cells #[.string nm, .int .i64 p, .slice A n c, .int .i64 co, .int .i64 id, .int .i64 he, .int .i64 bo, .int .i64 ou, .int .i64 ti, .int .i64 ba] 24) = W0 := ⟨_, rfl⟩
  have hB' : Box W0 w.heap.size [.string nm, .int .i64 p, .slice A n c, .int .i64 co, .int .i64 id, .int .i64 he, .int .i64 bo, .int .i64 ou, .int .i64 ti, .int .i64 ba] := hW0 ▸ hB
  have hF' : Below w.heap.size w W0 := hW0 ▸ HF.out
  have ac0 : W0.cell? ⟨w.heap.size, 0, none⟩ = some (.string nm) := hB'.2 0 _ rfl
  have ac1 : W0.cell? ⟨w.heap.size, 1, none⟩ = some (.int .i64 p) := hB'.2 1 _ rfl
  have ac2 : W0.cell? ⟨w.heap.size, 2, none⟩ = some (.slice A n c) := hB'.2 2 _ rfl
  have ac3 : W0.cell? ⟨w.heap.size, 3, none⟩ = some (.int .i64 co) := hB'.2 3 _ rfl
  have ac4 : W0.cell? ⟨w.heap.size, 4, none⟩ = some (.int .i64 id) := hB'.2 4 _ rfl
  have ac5 : W0.cell? ⟨w.heap.size, 5, none⟩ = some (.int .i64 he) := hB'.2 5 _ rfl
  have ac6 : W0.cell? ⟨w.heap.size, 6, none⟩ = some (.int .i64 bo) := hB'.2 6 _ rfl
  have ac7 : W0.cell? ⟨w.heap.size, 7, none⟩ = some (.int .i64 ou) := hB'.2 7 _ rfl
  have ac8 : W0.cell? ⟨w.heap.size, 8, none⟩ = some (.int .i64 ti) := hB'.2 8 _ rfl
  have ac9 : W0.cell? ⟨w.heap.size, 9, none⟩ = some (.int .i64 ba) := hB'.2 9 _ rfl
  have alt : w.heap.size < W0.heap.size := hB'.1
  have HB := Lib.hid hB'; have H0 := Lib.hid hF'; have HR := Lib.hid hR; have HH := Lib.hid hH; have HFT := Lib.hid hFt; have HN := Lib.hid hn
  have hU := confB_eq nm p l co id he bo ou ti ba
  rw [hn, nameB_eq] at hU
  have HU := Lib.hid hU
  have hnz9 : nm.size ≤ 9223372036854775807 := by omega
  clear hB HF hB' hF' hR hH hFt hn hU
  cases hq1 : nm.toList.isEmpty
  case true =>
    have HQ1 := Lib.hid hq1
    go_enter Tryz.func6, Tryz.ntmps6
    go_wp2_with fail
    go_ret
    exact ⟨by rw [HU.out, HQ1.out]; rfl, H0.out⟩
  have HQ1 := Lib.hid hq1
  cases hq2 : hostOk nm
  · have HQ2 := Lib.hid hq2; clear hq2
    go_enter Tryz.func6, Tryz.ntmps6
    go_wp2_with fail
    refine (ref11_hostly_at nm _ _ HQ2.out hnz9).mono ?_
    rintro e wq ⟨rfl, rfl⟩
    go_wp2_with fail
    go_ret
    exact ⟨by rw [HU.out, HQ1.out, HQ2.out]; rfl, H0.out⟩
  have HQ2 := Lib.hid hq2; clear hq2
  by_cases h : p < 1
  · have HQ3 := Lib.hid (show decide (1 ≤ p) = false by simp; omega)
    go_enter Tryz.func6, Tryz.ntmps6
    go_wp2_with fail
    refine (ref11_hostly_at nm _ _ HQ2.out hnz9).mono ?_
    rintro e wq ⟨rfl, rfl⟩
    go_wp2_with fail
    go_ret
    exact ⟨by rw [HU.out, HQ1.out, HQ2.out, HQ3.out]; rfl, H0.out⟩
  have hp1 : decide (p < 1) = false := by simpa using h
  have HQ3 := Lib.hid (show decide (1 ≤ p) = true by simp; omega)
  clear h
  by_cases h : 65535 < p
  · have HQ4 := Lib.hid (show decide (p ≤ 65535) = false by simp; omega)
    go_enter Tryz.func6, Tryz.ntmps6
    go_wp2_with fail
    refine (ref11_hostly_at nm _ _ HQ2.out hnz9).mono ?_
    rintro e wq ⟨rfl, rfl⟩
    go_wp2_with fail
    go_ret
    exact ⟨by rw [HU.out, HQ1.out, HQ2.out, HQ3.out, HQ4.out]; rfl, H0.out⟩
  have hp2 : decide (65535 < p) = false := by simpa using h
  have HQ4 := Lib.hid (show decide (p ≤ 65535) = true by simp; omega)
  clear h
  by_cases h : 8 < n
  · have h8 : (8 : Int) < (n : Int) := by omega
    have HQ5 := Lib.hid (show decide (n ≤ 8) = false by simp; omega)
    clear h
    go_enter Tryz.func6, Tryz.ntmps6
    go_wp2_with fail
    refine (ref11_hostly_at nm _ _ HQ2.out hnz9).mono ?_
    rintro e wq ⟨rfl, rfl⟩
    go_wp2_with fail
    go_ret
    exact ⟨by rw [HU.out, HQ1.out, HQ2.out, HQ3.out, HQ4.out, HQ5.out]; rfl, H0.out⟩
  have h8 : decide ((8 : Int) < (n : Int)) = false := by simp; omega
  have HQ5 := Lib.hid (show decide (n ≤ 8) = true by simp; omega)
  clear h
  go_enter Tryz.func6, Tryz.ntmps6
  go_wp2_with fail
  refine (ref11_hostly_at nm _ _ HQ2.out hnz9).mono ?_
  rintro e wq ⟨rfl, rfl⟩
  go_wp2
  go_loopw [3] (fun i wr => ∃ k : Nat, k ≤ n ∧ i = .int .i64 k ∧ Below W0.heap.size W0 wr ∧ (l.take k).all (okU ba) = true) (fun i _ => n - (intOf i).toNat)
  case atStart => exact ⟨0, Nat.zero_le _, rfl, fr_refl _, rfl⟩
  case round =>
    obtain ⟨k, hk, rfl, hb, hall⟩ := hrel
    have hx := HB.out.fr hb
    have rc0 : wr.cell? ⟨w.heap.size, 0, none⟩ = some (.string nm) := hx.2 0 _ rfl
    have rc1 : wr.cell? ⟨w.heap.size, 1, none⟩ = some (.int .i64 p) := hx.2 1 _ rfl
    have rc2 : wr.cell? ⟨w.heap.size, 2, none⟩ = some (.slice A n c) := hx.2 2 _ rfl
    have rc3 : wr.cell? ⟨w.heap.size, 3, none⟩ = some (.int .i64 co) := hx.2 3 _ rfl
    have rc4 : wr.cell? ⟨w.heap.size, 4, none⟩ = some (.int .i64 id) := hx.2 4 _ rfl
    have rc5 : wr.cell? ⟨w.heap.size, 5, none⟩ = some (.int .i64 he) := hx.2 5 _ rfl
    have rc6 : wr.cell? ⟨w.heap.size, 6, none⟩ = some (.int .i64 bo) := hx.2 6 _ rfl
    have rc7 : wr.cell? ⟨w.heap.size, 7, none⟩ = some (.int .i64 ou) := hx.2 7 _ rfl
    have rc8 : wr.cell? ⟨w.heap.size, 8, none⟩ = some (.int .i64 ti) := hx.2 8 _ rfl
    have rc9 : wr.cell? ⟨w.heap.size, 9, none⟩ = some (.int .i64 ba) := hx.2 9 _ rfl
    have rlt : w.heap.size < wr.heap.size := hx.1
    have HX := Lib.hid hx
    have HBW := Lib.hid (fr_trans H0.out hb); have HBC := Lib.hid hb; have HA := Lib.hid hall
    clear hx hb hall ac0 ac1 ac2 ac3 ac4 ac5 ac6 ac7 ac8 ac9
    by_cases hlt : k < n
    · have kx : k < l.length := by have := HN.out; omega
      obtain ⟨ab, ao, rfl, habl, hcell⟩ := HR.out (by rw [List.length_map]; omega)
      obtain ⟨u, hu⟩ : ∃ u, l[k] = u := ⟨_, rfl⟩
      obtain ⟨q0, q1, q2, q3, q4⟩ := ruleU hcell HBW.out kx hu
      have hmem : u ∈ l := by rw [← hu]; exact List.getElem_mem kx
      have HHU := Lib.hid ((HH.out u hmem).fr (fr_drew HBW.out))
      have HFU := Lib.hid (HFT.out u hmem)
      have HUE := Lib.hid hu
      have habr : ab < wr.heap.size := World.block_lt_of_cell? wr _ q0
      have hkI : (k : Int) < (n : Int) := by omega
      have hk0 : (0 : Int) ≤ (k : Int) := by omega
      have d0 : wr.drew.cell? ⟨ab, ao + k * 5, none⟩ = some (.int .i64 u.v.kind) := q0
      have d1 : wr.drew.cell? ⟨ab, ao + k * 5 + 1, none⟩ = some (.string u.v.host) := q1
      have d2 : wr.drew.cell? ⟨ab, ao + k * 5 + 2, none⟩ = some (.string u.v.path) := q2
      have d3 : wr.drew.cell? ⟨ab, ao + k * 5 + 3, none⟩ = some (.int .i64 u.v.backend) := q3
      have d4 : wr.drew.cell? ⟨ab, ao + k * 5 + 4, none⟩ = some (.slice u.v.wA u.v.wn u.v.wc) := q4
      have d5 : wr.drew.cell? ⟨w.heap.size, 2, none⟩ = some (.slice (some ⟨ab, ao, none⟩) n c) := rc2
      have d6 : wr.drew.cell? ⟨w.heap.size, 9, none⟩ = some (.int .i64 ba) := rc9
      clear hcell hu hmem
      cases hok : okU ba u
      all_goals
        have HO := Lib.hid hok; clear hok
        go_wp2_with fail
        go_region_held3 (fun w' => w'.cell? ⟨ab, ao + k * 5, none⟩ = some (.int .i64 u.v.kind) ∧ w'.cell? ⟨ab, ao + k * 5 + 1, none⟩ = some (.string u.v.host) ∧ w'.cell? ⟨ab, ao + k * 5 + 2, none⟩ = some (.string u.v.path) ∧ w'.cell? ⟨ab, ao + k * 5 + 3, none⟩ = some (.int .i64 u.v.backend) ∧ w'.cell? ⟨ab, ao + k * 5 + 4, none⟩ = some (.slice u.v.wA u.v.wn u.v.wc) ∧ w'.cell? ⟨w.heap.size, 2, none⟩ = some (.slice (some ⟨ab, ao, none⟩) n c) ∧ w'.cell? ⟨w.heap.size, 9, none⟩ = some (.int .i64 ba))
          (first | exact ⟨q0, q1, q2, q3, q4, rc2, rc9⟩ | exact ⟨d0, d1, d2, d3, d4, d5, d6⟩ | exact ⟨fr_cell hbI d0, fr_cell hbI d1, fr_cell hbI d2, fr_cell hbI d3, fr_cell hbI d4, fr_cell hbI d5, fr_cell hbI d6⟩)
          (first | (go_at_call 15; refine (ref11_IsRule_at u ba _ _ HO.out HHU.out HFU.out).mono ?_; rintro e wI ⟨rfl, hbI⟩))
      · have HB3 := Lib.hid (fr_trans (fr_drew HBW.out) hbI)
        go_wp2
        go_ret
        exact ⟨by rw [HU.out, uall_no kx (by rw [HUE.out]; exact HO.out)]; simp, HB3.out⟩
      · have HB3 := Lib.hid (fr_trans (fr_drew HBC.out) hbI)
        clear q0 q1 q2 q3 q4 d0 d1 d2 d3 d4 d5 d6
        go_wp2
        go_roundw
        case measure => exact meas hlt .i64 .i64
        case rel => exact ⟨k + 1, by omega, by go_num, HB3.out, uall_succ kx HA.out (by rw [HUE.out]; exact HO.out)⟩
    · have e : l.take k = l := List.take_of_length_le (by have := HN.out; omega)
      have HA2 := Lib.hid (show l.all (okU ba) = true by have := HA.out; rwa [e] at this)
      clear e
      cases hba1 : decide (1 ≤ ba)
      · have Hba1 := Lib.hid hba1
        go_wp2
        go_ret
        exact ⟨by rw [HU.out, Hba1.out]; simp, HBW.out⟩
      have Hba1 := Lib.hid hba1
      cases hba2 : decide (ba ≤ 2)
      · have Hba2 := Lib.hid hba2
        go_wp2
        go_ret
        exact ⟨by rw [HU.out, Hba1.out, Hba2.out]; simp, HBW.out⟩
      have Hba2 := Lib.hid hba2
      cases hco1 : decide (1 ≤ co)
      · have Hco1 := Lib.hid hco1
        go_wp2
        go_ret
        exact ⟨by rw [HU.out, Hba1.out, Hba2.out, Hco1.out]; simp, HBW.out⟩
      have Hco1 := Lib.hid hco1
      cases hco2 : decide (co ≤ 4)
      · have Hco2 := Lib.hid hco2
        go_wp2
        go_ret
        exact ⟨by rw [HU.out, Hba1.out, Hba2.out, Hco1.out, Hco2.out]; simp, HBW.out⟩
      have Hco2 := Lib.hid hco2
      cases hid1 : decide (1 ≤ id)
      · have Hid1 := Lib.hid hid1
        go_wp2
        go_ret
        exact ⟨by rw [HU.out, Hba1.out, Hba2.out, Hco1.out, Hco2.out, Hid1.out]; simp, HBW.out⟩
      have Hid1 := Lib.hid hid1
      cases hid2 : decide (id ≤ 8)
      · have Hid2 := Lib.hid hid2
        go_wp2
        go_ret
        exact ⟨by rw [HU.out, Hba1.out, Hba2.out, Hco1.out, Hco2.out, Hid1.out, Hid2.out]; simp, HBW.out⟩
      have Hid2 := Lib.hid hid2
      cases hhe1 : decide (1 ≤ he)
      · have Hhe1 := Lib.hid hhe1
        go_wp2
        go_ret
        exact ⟨by rw [HU.out, Hba1.out, Hba2.out, Hco1.out, Hco2.out, Hid1.out, Hid2.out, Hhe1.out]; simp, HBW.out⟩
      have Hhe1 := Lib.hid hhe1
      cases hhe2 : decide (he ≤ 2000)
      · have Hhe2 := Lib.hid hhe2
        go_wp2
        go_ret
        exact ⟨by rw [HU.out, Hba1.out, Hba2.out, Hco1.out, Hco2.out, Hid1.out, Hid2.out, Hhe1.out, Hhe2.out]; simp, HBW.out⟩
      have Hhe2 := Lib.hid hhe2
      cases hbo1 : decide (0 ≤ bo)
      · have Hbo1 := Lib.hid hbo1
        go_wp2
        go_ret
        exact ⟨by rw [HU.out, Hba1.out, Hba2.out, Hco1.out, Hco2.out, Hid1.out, Hid2.out, Hhe1.out, Hhe2.out, Hbo1.out]; simp, HBW.out⟩
      have Hbo1 := Lib.hid hbo1
      cases hbo2 : decide (bo ≤ 4000)
      · have Hbo2 := Lib.hid hbo2
        go_wp2
        go_ret
        exact ⟨by rw [HU.out, Hba1.out, Hba2.out, Hco1.out, Hco2.out, Hid1.out, Hid2.out, Hhe1.out, Hhe2.out, Hbo1.out, Hbo2.out]; simp, HBW.out⟩
      have Hbo2 := Lib.hid hbo2
      cases hou1 : decide (500 ≤ ou)
      · have Hou1 := Lib.hid hou1
        go_wp2
        go_ret
        exact ⟨by rw [HU.out, Hba1.out, Hba2.out, Hco1.out, Hco2.out, Hid1.out, Hid2.out, Hhe1.out, Hhe2.out, Hbo1.out, Hbo2.out, Hou1.out]; simp, HBW.out⟩
      have Hou1 := Lib.hid hou1
      cases hou2 : decide (ou ≤ 8000)
      · have Hou2 := Lib.hid hou2
        go_wp2
        go_ret
        exact ⟨by rw [HU.out, Hba1.out, Hba2.out, Hco1.out, Hco2.out, Hid1.out, Hid2.out, Hhe1.out, Hhe2.out, Hbo1.out, Hbo2.out, Hou1.out, Hou2.out]; simp, HBW.out⟩
      have Hou2 := Lib.hid hou2
      cases hti1 : decide (1 ≤ ti)
      · have Hti1 := Lib.hid hti1
        go_wp2
        go_ret
        exact ⟨by rw [HU.out, Hba1.out, Hba2.out, Hco1.out, Hco2.out, Hid1.out, Hid2.out, Hhe1.out, Hhe2.out, Hbo1.out, Hbo2.out, Hou1.out, Hou2.out, Hti1.out]; simp, HBW.out⟩
      have Hti1 := Lib.hid hti1
      cases hti2 : decide (ti ≤ 100)
      · have Hti2 := Lib.hid hti2
        go_wp2
        go_ret
        exact ⟨by rw [HU.out, Hba1.out, Hba2.out, Hco1.out, Hco2.out, Hid1.out, Hid2.out, Hhe1.out, Hhe2.out, Hbo1.out, Hbo2.out, Hou1.out, Hou2.out, Hti1.out, Hti2.out]; simp, HBW.out⟩
      have Hti2 := Lib.hid hti2
      go_wp2
      go_ret
      exact ⟨by rw [HU.out, HQ1.out, HQ2.out, HQ3.out, HQ4.out, HQ5.out, HA2.out, Hba1.out, Hba2.out, Hco1.out, Hco2.out, Hid1.out, Hid2.out, Hhe1.out, Hhe2.out, Hbo1.out, Hbo2.out, Hou1.out, Hou2.out, Hti1.out, Hti2.out]; rfl, HBW.out⟩
end Go.Proofs.YthjnmcciejfpcaaGreatDoor
