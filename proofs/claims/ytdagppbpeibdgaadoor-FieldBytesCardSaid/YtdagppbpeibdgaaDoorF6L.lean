/- conduitlaw6.FieldLimits: true. -/
import Derived.Test.YtdagppbpeibdgaaDoorF6
namespace Go.Proofs.YtdagppbpeibdgaaDoor
set_option linter.unusedVariables false
set_option linter.unusedSimpArgs false
open Go.RowKit

theorem parseS_no {line : ByteArray} {n : Int} (h : (parseS line).1 = n) (h0 : n ≠ 0) : parseS line = (n, ⟨#[]⟩, ⟨#[]⟩) := by
  unfold parseS at h ⊢
  split at h
  · rename_i h1; rw [if_pos h1, ← h]
  · rename_i h1
    rw [if_neg h1]
    split at h
    · rename_i h2; rw [if_pos h2, ← h]
    · exact absurd h.symm h0
theorem flOne (n m : Nat) (hn : n < 3) (hm : m < 3) :
    (flOk (63 + n) (511 + m) = true ∧ parseS (flL (63 + n) (511 + m)) = (0, flA (63 + n), flV (511 + m)) ∨ flOk (63 + n) (511 + m) = false ∧ parseS (flL (63 + n) (511 + m)) = (12, ⟨#[]⟩, ⟨#[]⟩)) ∧ fieldOk (flA (63 + n)) (flV (511 + m)) = flOk (63 + n) (511 + m) := by
  have h := List.all_eq_true.1 (List.all_eq_true.1 flAll n (List.mem_range.2 hn)) m (List.mem_range.2 hm)
  unfold flChk at h
  rw [Bool.and_eq_true, beq_iff_eq] at h
  refine ⟨?_, by rw [fieldK_eq]; exact h.2⟩
  cases hok : flOk (63 + n) (511 + m)
  · rw [hok, if_neg (by decide), beq_iff_eq, ← parseK_eq] at h
    exact .inr ⟨rfl, parseS_no h.1 (by decide)⟩
  · rw [hok, if_pos rfl, Bool.and_eq_true, Bool.and_eq_true, beq_iff_eq, beq_iff_eq, beq_iff_eq, ← parseK_eq] at h
    refine .inl ⟨rfl, ?_⟩
    obtain ⟨⟨r1, r2, r3⟩, hr⟩ : ∃ r, parseS (flL (63 + n) (511 + m)) = r := ⟨_, rfl⟩
    rw [hr] at h ⊢
    simp only at h
    obtain ⟨⟨⟨h1, h2⟩, h3⟩, _⟩ := h
    rw [h1, ← mk_L r2, h2, ← mk_L r3, h3]; rfl
theorem flA_succ (i : Nat) : flA (i + 1) = flA i ++ ⟨#[110]⟩ := by
  apply L_inj
  unfold flA
  rw [L_app, L_mk, L_mk, List.replicate_succ']
theorem flV_succ (i : Nat) : flV (i + 1) = flV i ++ ⟨#[118]⟩ := by
  apply L_inj
  unfold flV
  rw [L_app, L_mk, L_mk, List.replicate_succ']
theorem flA_size (i : Nat) : (flA i).size = i := by unfold flA; rw [mk_size, List.length_replicate]
theorem flV_size (i : Nat) : (flV i).size = i := by unfold flV; rw [mk_size, List.length_replicate]
theorem fl_eq (k j : Nat) : flA k ++ ⟨#[58, 32]⟩ ++ flV j = flL k j := by
  apply L_inj
  unfold flA flV flL
  rw [L_app, L_app, L_mk, L_mk, L_mk, List.append_assoc]
  rfl
set_option maxRecDepth 100000 in
set_option maxHeartbeats 4000000 in
theorem limits6_walk (x y : Int) (n m : Nat) (w : World) (hm : MaxL w) (hx : x % 3 = (n : Int)) (hy : y % 3 = (m : Int)) (hn : n < 3) (hmm : m < 3) (x0 : 0 ≤ x) (x1 : x ≤ 255) (y0 : 0 ≤ y) (y1 : y ≤ 255) :
    Calls Tryd.prog 5 #[.int .u8 x, .int .u8 y] w fun e w' => e = .returned (.bool true) ∧ Below w.heap.size w w' := by
  have HM := Lib.hid hm
  clear hm
  have hone := flOne n m hn hmm
  obtain ⟨k, hk⟩ : ∃ k, 63 + n = k := ⟨_, rfl⟩
  obtain ⟨j, hj⟩ : ∃ k, 511 + m = k := ⟨_, rfl⟩
  have hkI : (63 : Int) + (n : Int) = (k : Int) := by omega
  have hjI : (511 : Int) + (m : Int) = (j : Int) := by omega
  rw [hk, hj] at hone
  have hk70 : k ≤ 65 := by omega
  have hj513 : j ≤ 513 := by omega
  have HONE := Lib.hid hone
  clear hone hk hj
  go_enter Tryd.func5, Tryd.ntmps5
  go_wp2_with fail
  refine (law6_known _ HM.out).mono ?_
  rintro e w1 ⟨rfl, hb1⟩
  have H1 := Lib.hid hb1
  clear hb1
  go_wp2
  clear hx hy
  go_loop [7, 9] (fun s i => ∃ q : Nat, q ≤ k ∧ i = .int .i64 q ∧ s = .string (flA q)) (fun _ i => k - (intOf i).toNat)
  case atStart => exact ⟨0, Nat.zero_le _, rfl, rfl⟩
  case round =>
    obtain ⟨q, hq, rfl, rfl⟩ := hrel
    by_cases hlt : q < k
    · have hz := flA_size q
      have hs := flA_succ q
      obtain ⟨u, hu⟩ : ∃ u, flA q = u := ⟨_, rfl⟩
      rw [hu] at hz hs
      rw [hu]
      have s1 : ¬ 9223372036854775807 < u.size + 1 := by omega
      have HS := Lib.hid hs; clear hs hu hz
      go_wp2
      go_round
      case measure => exact meas hlt .i64 .i64
      case rel => exact ⟨q + 1, by omega, by go_num, by rw [HS.out]⟩
    · obtain rfl : q = k := by omega
      have hza := flA_size q
      have HA0 := Lib.hid (fl_eq q)
      obtain ⟨a, ha⟩ : ∃ u, flA q = u := ⟨_, rfl⟩
      rw [ha] at hza HA0 HONE
      rw [ha]
      clear ha
      go_wp2
      go_loop [8, 10] (fun s i => ∃ p : Nat, p ≤ j ∧ i = .int .i64 p ∧ s = .string (flV p)) (fun _ i => j - (intOf i).toNat)
      case atStart => exact ⟨0, Nat.zero_le _, rfl, rfl⟩
      case round =>
        obtain ⟨p, hp, rfl, rfl⟩ := hrel
        have hz := flV_size p
        by_cases hlt2 : p < j
        · have hs := flV_succ p
          obtain ⟨u, hu⟩ : ∃ u, flV p = u := ⟨_, rfl⟩
          rw [hu] at hz hs
          rw [hu]
          have s1 : ¬ 9223372036854775807 < u.size + 1 := by omega
          have HS := Lib.hid hs; clear hs hu hz
          go_wp2
          go_round
          case measure => exact meas hlt2 .i64 .i64
          case rel => exact ⟨p + 1, by omega, by go_num, by rw [HS.out]⟩
        · obtain rfl : p = j := by omega
          have hl := HA0.out p
          have hone := HONE.out
          rw [← hl] at hone
          obtain ⟨v, hv⟩ : ∃ u, flV p = u := ⟨_, rfl⟩
          rw [hv] at hz hone
          rw [hv]
          have s1 : ¬ 9223372036854775807 < a.size + 2 := by omega
          have s2 : ¬ 9223372036854775807 < a.size + 2 + v.size := by omega
          have hls : (a ++ ⟨#[58, 32]⟩ ++ v).size ≤ 1000000000 := by rw [size_app, size_app, hza, hz]; show _ + 2 + _ ≤ _; omega
          have ha9 : a.size ≤ 9223372036854775807 := by omega
          have hv9 : v.size ≤ 9223372036854775807 := by omega
          have HLS := Lib.hid hls; have HA9 := Lib.hid ha9; have HV9 := Lib.hid hv9
          obtain ⟨hpar, hfo⟩ := hone
          have hokE : flOk q p = (decide ((q : Int) ≤ 64) && decide ((p : Int) ≤ 512)) := by
            unfold flOk
            rw [Bool.eq_iff_iff]
            simp only [Bool.and_eq_true, Nat.ble_eq, decide_eq_true_eq]; omega
          clear hls hl hv hz hza HA0 HONE ha9 hv9
          rcases hpar with ⟨hok, hps⟩ | ⟨hok, hps⟩
          · have HPS := Lib.hid hps; have HFO := Lib.hid (hfo.trans hok)
            rw [hok] at hokE
            have hokE2 := hokE.symm
            rw [Bool.and_eq_true] at hokE2
            have k1 := hokE2.1
            have k2 := hokE2.2
            clear hps hfo hok hokE hokE2
            go_wp2_with fail
            refine (parse_at _ _ _ HPS.out HLS.out).mono ?_
            rintro e w2 ⟨rfl, hb2⟩
            unfold parseR errV
            have HB2 := Lib.hid (Box.new w2 [.string a, .string v] 23)
            have H2 := Lib.hid (fr_alloc (fr_trans H1.out hb2) (.cells #[.string a, .string v] 23))
            clear hb2
            go_wp2_with fail
            refine (is_at6 a v true _ HFO.out HA9.out HV9.out).mono ?_
            rintro e w3 ⟨rfl, hb3⟩
            have x3 := HB2.out.fr hb3
            have rc0 : w3.cell? ⟨w2.heap.size, 0, none⟩ = some (.string a) := x3.2 0 _ rfl
            have rc1 : w3.cell? ⟨w2.heap.size, 1, none⟩ = some (.string v) := x3.2 1 _ rfl
            have rlt : w2.heap.size < w3.heap.size := x3.1
            have H3 := Lib.hid (fr_trans H2.out hb3)
            clear hb3 x3
            go_wp2
            go_ret
            exact ⟨rfl, H3.out⟩
          · have HPS := Lib.hid hps; have HFO := Lib.hid (hfo.trans hok)
            rw [hok] at hokE
            have hcs : (decide ((q : Int) ≤ 64) = false) ∨ (decide ((q : Int) ≤ 64) = true ∧ decide ((p : Int) ≤ 512) = false) := by
              cases hd : decide ((q : Int) ≤ 64)
              · exact .inl rfl
              · rw [hd, Bool.true_and] at hokE; exact .inr ⟨rfl, hokE.symm⟩
            clear hps hfo hok hokE
            rcases hcs with k1 | ⟨k1, k2⟩
            all_goals
              go_wp2_with fail
              refine (parse_at _ _ _ HPS.out HLS.out).mono ?_
              rintro e w2 ⟨rfl, hb2⟩
              unfold parseR errV
              have H2 := Lib.hid (fr_alloc (fr_trans H1.out hb2) (.cells #[.string ⟨#[]⟩, .string ⟨#[]⟩] 23))
              clear hb2
              go_wp2_with fail
              refine (is_errno 12 12 _).mono ?_
              rintro e wq ⟨rfl, rfl⟩
              go_wp2_with fail
              refine (is_at6 a v false _ HFO.out HA9.out HV9.out).mono ?_
              rintro e w3 ⟨rfl, hb3⟩
              have H3 := Lib.hid (fr_trans H2.out hb3)
              clear hb3
              go_wp2
              go_ret
              exact ⟨rfl, H3.out⟩
theorem law6_limits (x y : Int) (w : World) (hm : MaxL w) (x0 : 0 ≤ x) (x1 : x ≤ 255) (y0 : 0 ≤ y) (y1 : y ≤ 255) :
    Calls Tryd.prog 5 #[.int .u8 x, .int .u8 y] w fun e w' => e = .returned (.bool true) ∧ Below w.heap.size w w' :=
  limits6_walk x y (x % 3).toNat (y % 3).toNat w hm (by omega) (by omega) (by omega) (by omega) x0 x1 y0 y1
end Go.Proofs.YtdagppbpeibdgaaDoor
