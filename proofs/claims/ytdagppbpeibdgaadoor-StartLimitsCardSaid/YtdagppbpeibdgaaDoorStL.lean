/- conduitlaw7.StartLimits: true. -/
import Derived.Test.YtdagppbpeibdgaaDoorStT
namespace Go.Proofs.YtdagppbpeibdgaaDoor
set_option linter.unusedVariables false
set_option linter.unusedSimpArgs false
open Go.RowKit

def laN (i : Nat) : ByteArray := mk (lmA i)
def ltN (i : Nat) : ByteArray := mk (47 :: List.replicate i 116)
theorem laN_succ (i : Nat) : laN (i + 1) = laN i ++ ⟨#[77]⟩ := by
  apply L_inj
  unfold laN lmA
  rw [L_app, L_mk, L_mk, List.replicate_succ']
theorem ltN_succ (i : Nat) : ltN (i + 1) = ltN i ++ ⟨#[116]⟩ := by
  apply L_inj
  unfold ltN
  rw [L_app, L_mk, L_mk, List.replicate_succ', ← List.cons_append]
theorem laN_size (i : Nat) : (laN i).size = i := by unfold laN lmA; rw [mk_size, List.length_replicate]
theorem ltN_size (i : Nat) : (ltN i).size = i + 1 := by unfold ltN; rw [mk_size, List.length_cons, List.length_replicate]
theorem lm_eq (k i : Nat) : laN k ++ ⟨#[32]⟩ ++ ltN i ++ ⟨#[32, 72, 84, 84, 80, 47, 49, 46, 48]⟩ = lmS k (i + 1) := by
  apply L_inj
  unfold laN ltN lmS lmT
  rw [L_app, L_app, L_app, L_mk, L_mk, L_mk]
  simp
  rfl
set_option maxRecDepth 100000 in
set_option maxHeartbeats 4000000 in
theorem limits_walk (x y : Int) (n m : Nat) (w : World) (hm : MaxL w) (hE : ErrT w) (hT : Tab w) (hx : x % 3 = (n : Int)) (hy : y % 3 = (m : Int)) (hn : n < 3) (hmm : m < 3) (x0 : 0 ≤ x) (x1 : x ≤ 255) (y0 : 0 ≤ y) (y1 : y ≤ 255) :
    Calls Tryd.prog 10 #[.int .u8 x, .int .u8 y] w fun e w' => e = .returned (.bool true) ∧ Below w.heap.size w w' := by
  have HM := Lib.hid hm; have HE := Lib.hid hE; have HT := Lib.hid hT
  clear hm hE hT
  have hone := lmOne n m hn hmm
  obtain ⟨k, hk⟩ : ∃ k, 15 + n = k := ⟨_, rfl⟩
  obtain ⟨j, hj⟩ : ∃ k, 254 + m = k := ⟨_, rfl⟩
  have hkI : (15 : Int) + (n : Int) = (k : Int) := by omega
  have hjI : (255 : Int) + (m : Int) = (j : Int) + 1 := by omega
  rw [hk, show 255 + m = j + 1 by omega] at hone
  have hk20 : k ≤ 17 := by omega
  have hj260 : j ≤ 256 := by omega
  have HONE := Lib.hid hone
  clear hone hk hj
  go_enter Tryd.func10, Tryd.ntmps10
  go_wp2_with fail
  refine (law7_known _ HM.out HE.out HT.out).mono ?_
  rintro e w1 ⟨rfl, hb1⟩
  have H1 := Lib.hid hb1
  clear hb1
  go_wp2
  clear hx hy
  go_loop [7, 9] (fun s i => ∃ q : Nat, q ≤ k ∧ i = .int .i64 q ∧ s = .string (laN q)) (fun _ i => k - (intOf i).toNat)
  case atStart => exact ⟨0, Nat.zero_le _, rfl, rfl⟩
  case round =>
    obtain ⟨q, hq, rfl, rfl⟩ := hrel
    by_cases hlt : q < k
    · have hz := laN_size q
      have hs := laN_succ q
      obtain ⟨u, hu⟩ : ∃ u, laN q = u := ⟨_, rfl⟩
      rw [hu] at hz hs
      rw [hu]
      have s1 : ¬ 9223372036854775807 < u.size + 1 := by omega
      have HS := Lib.hid hs; clear hs hu hz
      go_wp2
      go_round
      case measure => exact meas hlt .i64 .i64
      case rel => exact ⟨q + 1, by omega, by go_num, by rw [HS.out]⟩
    · obtain rfl : q = k := by omega
      have hza := laN_size q
      obtain ⟨a, ha⟩ : ∃ u, laN q = u := ⟨_, rfl⟩
      rw [ha] at hza
      rw [ha]
      have HA := Lib.hid ha
      clear ha
      go_wp2
      go_loop [8] (fun s => ∃ i : Nat, i ≤ j ∧ s = .string (ltN i)) (fun s => j + 1 - (match s with | .string b => b.size | _ => 0))
      case atStart => exact ⟨0, Nat.zero_le _, rfl⟩
      case round =>
        obtain ⟨i, hi, rfl⟩ := hrel
        have hz := ltN_size i
        by_cases hlt2 : i < j
        · have hs := ltN_succ i
          have hz2 := ltN_size (i + 1)
          obtain ⟨u, hu⟩ : ∃ u, ltN i = u := ⟨_, rfl⟩
          rw [hu] at hz hs
          rw [hs] at hz2
          rw [hu]
          have s1 : ¬ 9223372036854775807 < u.size + 1 := by omega
          have hc : decide ((u.size : Int) < (j : Int) + 1) = true := by simp; omega
          have HS := Lib.hid hs; clear hs hu
          go_wp2
          go_round
          case measure => show j + 1 - (u ++ ⟨#[116]⟩).size < j + 1 - u.size; omega
          case rel => exact ⟨i + 1, by omega, by rw [HS.out]⟩
        · obtain rfl : i = j := by omega
          have hl := lm_eq q i
          rw [HA.out] at hl
          obtain ⟨u, hu⟩ : ∃ u, ltN i = u := ⟨_, rfl⟩
          rw [hu] at hz hl
          rw [hu]
          have hone := HONE.out
          rw [← hl] at hone
          have s1 : ¬ 9223372036854775807 < a.size + 1 := by omega
          have s2 : ¬ 9223372036854775807 < a.size + 1 + u.size := by omega
          have s3 : ¬ 9223372036854775807 < a.size + 1 + u.size + 9 := by omega
          have hc : decide ((u.size : Int) < (i : Int) + 1) = false := by simp; omega
          have hls : (a ++ ⟨#[32]⟩ ++ u ++ ⟨#[32, 72, 84, 84, 80, 47, 49, 46, 48]⟩).size ≤ 1000000000 := by rw [size_app, size_app, size_app, hza, hz]; show _ + 1 + _ + 9 ≤ _; omega
          have HLS := Lib.hid hls
          clear hls hl hu hz hza HA
          unfold lmW at hone
          by_cases h16 : q ≤ 16
          · rw [ble_yes h16, if_pos rfl] at hone
            have k16 : decide ((16 : Int) < (q : Int)) = false := by simp; omega
            by_cases h256 : i + 1 ≤ 256
            · rw [ble_yes h256, if_pos rfl] at hone
              have k256 : decide ((256 : Int) < (i : Int) + 1) = false := by simp; omega
              have H0 := Lib.hid hone
              clear hone h16 h256
              go_wp2_with fail
              refine (parse_some _ _ H0.out (HM.out.fr H1.out) (HE.out.fr H1.out) HLS.out).mono ?_
              rintro e w2 ⟨rfl, hb2⟩
              have H2 := Lib.hid (fr_trans H1.out hb2)
              clear hb2
              go_wp2
              go_ret
              exact ⟨rfl, fr_alloc H2.out _⟩
            · rw [ble_no h256, if_neg (by decide)] at hone
              have k256 : decide ((256 : Int) < (i : Int) + 1) = true := by simp; omega
              have H0 := Lib.hid hone
              clear hone h16 h256
              go_wp2_with fail
              refine (parse_no _ 12 _ H0.out (by decide) (HM.out.fr H1.out) (HE.out.fr H1.out) HLS.out).mono ?_
              rintro e w2 ⟨rfl, hb2⟩
              have H2 := Lib.hid (fr_trans H1.out hb2)
              clear hb2
              go_wp2_with fail
              refine (is_errno 12 12 _).mono ?_
              rintro e wq ⟨rfl, rfl⟩
              go_wp2
              go_ret
              exact ⟨rfl, fr_alloc H2.out _⟩
          · rw [ble_no h16, if_neg (by decide)] at hone
            have k16 : decide ((16 : Int) < (q : Int)) = true := by simp; omega
            have H0 := Lib.hid hone
            clear hone h16
            go_wp2_with fail
            refine (parse_no _ 10 _ H0.out (by decide) (HM.out.fr H1.out) (HE.out.fr H1.out) HLS.out).mono ?_
            rintro e w2 ⟨rfl, hb2⟩
            have H2 := Lib.hid (fr_trans H1.out hb2)
            clear hb2
            go_wp2_with fail
            refine (is_errno 10 10 _).mono ?_
            rintro e wq ⟨rfl, rfl⟩
            go_wp2
            go_ret
            exact ⟨rfl, fr_alloc H2.out _⟩
theorem law7_limits (x y : Int) (w : World) (hm : MaxL w) (hE : ErrT w) (hT : Tab w) (x0 : 0 ≤ x) (x1 : x ≤ 255) (y0 : 0 ≤ y) (y1 : y ≤ 255) :
    Calls Tryd.prog 10 #[.int .u8 x, .int .u8 y] w fun e w' => e = .returned (.bool true) ∧ Below w.heap.size w w' :=
  limits_walk x y (x % 3).toNat (y % 3).toNat w hm hE hT (by omega) (by omega) (by omega) (by omega) x0 x1 y0 y1
end Go.Proofs.YtdagppbpeibdgaaDoor
