/- conduitref11.hostly, clean, IsWare: what rule's functions answer. -/
import Derived.Test.YthjnmcciejfpcaaGreatDoorRI0
import Derived.Test.YthjnmcciejfpcaaGreatDoorRF2
import Derived.Test.YthjnmcciejfpcaaGreatDoorRF4
import Derived.Test.YthjnmcciejfpcaaGreatDoorPBack2
import Derived.Test.YthjnmcciejfpcaaGreatDoorRefC
namespace Go.Proofs.YthjnmcciejfpcaaGreatDoor
set_option linter.unusedVariables false
set_option linter.unusedSimpArgs false
open Go.RowKit

set_option maxHeartbeats 2000000 in
theorem ref11_hostly (s : ByteArray) (w : World) (hs : s.size ≤ 9223372036854775807) : Calls Tryz.prog 14 #[.string s] w fun e w' => e = .returned (.bool (hostOk s)) ∧ w = w' := by
  have hlen : (L s).length = s.size := rfl
  have he := hostOk_all s
  obtain ⟨l, hl⟩ : ∃ l, L s = l := ⟨_, rfl⟩
  rw [hl] at hlen he
  have HE := Lib.hid he; have HL0 := Lib.hid hl; have HN := Lib.hid hlen
  clear he hlen hl
  go_enter Tryz.func14, Tryz.ntmps14
  go_wp2
  go_loopw [3] (fun i wr => ∃ k : Nat, k ≤ s.size ∧ i = .int .i64 k ∧ (l.take k).all hostC = true ∧ w = wr) (fun i _ => s.size - (intOf i).toNat)
  case atStart => exact ⟨0, Nat.zero_le _, rfl, rfl, rfl⟩
  case round =>
    obtain ⟨k, hk, rfl, hall, rfl⟩ := hrel
    by_cases hlt : k < s.size
    · have hkl : k < l.length := by have := HN.out; omega
      have hat : l[k] = s[k] := by have := HL0.out; subst this; rfl
      obtain ⟨c, hc⟩ : ∃ c, s[k] = c := ⟨_, rfl⟩
      rw [hc] at hat
      have hcI : (s[k].toNat : Int) = (c.toNat : Int) := by rw [hc]
      have HA := Lib.hid hall; have HAT := Lib.hid hat; clear hall hat hc
      have hif := hostC_iff c
      cases hq : hostC c
      · have HP := Lib.hid (show ¬ (((97 : Int) ≤ c.toNat ∧ (c.toNat : Int) ≤ 122) ∨ ((48 : Int) ≤ c.toNat ∧ (c.toNat : Int) ≤ 57) ∨ (c.toNat : Int) = 45 ∨ (c.toNat : Int) = 46) from fun h => by have := hif.2 h; rw [hq] at this; cases this)
        have HQ := Lib.hid hq; clear hq hif
        go_wp2
        all_goals first
          | (exfalso; have := HP.out; simp_all; done)
          | (exfalso; have := HP.out; simp_all; omega)
          | (go_ret
             exact ⟨by rw [HE.out, all_drop hkl HA.out (by rw [HAT.out]; exact HQ.out)]; rfl, rfl⟩)
      · have HP := Lib.hid (hif.1 hq)
        have HQ := Lib.hid hq; clear hq hif
        go_wp2
        all_goals first
          | (exfalso; have := HP.out; simp_all; done)
          | (exfalso; have := HP.out; simp_all; omega)
          | (go_roundw
             case measure => exact meas hlt .i64 .i64
             case rel => exact ⟨k + 1, by omega, by go_num, all_succ hkl HA.out (by rw [HAT.out]; exact HQ.out), trivial⟩)
    · have e : l.take k = l := List.take_of_length_le (by have := HN.out; omega)
      rw [e] at hall
      have HA := Lib.hid hall; clear hall e
      by_cases h64 : s.size ≤ 64
      · have hI : (s.size : Int) ≤ 64 := by omega
        have HK := Lib.hid (ble_yes h64); clear h64
        go_wp2
        go_ret
        exact ⟨by rw [HE.out, HA.out, HK.out]; rfl, rfl⟩
      · have hI : ¬ (s.size : Int) ≤ 64 := by omega
        have HK := Lib.hid (ble_no h64); clear h64
        go_wp2
        go_ret
        exact ⟨by rw [HE.out, HA.out, HK.out]; rfl, rfl⟩
theorem ref11_clean (s : ByteArray) (w : World) (hs : s.size ≤ 100000000) : Calls Tryz.prog 41 #[.string s] w fun e w' => e = .returned (.bool (cleanOk s)) ∧ Below w.heap.size w w' := by
  have hez : (escB s).size ≤ 1000000000 := Nat.le_trans (escB_size s) (by omega)
  have HEZ := Lib.hid hez; clear hez
  cases hc : cleanS (escB s) with
  | none =>
    have he : cleanOk s = false := by unfold cleanOk; rw [hc]
    rw [he]
    have HC := Lib.hid (show cleanR1 (cleanS (escB s)) = cleanR1 none by rw [hc])
    clear he hc
    go_enter Tryz.func41, Tryz.ntmps41
    go_wp2_with fail
    refine (ref1_Escape s _ (by omega)).mono ?_
    rintro e w1 ⟨rfl, hb1⟩
    have HB1 := Lib.hid hb1; clear hb1
    go_wp2_with fail
    refine (ref11_Clean _ _ HEZ.out).mono ?_
    rintro e w2 ⟨rfl, hb2⟩
    rw [HC.out]
    unfold cleanR1
    go_wp2
    go_ret
    exact ⟨rfl, fr_trans HB1.out hb2⟩
  | some p =>
    have he : cleanOk s = eqB p s := by unfold cleanOk; rw [hc]
    rw [he]
    have HC := Lib.hid (show cleanR1 (cleanS (escB s)) = cleanR1 (some p) by rw [hc])
    clear he hc
    go_enter Tryz.func41, Tryz.ntmps41
    go_wp2_with fail
    refine (ref1_Escape s _ (by omega)).mono ?_
    rintro e w1 ⟨rfl, hb1⟩
    have HB1 := Lib.hid hb1; clear hb1
    go_wp2_with fail
    refine (ref11_Clean _ _ HEZ.out).mono ?_
    rintro e w2 ⟨rfl, hb2⟩
    rw [HC.out]
    unfold cleanR1
    go_wp2
    go_ret
    exact ⟨rfl, fr_trans HB1.out hb2⟩
theorem ref11_clean_at (s : ByteArray) (v : Bool) (w : World) (h : cleanOk s = v) (hs : s.size ≤ 2000000) : Calls Tryz.prog 41 #[.string s] w fun e w' => e = .returned (.bool v) ∧ Below w.heap.size w w' := h ▸ ref11_clean s w (by omega)
theorem ref6_IsField_at (a b : ByteArray) (v : Bool) (w : World) (h : fieldOk a b = v) (ha : a.size ≤ 9223372036854775807) (hb : b.size ≤ 9223372036854775807) :
    Calls Tryz.prog 45 #[.agg #[.string a, .string b]] w fun e w' => e = .returned (.bool v) ∧ Below w.heap.size w w' := h ▸ ref6_IsField a b w ha hb
set_option maxRecDepth 100000 in
set_option maxHeartbeats 4000000 in
theorem ref11_IsWare1 (a b : ByteArray) (n : Int) (w : World) (hs : a.size ≤ 1000000000) :
    Calls Tryz.prog 30 #[.agg #[.int .i64 1, .string a, .string b, .int .i64 n]] w fun e w' => e = .returned (.bool (methOk a)) ∧ Below w.heap.size w w' := by
  have hw0 := fr_alloc (fr_refl w) (.cells #[.int .i64 1, .string a, .string b, .int .i64 n] 56)
  have HW0 := Lib.hid hw0
  have HB0 := Lib.hid (Box.new w [.int .i64 1, .string a, .string b, .int .i64 n] 56)
  have hLc := fun W => ref1_List a W hs
  have hM : methOk a = ((listS a).all okM && Nat.blt 0 (listS a).length && Nat.ble a.size 1024) := rfl
  have hmm : ∀ x ∈ listS a, x.size ≤ 9223372036854775807 := fun x hx => by have := listS_mem hx; omega
  have hll := listS_len a
  obtain ⟨l, hl⟩ : ∃ l, listS a = l := ⟨_, rfl⟩
  rw [hl] at hLc hM hmm hll
  obtain ⟨m, hn⟩ : ∃ n, l.length = n := ⟨_, rfl⟩
  rw [hn] at hLc hM hll
  have HLC := Lib.hid hLc; have HM := Lib.hid hM; have HMM := Lib.hid hmm; have HN := Lib.hid hn
  have HNB := Lib.hid (show m ≤ 1000000001 by omega)
  clear hLc hM hmm hn hl hll hw0
  go_enter Tryz.func30, Tryz.ntmps30
  go_wp2_with fail
  refine (HLC.out _).mono ?_
  rintro e w1 ⟨⟨A, c, rfl, hS⟩, hb1⟩
  have x1 := HB0.out.fr hb1
  have qc0 : w1.cell? ⟨w.heap.size, 0, none⟩ = some (.int .i64 1) := x1.2 0 _ rfl
  have qc1 : w1.cell? ⟨w.heap.size, 1, none⟩ = some (.string a) := x1.2 1 _ rfl
  have qc2 : w1.cell? ⟨w.heap.size, 2, none⟩ = some (.string b) := x1.2 2 _ rfl
  have qc3 : w1.cell? ⟨w.heap.size, 3, none⟩ = some (.int .i64 n) := x1.2 3 _ rfl
  have qlt : w.heap.size < w1.heap.size := x1.1
  have HS := Lib.hid hS; have HB1 := Lib.hid (fr_trans HW0.out hb1)
  clear hS hb1 x1
  go_wp2
  go_loopw [4] (fun i wr => ∃ k : Nat, k ≤ m ∧ i = .int .i64 k ∧ w1 = wr ∧ (l.take k).all okM = true) (fun i _ => m - (intOf i).toNat)
  case atStart => exact ⟨0, Nat.zero_le _, rfl, rfl, rfl⟩
  case round =>
    obtain ⟨k, hk, rfl, rfl, hall⟩ := hrel
    by_cases hlt : k < m
    · have kx : k < l.length := by have := HN.out; omega
      obtain ⟨b1, o1, rfl, l1, c1⟩ := HS.out.at_ kx
      have hdr := fun h => ball_drop (p := okM) kx h
      have hsu := fun h => ball_succ (p := okM) kx hall h
      have hxm := HMM.out l[k] (List.getElem_mem kx)
      obtain ⟨x, hx⟩ : ∃ x, l[k] = x := ⟨_, rfl⟩
      rw [hx] at c1 hdr hsu hxm
      have hkI : (k : Int) < (m : Int) := by omega
      have hk0 : (0 : Int) ≤ (k : Int) := by omega
      have hwr : wrap64 ((k : Int) + 1) = (k : Int) + 1 := IntWalk.wrap64_in _ (by have := HNB.out; omega)
      have HD := Lib.hid hdr; have HSU := Lib.hid hsu
      have HTK := Lib.hid (fun W : World => ref1_Token x W hxm)
      clear hdr hsu hxm hx kx hall
      obtain ⟨tk, htk⟩ : ∃ b, allB isTokB x = b := ⟨_, rfl⟩
      have HTE := Lib.hid htk
      rw [htk] at HTK
      clear htk
      cases tk
      · go_wp2_with fail
        refine (HTK.out _).mono ?_
        rintro e w3 ⟨rfl, rfl⟩
        go_wp2_with fail
        go_ret
        exact ⟨by rw [HM.out, HD.out (by unfold okM; rw [HTE.out]; rfl)]; rfl, HB1.out⟩
      · by_cases h16 : x.size ≤ 16
        · have h16' : ¬ (16 : Int) < (x.size : Int) := by omega
          have HK := Lib.hid (ble_yes h16)
          clear h16
          go_wp2_with fail
          refine (HTK.out _).mono ?_
          rintro e w3 ⟨rfl, rfl⟩
          go_wp2_with fail
          go_roundw
          case measure => rw [hwr]; exact meas hlt .i64 .i64
          case rel => exact ⟨k + 1, by omega, by go_num, trivial, HSU.out (by unfold okM; rw [HTE.out, HK.out]; rfl)⟩
        · have h16' : (16 : Int) < (x.size : Int) := by omega
          have HK := Lib.hid (ble_no h16)
          clear h16
          go_wp2_with fail
          refine (HTK.out _).mono ?_
          rintro e w3 ⟨rfl, rfl⟩
          go_wp2_with fail
          go_ret
          exact ⟨by rw [HM.out, HD.out (by unfold okM; rw [HTE.out, HK.out]; rfl)]; rfl, HB1.out⟩
    · have e : l.take k = l := List.take_of_length_le (by have := HN.out; omega)
      obtain rfl : k = m := by omega
      rw [e] at hall
      have HA := Lib.hid hall; clear hall e
      by_cases h0 : k = 0
      · subst h0
        go_wp2
        go_ret
        exact ⟨by rw [HM.out, HA.out]; rfl, HB1.out⟩
      · have h0' : (0 : Int) < (k : Int) := by omega
        have HK0 := Lib.hid (show Nat.blt 0 k = true by rw [Nat.blt_eq]; omega)
        by_cases h1 : a.size ≤ 1024
        · have h1' : (a.size : Int) ≤ 1024 := by omega
          have HK := Lib.hid (ble_yes h1)
          clear h1 h0
          go_wp2
          go_ret
          exact ⟨by rw [HM.out, HA.out, HK0.out, HK.out]; rfl, HB1.out⟩
        · have h1' : ¬ (a.size : Int) ≤ 1024 := by omega
          have HK := Lib.hid (ble_no h1)
          clear h1 h0
          go_wp2
          go_ret
          exact ⟨by rw [HM.out, HA.out, HK0.out, HK.out]; rfl, HB1.out⟩
set_option maxHeartbeats 4000000 in
theorem ref11_IsWare (k : Int) (a b : ByteArray) (n : Int) (w : World) (ha : a.size ≤ 2000000) (hb : b.size ≤ 2000000) :
    Calls Tryz.prog 30 #[.agg #[.int .i64 k, .string a, .string b, .int .i64 n]] w fun e w' => e = .returned (.bool (wareOk ⟨k, a, b, n⟩)) ∧ Below w.heap.size w w' := by
  have hw0 := fr_alloc (fr_refl w) (.cells #[.int .i64 k, .string a, .string b, .int .i64 n] 56)
  have HW := Lib.hid hw0
  have HB0 := Lib.hid (Box.new w [.int .i64 k, .string a, .string b, .int .i64 n] 56)
  have ha9 : a.size ≤ 9223372036854775807 := by omega
  have hb9 : b.size ≤ 9223372036854775807 := by omega
  have HA9 := Lib.hid ha9; have HB9 := Lib.hid hb9; have HA := Lib.hid ha; have HBB := Lib.hid hb
  clear ha9 hb9
  by_cases k1 : k = 1
  · subst k1
    exact ref11_IsWare1 a b n w (by omega)
  by_cases k2 : k = 2
  · subst k2
    have HE := Lib.hid (show wareOk ⟨2, a, b, n⟩ = fieldOk a b from rfl)
    clear ha hb hw0
    cases hq : fieldOk a b
    all_goals
      have HQ := Lib.hid hq; clear hq
      go_enter Tryz.func30, Tryz.ntmps30
      go_wp2_with fail
      refine (ref6_IsField_at a b _ _ HQ.out HA9.out HB9.out).mono ?_
      rintro e w1 ⟨rfl, hb1⟩
      have x1 := HB0.out.fr hb1
      have qc0 : w1.cell? ⟨w.heap.size, 0, none⟩ = some (.int .i64 2) := x1.2 0 _ rfl
      have qc1 : w1.cell? ⟨w.heap.size, 1, none⟩ = some (.string a) := x1.2 1 _ rfl
      have qc2 : w1.cell? ⟨w.heap.size, 2, none⟩ = some (.string b) := x1.2 2 _ rfl
      have qc3 : w1.cell? ⟨w.heap.size, 3, none⟩ = some (.int .i64 n) := x1.2 3 _ rfl
      have qlt : w.heap.size < w1.heap.size := x1.1
      have HF := Lib.hid (fr_trans HW.out hb1)
      clear hb1 x1
      go_wp2
      go_ret
      exact ⟨by rw [HE.out, HQ.out]; rfl, HF.out⟩
  by_cases k3 : k = 3
  · subst k3
    have HE := Lib.hid (show wareOk ⟨3, a, b, n⟩ = (allB isTokB a && Nat.ble a.size 64) from rfl)
    clear ha hb hw0
    cases hq : allB isTokB a
    · have HQ := Lib.hid hq; clear hq
      go_enter Tryz.func30, Tryz.ntmps30
      go_wp2_with fail
      refine (ref1_Tok_at a _ _ HQ.out HA9.out).mono ?_
      rintro e w1 ⟨rfl, rfl⟩
      go_wp2
      go_ret
      exact ⟨by rw [HE.out, HQ.out]; rfl, HW.out⟩
    · have HQ := Lib.hid hq; clear hq
      by_cases h64 : a.size ≤ 64
      · have hI : decide ((a.size : Int) ≤ 64) = true := by simp; omega
        have HL := Lib.hid (ble_yes h64); clear h64
        go_enter Tryz.func30, Tryz.ntmps30
        go_wp2_with fail
        refine (ref1_Tok_at a _ _ HQ.out HA9.out).mono ?_
        rintro e w1 ⟨rfl, rfl⟩
        go_wp2
        go_ret
        exact ⟨by rw [HE.out, HQ.out, HL.out]; rfl, HW.out⟩
      · have hI : decide ((a.size : Int) ≤ 64) = false := by simp; omega
        have HL := Lib.hid (ble_no h64); clear h64
        go_enter Tryz.func30, Tryz.ntmps30
        go_wp2_with fail
        refine (ref1_Tok_at a _ _ HQ.out HA9.out).mono ?_
        rintro e w1 ⟨rfl, rfl⟩
        go_wp2
        go_ret
        exact ⟨by rw [HE.out, HQ.out, HL.out]; rfl, HW.out⟩
  by_cases k4 : k = 4
  · subst k4
    have HE := Lib.hid (show wareOk ⟨4, a, b, n⟩ = (cleanOk a && cleanOk b) from rfl)
    clear ha hb hw0
    cases hq : cleanOk a
    · have HQ := Lib.hid hq; clear hq
      go_enter Tryz.func30, Tryz.ntmps30
      go_wp2_with fail
      refine (ref11_clean_at a _ _ HQ.out HA.out).mono ?_
      rintro e w1 ⟨rfl, hb1⟩
      have HF := Lib.hid (fr_trans HW.out hb1)
      clear hb1
      go_wp2
      go_ret
      exact ⟨by rw [HE.out, HQ.out]; rfl, HF.out⟩
    · have HQ := Lib.hid hq; clear hq
      cases hq : cleanOk b
      all_goals
        have HQ2 := Lib.hid hq; clear hq
        go_enter Tryz.func30, Tryz.ntmps30
        go_wp2_with fail
        refine (ref11_clean_at a _ _ HQ.out HA.out).mono ?_
        rintro e w1 ⟨rfl, hb1⟩
        have x1 := HB0.out.fr hb1
        have qc0 : w1.cell? ⟨w.heap.size, 0, none⟩ = some (.int .i64 4) := x1.2 0 _ rfl
        have qc1 : w1.cell? ⟨w.heap.size, 1, none⟩ = some (.string a) := x1.2 1 _ rfl
        have qc2 : w1.cell? ⟨w.heap.size, 2, none⟩ = some (.string b) := x1.2 2 _ rfl
        have qc3 : w1.cell? ⟨w.heap.size, 3, none⟩ = some (.int .i64 n) := x1.2 3 _ rfl
        have qlt : w.heap.size < w1.heap.size := x1.1
        have HF := Lib.hid (fr_trans HW.out hb1)
        clear hb1 x1
        go_wp2_with fail
        refine (ref11_clean_at b _ _ HQ2.out HBB.out).mono ?_
        rintro e w2 ⟨rfl, hb2⟩
        have HF2 := Lib.hid (fr_trans HF.out hb2)
        clear hb2
        go_wp2
        go_ret
        exact ⟨by rw [HE.out, HQ.out, HQ2.out]; rfl, HF2.out⟩
  by_cases k5 : k = 5
  · subst k5
    have HE := Lib.hid (show wareOk ⟨5, a, b, n⟩ = (decide (0 ≤ n) && decide (n ≤ 4000)) from rfl)
    clear ha hb hw0
    by_cases n0 : 0 ≤ n
    · have HN := Lib.hid (show decide (0 ≤ n) = true by simpa using n0)
      by_cases n1 : n ≤ 4000
      · have HN1 := Lib.hid (show decide (n ≤ 4000) = true by simpa using n1)
        go_enter Tryz.func30, Tryz.ntmps30
        go_wp2
        go_ret
        exact ⟨by rw [HE.out, HN.out, HN1.out]; rfl, HW.out⟩
      · have HN1 := Lib.hid (show decide (n ≤ 4000) = false by simpa using n1)
        go_enter Tryz.func30, Tryz.ntmps30
        go_wp2
        go_ret
        exact ⟨by rw [HE.out, HN.out, HN1.out]; rfl, HW.out⟩
    · have HN := Lib.hid (show decide (0 ≤ n) = false by simpa using n0)
      go_enter Tryz.func30, Tryz.ntmps30
      go_wp2
      go_ret
      exact ⟨by rw [HE.out, HN.out]; rfl, HW.out⟩
  · have HE := Lib.hid (show wareOk ⟨k, a, b, n⟩ = false by unfold wareOk; simp only [k1, k2, k3, k4, k5, if_false])
    clear ha hb hw0
    have q1 : (k == 1) = false := by simpa using k1
    have q2 : (k == 2) = false := by simpa using k2
    have q3 : (k == 3) = false := by simpa using k3
    have q4 : (k == 4) = false := by simpa using k4
    have q5 : (k == 5) = false := by simpa using k5
    go_enter Tryz.func30, Tryz.ntmps30
    go_wp2
    go_ret
    exact ⟨by rw [HE.out]; rfl, HW.out⟩
end Go.Proofs.YthjnmcciejfpcaaGreatDoor
