/- conduitlaw15.VarsOrder: it is true of every request of strings of at most 2^47 bytes and every route. -/
import Derived.Test.YtdlignhlliellaaDoorWQ
import Derived.Test.YtdlignhlliellaaDoorVz
namespace Go.Proofs.YtdlignhlliellaaDoor
set_option linter.unusedVariables false
set_option linter.unusedSimpArgs false
open Go.RowKit

set_option maxHeartbeats 1000000 in
theorem build_any (Ac : Option Addr) (cc : Nat) (cl : Int) (m tg : ByteArray) (mn : Int) (fl : List Pr) (bd : ByteArray) (A : Option Addr) (n c : Nat) (ru : Int) (sc inf : ByteArray) (An : Option Addr) (nn cn : Nat) (ns : List Pr) (w : World)
    (hT : Tab w) (hn : fl.length = n) (hn9 : n ≤ 20) (hp : Pairs w A fl) (hs : ∀ p ∈ fl, p.1.size ≤ 140737488351232 ∧ p.2.size ≤ 140737488351232) (hnn : ns.length = nn) (hnn9 : nn ≤ 10) (hpn : Pairs w An ns) (hsn : ∀ p ∈ ns, p.1.size ≤ 140737488351232 ∧ p.2.size ≤ 140737488351232)
    (htz : tg.size ≤ 9223372036854775807) (hbz : bd.size ≤ 9223372036854775807) (hc1 : 0 ≤ cl) (hc2 : cl ≤ 1000000) (hm1 : -9223372036854775808 ≤ mn) (hm2 : mn ≤ 9223372036854775807) :
    Calls Tryd.prog 7 #[.agg #[.string ⟨#[108, 111, 99, 97, 108]⟩, .int .i64 80, .slice Ac 1 cc, .int .i64 1, .int .i64 2, .int .i64 2000, .int .i64 4000, .int .i64 8000, .int .i64 10, .int .i64 1], .int .i64 cl, .agg #[.string m, .string tg, .int .i64 mn, .slice A n c, .string bd], .agg #[.int .i64 ru, .string sc, .string inf, .slice An nn cn]] w fun e w' => (∃ A' n' c' l', e = .returned (.slice A' n' c') ∧ l'.length = n' ∧ n' ≤ 100 ∧ Pairs w' A' l' ∧ l'.Perm (buildL ⟨#[108, 111, 99, 97, 108]⟩ 80 cl ⟨m, tg, mn, fl, bd⟩ sc inf ns) ∧ Srt l') ∧ Below w.heap.size w w' := by
  have hl := buildL_len ⟨#[108, 111, 99, 97, 108]⟩ 80 cl ⟨m, tg, mn, fl, bd⟩ sc inf ns (by show fl.length ≤ 20; omega) (by omega)
  refine (vars_Build ⟨#[108, 111, 99, 97, 108]⟩ 80 Ac 1 cc 1 2 2000 4000 8000 10 1 cl m tg mn fl bd A n c ru sc inf An nn cn ns w hT hn (by omega) hp hs hnn (by omega) hpn hsn htz hbz (by omega) (by omega) hc1 hc2 hm1 hm2 (by omega)).mono fun e w' h => ?_
  obtain ⟨⟨A', n', c', l', h1, h2, h3, h4, h5, h6⟩, hb⟩ := h
  exact ⟨⟨A', n', c', l', h1, h2, by rw [← h2, h5.length_eq]; exact hl, h3, h5, h6⟩, hb⟩
theorem given_yes (m tg : ByteArray) (mn : Int) (A : Option Addr) (n c : Nat) (fl : List Pr) (bd nm : ByteArray) (w : World) (hn : fl.length = n) (hn9 : n ≤ 1000) (hp : Pairs w A fl) (hs : ∀ p ∈ fl, p.1.size ≤ 140737488351232 ∧ p.2.size ≤ 140737488351232) (hnm : nm.size ≤ 100) (hg : givenL fl nm = true) :
    Calls Tryd.prog 12 #[.agg #[.string m, .string tg, .int .i64 mn, .slice A n c, .string bd], .string nm] w fun e w' => e = .returned (.bool true) ∧ Below w.heap.size w w' := hg ▸ law15_given m tg mn A n c fl bd nm w hn hn9 hp hs hnm
theorem bless_eq : ∀ a b : List UInt8, Op.bytesLess a b = decide (Lib.compareBytes a b < 0)
  | _, [] => by
    rename_i a
    cases a <;> rfl
  | [], _ :: _ => rfl
  | x :: a, y :: b => by
    rw [cmp_cons, Op.bytesLess, bless_eq a b]
    by_cases h1 : x.toNat < y.toNat
    · have : x < y := UInt8.lt_iff_toNat_lt.2 h1
      simp [h1, this]
    · have h1' : ¬ x < y := fun h => h1 (UInt8.lt_iff_toNat_lt.1 h)
      by_cases h2 : y.toNat < x.toNat
      · have : ¬ x = y := fun e => by subst e; omega
        simp [h1, h1', h2, this]
      · have : x = y := UInt8.toNat_inj.1 (by omega)
        subst this
        simp
set_option maxRecDepth 100000 in
set_option maxHeartbeats 8000000 in
theorem law15_order (m tg : ByteArray) (mn : Int) (fl : List Pr) (bd : ByteArray) (A : Option Addr) (n c : Nat) (ru : Int) (sc inf : ByteArray) (An : Option Addr) (nn cn : Nat) (ns : List Pr) (w : World)
    (hT : Tab w) (hn : fl.length = n) (hp : Pairs w A fl) (hs : ∀ p ∈ fl, p.1.size ≤ 140737488351232 ∧ p.2.size ≤ 140737488351232) (hnn : ns.length = nn) (hpn : Pairs w An ns) (hsn : ∀ p ∈ ns, p.1.size ≤ 140737488351232 ∧ p.2.size ≤ 140737488351232)
    (htz : tg.size ≤ 9223372036854775807) (hbz : bd.size ≤ 9223372036854775807) (hm1 : -9223372036854775808 ≤ mn) (hm2 : mn ≤ 9223372036854775807) :
    Calls Tryd.prog 4 #[.agg #[.string m, .string tg, .int .i64 mn, .slice A n c, .string bd], .agg #[.int .i64 ru, .string sc, .string inf, .slice An nn cn]] w fun e w' => e = .returned (.bool true) ∧ Below w.heap.size w w' := by
  have HT := Lib.hid hT; have HN := Lib.hid hn; have HP := Lib.hid hp; have HS := Lib.hid hs; have HNN := Lib.hid hnn; have HPN := Lib.hid hpn; have HSN := Lib.hid hsn; have HTZ := Lib.hid htz; have HBZ := Lib.hid hbz; have HM := Lib.hid (And.intro hm1 hm2)
  obtain ⟨W1, hW1⟩ : ∃ x, (w.alloc (.cells #[.string m, .string tg, .int .i64 mn, .slice A n c, .string bd] 27)).alloc (.cells #[.int .i64 ru, .string sc, .string inf, .slice An nn cn] 29) = x := ⟨_, rfl⟩
  have hXR : Blk W1 w.heap.size 27 #[.string m, .string tg, .int .i64 mn, .slice A n c, .string bd] := hW1 ▸ (Blk.new w _ _).alloc _
  have hXT : Blk W1 (w.heap.size + 1) 29 #[.int .i64 ru, .string sc, .string inf, .slice An nn cn] := by
    have := Blk.new (w.alloc (.cells #[.string m, .string tg, .int .i64 mn, .slice A n c, .string bd] 27)) 29 #[.int .i64 ru, .string sc, .string inf, .slice An nn cn]
    rw [hW1] at this
    simpa using this
  have HW1 := Lib.hid (show Below w.heap.size w W1 from hW1 ▸ fr_alloc (fr_alloc (fr_refl w) _) _)
  have HXR := Lib.hid hXR; have HXT := Lib.hid hXT; have HEW := Lib.hid hW1
  clear hT hn hp hs hnn hpn hsn htz hbz hm1 hm2 hXR hXT hW1
  go_enter Tryd.func4, Tryd.ntmps4
  go_wp2_with fail
  rw [HEW.out]
  refine (law15_known _ (HT.out.fr HW1.out)).mono ?_
  rintro e w1 ⟨rfl, hb1⟩
  have HX1 := Lib.hid (HXR.out.fr hb1); have HX2 := Lib.hid (HXT.out.fr hb1); have HB1 := Lib.hid (fr_trans HW1.out hb1)
  have c3 : w1.cell? ⟨w.heap.size, 3, none⟩ = some (.slice A n c) := HX1.out.cell 3
  have t3 : w1.cell? ⟨w.heap.size + 1, 3, none⟩ = some (.slice An nn cn) := HX2.out.cell 3
  clear hb1 HEW HXR HXT HW1
  by_cases h20 : n ≤ 20
  · have h20I : ¬ (20 : Int) < (n : Int) := by omega
    by_cases h10 : nn ≤ 10
    · have h10I : ¬ (10 : Int) < (nn : Int) := by omega
      have HN20 := Lib.hid h20; have HN10 := Lib.hid h10
      clear h20 h10
      have hKa : ∀ W', Below w1.heap.size w1 W' → (W'.cell? ⟨w.heap.size, 0, none⟩ = some (.string m) ∧ W'.cell? ⟨w.heap.size, 1, none⟩ = some (.string tg) ∧ W'.cell? ⟨w.heap.size, 2, none⟩ = some (.int .i64 mn) ∧ W'.cell? ⟨w.heap.size, 3, none⟩ = some (.slice A n c) ∧ W'.cell? ⟨w.heap.size, 4, none⟩ = some (.string bd) ∧ W'.cell? ⟨w.heap.size + 1, 0, none⟩ = some (.int .i64 ru) ∧ W'.cell? ⟨w.heap.size + 1, 1, none⟩ = some (.string sc) ∧ W'.cell? ⟨w.heap.size + 1, 2, none⟩ = some (.string inf) ∧ W'.cell? ⟨w.heap.size + 1, 3, none⟩ = some (.slice An nn cn)) := fun W' h => ⟨(HX1.out.fr h).cell 0, (HX1.out.fr h).cell 1, (HX1.out.fr h).cell 2, (HX1.out.fr h).cell 3, (HX1.out.fr h).cell 4, (HX2.out.fr h).cell 0, (HX2.out.fr h).cell 1, (HX2.out.fr h).cell 2, (HX2.out.fr h).cell 3⟩
      have HKa := Lib.hid hKa
      clear hKa
      go_wp2_with fail
      go_region_held3 (fun W' => (W'.cell? ⟨w.heap.size, 0, none⟩ = some (.string m) ∧ W'.cell? ⟨w.heap.size, 1, none⟩ = some (.string tg) ∧ W'.cell? ⟨w.heap.size, 2, none⟩ = some (.int .i64 mn) ∧ W'.cell? ⟨w.heap.size, 3, none⟩ = some (.slice A n c) ∧ W'.cell? ⟨w.heap.size, 4, none⟩ = some (.string bd) ∧ W'.cell? ⟨w.heap.size + 1, 0, none⟩ = some (.int .i64 ru) ∧ W'.cell? ⟨w.heap.size + 1, 1, none⟩ = some (.string sc) ∧ W'.cell? ⟨w.heap.size + 1, 2, none⟩ = some (.string inf) ∧ W'.cell? ⟨w.heap.size + 1, 3, none⟩ = some (.slice An nn cn)))
        (first | (refine HKa.out _ ?_; first | exact fr_trans hbS hbB | exact hbS | exact fr_drew (fr_refl _) | exact fr_refl _))
        (first
        | (have hgg := hbS; go_at_call 7; refine (build_any _ _ 0 m tg mn fl bd A n c ru sc inf An nn cn ns _ (HT.out.fr (fr_trans HB1.out hbS)) HN.out HN20.out (HP.out.fr (fr_trans HB1.out hbS)) HS.out HNN.out HN10.out (HPN.out.fr (fr_trans HB1.out hbS)) HSN.out HTZ.out HBZ.out (by decide) (by decide) HM.out.1 HM.out.2).mono ?_; rintro e wB ⟨⟨A', n', c', l', rfl, hl', hn', hP', hp', hs'⟩, hbB⟩)
        | (go_at_call 11; refine (ref11_Small _).mono ?_; rintro e wS ⟨⟨Ac, cc, rfl, hRS⟩, hbS0⟩; unfold confV; have hbS : Below w1.heap.size w1 wS := fr_trans (fr_drew (fr_refl _)) hbS0))
      have hbB2 := fr_trans hbS hbB
      have HXB := Lib.hid (HX1.out.fr hbB2); have HWB := Lib.hid (fr_trans HB1.out hbB2)
      have HL := Lib.hid hl'; have HPL := Lib.hid hP'; have HPM := Lib.hid hp'; have HSRT := Lib.hid hs'; have HN1 := Lib.hid hn'
      clear hbS hbS0 hbB hbB2 hl' hP' hp' hs' hn' hRS HKa c3 t3 HX1 HX2 HB1
      go_wp2_with fail
      go_loopw [6] (fun i wr => ∃ k : Nat, k ≤ n' ∧ i = .int .i64 k ∧ Below wB.heap.size wB wr) (fun i _ => n' - (intOf i).toNat)
      case atStart => exact ⟨0, Nat.zero_le _, rfl, fr_refl _⟩
      case round =>
        obtain ⟨k, hk, rfl, hb⟩ := hrel
        have HB := Lib.hid hb
        have HXX := Lib.hid (HXB.out.fr hb)
        have HPR := Lib.hid (HPL.out.fr hb)
        have HWR := Lib.hid (fr_trans HWB.out hb)
        clear hb
        by_cases hlt : k < n'
        · have hkl : k < l'.length := by have := HL.out; omega
          obtain ⟨b, off, rfl, hbl, hcell⟩ := HPR.out (by omega)
          have h1 := (hcell k hkl).1
          have r0 : wr.cell? ⟨w.heap.size, 0, none⟩ = some (.string m) := HXX.out.cell 0
          have r1 : wr.cell? ⟨w.heap.size, 1, none⟩ = some (.string tg) := HXX.out.cell 1
          have r2 : wr.cell? ⟨w.heap.size, 2, none⟩ = some (.int .i64 mn) := HXX.out.cell 2
          have r3 : wr.cell? ⟨w.heap.size, 3, none⟩ = some (.slice A n c) := HXX.out.cell 3
          have r4 : wr.cell? ⟨w.heap.size, 4, none⟩ = some (.string bd) := HXX.out.cell 4
          obtain ⟨nk, hnk⟩ : ∃ x, l'[k].1 = x := ⟨_, rfl⟩
          have HGP := Lib.hid (fun e => vo_proxy HPM.out hkl (hnk.trans e))
          have HGA := Lib.hid (fun e => vo_auth HPM.out hkl (hnk.trans e))
          obtain ⟨P, hP⟩ : ∃ x, eqB nk ⟨#[72, 84, 84, 80, 95, 80, 82, 79, 88, 89]⟩ = x := ⟨_, rfl⟩
          obtain ⟨Q, hQ⟩ : ∃ x, eqB nk ⟨#[72, 84, 84, 80, 95, 65, 85, 84, 72, 79, 82, 73, 90, 65, 84, 73, 79, 78]⟩ = x := ⟨_, rfl⟩
          have hP2 : (nk.toList == [72, 84, 84, 80, 95, 80, 82, 79, 88, 89]) = P := by rw [← hP]; unfold eqB; kernel_rfl
          have hQ2 : (nk.toList == [72, 84, 84, 80, 95, 65, 85, 84, 72, 79, 82, 73, 90, 65, 84, 73, 79, 78]) = Q := by rw [← hQ]; unfold eqB; kernel_rfl
          have HPE := Lib.hid hP; have HQE := Lib.hid hQ
          have kI : (k : Int) < (n' : Int) := by omega
          have k0 : (0 : Int) ≤ (k : Int) := by omega
          have HKW := Lib.hid (show wrap64 ((k : Int) + 1) = (k : Int) + 1 from wrap_succ k (by have := HN1.out; omega))
          have HCELL := Lib.hid hcell; have HNK := Lib.hid hnk
          rw [hnk] at h1
          clear hP hQ hnk hcell
          by_cases hk0 : k = 0
          · have hgt : ¬ (0 : Int) < (k : Int) := by omega
            clear HCELL HNK hk0
            cases P with
            | false =>
              cases Q with
              | false =>
                go_wp2_with fail
                go_roundw
                case measure => (try rw [HKW.out]); exact meas hlt .i64 .i64
                case rel => exact ⟨k + 1, hlt, by (try rw [HKW.out]); rfl, HB.out⟩
              | true =>
                have HG := Lib.hid (HGA.out (eqB_iff.1 HQE.out))
                go_wp2_with fail
                refine (given_yes m tg mn A n c fl bd _ wr HN.out (by have := HN20.out; omega) (HP.out.fr HWR.out) HS.out (by decide) HG.out).mono ?_
                rintro e w3 ⟨rfl, hb3⟩
                have HB3 := Lib.hid (fr_trans HB.out hb3)
                clear hb3
                go_wp2
                go_roundw
                case measure => (try rw [HKW.out]); exact meas hlt .i64 .i64
                case rel => exact ⟨k + 1, hlt, by (try rw [HKW.out]); rfl, HB3.out⟩
            | true =>
              have HG := Lib.hid (HGP.out (eqB_iff.1 HPE.out))
              obtain rfl : Q = false := by rw [← HQE.out, eqB_iff.1 HPE.out, eqE_eq]; kernel_rfl
              go_wp2_with fail
              refine (given_yes m tg mn A n c fl bd _ wr HN.out (by have := HN20.out; omega) (HP.out.fr HWR.out) HS.out (by decide) HG.out).mono ?_
              rintro e w3 ⟨rfl, hb3⟩
              have HB3 := Lib.hid (fr_trans HB.out hb3)
              clear hb3
              go_wp2
              go_roundw
              case measure => (try rw [HKW.out]); exact meas hlt .i64 .i64
              case rel => exact ⟨k + 1, hlt, by (try rw [HKW.out]); rfl, HB3.out⟩
          · obtain ⟨j, hj⟩ : ∃ j, k = j + 1 := ⟨k - 1, by omega⟩
            have h2 := (HCELL.out j (by omega)).1
            have hlt2 := srt_lt HSRT.out (vo_nd HPM.out) hkl (show j < k by omega)
            have hgt : (0 : Int) < (k : Int) := by omega
            have hkj : (k : Int) - 1 = (j : Int) := by omega
            have jI : (j : Int) < (n' : Int) := by omega
            obtain ⟨nj, hnj⟩ : ∃ x, l'[j].1 = x := ⟨_, rfl⟩
            rw [hnj] at h2
            unfold cmpP at hlt2
            rw [hnj, HNK.out] at hlt2
            have hless : Op.bytesLess nj.toList nk.toList = true := by rw [toList_data, toList_data, bless_eq]; exact decide_eq_true hlt2
            have hjw := wrap_nat j (by have := HN1.out; omega)
            clear HCELL HNK hnj hj hlt2
            cases P with
            | false =>
              cases Q with
              | false =>
                go_wp2_with fail
                go_roundw
                case measure => (try rw [HKW.out]); exact meas hlt .i64 .i64
                case rel => exact ⟨k + 1, hlt, by (try rw [HKW.out]); rfl, HB.out⟩
              | true =>
                have HG := Lib.hid (HGA.out (eqB_iff.1 HQE.out))
                go_wp2_with fail
                refine (given_yes m tg mn A n c fl bd _ wr HN.out (by have := HN20.out; omega) (HP.out.fr HWR.out) HS.out (by decide) HG.out).mono ?_
                rintro e w3 ⟨rfl, hb3⟩
                have HB3 := Lib.hid (fr_trans HB.out hb3)
                clear hb3
                go_wp2
                go_roundw
                case measure => (try rw [HKW.out]); exact meas hlt .i64 .i64
                case rel => exact ⟨k + 1, hlt, by (try rw [HKW.out]); rfl, HB3.out⟩
            | true =>
              have HG := Lib.hid (HGP.out (eqB_iff.1 HPE.out))
              obtain rfl : Q = false := by rw [← HQE.out, eqB_iff.1 HPE.out, eqE_eq]; kernel_rfl
              go_wp2_with fail
              refine (given_yes m tg mn A n c fl bd _ wr HN.out (by have := HN20.out; omega) (HP.out.fr HWR.out) HS.out (by decide) HG.out).mono ?_
              rintro e w3 ⟨rfl, hb3⟩
              have HB3 := Lib.hid (fr_trans HB.out hb3)
              clear hb3
              go_wp2
              go_roundw
              case measure => (try rw [HKW.out]); exact meas hlt .i64 .i64
              case rel => exact ⟨k + 1, hlt, by (try rw [HKW.out]); rfl, HB3.out⟩
        · have kI : ¬ (k : Int) < (n' : Int) := by omega
          have HG1 := Lib.hid (vo_method HPM.out); have HG2 := Lib.hid (vo_software HPM.out)
          go_wp2_with fail
          refine (get_yes m HL.out HPR.out (by have := HN1.out; omega) HG1.out).mono ?_
          rintro e w3 ⟨rfl, rfl⟩
          go_wp2_with fail
          refine (get_yes ⟨#[99, 111, 110, 100, 117, 105, 116]⟩ HL.out HPR.out (by have := HN1.out; omega) HG2.out).mono ?_
          rintro e w4 ⟨rfl, rfl⟩
          have r0 : wr.cell? ⟨w.heap.size, 0, none⟩ = some (.string m) := HXX.out.cell 0
          go_wp2
          go_ret
          exact ⟨rfl, HWR.out⟩
    · have h10I : (10 : Int) < (nn : Int) := by omega
      go_wp2
      go_ret
      exact ⟨rfl, HB1.out⟩
  · have h20I : (20 : Int) < (n : Int) := by omega
    go_wp2
    go_ret
    exact ⟨rfl, HB1.out⟩
end Go.Proofs.YtdlignhlliellaaDoor
