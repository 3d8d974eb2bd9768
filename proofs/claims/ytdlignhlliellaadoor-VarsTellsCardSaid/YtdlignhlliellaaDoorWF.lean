/- conduitref11.has, fields: the fields' variables, put one by one, each with all values of its name. -/
import Derived.Test.YtdlignhlliellaaDoorWPut
import Derived.Test.YtdlignhlliellaaDoorWN
import Derived.Test.YtdlignhlliellaaDoorWPm
namespace Go.Proofs.YtdlignhlliellaaDoor
set_option linter.unusedVariables false
set_option linter.unusedSimpArgs false
open Go.RowKit

set_option maxHeartbeats 1000000 in
theorem ref11_has (A : Option Addr) (n c : Nat) (l : List ByteArray) (x : ByteArray) (w : World) (hn : l.length = n) (hS : Strs w A l) (hn9 : n ≤ 1000) :
    Calls Tryd.prog 43 #[.slice A n c, .string x] w fun e w' => e = .returned (.bool (hasB l x)) ∧ w = w' := by
  have HN := Lib.hid hn; have HS := Lib.hid hS; have HN9 := Lib.hid hn9
  clear hn hS hn9
  go_enter Tryd.func43, Tryd.ntmps43
  go_wp2
  go_loop [5] (fun i => ∃ k : Nat, k ≤ n ∧ i = .int .i64 k ∧ hasB (l.take k) x = false) (fun i => n - (intOf i).toNat)
  case atStart => exact ⟨0, Nat.zero_le _, rfl, rfl⟩
  case round =>
    obtain ⟨k, hk, rfl, hall⟩ := hrel
    have HA := Lib.hid hall; clear hall
    by_cases hlt : k < n
    · have hkl : k < l.length := by have := HN.out; omega
      obtain ⟨b, off, rfl, hbl, hcell⟩ := HS.out (by omega)
      have h1 := hcell k hkl
      have htk : hasB (l.take (k + 1)) x = eqB x l[k] := by unfold hasB; rw [List.take_succ_eq_append_getElem hkl, List.any_append]; have := HA.out; unfold hasB at this; rw [this]; simp
      have hany : eqB x l[k] = true → hasB l x = true := fun h => List.any_eq_true.2 ⟨l[k], List.getElem_mem hkl, h⟩
      obtain ⟨y, hy⟩ : ∃ y, l[k] = y := ⟨_, rfl⟩
      rw [hy] at h1 htk hany
      obtain ⟨E, hE⟩ : ∃ e, eqB x y = e := ⟨_, rfl⟩
      have hE2 : (y.toList == x.toList) = E := by
        have : eqB y x = eqB x y := by
          cases h : eqB x y
          · rw [eqB_no] at h ⊢; exact fun e => h e.symm
          · rw [eqB_iff] at h ⊢; exact h.symm
        rw [← hE, ← this]; rfl
      rw [hE] at htk hany
      have HTK := Lib.hid htk; have HANY := Lib.hid hany
      have HKW := Lib.hid (IntWalk.wrap64_in ((k : Int) + 1) (by have := HN9.out; omega))
      have kI : (k : Int) < (n : Int) := by omega
      have k0 : (0 : Int) ≤ (k : Int) := by omega
      clear hcell htk hany hy hE
      cases E with
      | true =>
        have HR := Lib.hid (HANY.out rfl)
        go_wp2
        go_ret
        exact ⟨by rw [HR.out]; rfl, rfl⟩
      | false =>
        go_wp2
        go_round
        case measure => (try rw [HKW.out]); exact meas hlt .i64 .i64
        case rel => exact ⟨k + 1, hlt, by (try rw [HKW.out]); rfl, HTK.out⟩
    · have e : l.take k = l := List.take_of_length_le (by have := HN.out; omega)
      have hz := HA.out
      rw [e] at hz
      have HZ := Lib.hid hz
      clear hz e
      go_wp2
      go_ret
      exact ⟨by rw [HZ.out]; rfl, rfl⟩
set_option maxRecDepth 100000 in
set_option maxHeartbeats 8000000 in
theorem ref11_fields (A : Option Addr) (n c : Nat) (l0 : List Pr) (B : Option Addr) (nb cb : Nat) (fl : List Pr) (w : World) (hn : l0.length = n) (hn9 : n ≤ 100) (hc : n ≤ c) (hp : Pairs w A l0) (hnb : fl.length = nb) (hnb9 : nb ≤ 20) (hpb : Pairs w B fl) (hs : ∀ p ∈ fl, p.1.size ≤ 140737488351232 ∧ p.2.size ≤ 140737488351232) :
    Calls Tryd.prog 31 #[.slice A n c, .slice B nb cb] w fun e w' => (∃ A' m c', e = .returned (.slice A' m c') ∧ (refF fl fl l0).length = m ∧ m ≤ c' ∧ Pairs w' A' (refF fl fl l0)) ∧ Below w.heap.size w w' := by
  obtain ⟨W1, hW1⟩ : ∃ x, w.alloc (.cells (keptL.map Value.string).toArray 9) = x := ⟨_, rfl⟩
  have hS := Strs.new w keptL 9
  rw [hW1] at hS
  have hf : Below w.heap.size w W1 := hW1 ▸ fr_alloc (fr_refl w) _
  have HS1 := Lib.hid hS; have HF1 := Lib.hid hf; have HEW := Lib.hid hW1
  have HN := Lib.hid hn; have HN9 := Lib.hid hn9; have HC := Lib.hid hc; have HP := Lib.hid (hp.fr hf); have HNB := Lib.hid hnb; have HNB9 := Lib.hid hnb9; have HPB := Lib.hid (hpb.fr hf); have HSZ := Lib.hid hs
  clear hS hf hW1 hn hn9 hc hp hnb hnb9 hpb hs
  go_enter Tryd.func31, Tryd.ntmps31
  go_wp2_with fail
  change Code.wp _ _ _ _ (w.alloc (.cells (keptL.map Value.string).toArray 9))
  rw [HEW.out]
  clear HEW
  go_loopw [0, 6] (fun v i wr => ∃ (k : Nat) (A' : Option Addr) (m c' : Nat), k ≤ nb ∧ i = .int .i64 k ∧ v = .slice A' m c' ∧ (refF fl (fl.take k) l0).length = m ∧ m ≤ c' ∧ Pairs wr A' (refF fl (fl.take k) l0) ∧ Below W1.heap.size W1 wr) (fun _ i _ => nb - (intOf i).toNat)
  case atStart => exact ⟨0, A, n, c, Nat.zero_le _, rfl, rfl, HN.out, HC.out, HP.out, fr_refl _⟩
  case round =>
    obtain ⟨k, A', m, c', hk, rfl, rfl, hm, hmc, hpl, hb⟩ := hrel
    have HM := Lib.hid hm; have HMC := Lib.hid hmc; have HPL := Lib.hid hpl; have HB := Lib.hid hb
    clear hm hmc hpl hb
    by_cases hlt : k < nb
    · have hkl : k < fl.length := by have := HNB.out; omega
      obtain ⟨b, off, rfl, hbl, hcell⟩ := (HPB.out.fr HB.out) (by omega)
      have h1 := (hcell k hkl).1
      have hsz := HSZ.out fl[k] (List.getElem_mem hkl)
      have hst := refF_snoc fl (fl.take k) fl[k] l0
      rw [← List.take_succ_eq_append_getElem hkl] at hst
      obtain ⟨⟨pn, pv⟩, hpe⟩ : ∃ p, fl[k] = p := ⟨_, rfl⟩
      rw [hpe] at h1 hsz hst
      simp only at h1 hsz hst
      obtain ⟨K, hK⟩ : ∃ x, isKept pn = x := ⟨_, rfl⟩
      obtain ⟨nm, hnm⟩ : ∃ x, nmB pn = x := ⟨_, rfl⟩
      have hnm2 : (⟨#[72, 84, 84, 80, 95]⟩ ++ greatB pn) = nm := hnm
      obtain ⟨lw, hlw⟩ : ∃ x, lowB pn = x := ⟨_, rfl⟩
      have hk2 : hasB keptL lw = K := by rw [← hlw]; exact hK
      have hnmc := fun W => ref_Name pn W (by omega)
      rw [hnm2] at hnmc
      have hlwc := fun W => ref1_Lower pn W (by omega)
      rw [hlw] at hlwc
      rw [hK, hnm] at hst
      have HST := Lib.hid hst; have HNM := Lib.hid hnmc; have HLW := Lib.hid hlwc; have HK2 := Lib.hid hk2
      have HKW := Lib.hid (IntWalk.wrap64_in ((k : Int) + 1) (by have := HNB9.out; omega))
      have kI : (k : Int) < (nb : Int) := by omega
      have k0 : (0 : Int) ≤ (k : Int) := by omega
      have HCELL := Lib.hid hcell
      clear hcell hsz hst hpe hK hnm hnm2 hlw hk2 hnmc hlwc
      go_wp2_with fail
      refine (HNM.out _).mono ?_
      rintro e w2 ⟨rfl, hb2⟩
      have h1' := fr_cell hb2 h1
      have HB2 := Lib.hid hb2
      clear hb2
      go_wp2_with fail
      refine (HLW.out _).mono ?_
      rintro e w3 ⟨rfl, hb3⟩
      have HB3 := Lib.hid (fr_trans HB2.out hb3)
      clear hb3 HB2
      go_wp2_with fail
      refine (ref11_has _ 7 7 keptL lw w3 rfl (HS1.out.fr (fr_trans HB.out HB3.out)) (by decide)).mono ?_
      rintro e w4 ⟨rfl, rfl⟩
      rw [HK2.out]
      cases K with
      | true =>
        go_wp2
        go_roundw
        case measure => (try rw [HKW.out]); exact meas hlt .i64 .i64
        case rel => exact ⟨k + 1, A', m, c', hlt, by (try rw [HKW.out]); rfl, rfl, by rw [HST.out]; exact HM.out, HMC.out, by rw [HST.out]; exact HPL.out.fr HB3.out, fr_trans HB.out HB3.out⟩
      | false =>
        have h1'' := fr_cell HB3.out h1
        have HB4 := Lib.hid (fr_trans HB.out HB3.out)
        clear h1' h1 h1''
        obtain ⟨CK, hCK⟩ : ∃ x, eqB nm ⟨#[72, 84, 84, 80, 95, 67, 79, 79, 75, 73, 69]⟩ = x := ⟨_, rfl⟩
        have hck2 : (nm.toList == [72, 84, 84, 80, 95, 67, 79, 79, 75, 73, 69]) = CK := by rw [← hCK]; unfold eqB; kernel_rfl
        have HSEP := Lib.hid (show sepB nm = if CK then ⟨#[59, 32]⟩ else ⟨#[44, 32]⟩ by unfold sepB; rw [hCK])
        clear hCK
        go_wp2
        go_loopw [8, 9, 10] (fun v sm q wr2 => ∃ (j : Nat) (o : Option ByteArray), j ≤ nb ∧ q = .int .i64 j ∧ jnS (fl.take j) nm none = o ∧ v = .string (jnV o) ∧ sm = .bool o.isSome ∧ Below w3.heap.size w3 wr2) (fun _ _ q _ => nb - (intOf q).toNat)
        case atStart => exact ⟨0, none, Nat.zero_le _, rfl, rfl, rfl, rfl, fr_refl _⟩
        case round =>
          obtain ⟨j, o, hj, rfl, ho, rfl, rfl, hb5⟩ := hrel
          have HO := Lib.hid ho; have HB5 := Lib.hid hb5; have HB6 := Lib.hid (fr_trans HB4.out hb5)
          clear ho hb5
          by_cases hlt2 : j < nb
          · have hjl : j < fl.length := by have := HNB.out; omega
            obtain ⟨b2, off2, e2, hbl2, hcell2⟩ := (HPB.out.fr HB6.out) (by omega)
            injection e2 with e2
            injection e2 with e3 e4
            subst e3 e4
            obtain ⟨h1, h2⟩ := hcell2 j hjl
            have hsz := HSZ.out fl[j] (List.getElem_mem hjl)
            have hst2 := jnS_snoc (fl.take j) fl[j] nm none
            rw [← List.take_succ_eq_append_getElem hjl, HO.out] at hst2
            have hvz := jnS_size nm 140737488351232 (fl.take j) none 0 (fun p hp => (HSZ.out p (List.mem_of_mem_take hp)).2) (by show (0 : Nat) ≤ 0; exact Nat.le_refl _)
            rw [HO.out, List.length_take] at hvz
            have hvz2 : (jnV o).size ≤ 3000000000000000 := by have := HNB9.out; omega
            obtain ⟨⟨qn, qv⟩, hqe⟩ : ∃ p, fl[j] = p := ⟨_, rfl⟩
            rw [hqe] at h1 h2 hsz hst2
            simp only at h1 h2 hsz
            obtain ⟨K2, hK2⟩ : ∃ x, isKept qn = x := ⟨_, rfl⟩
            obtain ⟨qm, hqm⟩ : ∃ x, nmB qn = x := ⟨_, rfl⟩
            have hqm2 : (⟨#[72, 84, 84, 80, 95]⟩ ++ greatB qn) = qm := hqm
            obtain ⟨lw2, hlw2⟩ : ∃ x, lowB qn = x := ⟨_, rfl⟩
            have hk22 : hasB keptL lw2 = K2 := by rw [← hlw2]; exact hK2
            have hqmc := fun W => ref_Name qn W (by omega)
            rw [hqm2] at hqmc
            have hlwc2 := fun W => ref1_Lower qn W (by omega)
            rw [hlw2] at hlwc2
            obtain ⟨E, hE⟩ : ∃ x, eqB qm nm = x := ⟨_, rfl⟩
            have hE2 : (qm.toList == nm.toList) = E := hE
            have hE3 : (qm.toList != nm.toList) = !E := by rw [← hE]; rfl
            have hcond : (isKept (qn, qv).1 || !(eqB (nmB (qn, qv).1) nm)) = (K2 || !E) := by show (isKept qn || !(eqB (nmB qn) nm)) = _; rw [hK2, hqm, hE]
            have HQM := Lib.hid hqmc; have HLW2 := Lib.hid hlwc2; have HK22 := Lib.hid hk22; have HST2 := Lib.hid hst2; have HCOND := Lib.hid hcond
            have HKW2 := Lib.hid (IntWalk.wrap64_in ((j : Int) + 1) (by have := HNB9.out; omega))
            have jI : (j : Int) < (nb : Int) := by omega
            have j0 : (0 : Int) ≤ (j : Int) := by omega
            have s1 : ¬ 9223372036854775807 < (jnV o).size + 2 := by omega
            have s2 : ¬ 9223372036854775807 < (jnV o).size + 2 + qv.size := by omega
            have s3 : ¬ 9223372036854775807 < (jnV o).size + qv.size := by omega
            have s4 : ¬ 9223372036854775807 < qv.size := by omega
            clear hcell2 hsz hst2 hvz hvz2 hqe hK2 hqm hqm2 hlw2 hk22 hqmc hlwc2 hE hcond
            go_wp2_with fail
            refine (HLW2.out _).mono ?_
            rintro e w5 ⟨rfl, hb7⟩
            have h1' := fr_cell hb7 h1
            have h2' := fr_cell hb7 h2
            have HB7 := Lib.hid hb7
            clear hb7
            go_wp2_with fail
            refine (ref11_has _ 7 7 keptL lw2 w5 rfl (HS1.out.fr (fr_trans HB6.out HB7.out)) (by decide)).mono ?_
            rintro e w6 ⟨rfl, rfl⟩
            rw [HK22.out]
            cases K2 with
            | true =>
              go_wp2
              go_roundw
              case measure => (try rw [HKW2.out]); exact meas hlt2 .i64 .i64
              case rel => exact ⟨j + 1, o, hlt2, by (try rw [HKW2.out]); rfl, by rw [HST2.out, jnP_no (by rw [HCOND.out]; rfl)], rfl, rfl, fr_trans HB5.out HB7.out⟩
            | false =>
              go_wp2_with fail
              refine (HQM.out _).mono ?_
              rintro e w7 ⟨rfl, hb8⟩
              have h2'' := fr_cell hb8 h2'
              have HB8 := Lib.hid (fr_trans HB7.out hb8)
              clear hb8
              cases E with
              | false =>
                go_wp2
                go_roundw
                case measure => (try rw [HKW2.out]); exact meas hlt2 .i64 .i64
                case rel => exact ⟨j + 1, o, hlt2, by (try rw [HKW2.out]); rfl, by rw [HST2.out, jnP_no (by rw [HCOND.out]; rfl)], rfl, rfl, fr_trans HB5.out HB8.out⟩
              | true =>
                cases o with
                | none =>
                  have s5 : ¬ 9223372036854775807 < (⟨#[]⟩ : ByteArray).size + qv.size := s3
                  go_wp2
                  go_roundw
                  case measure => (try rw [HKW2.out]); exact meas hlt2 .i64 .i64
                  case rel => exact ⟨j + 1, some qv, hlt2, by (try rw [HKW2.out]); rfl, by rw [HST2.out, jnP_first (by rw [HCOND.out]; rfl)], congrArg Value.string (ByteArray.empty_append (b := qv)), rfl, fr_trans HB5.out HB8.out⟩
                | some u =>
                  have s1' : ¬ 9223372036854775807 < u.size + 2 := s1
                  have s2' : ¬ 9223372036854775807 < u.size + 2 + qv.size := s2
                  have HAS := Lib.hid (ByteArray.append_assoc (a := u) (b := sepB nm) (c := qv))
                  cases CK with
                  | true =>
                    go_wp2
                    go_roundw
                    case measure => (try rw [HKW2.out]); exact meas hlt2 .i64 .i64
                    case rel => exact ⟨j + 1, some (u ++ (sepB nm ++ qv)), hlt2, by (try rw [HKW2.out]); rfl, by rw [HST2.out, jnP_more (by rw [HCOND.out]; rfl)], by rw [← HAS.out, HSEP.out]; rfl, rfl, fr_trans HB5.out HB8.out⟩
                  | false =>
                    go_wp2
                    go_roundw
                    case measure => (try rw [HKW2.out]); exact meas hlt2 .i64 .i64
                    case rel => exact ⟨j + 1, some (u ++ (sepB nm ++ qv)), hlt2, by (try rw [HKW2.out]); rfl, by rw [HST2.out, jnP_more (by rw [HCOND.out]; rfl)], by rw [← HAS.out, HSEP.out]; rfl, rfl, fr_trans HB5.out HB8.out⟩
          · have e : fl.take j = fl := List.take_of_length_le (by have := HNB.out; omega)
            have ho2 := HO.out
            rw [e] at ho2
            have HO2 := Lib.hid ho2
            clear ho2 e
            have hml : m ≤ 120 := by
              have := refF_len fl (fl.take k) l0
              rw [HM.out, HN.out, List.length_take] at this
              have := HN9.out; have := HNB9.out; omega
            have HPUT := Lib.hid (ref_put A' m c' (refF fl (fl.take k) l0) nm (jnV o) wr HM.out (by omega) HMC.out ((HPL.out.fr HB3.out).fr HB5.out))
            clear hml
            go_wp2_with fail
            refine HPUT.out.mono ?_
            rintro e w8 ⟨⟨A2, m2, c2, rfl, hm2, hc2, hp2⟩, hb9⟩
            have HM2 := Lib.hid hm2; have HC2 := Lib.hid hc2; have HP2 := Lib.hid hp2; have HB9 := Lib.hid (fr_trans HB6.out hb9)
            clear hm2 hc2 hp2 hb9
            go_wp2
            go_roundw
            case measure => (try rw [HKW.out]); exact meas hlt .i64 .i64
            case rel =>
              have hfin : refF fl (fl.take (k + 1)) l0 = putL (refF fl (fl.take k) l0) nm (jnV o) := by rw [HST.out, if_neg (by decide), HO2.out]
              exact ⟨k + 1, A2, m2, c2, hlt, by (try rw [HKW.out]); rfl, rfl, by rw [hfin]; exact HM2.out, HC2.out, by rw [hfin]; exact HP2.out, HB9.out⟩
    · have e : fl.take k = fl := List.take_of_length_le (by have := HNB.out; omega)
      have hm2 := HM.out
      have hp2 := HPL.out
      rw [e] at hm2 hp2
      have HM2 := Lib.hid hm2; have HP2 := Lib.hid hp2
      clear hm2 hp2 e
      go_wp2
      go_ret
      exact ⟨⟨A', m, c', rfl, HM2.out, HMC.out, HP2.out⟩, fr_trans HF1.out HB.out⟩
end Go.Proofs.YtdlignhlliellaaDoor
