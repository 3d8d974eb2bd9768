/- conduitref6.Has. -/
import Derived.Test.YtdagppbpeibdgaaDoorRF2
namespace Go.Proofs.YtdagppbpeibdgaaDoor
set_option linter.unusedVariables false
set_option linter.unusedSimpArgs false
open Go.RowKit

set_option maxRecDepth 100000 in
set_option maxHeartbeats 4000000 in
theorem ref6_Has (A : Option Addr) (c n : Nat) (l : List Pr) (name word : ByteArray) (w : World) (hn : l.length = n) (hl : n ≤ 4398046511103) (hp : Pairs w A l) (hz : name.size ≤ 9223372036854775807) (hw : word.size ≤ 9223372036854775807)
    (hs : ∀ p ∈ l, p.1.size ≤ 9223372036854775807) (hv : ∀ v ∈ getS l name, v.size ≤ 1000000000) :
    Calls Tryd.prog 34 #[.slice A n c, .string name, .string word] w fun e w' => e = .returned (.bool (hasS l name word)) ∧ Below w.heap.size w w' := by
  have hget := ref6_Get A c n l name w hn hl hp hz hs
  have hlen : (getS l name).length ≤ n := by rw [← hn]; exact getS_len l name
  have hH : hasS l name word = (getS l name).any fun v => (listS v).any (isW word) := rfl
  obtain ⟨vs, hvs⟩ : ∃ v, getS l name = v := ⟨_, rfl⟩
  rw [hvs] at hget hlen hv hH
  obtain ⟨m, hmm⟩ : ∃ m, vs.length = m := ⟨_, rfl⟩
  rw [hmm] at hget hlen
  have HGET := Lib.hid hget; have HV := Lib.hid hv; have HH := Lib.hid hH; have HMM := Lib.hid hmm
  have hm9 : m ≤ 4398046511103 := by omega
  clear hget hlen hv hH hvs hmm hp hs hn hl
  go_enter Tryd.func34, Tryd.ntmps34
  go_wp2_with fail
  refine HGET.out.mono ?_
  rintro e w1 ⟨⟨A1, c1, rfl, hS⟩, hb1⟩
  have HS := Lib.hid hS; have H1 := Lib.hid hb1
  clear hS hb1
  go_wp2
  go_loopw [8] (fun i wr => ∃ k : Nat, k ≤ m ∧ i = .int .i64 k ∧ Below w1.heap.size w1 wr ∧ ((vs.take k).any fun v => (listS v).any (isW word)) = false) (fun i _ => m - (intOf i).toNat)
  case atStart => exact ⟨0, Nat.zero_le _, rfl, fr_refl _, rfl⟩
  case round =>
    obtain ⟨k, hk, rfl, hb, hall⟩ := hrel
    have HB := Lib.hid hb; have HA := Lib.hid hall
    clear hb hall
    by_cases hlt : k < m
    · have hkl : k < vs.length := by have := HMM.out; omega
      obtain ⟨b, off, rfl, hbl, hc⟩ := (HS.out.fr HB.out).at_ hkl
      have hxm := HV.out vs[k] (List.getElem_mem hkl)
      obtain ⟨x, hx⟩ : ∃ x, vs[k] = x := ⟨_, rfl⟩
      rw [hx] at hc hxm
      have HX := Lib.hid hx
      have hll := listS_len x
      have hlm : ∀ y ∈ listS x, y.size ≤ 9223372036854775807 := fun y hy => by have := listS_mem hy; omega
      have hlist := fun W => ref1_List x W hxm
      obtain ⟨ls, hls⟩ : ∃ l, listS x = l := ⟨_, rfl⟩
      rw [hls] at hll hlm hlist
      obtain ⟨q, hq⟩ : ∃ q, ls.length = q := ⟨_, rfl⟩
      rw [hq] at hll hlist
      have kI : (k : Int) < (m : Int) := by omega
      have k0 : (0 : Int) ≤ (k : Int) := by omega
      have hq9 : q ≤ 4398046511103 := by omega
      have HLM := Lib.hid hlm; have HLI := Lib.hid hlist; have HLS := Lib.hid hls; have HQ := Lib.hid hq
      clear hx hlm hlist hls hq hll hxm
      go_wp2_with fail
      refine (HLI.out _).mono ?_
      rintro e w2 ⟨⟨A2, c2, rfl, hS2⟩, hb2⟩
      have HS2 := Lib.hid hS2; have HB2 := Lib.hid (fr_trans HB.out hb2)
      clear hS2 hb2 hc
      go_wp2
      go_loopw [10] (fun i wr2 => ∃ k2 : Nat, k2 ≤ q ∧ i = .int .i64 k2 ∧ Below w2.heap.size w2 wr2 ∧ (ls.take k2).any (isW word) = false) (fun i _ => q - (intOf i).toNat)
      case atStart => exact ⟨0, Nat.zero_le _, rfl, fr_refl _, rfl⟩
      case round =>
        obtain ⟨k2, hk2, rfl, hb2, hall2⟩ := hrel
        have HB3 := Lib.hid hb2; have HA2 := Lib.hid hall2
        clear hb2 hall2
        by_cases hlt2 : k2 < q
        · have hkl2 : k2 < ls.length := by have := HQ.out; omega
          obtain ⟨b2, off2, rfl, hbl2, hc2⟩ := (HS2.out.fr HB3.out).at_ hkl2
          have hym := HLM.out ls[k2] (List.getElem_mem hkl2)
          obtain ⟨y, hy⟩ : ∃ y, ls[k2] = y := ⟨_, rfl⟩
          rw [hy] at hc2 hym
          have HY := Lib.hid hy
          clear hy
          have kI2 : (k2 : Int) < (q : Int) := by omega
          have k02 : (0 : Int) ≤ (k2 : Int) := by omega
          go_wp2_with fail
          refine (ref1_Lower y _ hym).mono ?_
          rintro e w4 ⟨rfl, hb4⟩
          go_wp2_with fail
          refine (ref1_Lower word _ hw).mono ?_
          rintro e w5 ⟨rfl, hb5⟩
          have HB5 := Lib.hid (fr_trans (fr_trans HB3.out hb4) hb5)
          clear hb4 hb5 hc2
          cases hiw : isW word y
          · have HIW := Lib.hid hiw
            unfold isW eqB at hiw
            go_wp2
            go_roundw
            case measure => exact meas hlt2 .i64 .i64
            case rel => exact ⟨k2 + 1, by omega, by go_num, HB5.out, by rw [List.take_succ_eq_append_getElem hkl2, List.any_append, HA2.out, HY.out]; simp [HIW.out]⟩
          · have HIW := Lib.hid hiw
            unfold isW eqB at hiw
            go_wp2
            go_ret
            refine ⟨?_, fr_trans H1.out (fr_trans HB2.out HB5.out)⟩
            rw [HH.out]
            have hany : ls.any (isW word) = true := List.any_eq_true.2 ⟨y, by rw [← HY.out]; exact List.getElem_mem hkl2, HIW.out⟩
            have : (vs.any fun v => (listS v).any (isW word)) = true := List.any_eq_true.2 ⟨x, by rw [← HX.out]; exact List.getElem_mem hkl, by rw [HLS.out]; exact hany⟩
            rw [this]; rfl
        · have e : ls.take k2 = ls := List.take_of_length_le (by have := HQ.out; omega)
          have ha := HA2.out
          rw [e] at ha
          have HA3 := Lib.hid ha
          clear e ha
          go_wp2
          go_roundw
          case measure => exact meas hlt .i64 .i64
          case rel => exact ⟨k + 1, by omega, by go_num, fr_trans HB2.out HB3.out, by rw [List.take_succ_eq_append_getElem hkl, List.any_append, HA.out, HX.out]; simp [HLS.out, HA3.out]⟩
    · have e : vs.take k = vs := List.take_of_length_le (by have := HMM.out; omega)
      have ha := HA.out
      rw [e] at ha
      have HA2 := Lib.hid ha
      clear e ha
      go_wp2
      go_ret
      exact ⟨by rw [HH.out, HA2.out]; rfl, fr_trans H1.out HB.out⟩
end Go.Proofs.YtdagppbpeibdgaaDoor
