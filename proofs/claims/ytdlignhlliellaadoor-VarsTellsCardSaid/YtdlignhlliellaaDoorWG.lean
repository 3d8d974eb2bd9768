/- conduitlaw15.given. -/
import Derived.Test.YtdlignhlliellaaDoorWN
import Derived.Test.YtdlignhlliellaaDoorVm
import Derived.IntWalk
namespace Go.Proofs.YtdlignhlliellaaDoor
set_option linter.unusedVariables false
set_option linter.unusedSimpArgs false
open Go.RowKit

def givP (nm : ByteArray) (p : Pr) : Bool := !(eqB (lowB p.1) nm) && eqB (nmB p.1) (nmB nm)
def givenL (l : List Pr) (nm : ByteArray) : Bool := l.any (givP nm)
set_option maxRecDepth 100000 in
set_option maxHeartbeats 2000000 in
theorem law15_given (m tg : ByteArray) (mn : Int) (A : Option Addr) (n c : Nat) (fl : List Pr) (bd nm : ByteArray) (w : World) (hn : fl.length = n) (hn9 : n ≤ 1000) (hp : Pairs w A fl) (hs : ∀ p ∈ fl, p.1.size ≤ 140737488351232 ∧ p.2.size ≤ 140737488351232) (hnm : nm.size ≤ 100) :
    Calls Tryd.prog 12 #[.agg #[.string m, .string tg, .int .i64 mn, .slice A n c, .string bd], .string nm] w fun e w' => e = .returned (.bool (givenL fl nm)) ∧ Below w.heap.size w w' := by
  have HN := Lib.hid hn; have HP := Lib.hid hp; have HS := Lib.hid hs; have HNM := Lib.hid hnm; have HN9 := Lib.hid hn9
  have hX0 := Blk.new w 27 #[.string m, .string tg, .int .i64 mn, .slice A n c, .string bd]
  have HX := Lib.hid hX0
  clear hn hp hs hnm hX0 hn9
  go_enter Tryd.func12, Tryd.ntmps12
  go_wp2
  go_loopw [5] (fun i wr => ∃ k : Nat, k ≤ n ∧ i = .int .i64 k ∧ Below (w.heap.size + 1) (w.alloc (.cells #[.string m, .string tg, .int .i64 mn, .slice A n c, .string bd] 27)) wr ∧ givenL (fl.take k) nm = false) (fun i _ => n - (intOf i).toNat)
  case atStart => exact ⟨0, Nat.zero_le _, rfl, Below.refl _ _, rfl⟩
  case round =>
    obtain ⟨k, hk, rfl, hb, hall⟩ := hrel
    have hx := HX.out.fr (by simpa using hb)
    have HB := Lib.hid hb; have HA := Lib.hid hall
    have hlt0 := hx.lt
    have c3 : wr.cell? ⟨w.heap.size, 3, none⟩ = some (.slice A n c) := hx.cell 3
    have HX1 := Lib.hid hx
    clear hb hall hx
    have HW := Lib.hid (show Below w.heap.size w wr from fr_trans (fr_alloc (fr_refl w) _) (by simpa using HB.out))
    by_cases hlt : k < n
    · have hkl : k < fl.length := by have := HN.out; omega
      obtain ⟨b, off, rfl, hbl, hcell⟩ := (HP.out.fr HW.out) (by omega)
      obtain ⟨h1, h2⟩ := hcell k hkl
      have hsz := HS.out fl[k] (List.getElem_mem hkl)
      have htk : givenL (fl.take (k + 1)) nm = givP nm fl[k] := by unfold givenL; rw [List.take_succ_eq_append_getElem hkl, List.any_append]; have := HA.out; unfold givenL at this; rw [this]; simp
      have hany : givP nm fl[k] = true → givenL fl nm = true := fun h => List.any_eq_true.2 ⟨fl[k], List.getElem_mem hkl, h⟩
      obtain ⟨⟨pn, pv⟩, hpe⟩ : ∃ p, fl[k] = p := ⟨_, rfl⟩
      rw [hpe] at h1 h2 htk hsz hany
      simp only at h1 h2 hsz
      have hgv : givP nm (pn, pv) = (!(eqB (lowB pn) nm) && eqB (nmB pn) (nmB nm)) := rfl
      have HLW := Lib.hid (fun W => ref1_Lower pn W (by omega))
      have HN1 := Lib.hid (fun W => ref_Name pn W (by omega))
      have HN2 := Lib.hid (fun W => ref_Name nm W (by have := HNM.out; omega))
      obtain ⟨lw, hlw⟩ : ∃ x, lowB pn = x := ⟨_, rfl⟩
      obtain ⟨n1, hn1⟩ : ∃ x, nmB pn = x := ⟨_, rfl⟩
      obtain ⟨n2, hn2⟩ : ∃ x, nmB nm = x := ⟨_, rfl⟩
      have HN1' := Lib.hid (fun W => (HN1.out W)); have HN2' := Lib.hid (fun W => (HN2.out W))
      have e1 : (⟨#[72, 84, 84, 80, 95]⟩ ++ greatB pn) = n1 := hn1
      have e2 : (⟨#[72, 84, 84, 80, 95]⟩ ++ greatB nm) = n2 := hn2
      rw [e1] at HN1'
      rw [e2] at HN2'
      rw [hlw] at HLW hgv
      rw [hn1, hn2] at hgv
      obtain ⟨B1, hB1⟩ : ∃ x, eqB lw nm = x := ⟨_, rfl⟩
      obtain ⟨B2, hB2⟩ : ∃ x, eqB n1 n2 = x := ⟨_, rfl⟩
      rw [hB1, hB2] at hgv
      have q1 : (lw.toList == nm.toList) = B1 := hB1
      have q2 : (n1.toList == n2.toList) = B2 := hB2
      have q3 : (lw.toList != nm.toList) = !B1 := by rw [← hB1]; rfl
      have kI : (k : Int) < (n : Int) := by omega
      have k0 : (0 : Int) ≤ (k : Int) := by omega
      have HKW := Lib.hid (IntWalk.wrap64_in ((k : Int) + 1) (by have := HN9.out; omega))
      have HTK := Lib.hid (htk.trans hgv); have HANY := Lib.hid (fun h => hany (hgv.trans h))
      clear htk hgv hany hlw hn1 hn2 HN1 HN2 e1 e2 hB1 hB2 hpe hcell hsz
      go_wp2_with fail
      refine (HLW.out _).mono ?_
      rintro e w1 ⟨rfl, hb1⟩
      have HB1 := Lib.hid hb1
      clear hb1
      cases B1
      · go_wp2_with fail
        refine (HN1'.out _).mono ?_
        rintro e w2 ⟨rfl, hb2⟩
        go_wp2_with fail
        refine (HN2'.out _).mono ?_
        rintro e w3 ⟨rfl, hb3⟩
        have HBB := Lib.hid (fr_trans HB1.out (fr_trans hb2 hb3))
        clear hb2 hb3
        cases B2
        · go_wp2
          go_roundw
          case measure => rw [HKW.out]; exact meas hlt .i64 .i64
          case rel => exact ⟨k + 1, by omega, by rw [HKW.out]; rfl, HB.out.trans (HBB.out.mono (by have := HB.out.size; simpa using this)), HTK.out⟩
        · have HR := Lib.hid (HANY.out rfl)
          go_wp2
          go_ret
          exact ⟨by rw [HR.out]; rfl, fr_trans HW.out HBB.out⟩
      · go_wp2
        go_roundw
        case measure => rw [HKW.out]; exact meas hlt .i64 .i64
        case rel => exact ⟨k + 1, by omega, by rw [HKW.out]; rfl, HB.out.trans (HB1.out.mono (by have := HB.out.size; simpa using this)), HTK.out⟩
    · have e : fl.take k = fl := List.take_of_length_le (by have := HN.out; omega)
      have hz := HA.out
      rw [e] at hz
      have HZ := Lib.hid hz
      clear hz e
      go_wp2
      go_ret
      exact ⟨by rw [HZ.out]; rfl, HW.out⟩
end Go.Proofs.YtdlignhlliellaaDoor
