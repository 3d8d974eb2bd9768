/- conduitlaw15.get; the first value of a name in a row and in the same row in another order. -/
import Derived.Test.YtdlignhlliellaaDoorVt
namespace Go.Proofs.YtdlignhlliellaaDoor
set_option linter.unusedVariables false
set_option linter.unusedSimpArgs false
open Go.RowKit

theorem getV_take {l : List Pr} {n : ByteArray} {k : Nat} (h : k < l.length) (hk : hasN (l.take k) n = false) (hq : eqB l[k].1 n = true) : getV l n = some l[k].2 := by
  unfold getV
  have e : l = l.take k ++ l[k] :: l.drop (k + 1) := by rw [← List.drop_eq_getElem_cons h, List.take_append_drop]
  have h1 : (l.take k).find? (fun p => eqB p.1 n) = none := by
    rw [List.find?_eq_none]
    intro p hp hc
    unfold hasN at hk
    rw [List.any_eq_false] at hk
    exact hk p hp hc
  have h2 : l.find? (fun p => eqB p.1 n) = some l[k] := by
    conv => lhs; rw [e]
    rw [List.find?_append, h1, List.find?_cons, hq]; rfl
  rw [h2]; rfl
theorem getV_none {l : List Pr} {n : ByteArray} (hk : hasN l n = false) : getV l n = none := by
  unfold getV
  have h1 : l.find? (fun p => eqB p.1 n) = none := by
    rw [List.find?_eq_none]
    intro p hp hc
    unfold hasN at hk
    rw [List.any_eq_false] at hk
    exact hk p hp hc
  rw [h1]; rfl
set_option maxHeartbeats 1000000 in
theorem law15_get (A : Option Addr) (n c : Nat) (l : List Pr) (nm : ByteArray) (w : World) (hn : l.length = n) (hp : Pairs w A l) (hn9 : n ≤ 4398046511103) :
    Calls Tryd.prog 13 #[.slice A n c, .string nm] w fun e w' => e = .returned (getR (getV l nm)) ∧ w = w' := by
  have HN := Lib.hid hn; have HP := Lib.hid hp
  clear hn hp
  go_enter Tryd.func13, Tryd.ntmps13
  go_wp2
  go_loop [6] (fun i => ∃ k : Nat, k ≤ n ∧ i = .int .i64 k ∧ hasN (l.take k) nm = false) (fun i => n - (intOf i).toNat)
  case atStart => exact ⟨0, Nat.zero_le _, rfl, rfl⟩
  case round =>
    obtain ⟨k, hk, rfl, hall⟩ := hrel
    have HA := Lib.hid hall; clear hall
    by_cases hlt : k < n
    · have hkl : k < l.length := by have := HN.out; omega
      obtain ⟨b, off, rfl, hbl, hcell⟩ := HP.out (by omega)
      obtain ⟨h1, h2⟩ := hcell k hkl
      have hyes := fun h => getV_take (n := nm) hkl HA.out h
      have htk := List.take_succ_eq_append_getElem hkl
      obtain ⟨⟨pn, pv⟩, hpe⟩ : ∃ p, l[k] = p := ⟨_, rfl⟩
      rw [hpe] at h1 h2 hyes htk
      simp only at h1 h2 hyes
      have HY := Lib.hid hyes; have HT := Lib.hid htk
      have kI : (k : Int) < (n : Int) := by omega
      have k0 : (0 : Int) ≤ (k : Int) := by omega
      clear hpe hcell hyes htk
      cases hq : eqB pn nm
      · have HQ := Lib.hid hq
        unfold eqB at hq
        go_wp2
        go_round
        case measure => exact meas hlt .i64 .i64
        case rel => exact ⟨k + 1, by omega, by go_num, by unfold hasN; rw [HT.out, List.any_append]; have := HA.out; unfold hasN at this; rw [this]; simp [HQ.out]⟩
      · have HQ := Lib.hid hq
        unfold eqB at hq
        go_wp2
        go_ret2
        exact ⟨by rw [HY.out HQ.out]; rfl, rfl⟩
    · have e : l.take k = l := List.take_of_length_le (by have := HN.out; omega)
      have ha := HA.out
      rw [e] at ha
      have HA2 := Lib.hid (getV_none ha)
      clear e ha
      go_wp2
      go_ret2
      exact ⟨by rw [HA2.out]; rfl, rfl⟩
theorem getV_mem {l : List Pr} {n v : ByteArray} (h : getV l n = some v) : (n, v) ∈ l := by
  unfold getV at h
  cases hf : l.find? (fun p => eqB p.1 n) with
  | none => rw [hf] at h; cases h
  | some p =>
    rw [hf] at h
    have h1 := List.find?_some hf
    have h2 := List.mem_of_find?_eq_some hf
    injection h with h
    have e : p = (n, v) := by
      obtain ⟨a, b⟩ := p
      have ha : a = n := eqB_iff.1 h1
      subst ha h; rfl
    rw [← e]; exact h2
theorem mem_getV {l : List Pr} {n v : ByteArray} (hd : (l.map (·.1)).Nodup) (h : (n, v) ∈ l) : getV l n = some v := by
  induction l with
  | nil => cases h
  | cons p l ih =>
    rw [List.map_cons, List.nodup_cons] at hd
    unfold getV
    rw [List.find?_cons]
    rcases List.mem_cons.1 h with h | h
    · subst h
      rw [show eqB n n = true from eqB_refl n]; rfl
    · have hne : eqB p.1 n = false := by
        cases hq : eqB p.1 n
        · rfl
        · exact absurd (List.mem_map.2 ⟨(n, v), h, (eqB_iff.1 hq).symm⟩) hd.1
      rw [hne]
      exact ih hd.2 h
theorem getV_perm {l l' : List Pr} (hp : l'.Perm l) (hd : (l.map (·.1)).Nodup) (n : ByteArray) : getV l' n = getV l n := by
  have hd' : (l'.map (·.1)).Nodup := (hp.map (·.1)).nodup_iff.2 hd
  cases h : getV l n with
  | some v => exact mem_getV hd' (hp.mem_iff.2 (getV_mem h))
  | none =>
    cases h' : getV l' n with
    | none => rfl
    | some v =>
      have := mem_getV hd (hp.mem_iff.1 (getV_mem h'))
      rw [this] at h; cases h
theorem addL_nodup {l : List Pr} {n v : ByteArray} (hd : (l.map (·.1)).Nodup) : ((addL l n v).map (·.1)).Nodup := by
  unfold addL
  cases hq : hasN l n
  · rw [if_neg (by decide), List.map_append, List.nodup_append]
    refine ⟨hd, by simp, fun a ha b hb => ?_⟩
    have hb' : b = n := by simpa using hb
    rw [hb']
    intro e
    obtain ⟨p, hp, hpa⟩ := List.mem_map.1 ha
    unfold hasN at hq
    rw [List.any_eq_false] at hq
    exact hq p hp (by rw [hpa, e]; exact eqB_refl n)
  · rw [if_pos rfl]; exact hd
end Go.Proofs.YtdlignhlliellaaDoor
