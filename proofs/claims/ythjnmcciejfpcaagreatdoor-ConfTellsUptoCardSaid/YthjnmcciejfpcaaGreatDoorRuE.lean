/- rule.Host, isSegs, isPath, Ware (methods; none), Is (without wares). -/
import Derived.Test.YthjnmcciejfpcaaGreatDoorMD
import Derived.Test.YthjnmcciejfpcaaGreatDoorLow
namespace Go.Proofs.YthjnmcciejfpcaaGreatDoor
set_option linter.unusedVariables false
set_option linter.unusedSimpArgs false
open Go.RowKit

theorem cutS_size (s : ByteArray) (c : UInt8) : (cutS s c).1.size ≤ s.size := by
  unfold cutS; split
  · show (s.extract 0 _).size ≤ _; rw [ByteArray.size_extract]; omega
  · exact Nat.le_refl _
def hostS (h : ByteArray) : ByteArray := lowB (cutS h 58).1
def tailC (x : ByteArray) : ByteArray := mk (Lib.trimPrefix (L x) [58])
def segOk (x : ByteArray) : Bool := !(Lib.hasPrefix (L x) [58]) || allB isTokB (tailC x)
def segsOk (s : ByteArray) : Bool := (segs s).all segOk && Nat.ble (segs s).length 8
set_option maxRecDepth 100000 in
set_option maxHeartbeats 2000000 in
theorem rule_isSegs (s : ByteArray) (w : World) (hm : MaxL w) (hs : s.size ≤ 1000000000) :
    Calls Tryz.prog 36 #[.string s] w fun e w' => e = .returned (.bool (segsOk s)) ∧ Below w.heap.size w w' := by
  have hM : segsOk s = ((segs s).all segOk && Nat.ble (segs s).length 8) := rfl
  have hmm : ∀ x ∈ segs s, x.size ≤ 1000000000 := fun x hx => by have := segs_size hx; omega
  have hlen := segs_len s
  have hpS : ∀ (n : Nat) (W : World), (segs s).length = n → MaxL W → _ := fun n W hn hm => segs_at s (segs s) n W rfl hn hm (by omega)
  obtain ⟨l, hl⟩ : ∃ l, segs s = l := ⟨_, rfl⟩
  rw [hl] at hM hmm hlen hpS
  obtain ⟨n, hn⟩ : ∃ n, l.length = n := ⟨_, rfl⟩
  have HLC := Lib.hid (hpS n w hn hm)
  rw [hn] at hM
  have HM := Lib.hid hM; have HMM := Lib.hid hmm; have HN := Lib.hid hn
  have HNB := Lib.hid (show n ≤ 1000000001 by omega)
  clear hM hmm hn hl hlen hpS
  go_enter Tryz.func36, Tryz.ntmps36
  go_wp2_with fail
  refine HLC.out.mono ?_
  rintro e w1 ⟨⟨A, c, rfl, hcc, hS⟩, hb1⟩
  have HS := Lib.hid hS; have HB1 := Lib.hid hb1
  clear hS hb1 hcc
  go_wp2
  go_loopw [12] (fun i wr => ∃ k : Nat, k ≤ n ∧ i = .int .i64 k ∧ w1 = wr ∧ (l.take k).all segOk = true) (fun i _ => n - (intOf i).toNat)
  case atStart => exact ⟨0, Nat.zero_le _, rfl, rfl, rfl⟩
  case round =>
    obtain ⟨k, hk, rfl, rfl, hall⟩ := hrel
    by_cases hlt : k < n
    · have kx : k < l.length := by have := HN.out; omega
      obtain ⟨b1, o1, rfl, l1, c1⟩ := HS.out.at_ kx
      have hdr := fun h => ball_drop (p := segOk) kx h
      have hsu := fun h => ball_succ (p := segOk) kx hall h
      have hxm := HMM.out l[k] (List.getElem_mem kx)
      obtain ⟨x, hx⟩ : ∃ x, l[k] = x := ⟨_, rfl⟩
      rw [hx] at c1 hdr hsu hxm
      have hkI : (k : Int) < (n : Int) := by omega
      have hk0 : (0 : Int) ≤ (k : Int) := by omega
      have hwr : wrap64 ((k : Int) + 1) = (k : Int) + 1 := IntWalk.wrap64_in _ (by have := HNB.out; omega)
      have HD := Lib.hid hdr; have HSU := Lib.hid hsu
      have htz : (tailC x).size ≤ 9223372036854775807 := by
        have h1 : (tailC x).size ≤ x.size := by
          unfold tailC Lib.trimPrefix; rw [mk_size]; split
          · rw [List.length_drop, L_len]; omega
          · rw [L_len]; exact Nat.le_refl _
        omega
      obtain ⟨t, ht⟩ : ∃ t, tailC x = t := ⟨_, rfl⟩
      have hcp : ∀ W : World, Calls Tryz.prog 49 #[.string x, .string ⟨#[58]⟩] W fun e w' => e = .returned (.tuple #[.string t, .bool (Lib.hasPrefix (L x) [58])]) ∧ W = w' := fun W => by
        have h := lib_CutPrefix x 58 W
        rw [show (⟨(Lib.trimPrefix (L x) [58]).toArray⟩ : ByteArray) = t from ht] at h
        exact h
      have hso : segOk x = (!(Lib.hasPrefix (L x) [58]) || allB isTokB t) := by unfold segOk; rw [ht]
      rw [ht] at htz
      have HTK := Lib.hid (fun W : World => oct_Token t W htz)
      obtain ⟨p, hp⟩ : ∃ p, Lib.hasPrefix (L x) [58] = p := ⟨_, rfl⟩
      rw [hp] at hcp hso
      obtain ⟨tk, htk⟩ : ∃ b, allB isTokB t = b := ⟨_, rfl⟩
      rw [htk] at HTK hso
      have HCP := Lib.hid hcp; have HSO := Lib.hid hso
      clear hdr hsu hxm hx kx hall hcp hso htz ht hp htk
      cases p
      · go_wp2_with fail
        refine (HCP.out _).mono ?_
        rintro e w3 ⟨rfl, rfl⟩
        go_wp2_with fail
        go_roundw
        case measure => rw [hwr]; exact meas hlt .i64 .i64
        case rel => exact ⟨k + 1, by omega, by go_num, trivial, HSU.out (by rw [HSO.out]; rfl)⟩
      · cases tk
        · go_wp2_with fail
          refine (HCP.out _).mono ?_
          rintro e w3 ⟨rfl, rfl⟩
          go_wp2_with fail
          refine (HTK.out _).mono ?_
          rintro e w3 ⟨rfl, rfl⟩
          go_wp2_with fail
          go_ret
          exact ⟨by rw [HM.out, HD.out (by rw [HSO.out]; rfl)]; rfl, HB1.out⟩
        · go_wp2_with fail
          refine (HCP.out _).mono ?_
          rintro e w3 ⟨rfl, rfl⟩
          go_wp2_with fail
          refine (HTK.out _).mono ?_
          rintro e w3 ⟨rfl, rfl⟩
          go_wp2_with fail
          go_roundw
          case measure => rw [hwr]; exact meas hlt .i64 .i64
          case rel => exact ⟨k + 1, by omega, by go_num, trivial, HSU.out (by rw [HSO.out]; rfl)⟩
    · have e : l.take k = l := List.take_of_length_le (by have := HN.out; omega)
      obtain rfl : k = n := by omega
      rw [e] at hall
      have HA := Lib.hid hall; clear hall e
      by_cases h1 : k ≤ 8
      · have h1' : (k : Int) ≤ 8 := by omega
        have HK := Lib.hid (ble_yes h1)
        clear h1
        go_wp2
        go_ret
        exact ⟨by rw [HM.out, HA.out, HK.out]; rfl, HB1.out⟩
      · have h1' : ¬ (k : Int) ≤ 8 := by omega
        have HK := Lib.hid (ble_no h1)
        clear h1
        go_wp2
        go_ret
        exact ⟨by rw [HM.out, HA.out, HK.out]; rfl, HB1.out⟩
def pathOk (k : Int) (s : ByteArray) : Bool := if k = 4 then extOk s else if k = 2 then segsOk s && cleanOk s else if k = 1 ∨ k = 3 then cleanOk s else false
set_option maxHeartbeats 2000000 in
theorem rule_isPath (k : Int) (s : ByteArray) (w : World) (hm : MaxL w) (hs : s.size ≤ 2000000) :
    Calls Tryz.prog 27 #[.int .i64 k, .string s] w fun e w' => e = .returned (.bool (pathOk k s)) ∧ Below w.heap.size w w' := by
  have HM := Lib.hid hm; clear hm
  by_cases k4 : k = 4
  · have hp : pathOk k s = extOk s := by unfold pathOk; rw [if_pos k4]
    rw [hp]
    subst k4
    clear hp
    go_enter Tryz.func27, Tryz.ntmps27
    go_wp2_with fail
    refine (rule_isExt s _ (by omega)).mono ?_
    rintro e w1 ⟨rfl, hb1⟩
    go_wp2
    go_ret
    exact ⟨rfl, hb1⟩
  · by_cases k2 : k = 2
    · subst k2
      have hp : pathOk 2 s = (segsOk s && cleanOk s) := rfl
      rw [hp]
      clear hp
      cases hq : segsOk s
      · have HQ := Lib.hid hq
        go_enter Tryz.func27, Tryz.ntmps27
        go_wp2_with fail
        refine (rule_isSegs s _ HM.out (by omega)).mono ?_
        rintro e w1 ⟨rfl, hb1⟩
        rw [HQ.out]
        go_wp2
        go_ret
        exact ⟨rfl, hb1⟩
      · have HQ := Lib.hid hq
        go_enter Tryz.func27, Tryz.ntmps27
        go_wp2_with fail
        refine (rule_isSegs s _ HM.out (by omega)).mono ?_
        rintro e w1 ⟨rfl, hb1⟩
        rw [HQ.out]
        have HB1 := Lib.hid hb1; clear hb1
        go_wp2_with fail
        refine (rule_isClean s _ (HM.out.fr HB1.out) (by omega)).mono ?_
        rintro e w2 ⟨rfl, hb2⟩
        go_wp2
        go_ret
        exact ⟨rfl, fr_trans HB1.out hb2⟩
    · by_cases k1 : k = 1
      · subst k1
        have hp : pathOk 1 s = cleanOk s := rfl
        rw [hp]
        clear hp
        go_enter Tryz.func27, Tryz.ntmps27
        go_wp2_with fail
        refine (rule_isClean s _ HM.out (by omega)).mono ?_
        rintro e w2 ⟨rfl, hb2⟩
        go_wp2
        go_ret
        exact ⟨rfl, hb2⟩
      · by_cases k3 : k = 3
        · subst k3
          have hp : pathOk 3 s = cleanOk s := rfl
          rw [hp]
          clear hp
          go_enter Tryz.func27, Tryz.ntmps27
          go_wp2_with fail
          refine (rule_isClean s _ HM.out (by omega)).mono ?_
          rintro e w2 ⟨rfl, hb2⟩
          go_wp2
          go_ret
          exact ⟨rfl, hb2⟩
        · have hp : pathOk k s = false := by unfold pathOk; rw [if_neg k4, if_neg k2, if_neg (by omega)]
          rw [hp]
          clear hp
          go_enter Tryz.func27, Tryz.ntmps27
          go_wp2
          go_ret
          exact ⟨rfl, fr_refl _⟩
end Go.Proofs.YthjnmcciejfpcaaGreatDoor
