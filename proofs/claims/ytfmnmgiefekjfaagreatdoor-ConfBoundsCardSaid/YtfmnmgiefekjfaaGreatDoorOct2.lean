/- strconv.ParseInt at base 16; octet.all, isDec, isHex, number at base 16; coded. -/
import Derived.Test.YtfmnmgiefekjfaaGreatDoorOct
import Derived.Deep.Cut
namespace Go.Proofs.YtfmnmgiefekjfaaGreatDoor
set_option linter.unusedVariables false
set_option linter.unusedSimpArgs false
open Go.RowKit

set_option maxRecDepth 100000 in
theorem parseInt16 (s : ByteArray) (w : World) (h1 : 1 ≤ s.size) (h7 : s.size ≤ 7) (hx : ∀ c ∈ L s, 0 ≤ nib c) :
    Calls Tryz.prog 111 #[.string s, .int .i64 16, .int .i64 64] w fun e w' => e = .returned (.tuple #[.int .i64 (hexN (L s) : Nat), .nilIface]) ∧ Below w.heap.size w w' := by
  have hne : s.toList.isEmpty = false := by
    rw [toList_L]; have : (L s).length = s.size := rfl
    cases hl : L s with | nil => rw [hl] at this; simp at this; omega | cons _ _ => rfl
  have hc := hx s[0] (by rw [← L_at s 0 (by omega)]; exact List.getElem_mem _)
  have hcs := nib_cases s[0] hc
  have n43 : ((s[0].toNat : Int) == 43) = false := by simp; omega
  have n45 : ((s[0].toNat : Int) == 45) = false := by simp; omega
  have hbnd := hexN_lt (L s)
  have hpow : 16 ^ (L s).length ≤ 16 ^ 7 := Nat.pow_le_pow_right (by decide) (by rw [L_len]; omega)
  have HC := parseUint16 s
  obtain ⟨n, hn⟩ : ∃ n, hexN (L s) = n := ⟨_, rfl⟩
  rw [hn] at hbnd HC ⊢
  have hb : n < 268435456 := by omega
  have HB := Lib.hid hb
  have HCC := Lib.hid (HC w h1 h7 hx)
  clear HC hbnd hpow hn hcs hc hx hb
  go_enter Tryz.func111, Tryz.ntmps111
  go_wp2_with fail
  refine HCC.out.mono ?_
  rintro e w1 ⟨rfl, hb1⟩
  go_upto_region 17 with (fail)
  generalize hM : (9223372036854775808 : Int) = M
  have g1 : ¬ M ≤ (n : Int) := by have := HB.out; omega
  have g2 : IntKind.i64.wrap (n : Int) = (n : Int) := IntWalk.i64_in _ (by have := HB.out; omega)
  clear hM
  go_wp2_with fail
  go_ret2
  exact ⟨rfl, hb1⟩
theorem strconv_ParseInt16 (s : ByteArray) (w : World) (h1 : 1 ≤ s.size) (h7 : s.size ≤ 7) (hx : ∀ c ∈ L s, 0 ≤ nib c) :
    Calls Tryz.prog 108 #[.string s, .int .i64 16, .int .i64 64] w fun e w' => e = .returned (.tuple #[.int .i64 (hexN (L s) : Nat), .nilIface]) ∧ Below w.heap.size w w' := by
  have HC := Lib.hid (parseInt16 s w h1 h7 hx)
  clear hx
  go_enter Tryz.func108, Tryz.ntmps108
  go_wp2_with fail
  refine HC.out.mono ?_
  rintro e w1 ⟨rfl, hb1⟩
  go_wp2_with fail
  go_ret2
  exact ⟨rfl, hb1⟩

def isDecB (c : UInt8) : Bool := decide (48 ≤ (c.toNat : Int)) && decide ((c.toNat : Int) ≤ 57)
theorem oct_isDec (c : UInt8) (w : World) : Calls Tryz.prog 109 #[.int .u8 (c.toNat : Int)] w fun e w' => e = .returned (.bool (isDecB c)) ∧ w = w' := by
  go_enter Tryz.func109, Tryz.ntmps109
  go_wp2
  all_goals (go_ret; refine ⟨?_, rfl⟩; (simp_all [isDecB] <;> omega))
theorem isHexB_eq (c : UInt8) : isHexB c = (isDecB c || (decide (97 ≤ (c.toNat : Int)) && decide ((c.toNat : Int) ≤ 102)) || (decide (65 ≤ (c.toNat : Int)) && decide ((c.toNat : Int) ≤ 70))) := by
  rw [Bool.eq_iff_iff]
  unfold isHexB isDecB nib
  simp only [Bool.or_eq_true, Bool.and_eq_true, decide_eq_true_eq]
  constructor
  · intro h
    split at h
    · rename_i h1; exact .inl (.inl h1)
    · split at h
      · rename_i h1; exact .inl (.inr h1)
      · split at h
        · rename_i h1; exact .inr h1
        · omega
  · rintro ((h | h) | h)
    · rw [if_pos h]; omega
    · rw [if_neg (by omega), if_pos h]; omega
    · rw [if_neg (by omega), if_neg (by omega), if_pos h]; omega
theorem oct_isHex (c : UInt8) (w : World) : Calls Tryz.prog 104 #[.int .u8 (c.toNat : Int)] w fun e w' => e = .returned (.bool (isHexB c)) ∧ w = w' := by
  have he := isHexB_eq c
  have HE := Lib.hid he; clear he
  cases hd : isDecB c
  all_goals
    have HD := Lib.hid hd
    go_enter Tryz.func104, Tryz.ntmps104
    go_wp2_with fail
    refine (oct_isDec c _).mono ?_
    rintro e w1 ⟨rfl, rfl⟩
    rw [hd]
    go_wp2
    all_goals (go_ret; refine ⟨?_, rfl⟩; rw [HE.out, HD.out]; simp_all <;> omega)

def allB (p : UInt8 → Bool) (s : ByteArray) : Bool := (L s).all p && !s.toList.isEmpty
theorem all_drop {p : UInt8 → Bool} {l : List UInt8} {k : Nat} (h : k < l.length) (hk : (l.take k).all p = true) (hp : p l[k] = false) : l.all p = false := by
  rw [← List.take_append_drop k l, List.all_append, hk, List.drop_eq_getElem_cons h, List.all_cons, hp]; rfl
theorem all_succ {p : UInt8 → Bool} {l : List UInt8} {k : Nat} (h : k < l.length) (hk : (l.take k).all p = true) (hp : p l[k] = true) : (l.take (k + 1)).all p = true := by
  rw [List.take_succ_eq_append_getElem h, List.all_append, hk]; simp [hp]

set_option maxHeartbeats 1000000 in
theorem oct_all_hex (s : ByteArray) (w : World) (hs : s.size ≤ 9223372036854775807) : Calls Tryz.prog 58 #[.string s, .func (.func 104) #[] #[]] w fun e w' => e = .returned (.bool (allB isHexB s)) ∧ w = w' := by
  have hlen : (L s).length = s.size := rfl
  obtain ⟨l, hl⟩ : ∃ l, L s = l := ⟨_, rfl⟩
  rw [hl] at hlen
  have he : allB isHexB s = (l.all isHexB && !s.toList.isEmpty) := by unfold allB; rw [hl]
  have HE := Lib.hid he; have HL := Lib.hid hl; have HN := Lib.hid hlen
  clear he hlen hl
  go_enter Tryz.func58, Tryz.ntmps58
  go_wp2
  go_loop [8] (fun i => ∃ k : Nat, k ≤ s.size ∧ i = .int .i64 k ∧ (l.take k).all isHexB = true) (fun i => s.size - (intOf i).toNat)
  case atStart => exact ⟨0, Nat.zero_le _, rfl, rfl⟩
  case round =>
    obtain ⟨k, hk, rfl, hall⟩ := hrel
    by_cases hlt : k < s.size
    · have hkl : k < l.length := by have := HN.out; omega
      have hat : l[k] = s[k] := by have := HL.out; subst this; rfl
      obtain ⟨c, hc⟩ : ∃ c, s[k] = c := ⟨_, rfl⟩
      rw [hc] at hat
      have HA := Lib.hid hall; have HAT := Lib.hid hat; clear hall hat
      go_wp2_with fail
      refine (oct_isHex c _).mono ?_
      rintro e w1 ⟨rfl, rfl⟩
      cases hq : isHexB c
      · have HQ := Lib.hid hq
        go_wp2
        go_ret
        exact ⟨by rw [HE.out, all_drop hkl HA.out (by rw [HAT.out]; exact HQ.out)]; rfl, rfl⟩
      · have HQ := Lib.hid hq
        go_wp2
        go_round
        case measure => exact meas hlt .i64 .i64
        case rel => exact ⟨k + 1, by omega, by go_num, all_succ hkl HA.out (by rw [HAT.out]; exact HQ.out)⟩
    · have e : l.take k = l := List.take_of_length_le (by have := HN.out; omega)
      rw [e] at hall
      have HA := Lib.hid hall; clear hall e
      cases hq : s.toList.isEmpty
      all_goals
        have HQ := Lib.hid hq
        go_wp2
        go_ret
        exact ⟨by rw [HE.out, HA.out, HQ.out]; rfl, rfl⟩
def numR : Option Nat → Value
  | some n => .tuple #[.int .i64 (n : Int), .bool true]
  | none => .tuple #[.int .i64 0, .bool false]
def numS (most : Nat) (s : ByteArray) : Option Nat := if s.size ≤ most ∧ allB isHexB s = true then some (hexN (L s)) else none
theorem allB_nib {s : ByteArray} (h : allB isHexB s = true) : 1 ≤ s.size ∧ ∀ c ∈ L s, 0 ≤ nib c := by
  unfold allB at h
  rw [Bool.and_eq_true, toList_L] at h
  refine ⟨?_, fun c hc => ?_⟩
  · have := h.2
    have hl : (L s).length = s.size := rfl
    cases hq : L s with
    | nil => rw [hq] at this; simp at this
    | cons a b => rw [hq] at hl; simp at hl; omega
  · have := List.all_eq_true.1 h.1 c hc
    unfold isHexB at this
    exact of_decide_eq_true this
set_option maxHeartbeats 1000000 in
theorem oct_number16 (s : ByteArray) (most : Nat) (w : World) (hm : most ≤ 7) (hs : s.size ≤ 9223372036854775807) :
    Calls Tryz.prog 103 #[.string s, .int .i64 16, .int .i64 (most : Int), .func (.func 104) #[] #[]] w fun e w' => e = .returned (numR (numS most s)) ∧ Below w.heap.size w w' := by
  by_cases hz : s.size ≤ most
  · have hz' : ¬ (most : Int) < (s.size : Int) := by omega
    cases ha : allB isHexB s
    · have hn : numS most s = none := by unfold numS; rw [if_neg (by rw [ha]; simp)]
      rw [hn]
      clear hn
      go_enter Tryz.func103, Tryz.ntmps103
      go_wp2_with fail
      refine (oct_all_hex s _ hs).mono ?_
      rintro e w1 ⟨rfl, rfl⟩
      rw [ha]
      go_wp2
      go_ret2
      exact ⟨rfl, fr_refl _⟩
    · obtain ⟨h1, hx⟩ := allB_nib ha
      have hn : numS most s = some (hexN (L s)) := by unfold numS; rw [if_pos ⟨hz, ha⟩]
      rw [hn]
      have HC := Lib.hid (strconv_ParseInt16 s w h1 (by omega) hx)
      clear hn hx
      obtain ⟨n, hn⟩ : ∃ n, hexN (L s) = n := ⟨_, rfl⟩
      rw [hn] at HC ⊢
      clear hn
      go_enter Tryz.func103, Tryz.ntmps103
      go_wp2_with fail
      refine (oct_all_hex s _ hs).mono ?_
      rintro e w1 ⟨rfl, rfl⟩
      rw [ha]
      go_wp2_with fail
      refine HC.out.mono ?_
      rintro e w1 ⟨rfl, hb1⟩
      go_wp2_with fail
      go_quiet (fail)
      go_wp2
      go_ret2
      exact ⟨rfl, fr_drewN hb1 _⟩
  · have hz' : (most : Int) < (s.size : Int) := by omega
    have hn : numS most s = none := by unfold numS; rw [if_neg (by omega)]
    rw [hn]
    clear hn
    go_enter Tryz.func103, Tryz.ntmps103
    go_wp2
    go_ret2
    exact ⟨rfl, fr_refl _⟩
end Go.Proofs.YtfmnmgiefekjfaaGreatDoor
