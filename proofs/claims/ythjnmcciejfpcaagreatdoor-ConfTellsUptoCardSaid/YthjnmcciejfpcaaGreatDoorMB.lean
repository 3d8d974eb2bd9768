/- strconv.ParseInt at base 16 of one to seven digits; octet.number, all, isHex. strconv.ParseInt at base 16; octet.all, isDec, isHex, number at base 16; coded. octet.coded, octet.Unescape: what they answer. -/
import Derived.Test.YthjnmcciejfpcaaGreatDoorMA
import Derived.Deep.QuietTactic
import Derived.BigQuiet
import Derived.Deep.Cut
import Derived.Laws.BytesArg
namespace Go.Proofs.YthjnmcciejfpcaaGreatDoor
set_option linter.unusedVariables false
set_option linter.unusedSimpArgs false
open Go.RowKit

theorem or_up : ∀ n : Nat, 65 ≤ n → n ≤ 70 → bits BinOp.or IntKind.u8 (n : Int) 32 = (n : Int) + 32 := by
  intro n h1 h2
  have : n = 65 ∨ n = 66 ∨ n = 67 ∨ n = 68 ∨ n = 69 ∨ n = 70 := by omega
  rcases this with rfl | rfl | rfl | rfl | rfl | rfl <;> decide +kernel
theorem or_lo : ∀ n : Nat, 97 ≤ n → n ≤ 102 → bits BinOp.or IntKind.u8 (n : Int) 32 = (n : Int) := by
  intro n h1 h2
  have : n = 97 ∨ n = 98 ∨ n = 99 ∨ n = 100 ∨ n = 101 ∨ n = 102 := by omega
  rcases this with rfl | rfl | rfl | rfl | rfl | rfl <;> decide +kernel
theorem str_lower (c z : Int) (w : World) (h : bits BinOp.or IntKind.u8 c 32 = z) : Calls Tryz.prog 117 #[.int .u8 c] w fun e w' => e = .returned (.int .u8 z) ∧ w = w' := by
  go_enter Tryz.func117, Tryz.ntmps117
  go_wp2
  go_ret
  exact ⟨rfl, rfl⟩

set_option maxHeartbeats 4000000 in
set_option maxRecDepth 100000 in
theorem parseUint16 (s : ByteArray) (w : World) (h1 : 1 ≤ s.size) (h7 : s.size ≤ 7) (hx : ∀ c ∈ L s, 0 ≤ nib c) :
    Calls Tryz.prog 112 #[.string s, .int .i64 16, .int .i64 64] w fun e w' => e = .returned (.tuple #[.int .u64 (hexN (L s) : Nat), .nilIface]) ∧ Below w.heap.size w w' := by
  have hconv := run_bytes_of_string (P := Tryz.prog) w 9 104 5 s Tryz.underlying9 Tryz.underlying104 Tryz.underlying5
  obtain ⟨l, hl⟩ : ∃ l, l = L s := ⟨_, rfl⟩
  have hsz : l.length = s.size := by rw [hl]; rfl
  rw [← hl] at hx ⊢
  have hne : s.toList.isEmpty = false := by
    rw [toList_L, ← hl]; cases l with | nil => simp at hsz; omega | cons _ _ => rfl
  have hshl : IntKind.u64.wrap 18446744073709551616 = 0 := by decide +kernel
  have HX := Lib.hid hx; have HZ := Lib.hid hsz; have HL := Lib.hid hl
  clear hx hsz hl
  go_enter Tryz.func112, Tryz.ntmps112
  go_wp2_with fail
  generalize hC : (1152921504606846976 : Int) = C
  have hM0 : (1000000000000 : Int) ≤ IntKind.u64.wrap (-1) := by decide +kernel
  generalize IntKind.u64.wrap (-1) = M at hM0 ⊢
  have HCM : RowKit.Hid (1000000000000 ≤ C ∧ 1000000000000 ≤ M) := ⟨by omega, hM0⟩
  clear hC hM0
  go_loopw [12, 13, 101] (fun us n i wr => ∃ k : Nat, k ≤ s.size ∧ us = .bool false ∧ i = .int .i64 k ∧ n = .int .u64 (hexN (l.take k) : Nat) ∧ Below w.heap.size w wr ∧ Buf wr w.heap.size l) (fun _ _ i _ => s.size - (intOf i).toNat)
  case atStart => exact ⟨0, Nat.zero_le _, rfl, rfl, rfl, fr_drew (fr_alloc (fr_refl _) _), by rw [HL.out]; exact (Buf.new w s _ _).drew⟩
  case round =>
    obtain ⟨k, hk, rfl, rfl, rfl, hb, hbuf⟩ := hrel
    have hbnd := hexN_lt (l.take k)
    have hpow : 16 ^ (l.take k).length ≤ 16 ^ 7 := Nat.pow_le_pow_right (by decide) (by rw [List.length_take]; omega)
    have hb28 : hexN (l.take k) < 268435456 := by omega
    clear hbnd hpow
    by_cases hlt : k < s.size
    · have hlt' : k < l.length := by rw [HZ.out]; exact hlt
      obtain ⟨hc, hf⟩ := hbuf.2 k hlt'
      have hn := HX.out l[k] (List.getElem_mem hlt')
      have hsn : hexN (l.take (k + 1)) = hexN (l.take k) * 16 + (nib l[k]).toNat := by rw [List.take_succ_eq_append_getElem hlt', hexN_snoc]
      obtain ⟨c, hcc⟩ : ∃ c, l[k] = c := ⟨_, rfl⟩
      rw [hcc] at hc hn hsn
      obtain ⟨n, hnn⟩ : ∃ n, hexN (l.take k) = n := ⟨_, rfl⟩
      rw [hnn] at hsn hb28 ⊢
      have hnl := (nib_le c).2
      have hcs := nib_cases c hn
      obtain ⟨x, hx⟩ : ∃ x : Nat, x = c.toNat := ⟨_, rfl⟩
      rw [← hx] at hc hcs
      obtain ⟨d, hd⟩ : ∃ d : Nat, (nib c).toNat = d := ⟨_, rfl⟩
      have hdn : nib c = (d : Int) := by omega
      rw [hdn] at hcs hnl
      rw [hd] at hsn
      have HS := Lib.hid hsn; have HB := Lib.hid hb; have HBU := Lib.hid hbuf
      clear hsn hb hbuf hcc hnn hx hd hdn hn hf
      have e1 : IntKind.u64.wrap ((n : Int) * 16) = (n : Int) * 16 := IntWalk.u64_in _ (by omega)
      have c1 : ¬ C ≤ (n : Int) := by have := HCM.out; omega
      rcases hcs with ⟨g1, g2, g3⟩ | ⟨⟨g1, g2⟩, g3⟩ | ⟨⟨g1, g2⟩, g3⟩
      · have g4 : (x : Int) - 48 = (d : Int) := by omega
        have n95 : ((x : Int) == 95) = false := by simp; omega
        clear g3
        have e2 : IntKind.u64.wrap ((n : Int) * 16 + ((d : Int))) = (n : Int) * 16 + ((d : Int)) := IntWalk.u64_in _ (by omega)
        have c2 : ¬ (n : Int) * 16 + ((d : Int)) < (n : Int) * 16 := by omega
        have c3 : ¬ M < (n : Int) * 16 + ((d : Int)) := by have := HCM.out; omega
        have d1 : ¬ (16 : Int) ≤ (d : Int) := by omega
        clear hb28
        go_wp2_with fail
        go_roundw
        case measure => exact meas hlt .i64 .i64
        case rel => exact ⟨k + 1, by omega, rfl, by go_num, by rw [HS.out]; go_num, HB.out, HBU.out⟩
      · have n95 : ((x : Int) == 95) = false := by simp; omega
        have n57 : ¬ (x : Int) ≤ 57 := by omega
        have ho := or_lo x (by omega) (by omega)
        have l97 : (97 : Int) ≤ (x : Int) := by omega
        have g5 : (x : Int) ≤ 122 := by omega
        obtain ⟨q, hq⟩ : ∃ q : Nat, (x : Int) - 97 = (q : Int) := ⟨x - 97, by omega⟩
        have q5 : (q : Int) ≤ 5 := by omega
        obtain rfl : d = q + 10 := by omega
        have HO := Lib.hid ho
        have e2 : IntKind.u64.wrap ((n : Int) * 16 + ((q : Int) + 10)) = (n : Int) * 16 + ((q : Int) + 10) := IntWalk.u64_in _ (by omega)
        have c2 : ¬ (n : Int) * 16 + ((q : Int) + 10) < (n : Int) * 16 := by omega
        have c3 : ¬ M < (n : Int) * 16 + ((q : Int) + 10) := by have := HCM.out; omega
        have d1 : ¬ (16 : Int) ≤ (q : Int) + 10 := by omega
        clear hb28 g3 ho hnl
        go_wp2_with fail
        refine (str_lower x x _ HO.out).mono ?_
        rintro e w2 ⟨rfl, rfl⟩
        go_wp2_with fail
        refine (str_lower x x _ HO.out).mono ?_
        rintro e w2 ⟨rfl, rfl⟩
        go_wp2_with fail
        refine (str_lower x x _ HO.out).mono ?_
        rintro e w2 ⟨rfl, rfl⟩
        go_wp2_with fail
        go_roundw
        case measure => exact meas hlt .i64 .i64
        case rel => exact ⟨k + 1, by omega, rfl, by go_num, by rw [HS.out]; go_num, HB.out, HBU.out⟩
      · have n95 : ((x : Int) == 95) = false := by simp; omega
        have n57 : ¬ (x : Int) ≤ 57 := by omega
        have ho := or_up x (by omega) (by omega)
        obtain ⟨y, hy⟩ : ∃ y : Nat, y = x + 32 := ⟨_, rfl⟩
        rw [show (x : Int) + 32 = (y : Int) by omega] at ho
        have l97 : (97 : Int) ≤ (y : Int) := by omega
        have g5 : (y : Int) ≤ 122 := by omega
        obtain ⟨q, hq⟩ : ∃ q : Nat, (y : Int) - 97 = (q : Int) := ⟨y - 97, by omega⟩
        have q5 : (q : Int) ≤ 5 := by omega
        obtain rfl : d = q + 10 := by omega
        have HO := Lib.hid ho
        have e2 : IntKind.u64.wrap ((n : Int) * 16 + ((q : Int) + 10)) = (n : Int) * 16 + ((q : Int) + 10) := IntWalk.u64_in _ (by omega)
        have c2 : ¬ (n : Int) * 16 + ((q : Int) + 10) < (n : Int) * 16 := by omega
        have c3 : ¬ M < (n : Int) * 16 + ((q : Int) + 10) := by have := HCM.out; omega
        have d1 : ¬ (16 : Int) ≤ (q : Int) + 10 := by omega
        clear hb28 g3 ho hnl hy
        go_wp2_with fail
        refine (str_lower x y _ HO.out).mono ?_
        rintro e w2 ⟨rfl, rfl⟩
        go_wp2_with fail
        refine (str_lower x y _ HO.out).mono ?_
        rintro e w2 ⟨rfl, rfl⟩
        go_wp2_with fail
        refine (str_lower x y _ HO.out).mono ?_
        rintro e w2 ⟨rfl, rfl⟩
        go_wp2_with fail
        go_roundw
        case measure => exact meas hlt .i64 .i64
        case rel => exact ⟨k + 1, by omega, rfl, by go_num, by rw [HS.out]; go_num, HB.out, HBU.out⟩
    · have e : l.take k = l := List.take_of_length_le (by have := HZ.out; omega)
      rw [e]
      clear e
      go_wp2
      go_ret2
      exact ⟨rfl, hb⟩
end Go.Proofs.YthjnmcciejfpcaaGreatDoor

namespace Go.Proofs.YthjnmcciejfpcaaGreatDoor
set_option linter.unusedVariables false
set_option linter.unusedSimpArgs false
open Go.RowKit

set_option maxRecDepth 100000 in
theorem parseInt16 (s : ByteArray) (w : World) (h1 : 1 ≤ s.size) (h7 : s.size ≤ 7) (hx : ∀ c ∈ L s, 0 ≤ nib c) :
    Calls Tryz.prog 110 #[.string s, .int .i64 16, .int .i64 64] w fun e w' => e = .returned (.tuple #[.int .i64 (hexN (L s) : Nat), .nilIface]) ∧ Below w.heap.size w w' := by
  have hne : s.toList.isEmpty = false := by
    rw [toList_L]; have : (L s).length = s.size := rfl
    cases hl : L s with | nil => rw [hl] at this; simp at this; omega | cons _ _ => rfl
  have hc := hx s[0] (by rw [← L_at s 0 (by omega)]; exact List.getElem_mem _)
  have hcs := nib_cases s[0] hc
  have n43 : ((s[0].toNat : Int) == 43) = false := by simp; omega
  have n45 : ((s[0].toNat : Int) == 45) = false := by simp; omega
  have hbnd := hexN_lt (L s)
  have hpow : 16 ^ (L s).length ≤ 16 ^ 7 := Nat.pow_le_pow_right (by decide) (by rw [L_len]; omega)
  have HC := parseUint16 s
  obtain ⟨n, hn⟩ : ∃ n, hexN (L s) = n := ⟨_, rfl⟩
  rw [hn] at hbnd HC ⊢
  have hb : n < 268435456 := by omega
  have HB := Lib.hid hb
  have HCC := Lib.hid (HC w h1 h7 hx)
  clear HC hbnd hpow hn hcs hc hx hb
  go_enter Tryz.func110, Tryz.ntmps110
  go_wp2_with fail
  refine HCC.out.mono ?_
  rintro e w1 ⟨rfl, hb1⟩
  go_upto_region 17 with (fail)
  generalize hM : (9223372036854775808 : Int) = M
  have g1 : ¬ M ≤ (n : Int) := by have := HB.out; omega
  have g2 : IntKind.i64.wrap (n : Int) = (n : Int) := IntWalk.i64_in _ (by have := HB.out; omega)
  clear hM
  go_wp2_with fail
  go_ret2
  exact ⟨rfl, hb1⟩
theorem strconv_ParseInt16 (s : ByteArray) (w : World) (h1 : 1 ≤ s.size) (h7 : s.size ≤ 7) (hx : ∀ c ∈ L s, 0 ≤ nib c) :
    Calls Tryz.prog 107 #[.string s, .int .i64 16, .int .i64 64] w fun e w' => e = .returned (.tuple #[.int .i64 (hexN (L s) : Nat), .nilIface]) ∧ Below w.heap.size w w' := by
  have HC := Lib.hid (parseInt16 s w h1 h7 hx)
  clear hx
  go_enter Tryz.func107, Tryz.ntmps107
  go_wp2_with fail
  refine HC.out.mono ?_
  rintro e w1 ⟨rfl, hb1⟩
  go_wp2_with fail
  go_ret2
  exact ⟨rfl, hb1⟩

def isDecB (c : UInt8) : Bool := decide (48 ≤ (c.toNat : Int)) && decide ((c.toNat : Int) ≤ 57)
theorem oct_isDec (c : UInt8) (w : World) : Calls Tryz.prog 108 #[.int .u8 (c.toNat : Int)] w fun e w' => e = .returned (.bool (isDecB c)) ∧ w = w' := by
  go_enter Tryz.func108, Tryz.ntmps108
  go_wp2
  all_goals (go_ret; refine ⟨?_, rfl⟩; (simp_all [isDecB] <;> omega))
theorem isHexB_eq (c : UInt8) : isHexB c = (isDecB c || (decide (97 ≤ (c.toNat : Int)) && decide ((c.toNat : Int) ≤ 102)) || (decide (65 ≤ (c.toNat : Int)) && decide ((c.toNat : Int) ≤ 70))) := by
  rw [Bool.eq_iff_iff]
  unfold isHexB isDecB nib
  simp only [Bool.or_eq_true, Bool.and_eq_true, decide_eq_true_eq]
  constructor
  · intro h
    split at h
    · rename_i h1; exact .inl (.inl h1)
    · split at h
      · rename_i h1; exact .inl (.inr h1)
      · split at h
        · rename_i h1; exact .inr h1
        · omega
  · rintro ((h | h) | h)
    · rw [if_pos h]; omega
    · rw [if_neg (by omega), if_pos h]; omega
    · rw [if_neg (by omega), if_neg (by omega), if_pos h]; omega
theorem oct_isHex (c : UInt8) (w : World) : Calls Tryz.prog 103 #[.int .u8 (c.toNat : Int)] w fun e w' => e = .returned (.bool (isHexB c)) ∧ w = w' := by
  have he := isHexB_eq c
  have HE := Lib.hid he; clear he
  cases hd : isDecB c
  all_goals
    have HD := Lib.hid hd
    go_enter Tryz.func103, Tryz.ntmps103
    go_wp2_with fail
    refine (oct_isDec c _).mono ?_
    rintro e w1 ⟨rfl, rfl⟩
    rw [hd]
    go_wp2
    all_goals (go_ret; refine ⟨?_, rfl⟩; rw [HE.out, HD.out]; simp_all <;> omega)

def allB (p : UInt8 → Bool) (s : ByteArray) : Bool := (L s).all p && !s.toList.isEmpty
theorem all_drop {p : UInt8 → Bool} {l : List UInt8} {k : Nat} (h : k < l.length) (hk : (l.take k).all p = true) (hp : p l[k] = false) : l.all p = false := by
  rw [← List.take_append_drop k l, List.all_append, hk, List.drop_eq_getElem_cons h, List.all_cons, hp]; rfl
theorem all_succ {p : UInt8 → Bool} {l : List UInt8} {k : Nat} (h : k < l.length) (hk : (l.take k).all p = true) (hp : p l[k] = true) : (l.take (k + 1)).all p = true := by
  rw [List.take_succ_eq_append_getElem h, List.all_append, hk]; simp [hp]

set_option maxHeartbeats 1000000 in
theorem oct_all_hex (s : ByteArray) (w : World) (hs : s.size ≤ 9223372036854775807) : Calls Tryz.prog 57 #[.string s, .func (.func 103) #[] #[]] w fun e w' => e = .returned (.bool (allB isHexB s)) ∧ w = w' := by
  have hlen : (L s).length = s.size := rfl
  obtain ⟨l, hl⟩ : ∃ l, L s = l := ⟨_, rfl⟩
  rw [hl] at hlen
  have he : allB isHexB s = (l.all isHexB && !s.toList.isEmpty) := by unfold allB; rw [hl]
  have HE := Lib.hid he; have HL := Lib.hid hl; have HN := Lib.hid hlen
  clear he hlen hl
  go_enter Tryz.func57, Tryz.ntmps57
  go_wp2
  go_loop [8] (fun i => ∃ k : Nat, k ≤ s.size ∧ i = .int .i64 k ∧ (l.take k).all isHexB = true) (fun i => s.size - (intOf i).toNat)
  case atStart => exact ⟨0, Nat.zero_le _, rfl, rfl⟩
  case round =>
    obtain ⟨k, hk, rfl, hall⟩ := hrel
    by_cases hlt : k < s.size
    · have hkl : k < l.length := by have := HN.out; omega
      have hat : l[k] = s[k] := by have := HL.out; subst this; rfl
      obtain ⟨c, hc⟩ : ∃ c, s[k] = c := ⟨_, rfl⟩
      rw [hc] at hat
      have HA := Lib.hid hall; have HAT := Lib.hid hat; clear hall hat
      go_wp2_with fail
      refine (oct_isHex c _).mono ?_
      rintro e w1 ⟨rfl, rfl⟩
      cases hq : isHexB c
      · have HQ := Lib.hid hq
        go_wp2
        go_ret
        exact ⟨by rw [HE.out, all_drop hkl HA.out (by rw [HAT.out]; exact HQ.out)]; rfl, rfl⟩
      · have HQ := Lib.hid hq
        go_wp2
        go_round
        case measure => exact meas hlt .i64 .i64
        case rel => exact ⟨k + 1, by omega, by go_num, all_succ hkl HA.out (by rw [HAT.out]; exact HQ.out)⟩
    · have e : l.take k = l := List.take_of_length_le (by have := HN.out; omega)
      rw [e] at hall
      have HA := Lib.hid hall; clear hall e
      cases hq : s.toList.isEmpty
      all_goals
        have HQ := Lib.hid hq
        go_wp2
        go_ret
        exact ⟨by rw [HE.out, HA.out, HQ.out]; rfl, rfl⟩
def numR : Option Nat → Value
  | some n => .tuple #[.int .i64 (n : Int), .bool true]
  | none => .tuple #[.int .i64 0, .bool false]
def numS (most : Nat) (s : ByteArray) : Option Nat := if s.size ≤ most ∧ allB isHexB s = true then some (hexN (L s)) else none
theorem allB_nib {s : ByteArray} (h : allB isHexB s = true) : 1 ≤ s.size ∧ ∀ c ∈ L s, 0 ≤ nib c := by
  unfold allB at h
  rw [Bool.and_eq_true, toList_L] at h
  refine ⟨?_, fun c hc => ?_⟩
  · have := h.2
    have hl : (L s).length = s.size := rfl
    cases hq : L s with
    | nil => rw [hq] at this; simp at this
    | cons a b => rw [hq] at hl; simp at hl; omega
  · have := List.all_eq_true.1 h.1 c hc
    unfold isHexB at this
    exact of_decide_eq_true this
set_option maxHeartbeats 1000000 in
theorem oct_number16 (s : ByteArray) (most : Nat) (w : World) (hm : most ≤ 7) (hs : s.size ≤ 9223372036854775807) :
    Calls Tryz.prog 102 #[.string s, .int .i64 16, .int .i64 (most : Int), .func (.func 103) #[] #[]] w fun e w' => e = .returned (numR (numS most s)) ∧ Below w.heap.size w w' := by
  by_cases hz : s.size ≤ most
  · have hz' : ¬ (most : Int) < (s.size : Int) := by omega
    cases ha : allB isHexB s
    · have hn : numS most s = none := by unfold numS; rw [if_neg (by rw [ha]; simp)]
      rw [hn]
      clear hn
      go_enter Tryz.func102, Tryz.ntmps102
      go_wp2_with fail
      refine (oct_all_hex s _ hs).mono ?_
      rintro e w1 ⟨rfl, rfl⟩
      rw [ha]
      go_wp2
      go_ret2
      exact ⟨rfl, fr_refl _⟩
    · obtain ⟨h1, hx⟩ := allB_nib ha
      have hn : numS most s = some (hexN (L s)) := by unfold numS; rw [if_pos ⟨hz, ha⟩]
      rw [hn]
      have HC := Lib.hid (strconv_ParseInt16 s w h1 (by omega) hx)
      clear hn hx
      obtain ⟨n, hn⟩ : ∃ n, hexN (L s) = n := ⟨_, rfl⟩
      rw [hn] at HC ⊢
      clear hn
      go_enter Tryz.func102, Tryz.ntmps102
      go_wp2_with fail
      refine (oct_all_hex s _ hs).mono ?_
      rintro e w1 ⟨rfl, rfl⟩
      rw [ha]
      go_wp2_with fail
      refine HC.out.mono ?_
      rintro e w1 ⟨rfl, hb1⟩
      go_wp2_with fail
      go_quiet (fail)
      go_wp2
      go_ret2
      exact ⟨rfl, fr_drewN hb1 _⟩
  · have hz' : (most : Int) < (s.size : Int) := by omega
    have hn : numS most s = none := by unfold numS; rw [if_neg (by omega)]
    rw [hn]
    clear hn
    go_enter Tryz.func102, Tryz.ntmps102
    go_wp2
    go_ret2
    exact ⟨rfl, fr_refl _⟩
end Go.Proofs.YthjnmcciejfpcaaGreatDoor

namespace Go.Proofs.YthjnmcciejfpcaaGreatDoor
set_option linter.unusedVariables false
set_option linter.unusedSimpArgs false
open Go.RowKit

def ucells (l : List UInt8) : List Value := l.map fun c => .int .u8 (c.toNat : Int)
theorem ucells_len (l : List UInt8) : (ucells l).length = l.length := by simp [ucells]
theorem ucells_snoc (l : List UInt8) (c : UInt8) : ucells (l ++ [c]) = ucells l ++ [.int .u8 (c.toNat : Int)] := by simp [ucells]
theorem u8_info : (Tryz.prog.info? 5).map (fun i => (i.zero, i.size, i.bytes)) = some (some (.int .u8 0), 1, 1) := by kernel_rfl
theorem own_back {w : World} {base n : Nat} {v : Value} {l : List UInt8} (h : w.ownsRow base 5 1 v n (ucells l)) :
    (convert 104 9 v).run Tryz.prog w = .ok (.string (mk l)) w := by
  have hn : n = l.length := by have := h.1; rw [ucells_len] at this; omega
  subst hn
  rcases h.2 with ⟨rfl, h0⟩ | ⟨g, cap, cur, rfl, hb, hg, hnc, hcm, hcs, htake⟩
  · have : l = [] := by simpa [ucells] using h0
    subst this
    exact run_convert_bytes_nil w 104 5 Tryz.underlying104 Tryz.underlying5 0 0 9 Tryz.underlying9
  · refine run_convert_bytes_back w _ _ _ _ cap l Tryz.underlying104 Tryz.underlying5 Tryz.underlying9 fun j hj => ?_
    exact h.cells (g := g) rfl j _ (by simp [ucells, hj])

/-! ### two digits behind a percent sign -/
def code2 : List UInt8 → Option UInt8
  | a :: b :: _ => if isHexB a && isHexB b && !(hexN [a, b] == 0) then some (UInt8.ofNat (hexN [a, b])) else none
  | _ => none
def unescA : List UInt8 → List UInt8 → Option (List UInt8)
  | [], acc => some acc
  | [c], acc => if c = 37 then none else some (acc ++ [c])
  | [c, a], acc => if c = 37 then none else unescA [a] (acc ++ [c])
  | c :: a :: b :: r, acc => if c = 37 then (match code2 [a, b] with
    | some z => unescA r (acc ++ [z])
    | none => none) else unescA (a :: b :: r) (acc ++ [c])
theorem unescA_plain {c : UInt8} (h : c ≠ 37) (l acc : List UInt8) : unescA (c :: l) acc = unescA l (acc ++ [c]) := by
  match l with
  | [] => simp [unescA, h]
  | [a] => simp [unescA, h]
  | a :: b :: r => simp [unescA, h]
theorem unescA_pct (l acc : List UInt8) : unescA (37 :: l) acc = match code2 l with
    | some z => unescA (l.drop 2) (acc ++ [z])
    | none => none := by
  match l with
  | [] => rfl
  | [a] => rfl
  | a :: b :: r => 
    have h : code2 (a :: b :: r) = code2 [a, b] := rfl
    rw [h]
    show (if (37 : UInt8) = 37 then _ else _) = _
    rw [if_pos rfl]
    rfl
def unescS (s : ByteArray) : Option (List UInt8) := unescA (L s) []
theorem unescA_len : ∀ (l acc r : List UInt8), unescA l acc = some r → r.length ≤ acc.length + l.length
  | [], acc, r, h => by simp [unescA] at h; subst h; simp
  | [c], acc, r, h => by
    unfold unescA at h
    split at h
    · cases h
    · injection h with h; subst h; simp
  | [c, a], acc, r, h => by
    unfold unescA at h
    split at h
    · cases h
    · have := unescA_len [a] _ r h; simp at this ⊢; omega
  | c :: a :: b :: l, acc, r, h => by
    unfold unescA at h
    split at h
    · split at h
      · have := unescA_len l _ r h; simp at this ⊢; omega
      · cases h
    · have := unescA_len (a :: b :: l) _ r h; simp at this ⊢; omega

def codeR : Option UInt8 → Value
  | some z => .tuple #[.int .u8 (z.toNat : Int), .nilIface]
  | none => .tuple #[.int .u8 0, .iface 31 (.int .i64 10)]
set_option maxHeartbeats 1000000 in
theorem oct_coded (s : ByteArray) (w : World) (h1 : 1 ≤ s.size) (hs : s.size ≤ 9223372036854775807) :
    Calls Tryz.prog 95 #[.string s] w fun e w' => e = .returned (codeR (code2 ((L s).drop 1))) ∧ Below w.heap.size w w' := by
  by_cases h3 : s.size < 3
  · have hn : code2 ((L s).drop 1) = none := by
      have hl : ((L s).drop 1).length = s.size - 1 := by rw [List.length_drop, L_len]
      match hq : (L s).drop 1 with
      | [] => rfl
      | [a] => rfl
      | a :: b :: r => rw [hq] at hl; simp at hl; omega
    rw [hn]
    clear hn
    have h3' : (s.size : Int) < 3 := by omega
    go_enter Tryz.func95, Tryz.ntmps95
    go_wp2
    go_ret2
    exact ⟨rfl, fr_refl _⟩
  · have hl : ((L s).drop 1).length = s.size - 1 := by rw [List.length_drop, L_len]
    match hq : (L s).drop 1 with
    | [] => rw [hq] at hl; simp at hl; omega
    | [a] => rw [hq] at hl; simp at hl; omega
    | a :: b :: r =>
      have h3' : ¬ (s.size : Int) < 3 := by omega
      have hx : L (s.extract 1 3) = [a, b] := by rw [L_ext, List.drop_take, hq]; rfl
      obtain ⟨x, hxe⟩ : ∃ x, s.extract 1 3 = x := ⟨_, rfl⟩
      rw [hxe] at hx
      have hxs : x.size = 2 := by have : (L x).length = x.size := rfl; rw [hx] at this; simpa using this.symm
      have hnum : numS 2 x = if isHexB a && isHexB b then some (hexN [a, b]) else none := by
        unfold numS allB
        rw [hx, toList_L, hx]
        by_cases h : isHexB a = true ∧ isHexB b = true
        · rw [if_pos ⟨by omega, by simp [h.1, h.2]⟩, if_pos (by simp [h.1, h.2])]
        · rw [if_neg, if_neg (by simpa using h)]
          rintro ⟨_, h2⟩
          apply h
          simpa using h2
      have hc2 : code2 (a :: b :: r) = if isHexB a && isHexB b && !(hexN [a, b] == 0) then some (UInt8.ofNat (hexN [a, b])) else none := rfl
      have hbnd := hexN_lt [a, b]
      obtain ⟨n, hn⟩ : ∃ n, hexN [a, b] = n := ⟨_, rfl⟩
      rw [hn] at hnum hc2 hbnd
      have hb256 : n < 256 := by simpa using hbnd
      have HC2 := Lib.hid hc2
      obtain ⟨o, ho⟩ : ∃ o, numS 2 x = o := ⟨_, rfl⟩
      have hcall := fun w => oct_number16 x 2 w (by omega) (by omega)
      rw [ho] at hcall hnum
      have HCALL := Lib.hid hcall; have HNUM := Lib.hid hnum
      clear hcall hnum hc2 hbnd hn hx hxs ho hq hl
      cases hh : (isHexB a && isHexB b)
      · have hon : o = none := by rw [HNUM.out, hh]; rfl
        have hcn : code2 (a :: b :: r) = none := by rw [HC2.out, hh]; rfl
        subst hon
        rw [hcn]
        clear hcn
        go_enter Tryz.func95, Tryz.ntmps95
        go_wp2_with fail
        refine (HCALL.out _).mono ?_
        rintro e w1 ⟨rfl, hb1⟩
        unfold numR
        go_wp2
        go_ret2
        exact ⟨rfl, hb1⟩
      · have hon : o = some n := by rw [HNUM.out, hh]; rfl
        subst hon
        by_cases hn0 : n = 0
        · have hcn : code2 (a :: b :: r) = none := by rw [HC2.out, hh, hn0]; rfl
          subst hn0
          rw [hcn]
          clear hcn
          go_enter Tryz.func95, Tryz.ntmps95
          go_wp2_with fail
          refine (HCALL.out _).mono ?_
          rintro e w1 ⟨rfl, hb1⟩
          unfold numR
          go_wp2
          go_ret2
          exact ⟨rfl, hb1⟩
        · have hcn : code2 (a :: b :: r) = some (UInt8.ofNat n) := by
            rw [HC2.out, hh]
            have : (n == 0) = false := by simpa using hn0
            rw [this]; rfl
          rw [hcn]
          clear hcn
          have hn0' : ((n : Int) == 0) = false := by simp; omega
          have hun : ((UInt8.ofNat n).toNat : Int) = (n : Int) := by simp; omega
          have hR : codeR (some (UInt8.ofNat n)) = .tuple #[.int .u8 (n : Int), .nilIface] := by unfold codeR; simp only [hun]
          have HU := Lib.hid hR; clear hR
          have hwr : IntKind.u8.wrap (n : Int) = (n : Int) := IntWalk.u8_in _ (by omega)
          clear hun hn0
          go_enter Tryz.func95, Tryz.ntmps95
          go_wp2_with fail
          refine (HCALL.out _).mono ?_
          rintro e w1 ⟨rfl, hb1⟩
          unfold numR
          go_wp2
          go_ret2
          exact ⟨by rw [HU.out]; rfl, hb1⟩
def unescR : Option (List UInt8) → Value
  | some l => .tuple #[.string (mk l), .nilIface]
  | none => .tuple #[.string ⟨#[]⟩, .iface 31 (.int .i64 10)]
theorem ucell_one (c : Int) : ∀ u ∈ [Value.int .u8 c], u.oneCell' = true := by intro u hu; simp at hu; subst hu; rfl
set_option maxHeartbeats 2000000 in
set_option maxRecDepth 100000 in
theorem oct_Unescape (s : ByteArray) (w : World) (hs : s.size ≤ 1000000000) :
    Calls Tryz.prog 86 #[.string s] w fun e w' => e = .returned (unescR (unescS s)) ∧ Below w.heap.size w w' := by
  obtain ⟨i0, hi, hz0, hz1, hz2⟩ := info_parts u8_info
  obtain ⟨l, hl⟩ : ∃ l, L s = l := ⟨_, rfl⟩
  have hlen : l.length = s.size := by rw [← hl]; rfl
  have hun : unescS s = unescA l [] := by unfold unescS; rw [hl]
  have HL := Lib.hid hl; have HN := Lib.hid hlen; have HU := Lib.hid hun; have HS := Lib.hid hs
  have hs9 : s.size ≤ 9223372036854775807 := by omega
  clear hl hlen hun hs
  go_enter Tryz.func86, Tryz.ntmps86
  go_wp2
  go_loopw [4, 5] (fun v i wr => ∃ (k : Nat) (acc : List UInt8), k ≤ s.size ∧ acc.length ≤ k ∧ i = .int .i64 k ∧ unescA l [] = unescA (l.drop k) acc ∧ Below w.heap.size w wr ∧ wr.ownsRow w.heap.size 5 1 v acc.length (ucells acc)) (fun _ i _ => s.size - (intOf i).toNat)
  case atStart => exact ⟨0, [], Nat.zero_le _, Nat.le_refl _, rfl, by simp, Below.refl _ _, World.ownsRow_nil _ _ _ _⟩
  case round =>
    obtain ⟨k, acc, hk, hak, rfl, hinv, hb, hown⟩ := hrel
    by_cases hlt : k < s.size
    · have hkl : k < l.length := by have := HN.out; omega
      have hat : l[k] = s[k] := by have := HL.out; subst this; rfl
      have hdr : l.drop k = l[k] :: l.drop (k + 1) := List.drop_eq_getElem_cons hkl
      rw [hat] at hdr
      obtain ⟨c, hc⟩ : ∃ c, s[k] = c := ⟨_, rfl⟩
      rw [hc] at hdr
      rw [hdr] at hinv
      have HO := Lib.hid hown; have HB := Lib.hid hb
      clear hat hown hb
      by_cases h37 : c = 37
      · subst h37
        rw [unescA_pct] at hinv
        have h37' : ((s[k].toNat : Int) == 37) = true := by rw [hc]; rfl
        have hc2 : code2 ((L (s.extract k s.size)).drop 1) = code2 (l.drop (k + 1)) := by rw [L_end, HL.out, hdr]; rfl
        obtain ⟨o, ho⟩ : ∃ o, code2 (l.drop (k + 1)) = o := ⟨_, rfl⟩
        rw [ho] at hinv hc2
        have hcall := fun w => oct_coded (s.extract k s.size) w (by rw [ByteArray.size_extract]; omega) (by rw [ByteArray.size_extract]; have := HS.out; omega)
        rw [hc2] at hcall
        have hlen2 : ∀ z, o = some z → k + 2 < s.size := by
          intro z hz
          rw [hz] at ho
          have hl3 : (l.drop (k + 1)).length = s.size - (k + 1) := by rw [List.length_drop, HN.out]
          match hq : l.drop (k + 1) with
          | [] => rw [hq] at ho; cases ho
          | [a] => rw [hq] at ho; cases ho
          | a :: b :: r => rw [hq] at hl3; simp at hl3; omega
        have HI := Lib.hid hinv; have HC := Lib.hid hcall; have HL2 := Lib.hid hlen2
        have hsx : ∀ x : ByteArray, True := fun _ => trivial
        clear hinv hcall hlen2 hc2 ho hdr hc hsx
        go_wp2_with fail
        refine (HC.out _).mono ?_
        rintro e w1 ⟨rfl, hb1⟩
        have hw1 := fr_trans HB.out hb1
        have HO1 := Lib.hid (own_fr HO.out hb1)
        clear hb1
        cases o with
        | none =>
          have hend : unescS s = none := by rw [HU.out, HI.out]
          have HEND := Lib.hid hend; clear hend
          unfold codeR
          go_wp2_with fail
          refine (is_errno 10 10 _).mono ?_
          rintro e w2 ⟨rfl, rfl⟩
          go_wp2
          go_ret2
          exact ⟨by rw [HEND.out]; rfl, hw1⟩
        | some z =>
          have hk2 := HL2.out z rfl
          unfold codeR
          go_wp2_with fail
          refine (is_nil 10 _).mono ?_
          rintro e w2 ⟨rfl, rfl⟩
          go_wp2_with (first
            | (at_builtin
               refine wpList_append_own _ rfl (.tmp 35) (.tmp 37) _ rfl w.heap.size 5 i0 _ 1 1 Tryz.underlying104 hi hz0 hz1 hz2 rfl (by decide) _ _ _ rfl (HO1.out.alloc _) ⟨w1.heap.size, 0, none⟩ 1 1 [.int .u8 (z.toNat : Int)] rfl rfl (new_cells _ _ _) (ucell_one _) (by simp only [maxLen]; have := HS.out; omega) (by have := HS.out; omega) (Nat.le_trans hw1.size (by simp)) ?_
               intro v2 w3 hown2 hg2 _))
          go_roundw
          case measure => simp [intOf]; omega
          case rel =>
            refine ⟨k + 3, acc ++ [z], by omega, by simp; omega, by go_num, by rw [HI.out, List.drop_drop], fr_grown (fr_alloc hw1 _) hg2 (own_ge HO1.out), ?_⟩
            rw [List.length_append, ucells_snoc]
            exact hown2
      · rw [unescA_plain h37] at hinv
        have h37' : ((c.toNat : Int) == 37) = false := by
          simp; intro h; apply h37; apply UInt8.toNat_inj.1; show c.toNat = 37; omega
        have HI := Lib.hid hinv
        have HC := Lib.hid hc
        clear hinv hdr h37
        go_wp2_with (first
          | (at_builtin
             refine wpList_append_own _ rfl (.tmp 18) (.tmp 22) _ rfl w.heap.size 5 i0 _ 1 1 Tryz.underlying104 hi hz0 hz1 hz2 rfl (by decide) _ _ _ rfl (HO.out.alloc _) ⟨wr.heap.size, 0, none⟩ 1 1 [.int .u8 (c.toNat : Int)] rfl rfl (new_cells _ _ _) (ucell_one _) (by simp only [maxLen]; have := HS.out; omega) (by have := HS.out; omega) (Nat.le_trans HB.out.size (by simp)) ?_
             intro v2 w3 hown2 hg2 _))
        go_roundw
        case measure => exact meas hlt .i64 .i64
        case rel =>
          refine ⟨k + 1, acc ++ [c], by omega, by simp; omega, by go_num, HI.out, fr_grown (fr_alloc HB.out _) hg2 (own_ge HO.out), ?_⟩
          rw [List.length_append, ucells_snoc]
          exact hown2
    · have hdn : l.drop k = [] := List.drop_of_length_le (by have := HN.out; omega)
      rw [hdn] at hinv
      have hend : unescS s = some acc := by rw [HU.out, hinv]; rfl
      have HEND := Lib.hid hend
      have hcv := own_back hown
      clear hend hdn hinv hown
      go_wp2
      go_ret2
      exact ⟨by rw [HEND.out]; rfl, hb⟩
end Go.Proofs.YthjnmcciejfpcaaGreatDoor
