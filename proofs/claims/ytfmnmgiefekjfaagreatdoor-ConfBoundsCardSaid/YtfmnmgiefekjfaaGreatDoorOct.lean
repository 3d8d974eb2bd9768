/- strconv.ParseInt at base 16 of one to seven digits; octet.number, all, isHex. -/
import Derived.Test.YtfmnmgiefekjfaaGreatDoorHexP
import Derived.Test.YtfmnmgiefekjfaaGreatDoorErr
import Derived.Deep.QuietTactic
import Derived.BigQuiet
namespace Go.Proofs.YtfmnmgiefekjfaaGreatDoor
set_option linter.unusedVariables false
set_option linter.unusedSimpArgs false
open Go.RowKit

theorem or_up : ∀ n : Nat, 65 ≤ n → n ≤ 70 → bits BinOp.or IntKind.u8 (n : Int) 32 = (n : Int) + 32 := by
  intro n h1 h2
  have : n = 65 ∨ n = 66 ∨ n = 67 ∨ n = 68 ∨ n = 69 ∨ n = 70 := by omega
  rcases this with rfl | rfl | rfl | rfl | rfl | rfl <;> decide +kernel
theorem or_lo : ∀ n : Nat, 97 ≤ n → n ≤ 102 → bits BinOp.or IntKind.u8 (n : Int) 32 = (n : Int) := by
  intro n h1 h2
  have : n = 97 ∨ n = 98 ∨ n = 99 ∨ n = 100 ∨ n = 101 ∨ n = 102 := by omega
  rcases this with rfl | rfl | rfl | rfl | rfl | rfl <;> decide +kernel
theorem str_lower (c z : Int) (w : World) (h : bits BinOp.or IntKind.u8 c 32 = z) : Calls Tryz.prog 118 #[.int .u8 c] w fun e w' => e = .returned (.int .u8 z) ∧ w = w' := by
  go_enter Tryz.func118, Tryz.ntmps118
  go_wp2
  go_ret
  exact ⟨rfl, rfl⟩

set_option maxHeartbeats 4000000 in
set_option maxRecDepth 100000 in
theorem parseUint16 (s : ByteArray) (w : World) (h1 : 1 ≤ s.size) (h7 : s.size ≤ 7) (hx : ∀ c ∈ L s, 0 ≤ nib c) :
    Calls Tryz.prog 113 #[.string s, .int .i64 16, .int .i64 64] w fun e w' => e = .returned (.tuple #[.int .u64 (hexN (L s) : Nat), .nilIface]) ∧ Below w.heap.size w w' := by
  have hconv := run_bytes_of_string (P := Tryz.prog) w 9 106 5 s Tryz.underlying9 Tryz.underlying106 Tryz.underlying5
  obtain ⟨l, hl⟩ : ∃ l, l = L s := ⟨_, rfl⟩
  have hsz : l.length = s.size := by rw [hl]; rfl
  rw [← hl] at hx ⊢
  have hne : s.toList.isEmpty = false := by
    rw [toList_L, ← hl]; cases l with | nil => simp at hsz; omega | cons _ _ => rfl
  have hshl : IntKind.u64.wrap 18446744073709551616 = 0 := by decide +kernel
  have HX := Lib.hid hx; have HZ := Lib.hid hsz; have HL := Lib.hid hl
  clear hx hsz hl
  go_enter Tryz.func113, Tryz.ntmps113
  go_wp2_with fail
  generalize hC : (1152921504606846976 : Int) = C
  have hM0 : (1000000000000 : Int) ≤ IntKind.u64.wrap (-1) := by decide +kernel
  generalize IntKind.u64.wrap (-1) = M at hM0 ⊢
  have HCM : RowKit.Hid (1000000000000 ≤ C ∧ 1000000000000 ≤ M) := ⟨by omega, hM0⟩
  clear hC hM0
  go_loopw [12, 13, 101] (fun us n i wr => ∃ k : Nat, k ≤ s.size ∧ us = .bool false ∧ i = .int .i64 k ∧ n = .int .u64 (hexN (l.take k) : Nat) ∧ Below w.heap.size w wr ∧ Buf wr w.heap.size l) (fun _ _ i _ => s.size - (intOf i).toNat)
  case atStart => exact ⟨0, Nat.zero_le _, rfl, rfl, rfl, fr_drew (fr_alloc (fr_refl _) _), by rw [HL.out]; exact (Buf.new w s _ _).drew⟩
  case round =>
    obtain ⟨k, hk, rfl, rfl, rfl, hb, hbuf⟩ := hrel
    have hbnd := hexN_lt (l.take k)
    have hpow : 16 ^ (l.take k).length ≤ 16 ^ 7 := Nat.pow_le_pow_right (by decide) (by rw [List.length_take]; omega)
    have hb28 : hexN (l.take k) < 268435456 := by omega
    clear hbnd hpow
    by_cases hlt : k < s.size
    · have hlt' : k < l.length := by rw [HZ.out]; exact hlt
      obtain ⟨hc, hf⟩ := hbuf.2 k hlt'
      have hn := HX.out l[k] (List.getElem_mem hlt')
      have hsn : hexN (l.take (k + 1)) = hexN (l.take k) * 16 + (nib l[k]).toNat := by rw [List.take_succ_eq_append_getElem hlt', hexN_snoc]
      obtain ⟨c, hcc⟩ : ∃ c, l[k] = c := ⟨_, rfl⟩
      rw [hcc] at hc hn hsn
      obtain ⟨n, hnn⟩ : ∃ n, hexN (l.take k) = n := ⟨_, rfl⟩
      rw [hnn] at hsn hb28 ⊢
      have hnl := (nib_le c).2
      have hcs := nib_cases c hn
      obtain ⟨x, hx⟩ : ∃ x : Nat, x = c.toNat := ⟨_, rfl⟩
      rw [← hx] at hc hcs
      obtain ⟨d, hd⟩ : ∃ d : Nat, (nib c).toNat = d := ⟨_, rfl⟩
      have hdn : nib c = (d : Int) := by omega
      rw [hdn] at hcs hnl
      rw [hd] at hsn
      have HS := Lib.hid hsn; have HB := Lib.hid hb; have HBU := Lib.hid hbuf
      clear hsn hb hbuf hcc hnn hx hd hdn hn hf
      have e1 : IntKind.u64.wrap ((n : Int) * 16) = (n : Int) * 16 := IntWalk.u64_in _ (by omega)
      have c1 : ¬ C ≤ (n : Int) := by have := HCM.out; omega
      rcases hcs with ⟨g1, g2, g3⟩ | ⟨⟨g1, g2⟩, g3⟩ | ⟨⟨g1, g2⟩, g3⟩
      · have g4 : (x : Int) - 48 = (d : Int) := by omega
        have n95 : ((x : Int) == 95) = false := by simp; omega
        clear g3
        have e2 : IntKind.u64.wrap ((n : Int) * 16 + ((d : Int))) = (n : Int) * 16 + ((d : Int)) := IntWalk.u64_in _ (by omega)
        have c2 : ¬ (n : Int) * 16 + ((d : Int)) < (n : Int) * 16 := by omega
        have c3 : ¬ M < (n : Int) * 16 + ((d : Int)) := by have := HCM.out; omega
        have d1 : ¬ (16 : Int) ≤ (d : Int) := by omega
        clear hb28
        go_wp2_with fail
        go_roundw
        case measure => exact meas hlt .i64 .i64
        case rel => exact ⟨k + 1, by omega, rfl, by go_num, by rw [HS.out]; go_num, HB.out, HBU.out⟩
      · have n95 : ((x : Int) == 95) = false := by simp; omega
        have n57 : ¬ (x : Int) ≤ 57 := by omega
        have ho := or_lo x (by omega) (by omega)
        have l97 : (97 : Int) ≤ (x : Int) := by omega
        have g5 : (x : Int) ≤ 122 := by omega
        obtain ⟨q, hq⟩ : ∃ q : Nat, (x : Int) - 97 = (q : Int) := ⟨x - 97, by omega⟩
        have q5 : (q : Int) ≤ 5 := by omega
        obtain rfl : d = q + 10 := by omega
        have HO := Lib.hid ho
        have e2 : IntKind.u64.wrap ((n : Int) * 16 + ((q : Int) + 10)) = (n : Int) * 16 + ((q : Int) + 10) := IntWalk.u64_in _ (by omega)
        have c2 : ¬ (n : Int) * 16 + ((q : Int) + 10) < (n : Int) * 16 := by omega
        have c3 : ¬ M < (n : Int) * 16 + ((q : Int) + 10) := by have := HCM.out; omega
        have d1 : ¬ (16 : Int) ≤ (q : Int) + 10 := by omega
        clear hb28 g3 ho hnl
        go_wp2_with fail
        refine (str_lower x x _ HO.out).mono ?_
        rintro e w2 ⟨rfl, rfl⟩
        go_wp2_with fail
        refine (str_lower x x _ HO.out).mono ?_
        rintro e w2 ⟨rfl, rfl⟩
        go_wp2_with fail
        refine (str_lower x x _ HO.out).mono ?_
        rintro e w2 ⟨rfl, rfl⟩
        go_wp2_with fail
        go_roundw
        case measure => exact meas hlt .i64 .i64
        case rel => exact ⟨k + 1, by omega, rfl, by go_num, by rw [HS.out]; go_num, HB.out, HBU.out⟩
      · have n95 : ((x : Int) == 95) = false := by simp; omega
        have n57 : ¬ (x : Int) ≤ 57 := by omega
        have ho := or_up x (by omega) (by omega)
        obtain ⟨y, hy⟩ : ∃ y : Nat, y = x + 32 := ⟨_, rfl⟩
        rw [show (x : Int) + 32 = (y : Int) by omega] at ho
        have l97 : (97 : Int) ≤ (y : Int) := by omega
        have g5 : (y : Int) ≤ 122 := by omega
        obtain ⟨q, hq⟩ : ∃ q : Nat, (y : Int) - 97 = (q : Int) := ⟨y - 97, by omega⟩
        have q5 : (q : Int) ≤ 5 := by omega
        obtain rfl : d = q + 10 := by omega
        have HO := Lib.hid ho
        have e2 : IntKind.u64.wrap ((n : Int) * 16 + ((q : Int) + 10)) = (n : Int) * 16 + ((q : Int) + 10) := IntWalk.u64_in _ (by omega)
        have c2 : ¬ (n : Int) * 16 + ((q : Int) + 10) < (n : Int) * 16 := by omega
        have c3 : ¬ M < (n : Int) * 16 + ((q : Int) + 10) := by have := HCM.out; omega
        have d1 : ¬ (16 : Int) ≤ (q : Int) + 10 := by omega
        clear hb28 g3 ho hnl hy
        go_wp2_with fail
        refine (str_lower x y _ HO.out).mono ?_
        rintro e w2 ⟨rfl, rfl⟩
        go_wp2_with fail
        refine (str_lower x y _ HO.out).mono ?_
        rintro e w2 ⟨rfl, rfl⟩
        go_wp2_with fail
        refine (str_lower x y _ HO.out).mono ?_
        rintro e w2 ⟨rfl, rfl⟩
        go_wp2_with fail
        go_roundw
        case measure => exact meas hlt .i64 .i64
        case rel => exact ⟨k + 1, by omega, rfl, by go_num, by rw [HS.out]; go_num, HB.out, HBU.out⟩
    · have e : l.take k = l := List.take_of_length_le (by have := HZ.out; omega)
      rw [e]
      clear e
      go_wp2
      go_ret2
      exact ⟨rfl, hb⟩
end Go.Proofs.YtfmnmgiefekjfaaGreatDoor
