/- rule.Ware at every kind. rule.Is with wares. conduitref1.letter, digit, In, Token; conduitref6.plain. -/
import Derived.Test.YthjnmcciejfpcaaDoorMD
import Derived.Test.YthjnmcciejfpcaaDoorFld
namespace Go.Proofs.YthjnmcciejfpcaaDoor
set_option linter.unusedVariables false
set_option linter.unusedSimpArgs false
open Go.RowKit

structure WV where
  kind : Int
  a : ByteArray
  b : ByteArray
  n : Int
def WV.cells (r : WV) : List Value := [.int .i64 r.kind, .string r.a, .string r.b, .int .i64 r.n]
def Wares (w : World) (A : Option Addr) (l : List WV) : Prop :=
  0 < l.length → ∃ b off, A = some ⟨b, off, none⟩ ∧ b < w.heap.size ∧ ∀ k (h : k < l.length) j v, l[k].cells[j]? = some v → w.cell? ⟨b, off + k * 4 + j, none⟩ = some v
theorem Wares.nil (w : World) (A : Option Addr) : Wares w A [] := fun h => absurd h (by simp)
theorem Wares.fr {w w' : World} {A : Option Addr} {l : List WV} (h : Wares w A l) (hb : Below w.heap.size w w') : Wares w' A l := fun h0 => by
  obtain ⟨b, off, rfl, hlt, hc⟩ := h h0
  exact ⟨b, off, rfl, Nat.lt_of_lt_of_le hlt hb.size, fun k hk j v hv => fr_cell hb (hc k hk j v hv)⟩
theorem Wares.one {w : World} {g : Nat} (r : WV) (h : Box w g r.cells) : Wares w (some ⟨g, 0, none⟩) [r] := fun _ =>
  ⟨g, 0, rfl, h.1, fun k hk j v hv => by
    have : k = 0 := by simp at hk; exact hk
    subst this
    have e : 0 + 0 * 4 + j = j := by omega
    rw [e]
    exact h.2 j v hv⟩
def wareOk (r : WV) : Bool :=
  if r.kind = 1 then methOk r.a else if r.kind = 2 then fieldOk r.a r.b else if r.kind = 3 then allB isTokB r.a && Nat.ble r.a.size 64
  else if r.kind = 4 then cleanOk r.a && cleanOk r.b else if r.kind = 5 then decide (0 ≤ r.n) && decide (r.n ≤ 4000) else false
end Go.Proofs.YthjnmcciejfpcaaDoor

namespace Go.Proofs.YthjnmcciejfpcaaDoor
set_option linter.unusedVariables false
set_option linter.unusedSimpArgs false
open Go.RowKit

def isOkW (k : Int) (h p : ByteArray) (b n : Int) (ws : List WV) : Bool := decide (0 ≤ b) && decide (b < n) && hostOk h && Nat.ble ws.length 8 && pathOk k p && ws.all wareOk
theorem wall_no {l : List WV} {k : Nat} (h : k < l.length) (hp : wareOk l[k] = false) : l.all wareOk = false := by
  rw [← List.take_append_drop k l, List.all_append, List.drop_eq_getElem_cons h, List.all_cons, hp]; simp
theorem wall_succ {l : List WV} {k : Nat} (h : k < l.length) (hk : (l.take k).all wareOk = true) (hp : wareOk l[k] = true) : (l.take (k + 1)).all wareOk = true := by
  rw [List.take_succ_eq_append_getElem h, List.all_append, hk]; simp [hp]
end Go.Proofs.YthjnmcciejfpcaaDoor

namespace Go.Proofs.YthjnmcciejfpcaaDoor
set_option linter.unusedVariables false
set_option linter.unusedSimpArgs false
open Go.RowKit

def letN (c : UInt8) : Bool := (decide (97 ≤ (c.toNat : Int)) && decide ((c.toNat : Int) ≤ 122)) || (decide (65 ≤ (c.toNat : Int)) && decide ((c.toNat : Int) ≤ 90))
def digN (c : UInt8) : Bool := decide (48 ≤ (c.toNat : Int)) && decide ((c.toNat : Int) ≤ 57)
theorem ref1_letter (c : UInt8) (w : World) : Calls Tryd.prog 59 #[.int .u8 (c.toNat : Int)] w fun e w' => e = .returned (.bool (letN c)) ∧ w = w' := by
  go_enter Tryd.func59, Tryd.ntmps59
  go_wp2
  all_goals (go_ret; refine ⟨?_, rfl⟩; (simp_all [letN] <;> omega))
theorem ref1_digit (c : UInt8) (w : World) : Calls Tryd.prog 57 #[.int .u8 (c.toNat : Int)] w fun e w' => e = .returned (.bool (digN c)) ∧ w = w' := by
  go_enter Tryd.func57, Tryd.ntmps57
  go_wp2
  all_goals (go_ret; refine ⟨?_, rfl⟩; (simp_all [digN] <;> omega))
set_option maxHeartbeats 400000 in
theorem ref1_In (c : UInt8) (s : ByteArray) (w : World) (hs : s.size ≤ 1000000000) : Calls Tryd.prog 60 #[.int .u8 (c.toNat : Int), .string s] w fun e w' => e = .returned (.bool ((L s).contains c)) ∧ w = w' := by
  go_enter Tryd.func60, Tryd.ntmps60
  go_wp2
  go_loopw [5] (fun i wr => ∃ k : Nat, k ≤ s.size ∧ i = .int .i64 k ∧ (L s).contains c = ((L s).drop k).contains c ∧ w = wr) (fun i _ => s.size - (intOf i).toNat)
  case atStart => exact ⟨0, Nat.zero_le _, rfl, rfl, rfl⟩
  case round =>
    obtain ⟨k, hk, rfl, hc, rfl⟩ := hrel
    by_cases hlt : k < s.size
    · have hd : (L s).drop k = s[k] :: (L s).drop (k + 1) := by rw [List.drop_eq_getElem_cons (by show k < s.data.size; exact hlt)]; rfl
      rw [hd, List.contains_cons] at hc
      by_cases he : c = s[k]
      · have he' : ((s[k].toNat : Int) == (c.toNat : Int)) = true := by rw [he]; simp
        have hr : (L s).contains c = true := by rw [hc, he]; simp
        have HR := Lib.hid hr
        clear hr hc hd he
        go_wp2
        go_ret
        exact ⟨by rw [HR.out]; rfl, rfl⟩
      · have he' : ((s[k].toNat : Int) == (c.toNat : Int)) = false := by
          simp; intro h; exact he (UInt8.toNat_inj.1 (by omega))
        have hr : (L s).contains c = ((L s).drop (k + 1)).contains c := by rw [hc]; simp [he]
        have HR := Lib.hid hr
        clear hr hc hd he
        go_wp2
        go_roundw
        case measure => exact meas hlt .i64 .i64
        case rel => exact ⟨k + 1, by omega, by go_num, HR.out, trivial⟩
    · have hd : (L s).drop k = [] := List.drop_eq_nil_of_le (by rw [L_len]; omega)
      rw [hd] at hc
      have HC := Lib.hid hc
      clear hc hd
      go_wp2
      go_ret
      exact ⟨by rw [HC.out]; rfl, rfl⟩
theorem ref1_letter_at (c : UInt8) (b : Bool) (w : World) (h : letN c = b) : Calls Tryd.prog 59 #[.int .u8 (c.toNat : Int)] w fun e w' => e = .returned (.bool b) ∧ w = w' := h ▸ ref1_letter c w
theorem ref1_digit_at (c : UInt8) (b : Bool) (w : World) (h : digN c = b) : Calls Tryd.prog 57 #[.int .u8 (c.toNat : Int)] w fun e w' => e = .returned (.bool b) ∧ w = w' := h ▸ ref1_digit c w
theorem ref1_In_at (c : UInt8) (s : ByteArray) (b : Bool) (w : World) (h : (L s).contains c = b) (hs : s.size ≤ 1000000000) : Calls Tryd.prog 60 #[.int .u8 (c.toNat : Int), .string s] w fun e w' => e = .returned (.bool b) ∧ w = w' := h ▸ ref1_In c s w hs
def tok14 : ByteArray := ⟨#[33, 35, 36, 37, 38, 39, 42, 43, 45, 46, 94, 95, 124, 126]⟩
theorem tok_eq : ∀ c : UInt8, isTokB c = (letN c || digN c || (L tok14).contains c || c == 96) := by
  have h : ∀ n : Fin 256, isTokB (UInt8.ofNat n) = (letN (UInt8.ofNat n) || digN (UInt8.ofNat n) || (L tok14).contains (UInt8.ofNat n) || (UInt8.ofNat n) == 96) := by decide +kernel
  intro c
  have := h ⟨c.toNat, c.toNat_lt⟩
  simpa using this
set_option maxHeartbeats 2000000 in
theorem ref1_Token (s : ByteArray) (w : World) (hs : s.size ≤ 9223372036854775807) : Calls Tryd.prog 46 #[.string s] w fun e w' => e = .returned (.bool (allB isTokB s)) ∧ w = w' := by
  have hlen : (L s).length = s.size := rfl
  obtain ⟨l, hl⟩ : ∃ l, L s = l := ⟨_, rfl⟩
  rw [hl] at hlen
  have he : allB isTokB s = (l.all isTokB && !s.toList.isEmpty) := by unfold allB; rw [hl]
  have HE := Lib.hid he; have HL0 := Lib.hid hl; have HN := Lib.hid hlen
  clear he hlen hl
  go_enter Tryd.func46, Tryd.ntmps46
  go_wp2
  go_loop [3] (fun i => ∃ k : Nat, k ≤ s.size ∧ i = .int .i64 k ∧ (l.take k).all isTokB = true) (fun i => s.size - (intOf i).toNat)
  case atStart => exact ⟨0, Nat.zero_le _, rfl, rfl⟩
  case round =>
    obtain ⟨k, hk, rfl, hall⟩ := hrel
    by_cases hlt : k < s.size
    · have hkl : k < l.length := by have := HN.out; omega
      have hat : l[k] = s[k] := by have := HL0.out; subst this; rfl
      obtain ⟨c, hc⟩ : ∃ c, s[k] = c := ⟨_, rfl⟩
      rw [hc] at hat
      have HA := Lib.hid hall; have HAT := Lib.hid hat; clear hall hat
      have ht := tok_eq c
      cases hl : letN c
      · cases hd : digN c
        · cases hi : (L tok14).contains c
          · by_cases h96 : c = 96
            · have hq : isTokB c = true := by rw [h96]; decide +kernel
              have hn : ((c.toNat : Int) == 96) = true := by rw [h96]; rfl
              have HQ := Lib.hid hq; have HL := Lib.hid hl; have HD := Lib.hid hd; have HI := Lib.hid hi
              clear hq hl hd hi ht h96
              go_wp2_with fail
              refine (ref1_letter_at c _ _ HL.out).mono ?_
              rintro e w1 ⟨rfl, rfl⟩
              go_wp2_with fail
              refine (ref1_digit_at c _ _ HD.out).mono ?_
              rintro e w1 ⟨rfl, rfl⟩
              go_wp2_with fail
              refine (ref1_In_at c tok14 _ _ HI.out (by decide)).mono ?_
              rintro e w1 ⟨rfl, rfl⟩
              go_wp2
              go_round
              case measure => exact meas hlt .i64 .i64
              case rel => exact ⟨k + 1, by omega, by go_num, all_succ hkl HA.out (by rw [HAT.out]; exact HQ.out)⟩
            · have hn : ((c.toNat : Int) == 96) = false := by
                simp; intro h; exact h96 (UInt8.toNat_inj.1 (by show c.toNat = 96; omega))
              have hn2 : ((c.toNat : Int) != 96) = true := by simpa using hn
              have hq : isTokB c = false := by rw [ht, hl, hd, hi]; simp [h96]
              have HQ := Lib.hid hq; have HL := Lib.hid hl; have HD := Lib.hid hd; have HI := Lib.hid hi
              clear hq hl hd hi ht
              go_wp2_with fail
              refine (ref1_letter_at c _ _ HL.out).mono ?_
              rintro e w1 ⟨rfl, rfl⟩
              go_wp2_with fail
              refine (ref1_digit_at c _ _ HD.out).mono ?_
              rintro e w1 ⟨rfl, rfl⟩
              go_wp2_with fail
              refine (ref1_In_at c tok14 _ _ HI.out (by decide)).mono ?_
              rintro e w1 ⟨rfl, rfl⟩
              go_wp2
              go_ret
              exact ⟨by rw [HE.out, all_drop hkl HA.out (by rw [HAT.out]; exact HQ.out)]; rfl, rfl⟩
          · have hq : isTokB c = true := by rw [ht, hl, hd, hi]; rfl
            have HQ := Lib.hid hq; have HL := Lib.hid hl; have HD := Lib.hid hd; have HI := Lib.hid hi
            clear hq hl hd hi ht
            go_wp2_with fail
            refine (ref1_letter_at c _ _ HL.out).mono ?_
            rintro e w1 ⟨rfl, rfl⟩
            go_wp2_with fail
            refine (ref1_digit_at c _ _ HD.out).mono ?_
            rintro e w1 ⟨rfl, rfl⟩
            go_wp2_with fail
            refine (ref1_In_at c tok14 _ _ HI.out (by decide)).mono ?_
            rintro e w1 ⟨rfl, rfl⟩
            go_wp2
            go_round
            case measure => exact meas hlt .i64 .i64
            case rel => exact ⟨k + 1, by omega, by go_num, all_succ hkl HA.out (by rw [HAT.out]; exact HQ.out)⟩
        · have hq : isTokB c = true := by rw [ht, hl, hd]; rfl
          have HQ := Lib.hid hq; have HL := Lib.hid hl; have HD := Lib.hid hd
          clear hq hl hd ht
          go_wp2_with fail
          refine (ref1_letter_at c _ _ HL.out).mono ?_
          rintro e w1 ⟨rfl, rfl⟩
          go_wp2_with fail
          refine (ref1_digit_at c _ _ HD.out).mono ?_
          rintro e w1 ⟨rfl, rfl⟩
          go_wp2
          go_round
          case measure => exact meas hlt .i64 .i64
          case rel => exact ⟨k + 1, by omega, by go_num, all_succ hkl HA.out (by rw [HAT.out]; exact HQ.out)⟩
      · have hq : isTokB c = true := by rw [ht, hl]; rfl
        have HQ := Lib.hid hq; have HL := Lib.hid hl
        clear hq hl ht
        go_wp2_with fail
        refine (ref1_letter_at c _ _ HL.out).mono ?_
        rintro e w1 ⟨rfl, rfl⟩
        go_wp2
        go_round
        case measure => exact meas hlt .i64 .i64
        case rel => exact ⟨k + 1, by omega, by go_num, all_succ hkl HA.out (by rw [HAT.out]; exact HQ.out)⟩
    · have e : l.take k = l := List.take_of_length_le (by have := HN.out; omega)
      rw [e] at hall
      have HA := Lib.hid hall; clear hall e
      cases hq : s.toList.isEmpty
      all_goals
        have HQ := Lib.hid hq
        go_wp2
        go_ret
        exact ⟨by rw [HE.out, HA.out, HQ.out]; rfl, rfl⟩
theorem valB_plain (c : UInt8) : valB c = !((decide ((c.toNat : Int) < 32) && !((c.toNat : Int) == 9)) || ((c.toNat : Int) == 127)) := by
  rw [valB_eq]
  generalize (c.toNat : Int) = n
  by_cases h9 : n = 9
  · subst h9; rfl
  · by_cases h127 : n = 127
    · subst h127; rfl
    · have k1 : (n == 9) = false := by simp; omega
      have k2 : (n == 127) = false := by simp; omega
      rw [k1, k2]
      by_cases h : 32 ≤ n
      · simp [h]
      · simp [h]; omega
set_option maxHeartbeats 2000000 in
theorem ref6_plain (s : ByteArray) (w : World) (hs : s.size ≤ 9223372036854775807) : Calls Tryd.prog 62 #[.string s] w fun e w' => e = .returned (.bool ((L s).all valB)) ∧ w = w' := by
  have hlen : (L s).length = s.size := rfl
  obtain ⟨l, hl⟩ : ∃ l, L s = l := ⟨_, rfl⟩
  rw [hl] at hlen ⊢
  have HL0 := Lib.hid hl; have HN := Lib.hid hlen
  clear hlen hl
  go_enter Tryd.func62, Tryd.ntmps62
  go_wp2
  go_loop [3] (fun i => ∃ k : Nat, k ≤ s.size ∧ i = .int .i64 k ∧ (l.take k).all valB = true) (fun i => s.size - (intOf i).toNat)
  case atStart => exact ⟨0, Nat.zero_le _, rfl, rfl⟩
  case round =>
    obtain ⟨k, hk, rfl, hall⟩ := hrel
    by_cases hlt : k < s.size
    · have hkl : k < l.length := by have := HN.out; omega
      have hat : l[k] = s[k] := by have := HL0.out; subst this; rfl
      obtain ⟨c, hc⟩ : ∃ c, s[k] = c := ⟨_, rfl⟩
      rw [hc] at hat
      have HA := Lib.hid hall; have HAT := Lib.hid hat; clear hall hat
      have hv := valB_plain c
      by_cases h1 : (c.toNat : Int) < 32
      · cases h9 : ((c.toNat : Int) == 9)
        · have hq : valB c = false := by rw [hv, h9]; simp [h1]
          have h9' : ((c.toNat : Int) != 9) = true := by simpa using h9
          have HQ := Lib.hid hq
          clear hq hv
          go_wp2
          all_goals
            go_ret
            exact ⟨by rw [all_drop hkl HA.out (by rw [HAT.out]; exact HQ.out)]; rfl, rfl⟩
        · have hn : ((c.toNat : Int) == 127) = false := by simp; omega
          have hq : valB c = true := by rw [hv, h9, hn]; simp
          have h9' : ((c.toNat : Int) != 9) = false := by simpa using h9
          have HQ := Lib.hid hq
          clear hq hv
          go_wp2
          go_round
          case measure => exact meas hlt .i64 .i64
          case rel => exact ⟨k + 1, by omega, by go_num, all_succ hkl HA.out (by rw [HAT.out]; exact HQ.out)⟩
      · have h1' : 32 ≤ (c.toNat : Int) := by omega
        cases hn : ((c.toNat : Int) == 127)
        · have hq : valB c = true := by rw [hv, hn]; simp [h1]
          have HQ := Lib.hid hq
          clear hq hv
          go_wp2
          go_round
          case measure => exact meas hlt .i64 .i64
          case rel => exact ⟨k + 1, by omega, by go_num, all_succ hkl HA.out (by rw [HAT.out]; exact HQ.out)⟩
        · have hq : valB c = false := by rw [hv, hn]; simp
          have HQ := Lib.hid hq
          clear hq hv
          go_wp2
          go_ret
          exact ⟨by rw [all_drop hkl HA.out (by rw [HAT.out]; exact HQ.out)]; rfl, rfl⟩
    · have e : l.take k = l := List.take_of_length_le (by have := HN.out; omega)
      rw [e] at hall
      have HA := Lib.hid hall; clear hall e
      go_wp2
      go_ret
      exact ⟨by rw [HA.out]; rfl, rfl⟩
end Go.Proofs.YthjnmcciejfpcaaDoor
