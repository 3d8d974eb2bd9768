/- strings.Trim at a set of bytes; octet.isPlain, isToken, Token, Trim. -/
import Derived.Test.YtfmnmgiefekjfaaGreatDoorPathV
import Derived.Shelf.Strings.SlTrimAscii
namespace Go.Proofs.YtfmnmgiefekjfaaGreatDoor
set_option linter.unusedVariables false
set_option linter.unusedSimpArgs false
open Go.RowKit

def trimB (s cut : ByteArray) : ByteArray := mk (Lib.trimS (L s) (L cut))
theorem lib_Trim (s cut : ByteArray) (w : World) (hs : s.size ≤ 9223372036854775807) (hc : cut.size < 4294967281) (ha : (L cut).all (fun b => decide (b.toNat < 128)) = true) :
    Calls Tryz.prog 13 #[.string s, .string cut] w fun e w' => e = .returned (.string (trimB s cut)) ∧ Below w.heap.size w w' :=
  Any.strings_Trim_laid Tryz.lays160 (by kernel_rfl) s cut w hs hc (ascii_of_all ha)
theorem dropWhile_len {p : UInt8 → Bool} : ∀ l : List UInt8, (l.dropWhile p).length ≤ l.length
  | [] => Nat.le_refl _
  | c :: l => by
    have := dropWhile_len (p := p) l
    rw [List.dropWhile_cons]
    split <;> simp <;> omega
theorem trimB_size (s cut : ByteArray) : (trimB s cut).size ≤ s.size := by
  unfold trimB Lib.trimS Lib.trimLeftS Lib.trimRightS
  rw [mk_size]
  refine Nat.le_trans (dropWhile_len _) ?_
  rw [List.length_reverse]
  refine Nat.le_trans (dropWhile_len _) ?_
  rw [List.length_reverse]
  exact Nat.le_of_eq (L_len s)
theorem dropWhile_nil {p : UInt8 → Bool} : ∀ l : List UInt8, l.dropWhile p = [] ↔ l.all p = true
  | [] => by simp
  | c :: l => by
    rw [List.dropWhile_cons, List.all_cons]
    cases hp : p c
    · simp
    · simp [dropWhile_nil l]
theorem trimS_nil (l cs : List UInt8) : Lib.trimS l cs = [] ↔ l.all (fun c => cs.contains c) = true := by
  unfold Lib.trimS Lib.trimLeftS Lib.trimRightS
  rw [dropWhile_nil]
  constructor
  · intro h
    have h1 : l.reverse.all (fun c => cs.contains c) = true := by
      have h2 := List.takeWhile_append_dropWhile (p := fun c => cs.contains c) (l := l.reverse)
      rw [← h2, List.all_append, Bool.and_eq_true]
      refine ⟨?_, by rw [List.all_reverse] at h; exact h⟩
      exact List.all_takeWhile
    rw [List.all_reverse] at h1; exact h1
  · intro h
    have h1 : l.reverse.dropWhile (fun c => cs.contains c) = [] := (dropWhile_nil _).2 (by rw [List.all_reverse]; exact h)
    rw [h1]; rfl
theorem trimB_empty (s cut : ByteArray) : (trimB s cut).toList.isEmpty = (L s).all (fun c => (L cut).contains c) := by
  rw [toList_L]
  unfold trimB
  rw [L_mk, Bool.eq_iff_iff, List.isEmpty_iff, trimS_nil]

def isPlainB (c : UInt8) : Bool := ((decide (97 ≤ (c.toNat : Int)) && decide ((c.toNat : Int) ≤ 122)) || (decide (65 ≤ (c.toNat : Int)) && decide ((c.toNat : Int) ≤ 90))) || (decide (48 ≤ (c.toNat : Int)) && decide ((c.toNat : Int) ≤ 57))
theorem oct_isPlain (c : UInt8) (w : World) : Calls Tryz.prog 79 #[.int .u8 (c.toNat : Int)] w fun e w' => e = .returned (.bool (isPlainB c)) ∧ w = w' := by
  go_enter Tryz.func79, Tryz.ntmps79
  go_wp2
  all_goals (go_ret; refine ⟨?_, rfl⟩; first | (simp_all [isPlainB] <;> omega) | (simp [isPlainB]; omega) | (simp_all [isPlainB]; rw [Bool.eq_iff_iff]; simp only [Bool.or_eq_true, Bool.and_eq_true, decide_eq_true_eq]; omega))
def tokL : List UInt8 := [33, 35, 36, 37, 38, 39, 42, 43, 45, 46, 94, 95, 96, 124, 126]
def isTokB (c : UInt8) : Bool := tokL.contains c || isPlainB c
set_option maxHeartbeats 1000000 in
theorem oct_isToken (c : UInt8) (w : World) : Calls Tryz.prog 59 #[.int .u8 (c.toNat : Int)] w fun e w' => e = .returned (.bool (isTokB c)) ∧ w = w' := by
  cases hc : tokL.contains c
  · have he : isTokB c = isPlainB c := by unfold isTokB; rw [hc]; rfl
    have hn : ∀ d : UInt8, d ∈ tokL → ((c.toNat : Int) == (d.toNat : Int)) = false := fun d hd => by
      simp only [beq_eq_false_iff_ne, ne_eq]
      intro h
      have : c = d := UInt8.toNat_inj.1 (by omega)
      rw [this] at hc
      have h2 := List.contains_iff_mem.2 hd
      rw [h2] at hc; cases hc
    have n33 : ((c.toNat : Int) == 33) = false := hn 33 (by decide)
    have n35 : ((c.toNat : Int) == 35) = false := hn 35 (by decide)
    have n36 : ((c.toNat : Int) == 36) = false := hn 36 (by decide)
    have n37 : ((c.toNat : Int) == 37) = false := hn 37 (by decide)
    have n38 : ((c.toNat : Int) == 38) = false := hn 38 (by decide)
    have n39 : ((c.toNat : Int) == 39) = false := hn 39 (by decide)
    have n42 : ((c.toNat : Int) == 42) = false := hn 42 (by decide)
    have n43 : ((c.toNat : Int) == 43) = false := hn 43 (by decide)
    have n45 : ((c.toNat : Int) == 45) = false := hn 45 (by decide)
    have n46 : ((c.toNat : Int) == 46) = false := hn 46 (by decide)
    have n94 : ((c.toNat : Int) == 94) = false := hn 94 (by decide)
    have n95 : ((c.toNat : Int) == 95) = false := hn 95 (by decide)
    have n96 : ((c.toNat : Int) == 96) = false := hn 96 (by decide)
    have n124 : ((c.toNat : Int) == 124) = false := hn 124 (by decide)
    have n126 : ((c.toNat : Int) == 126) = false := hn 126 (by decide)
    have HE := Lib.hid he
    clear he hn hc
    go_enter Tryz.func59, Tryz.ntmps59
    go_wp2_with fail
    refine (oct_isPlain c _).mono ?_
    rintro e w1 ⟨rfl, rfl⟩
    go_wp2
    go_ret
    exact ⟨by rw [HE.out]; rfl, rfl⟩
  · have he : isTokB c = true := by unfold isTokB; rw [hc]; rfl
    have hm := List.contains_iff_mem.1 hc
    unfold tokL at hm
    simp only [List.mem_cons, List.not_mem_nil, or_false] at hm
    rw [he]
    clear hc he
    rcases hm with rfl | rfl | rfl | rfl | rfl | rfl | rfl | rfl | rfl | rfl | rfl | rfl | rfl | rfl | rfl
    all_goals
      go_enter Tryz.func59, Tryz.ntmps59
      go_wp2
      go_ret
      exact ⟨rfl, rfl⟩
set_option maxHeartbeats 1000000 in
theorem oct_all_tok (s : ByteArray) (w : World) (hs : s.size ≤ 9223372036854775807) : Calls Tryz.prog 58 #[.string s, .func (.func 59) #[] #[]] w fun e w' => e = .returned (.bool (allB isTokB s)) ∧ w = w' := by
  have hlen : (L s).length = s.size := rfl
  obtain ⟨l, hl⟩ : ∃ l, L s = l := ⟨_, rfl⟩
  rw [hl] at hlen
  have he : allB isTokB s = (l.all isTokB && !s.toList.isEmpty) := by unfold allB; rw [hl]
  have HE := Lib.hid he; have HL := Lib.hid hl; have HN := Lib.hid hlen
  clear he hlen hl
  go_enter Tryz.func58, Tryz.ntmps58
  go_wp2
  go_loop [8] (fun i => ∃ k : Nat, k ≤ s.size ∧ i = .int .i64 k ∧ (l.take k).all isTokB = true) (fun i => s.size - (intOf i).toNat)
  case atStart => exact ⟨0, Nat.zero_le _, rfl, rfl⟩
  case round =>
    obtain ⟨k, hk, rfl, hall⟩ := hrel
    by_cases hlt : k < s.size
    · have hkl : k < l.length := by have := HN.out; omega
      have hat : l[k] = s[k] := by have := HL.out; subst this; rfl
      obtain ⟨c, hc⟩ : ∃ c, s[k] = c := ⟨_, rfl⟩
      rw [hc] at hat
      have HA := Lib.hid hall; have HAT := Lib.hid hat; clear hall hat
      go_wp2_with fail
      refine (oct_isToken c _).mono ?_
      rintro e w1 ⟨rfl, rfl⟩
      cases hq : isTokB c
      · have HQ := Lib.hid hq
        go_wp2
        go_ret
        exact ⟨by rw [HE.out, all_drop hkl HA.out (by rw [HAT.out]; exact HQ.out)]; rfl, rfl⟩
      · have HQ := Lib.hid hq
        go_wp2
        go_round
        case measure => exact meas hlt .i64 .i64
        case rel => exact ⟨k + 1, by omega, by go_num, all_succ hkl HA.out (by rw [HAT.out]; exact HQ.out)⟩
    · have e : l.take k = l := List.take_of_length_le (by have := HN.out; omega)
      rw [e] at hall
      have HA := Lib.hid hall; clear hall e
      cases hq : s.toList.isEmpty
      all_goals
        have HQ := Lib.hid hq
        go_wp2
        go_ret
        exact ⟨by rw [HE.out, HA.out, HQ.out]; rfl, rfl⟩
theorem oct_Token (s : ByteArray) (w : World) (hs : s.size ≤ 9223372036854775807) : Calls Tryz.prog 41 #[.string s] w fun e w' => e = .returned (.bool (allB isTokB s)) ∧ w = w' := by
  go_enter Tryz.func41, Tryz.ntmps41
  go_wp2_with fail
  refine (oct_all_tok s _ hs).mono ?_
  rintro e w1 ⟨rfl, rfl⟩
  go_wp2
  go_ret
  exact ⟨rfl, rfl⟩
def octTrim (s : ByteArray) : ByteArray := trimB s ⟨#[32, 9]⟩
theorem oct_Trim (s : ByteArray) (w : World) (hs : s.size ≤ 9223372036854775807) : Calls Tryz.prog 57 #[.string s] w fun e w' => e = .returned (.string (octTrim s)) ∧ Below w.heap.size w w' := by
  go_enter Tryz.func57, Tryz.ntmps57
  go_wp2_with fail
  refine (lib_Trim s ⟨#[32, 9]⟩ _ hs (by decide) (by decide)).mono ?_
  rintro e w1 ⟨rfl, hb⟩
  go_wp2
  go_ret
  exact ⟨rfl, hb⟩
end Go.Proofs.YtfmnmgiefekjfaaGreatDoor
