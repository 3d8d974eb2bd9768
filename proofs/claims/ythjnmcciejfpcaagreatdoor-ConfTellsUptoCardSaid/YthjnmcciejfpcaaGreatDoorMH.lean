/- Blanks taken off by steps; plainly. conduitref1.blank, Trim; conduitref6.Parse. -/
import Derived.Test.YthjnmcciejfpcaaGreatDoorFld
import Derived.Test.YthjnmcciejfpcaaGreatDoorFPl
import Derived.Test.YthjnmcciejfpcaaGreatDoorME
namespace Go.Proofs.YthjnmcciejfpcaaGreatDoor
set_option linter.unusedVariables false
set_option linter.unusedSimpArgs false
open Go.RowKit

def blB (c : UInt8) : Bool := ([32, 9] : List UInt8).contains c
def trT (l : List UInt8) : List UInt8 := ((l.dropWhile blB).reverse.dropWhile blB).reverse
theorem octTrim_T (s : ByteArray) : octTrim s = mk (trT (L s)) := by
  unfold octTrim trimB
  rw [← trimS_left]; rfl
theorem trT_cons {c : UInt8} {r : List UInt8} (h : blB c = true) : trT (c :: r) = trT r := by
  unfold trT; rw [List.dropWhile_cons, h]; rfl
theorem trT_snoc {c : UInt8} {r : List UInt8} (h : blB c = true) : trT (r ++ [c]) = trT r := by
  unfold trT
  rw [trim_comm, trim_comm, List.reverse_append, List.reverse_singleton, List.singleton_append, List.dropWhile_cons, h]; rfl
theorem trT_fix {l : List UInt8} (h1 : ∀ c r, l = c :: r → blB c = false) (h2 : ∀ c r, l = r ++ [c] → blB c = false) : trT l = l := by
  unfold trT
  have e1 : l.dropWhile blB = l := by
    cases l with
    | nil => rfl
    | cons c r => rw [List.dropWhile_cons, h1 c r rfl]; rfl
  rw [e1]
  have e2 : l.reverse.dropWhile blB = l.reverse := by
    cases hr : l.reverse with
    | nil => rfl
    | cons c r =>
      have : l = r.reverse ++ [c] := by rw [← List.reverse_reverse l, hr]; simp
      rw [List.dropWhile_cons, h2 c _ this]; rfl
  rw [e2, List.reverse_reverse]
theorem dropW_all {p q : UInt8 → Bool} (h : ∀ c, p c = true → q c = true) : ∀ l : List UInt8, (l.dropWhile p).all q = l.all q
  | [] => rfl
  | c :: l => by
    rw [List.dropWhile_cons]
    cases hp : p c
    · rfl
    · simp only [if_true]
      rw [dropW_all h l, List.all_cons, h c hp, Bool.true_and]
theorem bl_val : ∀ c : UInt8, blB c = true → valB c = true := by
  intro c h
  unfold blB at h
  simp at h
  rcases h with rfl | rfl <;> rfl
theorem trim_val (s : ByteArray) : (L (octTrim s)).all valB = (L s).all valB := by
  rw [octTrim_T, L_mk]
  unfold trT
  rw [List.all_reverse, dropW_all bl_val, List.all_reverse, dropW_all bl_val]
theorem octTrim_first (x : ByteArray) (h : 0 < x.size) (hb : blB x[0] = true) : octTrim (x.extract 1 x.size) = octTrim x := by
  have e : L x = x[0] :: (L x).drop 1 := List.drop_eq_getElem_cons (show 0 < (L x).length from h)
  rw [octTrim_T, octTrim_T, L_end, e, trT_cons hb]
  simp
theorem octTrim_last (x : ByteArray) (h : 0 < x.size) (hb : blB (x[x.size - 1]'(by omega)) = true) : octTrim (x.extract 0 (x.size - 1)) = octTrim x := by
  have hl : (L x).length = x.size := rfl
  have e : L x = (L x).take (x.size - 1) ++ [x[x.size - 1]'(by omega)] := by
    have h1 := List.take_succ_eq_append_getElem (l := L x) (i := x.size - 1) (by rw [hl]; omega)
    rw [L_at x (x.size - 1) (by omega)] at h1
    rw [← h1, List.take_of_length_le (by rw [hl]; omega)]
  have e2 : L (x.extract 0 (x.size - 1)) = (L x).take (x.size - 1) := by rw [L_ext]; simp
  rw [octTrim_T, octTrim_T, e2]
  conv => rhs; rw [e]
  rw [trT_snoc hb]
theorem octTrim_fix (x : ByteArray) (h1 : ∀ h : 0 < x.size, blB (x[0]'h) = false) (h2 : ∀ h : 0 < x.size, blB (x[x.size - 1]'(by omega)) = false) : octTrim x = x := by
  have hl : (L x).length = x.size := rfl
  rw [octTrim_T, trT_fix, mk_L]
  · intro c r h
    have h0 : 0 < x.size := by rw [← hl, h]; simp
    have : (L x)[0]'(by rw [hl]; exact h0) = c := by simp [h]
    rw [← this]
    exact h1 h0
  · intro c r h
    have h0 : 0 < x.size := by rw [← hl, h]; simp
    have hs : x.size - 1 = r.length := by rw [← hl, h]; simp
    have : (L x)[x.size - 1]'(by rw [hl]; omega) = c := by simp [h, hs]
    rw [← this]
    exact h2 h0
theorem blB_eq (c : UInt8) : blB c = (((c.toNat : Int) == 32) || ((c.toNat : Int) == 9)) := by
  unfold blB
  have h : ∀ n : Fin 256, ([32, 9] : List UInt8).contains (UInt8.ofNat n) = ((((UInt8.ofNat n).toNat : Int) == 32) || (((UInt8.ofNat n).toNat : Int) == 9)) := by decide +kernel
  have := h ⟨c.toNat, c.toNat_lt⟩
  simpa using this
end Go.Proofs.YthjnmcciejfpcaaGreatDoor

namespace Go.Proofs.YthjnmcciejfpcaaGreatDoor
set_option linter.unusedVariables false
set_option linter.unusedSimpArgs false
open Go.RowKit

theorem ref1_blank (c : UInt8) (w : World) : Calls Tryz.prog 81 #[.int .u8 (c.toNat : Int)] w fun e w' => e = .returned (.bool (blB c)) ∧ w = w' := by
  have hb := blB_eq c
  obtain ⟨b, he⟩ : ∃ b, blB c = b := ⟨_, rfl⟩
  rw [he] at hb ⊢
  generalize (c.toNat : Int) = n at hb ⊢
  cases h1 : (n == 32)
  · cases h2 : (n == 9)
    all_goals
      rw [h1, h2] at hb
      subst hb
      go_enter Tryz.func81, Tryz.ntmps81
      go_wp2
      go_ret
      exact ⟨rfl, rfl⟩
  · rw [h1] at hb
    subst hb
    go_enter Tryz.func81, Tryz.ntmps81
    go_wp2
    go_ret
    exact ⟨rfl, rfl⟩
theorem ref1_blank_at (c : UInt8) (b : Bool) (w : World) (h : blB c = b) : Calls Tryz.prog 81 #[.int .u8 (c.toNat : Int)] w fun e w' => e = .returned (.bool b) ∧ w = w' := h ▸ ref1_blank c w
def strZ : Value → Nat | .string b => b.size | _ => 0
theorem first_ext (y : ByteArray) (h : ∀ h : 0 < y.size, blB (y[0]'h) = false) (k : 0 < (y.extract 0 (y.size - 1)).size) : blB ((y.extract 0 (y.size - 1))[0]'k) = false := by
  have h0 : 0 < y.size := by rw [ByteArray.size_extract] at k; omega
  rw [ByteArray.getElem_extract]
  simpa using h h0
set_option maxHeartbeats 4000000 in
theorem ref1_Trim (s : ByteArray) (w : World) (hs : s.size ≤ 9223372036854775807) : Calls Tryz.prog 65 #[.string s] w fun e w' => e = .returned (.string (octTrim s)) ∧ w = w' := by
  obtain ⟨R, hR⟩ : ∃ R, octTrim s = R := ⟨_, rfl⟩
  rw [hR]
  have HR := Lib.hid hR
  clear hR
  go_enter Tryz.func65, Tryz.ntmps65
  go_wp2
  go_loop [0] (fun v => ∃ x : ByteArray, v = .string x ∧ x.size ≤ s.size ∧ octTrim x = R) (fun v => strZ v)
  case atStart => exact ⟨s, rfl, Nat.le_refl _, HR.out⟩
  case round =>
    obtain ⟨x, rfl, hx, he⟩ := hrel
    have HE := Lib.hid he; clear he
    have hcases : (∃ h : 0 < x.size, blB (x[0]'h) = true) ∨ ∀ h : 0 < x.size, blB (x[0]'h) = false := by
      by_cases h0 : 0 < x.size
      · cases hb : blB (x[0]'h0)
        · exact .inr fun _ => hb
        · exact .inl ⟨h0, hb⟩
      · exact .inr fun h => absurd h h0
    rcases hcases with ⟨h0, hb⟩ | hfin
    · have h0I : (0 : Int) < (x.size : Int) := by omega
      have hfst := octTrim_first x h0 hb
      obtain ⟨c, hc⟩ : ∃ c, x[0] = c := ⟨_, rfl⟩
      rw [hc] at hb
      have HF := Lib.hid hfst; have HB := Lib.hid hb
      clear hfst hb
      have e1 : (1 : Int) ≤ (x.size : Int) := by omega
      go_wp2_with fail
      refine (ref1_blank_at c _ _ HB.out).mono ?_
      rintro e w1 ⟨rfl, rfl⟩
      go_wp2
      go_round
      case measure => show (x.extract 1 x.size).size < x.size; rw [ByteArray.size_extract]; omega
      case rel => exact ⟨_, rfl, by rw [ByteArray.size_extract]; omega, by rw [HF.out, HE.out]⟩
    · have HFIN := Lib.hid hfin; clear hfin
      have hx2 : x.size ≤ 9223372036854775807 := by omega
      have hcs : (∃ h : 0 < x.size, ∃ c, x[0]'h = c ∧ blB c = false) ∨ x.size = 0 := by
        by_cases h0 : 0 < x.size
        · exact .inl ⟨h0, _, rfl, HFIN.out h0⟩
        · exact .inr (by omega)
      rcases hcs with ⟨h0, c, hc, hb⟩ | h0
      case' inl =>
        have h0I : (0 : Int) < (x.size : Int) := by omega
        have HB := Lib.hid hb; clear hb
        go_wp2_with fail
        refine (ref1_blank_at c _ _ HB.out).mono ?_
        rintro e w1 ⟨rfl, rfl⟩
        clear hc h0I h0
        go_wp2
      case' inr =>
        have h0I : ¬ (0 : Int) < (x.size : Int) := by omega
        go_wp2
        clear h0I h0
      all_goals
        go_loop [0] (fun v => ∃ y : ByteArray, v = .string y ∧ y.size ≤ s.size ∧ octTrim y = R ∧ ∀ h : 0 < y.size, blB (y[0]'h) = false) (fun v => strZ v)
        case atStart => exact ⟨x, rfl, hx, HE.out, HFIN.out⟩
        case round =>
          obtain ⟨y, rfl, hy, hey, hfy⟩ := hrel
          have HEY := Lib.hid hey; have HFY := Lib.hid hfy; clear hey hfy HE HFIN hx hx2
          have hcases : (∃ h : 0 < y.size, blB (y[y.size - 1]'(by omega)) = true) ∨ ∀ h : 0 < y.size, blB (y[y.size - 1]'(by omega)) = false := by
            by_cases h0 : 0 < y.size
            · cases hb : blB (y[y.size - 1]'(by omega))
              · exact .inr fun _ => hb
              · exact .inl ⟨h0, hb⟩
            · exact .inr fun h => absurd h h0
          rcases hcases with ⟨h0, hb⟩ | hfin
          · have h0I : (0 : Int) < (y.size : Int) := by omega
            have hlst := octTrim_last y h0 hb
            have hf2 := first_ext y HFY.out
            obtain ⟨c, hc⟩ : ∃ c, y[y.size - 1]'(by omega) = c := ⟨_, rfl⟩
            rw [hc] at hb
            have HL := Lib.hid hlst; have HB := Lib.hid hb; have HF2 := Lib.hid hf2
            clear hlst hb hf2
            have e1 : ((y.size : Int) - 1).toNat = y.size - 1 := by omega
            have e2 : 0 ≤ (y.size : Int) - 1 := by omega
            have e3 : (y.size : Int) - 1 < (y.size : Int) := by omega
            have e4 : (y.size : Int) - 1 ≤ (y.size : Int) := by omega
            have e5 : y.size - 1 < y.size := by omega
            have ew : IntKind.i64.wrap ((y.size : Int) - 1) = (y.size : Int) - 1 := IntWalk.i64_in _ (by omega)
            go_wp2_with fail
            refine (ref1_blank_at c _ _ HB.out).mono ?_
            rintro e w1 ⟨rfl, rfl⟩
            go_wp2
            go_round
            case measure => show (y.extract 0 (y.size - 1)).size < y.size; rw [ByteArray.size_extract]; omega
            case rel => exact ⟨_, rfl, by rw [ByteArray.size_extract]; omega, by rw [HL.out, HEY.out], HF2.out⟩
          · have HYR := Lib.hid (show y = R by rw [← HEY.out]; exact (octTrim_fix y HFY.out hfin).symm)
            by_cases h0 : 0 < y.size
            · have h0I : (0 : Int) < (y.size : Int) := by omega
              obtain ⟨c, hc⟩ : ∃ c, y[y.size - 1]'(by omega) = c := ⟨_, rfl⟩
              have hb := hfin h0
              rw [hc] at hb
              have HB := Lib.hid hb
              clear hb hfin
              have e1 : ((y.size : Int) - 1).toNat = y.size - 1 := by omega
              have e2 : 0 ≤ (y.size : Int) - 1 := by omega
              have e3 : (y.size : Int) - 1 < (y.size : Int) := by omega
              have e5 : y.size - 1 < y.size := by omega
              have ew : IntKind.i64.wrap ((y.size : Int) - 1) = (y.size : Int) - 1 := IntWalk.i64_in _ (by omega)
              go_wp2_with fail
              refine (ref1_blank_at c _ _ HB.out).mono ?_
              rintro e w1 ⟨rfl, rfl⟩
              go_wp2
              go_ret
              exact ⟨by rw [HYR.out]; rfl, rfl⟩
            · have h0I : ¬ (0 : Int) < (y.size : Int) := by omega
              clear hfin
              go_wp2
              go_ret
              exact ⟨by rw [HYR.out]; rfl, rfl⟩
end Go.Proofs.YthjnmcciejfpcaaGreatDoor
