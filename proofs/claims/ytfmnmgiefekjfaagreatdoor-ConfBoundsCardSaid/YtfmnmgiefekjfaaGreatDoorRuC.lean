/- rule.isHost, isClean, isExt. -/
import Derived.Test.YtfmnmgiefekjfaaGreatDoorRuB
namespace Go.Proofs.YtfmnmgiefekjfaaGreatDoor
set_option linter.unusedVariables false
set_option linter.unusedSimpArgs false
open Go.RowKit

def hostSet : ByteArray := ⟨#[97, 98, 99, 100, 101, 102, 103, 104, 105, 106, 107, 108, 109, 110, 111, 112, 113, 114, 115, 116, 117, 118, 119, 120, 121, 122, 48, 49, 50, 51, 52, 53, 54, 55, 56, 57, 45, 46]⟩
def letSet : ByteArray := ⟨#[97, 98, 99, 100, 101, 102, 103, 104, 105, 106, 107, 108, 109, 110, 111, 112, 113, 114, 115, 116, 117, 118, 119, 120, 121, 122]⟩
def hostOk (s : ByteArray) : Bool := Nat.ble s.size 64 && (L s).all (fun c => (L hostSet).contains c)
theorem rule_isHost (s : ByteArray) (w : World) (hs : s.size ≤ 9223372036854775807) : Calls Tryz.prog 27 #[.string s] w fun e w' => e = .returned (.bool (hostOk s)) ∧ Below w.heap.size w w' := by
  by_cases h : s.size ≤ 64
  · have h' : (s.size : Int) ≤ 64 := by omega
    have he : hostOk s = (trimB s hostSet).toList.isEmpty := by
      unfold hostOk; rw [trimB_empty, show Nat.ble s.size 64 = true by rw [Nat.ble_eq]; exact h]; rfl
    have HE := Lib.hid he
    clear he h
    go_enter Tryz.func27, Tryz.ntmps27
    go_wp2_with fail
    refine (lib_Trim s hostSet _ hs (by decide) (by decide)).mono ?_
    rintro e w1 ⟨rfl, hb⟩
    go_wp2
    go_ret
    exact ⟨by rw [HE.out]; rfl, hb⟩
  · have h' : ¬ (s.size : Int) ≤ 64 := by omega
    have he : hostOk s = false := by
      unfold hostOk; rw [show Nat.ble s.size 64 = false by cases hb : Nat.ble s.size 64 with | false => rfl | true => rw [Nat.ble_eq] at hb; omega]; rfl
    rw [he]
    clear he h
    go_enter Tryz.func27, Tryz.ntmps27
    go_wp2
    go_ret
    exact ⟨rfl, fr_refl _⟩
def cleanOk (s : ByteArray) : Bool := match cleanS (escB s) with
  | some p => eqB p s
  | none => false
theorem rule_isClean (s : ByteArray) (w : World) (hm : MaxL w) (hs : s.size ≤ 2000000) : Calls Tryz.prog 38 #[.string s] w fun e w' => e = .returned (.bool (cleanOk s)) ∧ Below w.heap.size w w' := by
  have HM := Lib.hid hm; clear hm
  have hez : (escB s).size ≤ 8388608 := Nat.le_trans (escB_size s) (by omega)
  have HEZ := Lib.hid hez; clear hez
  cases hc : cleanS (escB s) with
  | none =>
    have he : cleanOk s = false := by unfold cleanOk; rw [hc]
    rw [he]
    have HC := Lib.hid (cleanR_none hc)
    clear he hc
    go_enter Tryz.func38, Tryz.ntmps38
    go_wp2_with fail
    refine (oct_Escape s _ (by omega)).mono ?_
    rintro e w1 ⟨rfl, hb1⟩
    have HB1 := Lib.hid hb1; clear hb1
    go_wp2_with fail
    refine (clean_at _ _ _ HC.out (HM.out.fr HB1.out) HEZ.out).mono ?_
    rintro e w2 ⟨rfl, hb2⟩
    go_wp2
    go_ret
    exact ⟨rfl, fr_trans HB1.out hb2⟩
  | some p =>
    have he : cleanOk s = eqB p s := by unfold cleanOk; rw [hc]
    rw [he]
    have HC := Lib.hid (cleanR_some hc)
    clear he hc
    go_enter Tryz.func38, Tryz.ntmps38
    go_wp2_with fail
    refine (oct_Escape s _ (by omega)).mono ?_
    rintro e w1 ⟨rfl, hb1⟩
    have HB1 := Lib.hid hb1; clear hb1
    go_wp2_with fail
    refine (clean_at _ _ _ HC.out (HM.out.fr HB1.out) HEZ.out).mono ?_
    rintro e w2 ⟨rfl, hb2⟩
    go_wp2
    go_ret
    exact ⟨rfl, fr_trans HB1.out hb2⟩
def tailE (s : ByteArray) : ByteArray := mk (Lib.trimPrefix (L s) [46])
def extOk (s : ByteArray) : Bool := Lib.hasPrefix (L s) [46] && !(tailE s).toList.isEmpty && Nat.ble (tailE s).size 8 && (L (tailE s)).all (fun c => (L letSet).contains c)
theorem rule_isExt (s : ByteArray) (w : World) (hs : s.size ≤ 1000000000) : Calls Tryz.prog 36 #[.string s] w fun e w' => e = .returned (.bool (extOk s)) ∧ Below w.heap.size w w' := by
  obtain ⟨x, hx⟩ : ∃ x, tailE s = x := ⟨_, rfl⟩
  have hcp : ∀ W : World, Calls Tryz.prog 50 #[.string s, .string ⟨#[46]⟩] W fun e w' => e = .returned (.tuple #[.string x, .bool (Lib.hasPrefix (L s) [46])]) ∧ W = w' := fun W => by
    have h := lib_CutPrefix s 46 W
    rw [show (⟨(Lib.trimPrefix (L s) [46]).toArray⟩ : ByteArray) = x from hx] at h
    exact h
  have HCP := Lib.hid hcp
  have he : extOk s = (Lib.hasPrefix (L s) [46] && !x.toList.isEmpty && Nat.ble x.size 8 && (L x).all (fun c => (L letSet).contains c)) := by unfold extOk; rw [hx]
  rw [he]
  clear hcp he hx
  obtain ⟨b, hb⟩ : ∃ b, Lib.hasPrefix (L s) [46] = b := ⟨_, rfl⟩
  rw [hb] at HCP ⊢
  clear hb
  cases b
  · go_enter Tryz.func36, Tryz.ntmps36
    go_wp2_with fail
    refine (HCP.out _).mono ?_
    rintro e w1 ⟨rfl, rfl⟩
    go_wp2
    go_ret
    exact ⟨rfl, fr_refl _⟩
  · cases hem : x.toList.isEmpty
    · by_cases h8 : x.size ≤ 8
      · have h8' : (x.size : Int) ≤ 8 := by omega
        have hr : ((true && !false && Nat.ble x.size 8) && (L x).all (fun c => (L letSet).contains c)) = (trimB x letSet).toList.isEmpty := by
          rw [trimB_empty, show Nat.ble x.size 8 = true by rw [Nat.ble_eq]; exact h8]; rfl
        rw [hr]
        clear hr
        go_enter Tryz.func36, Tryz.ntmps36
        go_wp2_with fail
        refine (HCP.out _).mono ?_
        rintro e w1 ⟨rfl, rfl⟩
        go_wp2_with fail
        refine (lib_Trim x letSet _ (by omega) (by decide) (by decide)).mono ?_
        rintro e w1 ⟨rfl, hb⟩
        go_wp2
        go_ret
        exact ⟨rfl, hb⟩
      · have h8' : ¬ (x.size : Int) ≤ 8 := by omega
        have hr : Nat.ble x.size 8 = false := by cases hb : Nat.ble x.size 8 with | false => rfl | true => rw [Nat.ble_eq] at hb; omega
        rw [hr]
        clear hr h8
        go_enter Tryz.func36, Tryz.ntmps36
        go_wp2_with fail
        refine (HCP.out _).mono ?_
        rintro e w1 ⟨rfl, rfl⟩
        go_wp2
        go_ret
        exact ⟨rfl, fr_refl _⟩
    · go_enter Tryz.func36, Tryz.ntmps36
      go_wp2_with fail
      refine (HCP.out _).mono ?_
      rintro e w1 ⟨rfl, rfl⟩
      go_wp2
      go_ret
      exact ⟨rfl, fr_refl _⟩
end Go.Proofs.YtfmnmgiefekjfaaGreatDoor
