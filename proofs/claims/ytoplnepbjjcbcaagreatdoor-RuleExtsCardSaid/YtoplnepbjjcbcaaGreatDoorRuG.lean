/- conduitlaw12.known: true. -/
import Derived.Test.YtoplnepbjjcbcaaGreatDoorRuF
import Derived.KernelRfl
namespace Go.Proofs.YtoplnepbjjcbcaaGreatDoor
set_option linter.unusedVariables false
set_option linter.unusedSimpArgs false
open Go.RowKit

def cleanOkE (s : ByteArray) : Bool := match cleanE (escB s) with
  | some p => L p == L s
  | none => false
theorem cleanOkE_eq (s : ByteArray) : cleanOk s = cleanOkE s := by
  unfold cleanOk cleanOkE
  rw [cleanE_eq]
  cases cleanE (escB s) with
  | none => rfl
  | some p => exact eqB_L p s
def extOkE (s : ByteArray) : Bool := Lib.hasPrefix (L s) [46] && !(L (tailE s)).isEmpty && Nat.ble (tailE s).size 8 && (L (tailE s)).all (fun c => (L letSet).contains c)
theorem extOkE_eq (s : ByteArray) : extOk s = extOkE s := by unfold extOk extOkE; rw [toList_L]
def allE (p : UInt8 → Bool) (s : ByteArray) : Bool := (L s).all p && !(L s).isEmpty
theorem allE_eq (p : UInt8 → Bool) (s : ByteArray) : allB p s = allE p s := by unfold allB allE; rw [toList_L]
def segOkE (x : ByteArray) : Bool := !(Lib.hasPrefix (L x) [58]) || allE isTokB (tailC x)
def segsOkE (s : ByteArray) : Bool := (segsE' s).all segOkE && Nat.ble (segsE' s).length 8
theorem segsOkE_eq (s : ByteArray) : segsOk s = segsOkE s := by
  unfold segsOk segsOkE
  rw [segsE'_eq]
  have : segOk = segOkE := by funext x; unfold segOk segOkE; rw [allE_eq]
  rw [this]
def pathOkE (k : Int) (s : ByteArray) : Bool := if k = 4 then extOkE s else if k = 2 then segsOkE s && cleanOkE s else if k = 1 ∨ k = 3 then cleanOkE s else false
theorem pathOkE_eq (k : Int) (s : ByteArray) : pathOk k s = pathOkE k s := by unfold pathOk pathOkE; rw [extOkE_eq, segsOkE_eq, cleanOkE_eq]
def fullE (s : ByteArray) : Bool := !(L s).isEmpty
theorem fullE_eq : full = fullE := by funext s; unfold full fullE; rw [toList_L]
def okME (m : ByteArray) : Bool := allE isTokB m && Nat.ble m.size 16
def listE (s : ByteArray) : List ByteArray := ((cutB s 44).map octTrim).filter fullE
theorem listE_eq (s : ByteArray) : listS s = listE s := by
  unfold listS lN listE
  rw [List.take_length, fullE_eq]
def methOkE (s : ByteArray) : Bool := (listE s).all okME && Nat.blt 0 (listE s).length && Nat.ble s.size 1024
theorem methOkE_eq (s : ByteArray) : methOk s = methOkE s := by
  unfold methOk methOkE
  rw [listE_eq]
  have : okM = okME := by funext x; unfold okM okME; rw [allE_eq]
  rw [this]
theorem rk1 : isOk0 3 ⟨#[]⟩ ⟨#[47, 97]⟩ 0 1 = true := by unfold isOk0; rw [pathOkE_eq]; kernel_rfl
theorem rk2 : isOk0 3 ⟨#[]⟩ ⟨#[97]⟩ 0 1 = false := by unfold isOk0; rw [pathOkE_eq]; kernel_rfl
theorem rk3 : isOk0 4 ⟨#[]⟩ ⟨#[46, 112, 104, 112]⟩ 0 1 = true := by unfold isOk0; rw [pathOkE_eq]; kernel_rfl
theorem rk4 : isOk0 1 ⟨#[]⟩ ⟨#[47, 97]⟩ 1 1 = false := by unfold isOk0; rw [pathOkE_eq]; kernel_rfl
theorem rk5 : methOk ⟨#[71, 69, 84, 44, 32, 80, 85, 84]⟩ = true := by rw [methOkE_eq]; kernel_rfl
def hostE (h : ByteArray) : ByteArray := lowB (if Lib.indexByte (L h) 58 < 0 then h else xtB h 0 (Lib.indexByte (L h) 58).toNat)
theorem hostE_eq (h : ByteArray) : hostS h = hostE h := by
  unfold hostS hostE cutS
  by_cases h0 : 0 ≤ Lib.indexByte (L h) 58
  · rw [if_pos h0, if_neg (by omega), xtB_eq]
  · rw [if_neg h0, if_pos (by omega)]
theorem rk6 : hostS ⟨#[65, 46, 98, 58, 56, 48]⟩ = ⟨#[97, 46, 98]⟩ := by rw [hostE_eq]; kernel_rfl
theorem is_at (r : Bool) (k : Int) (h p : ByteArray) (b n : Int) (w : World) (he : isOk0 k h p b n = r) (hm : MaxL w) (hh : h.size ≤ 1000000000) (hp : p.size ≤ 2000000) :
    Calls Tryz.prog 18 #[.agg #[.int .i64 k, .string h, .string p, .int .i64 b, .slice none 0 0], .int .i64 n] w fun e w' => e = .returned (confR r) ∧ Below w.heap.size w w' := by
  subst he; exact rule_Is0 k h p b n w hm hh hp
set_option maxRecDepth 100000 in
set_option maxHeartbeats 4000000 in
theorem law12_known (w : World) (hm : MaxL w) : Calls Tryz.prog 17 #[] w fun e w' => e = .returned (.bool true) ∧ Below w.heap.size w w' := by
  have HM := Lib.hid hm; clear hm
  go_enter Tryz.func17, Tryz.ntmps17
  go_wp2_with fail
  refine (is_at true _ _ _ _ _ _ rk1 HM.out (by decide) (by decide)).mono ?_
  rintro e w1 ⟨rfl, hb1⟩
  have H1 := Lib.hid hb1; clear hb1
  go_wp2_with fail
  refine (is_at false _ _ _ _ _ _ rk2 (HM.out.fr H1.out) (by decide) (by decide)).mono ?_
  rintro e w2 ⟨rfl, hb2⟩
  have H2 := Lib.hid (fr_trans H1.out hb2); clear hb2
  go_wp2_with fail
  refine (is_at true _ _ _ _ _ _ rk3 (HM.out.fr H2.out) (by decide) (by decide)).mono ?_
  rintro e w3 ⟨rfl, hb3⟩
  have H3 := Lib.hid (fr_trans H2.out hb3); clear hb3
  go_wp2_with fail
  refine (is_at false _ _ _ _ _ _ rk4 (HM.out.fr H3.out) (by decide) (by decide)).mono ?_
  rintro e w4 ⟨rfl, hb4⟩
  have H4 := Lib.hid (fr_trans H3.out hb4); clear hb4
  go_wp2_with fail
  refine (rule_Ware1 ⟨#[71, 69, 84, 44, 32, 80, 85, 84]⟩ _ _ _ (HM.out.fr H4.out) (by decide)).mono ?_
  rintro e w5 ⟨rfl, hb5⟩
  rw [rk5]
  have H5 := Lib.hid (fr_trans H4.out hb5); clear hb5
  go_wp2_with fail
  refine (rule_Ware0 _ _ _ _).mono ?_
  rintro e w6 ⟨rfl, hb6⟩
  have H6 := Lib.hid (fr_trans H5.out hb6); clear hb6
  unfold confR
  go_wp2_with fail
  refine (is_errno 14 14 _).mono ?_
  rintro e w7 ⟨rfl, rfl⟩
  go_wp2_with fail
  refine (is_errno 14 14 _).mono ?_
  rintro e w7 ⟨rfl, rfl⟩
  go_wp2_with fail
  refine (is_errno 14 14 _).mono ?_
  rintro e w7 ⟨rfl, rfl⟩
  go_wp2_with fail
  refine (rule_Host ⟨#[65, 46, 98, 58, 56, 48]⟩ _ (by decide)).mono ?_
  rintro e w7 ⟨rfl, hb7⟩
  rw [rk6]
  have H7 := Lib.hid (fr_trans H6.out hb7); clear hb7
  go_wp2
  go_ret
  exact ⟨rfl, H7.out⟩
end Go.Proofs.YtoplnepbjjcbcaaGreatDoor
