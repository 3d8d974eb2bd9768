/- conduitlaw12.known: true. -/
import Derived.Test.YtfmnmgiefekjfaaGreatDoorRuF
import Derived.KernelRfl
namespace Go.Proofs.YtfmnmgiefekjfaaGreatDoor
set_option linter.unusedVariables false
set_option linter.unusedSimpArgs false
open Go.RowKit

def cleanOkE (s : ByteArray) : Bool := match cleanE (escB s) with
  | some p => L p == L s
  | none => false
theorem cleanOkE_eq (s : ByteArray) : cleanOk s = cleanOkE s := by
  unfold cleanOk cleanOkE
  rw [cleanE_eq]
  cases cleanE (escB s) with
  | none => rfl
  | some p => exact eqB_L p s
def extOkE (s : ByteArray) : Bool := Lib.hasPrefix (L s) [46] && !(L (tailE s)).isEmpty && Nat.ble (tailE s).size 8 && (L (tailE s)).all (fun c => (L letSet).contains c)
theorem extOkE_eq (s : ByteArray) : extOk s = extOkE s := by unfold extOk extOkE; rw [toList_L]
def allE (p : UInt8 → Bool) (s : ByteArray) : Bool := (L s).all p && !(L s).isEmpty
theorem allE_eq (p : UInt8 → Bool) (s : ByteArray) : allB p s = allE p s := by unfold allB allE; rw [toList_L]
def segOkE (x : ByteArray) : Bool := !(Lib.hasPrefix (L x) [58]) || allE isTokB (tailC x)
def segsOkE (s : ByteArray) : Bool := (segsE' s).all segOkE && Nat.ble (segsE' s).length 8
theorem segsOkE_eq (s : ByteArray) : segsOk s = segsOkE s := by
  unfold segsOk segsOkE
  rw [segsE'_eq]
  have : segOk = segOkE := by funext x; unfold segOk segOkE; rw [allE_eq]
  rw [this]
def pathOkE (k : Int) (s : ByteArray) : Bool := if k = 4 then extOkE s else if k = 2 then segsOkE s && cleanOkE s else if k = 1 ∨ k = 3 then cleanOkE s else false
theorem pathOkE_eq (k : Int) (s : ByteArray) : pathOk k s = pathOkE k s := by unfold pathOk pathOkE; rw [extOkE_eq, segsOkE_eq, cleanOkE_eq]
def fullE (s : ByteArray) : Bool := !(L s).isEmpty
theorem fullE_eq : full = fullE := by funext s; unfold full fullE; rw [toList_L]
def okME (m : ByteArray) : Bool := allE isTokB m && Nat.ble m.size 16
def listE (s : ByteArray) : List ByteArray := ((cutB s 44).map octTrim).filter fullE
theorem listE_eq (s : ByteArray) : listS s = listE s := by
  unfold listS lN listE
  rw [List.take_length, fullE_eq]
def methOkE (s : ByteArray) : Bool := (listE s).all okME && Nat.blt 0 (listE s).length && Nat.ble s.size 1024
theorem methOkE_eq (s : ByteArray) : methOk s = methOkE s := by
  unfold methOk methOkE
  rw [listE_eq]
  have : okM = okME := by funext x; unfold okM okME; rw [allE_eq]
  rw [this]
theorem root_ok : pathOk 3 ⟨#[47]⟩ = true := by rw [pathOkE_eq]; kernel_rfl
end Go.Proofs.YtfmnmgiefekjfaaGreatDoor
