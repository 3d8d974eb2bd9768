/- Paths put right, in words that the kernel can reckon with. -/
import Derived.Test.YtfmnmgiefekjfaaGreatDoorPath3
import Derived.KernelRfl
namespace Go.Proofs.YtfmnmgiefekjfaaGreatDoor
set_option linter.unusedVariables false
set_option linter.unusedSimpArgs false
open Go.RowKit

def xtB (p : ByteArray) (i j : Nat) : ByteArray := mk (((L p).take j).drop i)
theorem xtB_eq (p : ByteArray) (i j : Nat) : p.extract i j = xtB p i j := L_inj (by rw [L_ext]; unfold xtB; rw [L_mk])
def emptyE (p : ByteArray) : Bool := (L p).isEmpty
def cleanStepE (st : List ByteArray) (p : ByteArray) : Option (List ByteArray) :=
  if emptyE p || L p == [46] then some st else if L p == [46, 46] then (if st.length = 0 then none else some (st.take (st.length - 1))) else some (st ++ [p])
theorem cleanStepE_eq : cleanStep = cleanStepE := by
  funext st p
  unfold cleanStep cleanStepE emptyE
  rw [eq_dot, eq_dots, toList_L]
def cleanGoE : List ByteArray → List ByteArray → ByteArray → Option (List ByteArray × ByteArray)
  | [], st, last => some (st, last)
  | s :: r, st, _ => match partS s with
    | none => none
    | some p => match cleanStepE st p with
      | none => none
      | some st' => cleanGoE r st' p
theorem cleanGoE_eq : ∀ l st last, cleanGo l st last = cleanGoE l st last
  | [], _, _ => rfl
  | s :: r, st, last => by
    unfold cleanGo cleanGoE
    rw [cleanStepE_eq]
    cases partS s with
    | none => rfl
    | some p =>
      simp only []
      cases cleanStepE st p with
      | none => rfl
      | some st' => exact cleanGoE_eq r st' p
def cleanOutE (r : List ByteArray × ByteArray) : List UInt8 :=
  if Nat.blt 0 r.1.length && (emptyE r.2 || L r.2 == [46] || L r.2 == [46, 46]) then 47 :: (Lib.join (r.1.map L) [47] ++ [47]) else 47 :: Lib.join (r.1.map L) [47]
theorem cleanOutE_eq (r : List ByteArray × ByteArray) : cleanOut r = mk (cleanOutE r) := by
  have hj : joinB r.1 = mk (Lib.join (r.1.map L) [47]) := rfl
  have hd : dotB r.2 = (emptyE r.2 || L r.2 == [46] || L r.2 == [46, 46]) := by unfold dotB emptyE; rw [eq_dot, eq_dots, toList_L]
  have hb : decide (0 < r.1.length) = Nat.blt 0 r.1.length := by rw [Bool.eq_iff_iff]; simp [Nat.blt_eq]
  unfold cleanOut cleanOutE
  rw [hj, hd, hb]
  split
  · apply L_inj; simp [L_app, L_mk]
  · apply L_inj; simp [L_app, L_mk]
def cleanE (s : ByteArray) : Option ByteArray :=
  if Lib.hasPrefix (L s) [47] then (cleanGoE ((cutC 47 ((L s).drop 1)).map mk) [] ⟨#[]⟩).map (fun r => mk (cleanOutE r)) else none
theorem cleanE_eq (s : ByteArray) : cleanS s = cleanE s := by
  unfold cleanS cleanE cutB
  rw [L_end, cleanGoE_eq]
  have : cleanOut = fun r => mk (cleanOutE r) := funext cleanOutE_eq
  rw [this]
def segsE' (s : ByteArray) : List ByteArray := (segsL (L s)).map mk
theorem segsE'_eq (s : ByteArray) : segs s = segsE' s := segs_eq s
theorem begS_E (p q : ByteArray) : begS p q = (decide ((segsE' q).length ≤ (segsE' p).length) && decide ((segsE' p).take (segsE' q).length = segsE' q)) := by unfold begS; rw [segsE'_eq, segsE'_eq]
theorem pk1 : cleanS ⟨#[47, 97, 47, 46, 46, 47, 98, 47, 46, 47]⟩ = some ⟨#[47, 98, 47]⟩ := by rw [cleanE_eq]; kernel_rfl
theorem pk2 : cleanS ⟨#[47, 47, 120, 47, 47, 37, 52, 49]⟩ = some ⟨#[47, 120, 47, 65]⟩ := by rw [cleanE_eq]; kernel_rfl
theorem pk3 : cleanS ⟨#[47, 46, 46]⟩ = none := by rw [cleanE_eq]; kernel_rfl
theorem pk4 : cleanS ⟨#[47, 97, 37, 50, 102, 98]⟩ = none := by rw [cleanE_eq]; kernel_rfl
theorem pk5 : cleanS ⟨#[47]⟩ = some ⟨#[47]⟩ := by rw [cleanE_eq]; kernel_rfl
theorem pk6 : segs ⟨#[47, 97, 47, 47, 98, 47]⟩ = [⟨#[97]⟩, ⟨#[98]⟩] := by rw [segsE'_eq]; kernel_rfl
theorem pk7 : begS ⟨#[47, 97, 47, 98]⟩ ⟨#[47, 97, 47]⟩ = true := by rw [begS_E]; decide +kernel
theorem pk8 : begS ⟨#[47, 97, 98]⟩ ⟨#[47, 97]⟩ = false := by rw [begS_E]; decide +kernel
end Go.Proofs.YtfmnmgiefekjfaaGreatDoor
