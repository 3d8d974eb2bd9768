/- Fields, for the kernel: what field.Parse answers, reckoned over lists; the tables of conduitlaw6. -/
import Derived.Test.YtdagppbpeibdgaaDoorFld2
import Derived.KernelRfl
namespace Go.Proofs.YtdagppbpeibdgaaDoor
set_option linter.unusedVariables false
set_option linter.unusedSimpArgs false
open Go.RowKit

def cutE (s : ByteArray) (c : UInt8) : ByteArray × ByteArray × Bool :=
  if 0 ≤ Lib.indexByte (L s) c then (mk ((L s).take (Lib.indexByte (L s) c).toNat), mk ((L s).drop ((Lib.indexByte (L s) c).toNat + 1)), true) else (s, ⟨#[]⟩, false)
theorem cutE_eq (s : ByteArray) (c : UInt8) : cutS s c = cutE s c := by
  by_cases h : c ∈ L s
  · obtain ⟨p, r, hp, he⟩ := split_at h
    rw [cutS_yes hp he]
    unfold cutE
    rw [he, idx_yes hp, if_pos (by omega)]
    simp
  · rw [cutS_no h]
    unfold cutE
    rw [idx_no h, if_neg (by omega)]
def nameK (s : ByteArray) : Int := if (L s).all isTokB && !(L s).isEmpty then (if Nat.ble s.size 64 then 0 else 12) else 10
theorem nameK_eq (s : ByteArray) : nameE s = nameK s := by
  unfold nameE nameK allB
  rw [toList_L]
  cases h : ((L s).all isTokB && !(L s).isEmpty)
  · rfl
  · rw [if_neg (by decide), if_pos rfl]
    by_cases h2 : 64 < s.size
    · have : Nat.ble s.size 64 = false := by cases hb : Nat.ble s.size 64 with | false => rfl | true => rw [Nat.ble_eq] at hb; omega
      rw [if_pos h2, this]; rfl
    · rw [if_neg h2, show Nat.ble s.size 64 = true by rw [Nat.ble_eq]; omega]; rfl
def valK (s : ByteArray) : Int := if (L s).all valB then (if Nat.ble s.size 512 then 0 else 12) else 10
theorem valK_eq (s : ByteArray) : valE s = valK s := by
  unfold valE valK
  cases h : (L s).all valB
  · rfl
  · rw [if_neg (by decide), if_pos rfl]
    by_cases h2 : 512 < s.size
    · have : Nat.ble s.size 512 = false := by cases hb : Nat.ble s.size 512 with | false => rfl | true => rw [Nat.ble_eq] at hb; omega
      rw [if_pos h2, this]; rfl
    · rw [if_neg h2, show Nat.ble s.size 512 = true by rw [Nat.ble_eq]; omega]; rfl
def parseK (line : ByteArray) : Int × ByteArray × ByteArray :=
  if !(cutE line 58).2.2 || nameK (cutE line 58).1 == 10 || valK (octTrim (cutE line 58).2.1) == 10 then (10, ⟨#[]⟩, ⟨#[]⟩)
  else if !(nameK (cutE line 58).1 == 0) || !(valK (octTrim (cutE line 58).2.1) == 0) then (12, ⟨#[]⟩, ⟨#[]⟩)
  else (0, (cutE line 58).1, octTrim (cutE line 58).2.1)
theorem parseK_eq (line : ByteArray) : parseS line = parseK line := by
  unfold parseS parseK
  rw [cutE_eq]
  generalize cutE line 58 = c
  rw [nameK_eq, valK_eq]
  generalize nameK c.1 = a
  generalize valK (octTrim c.2.1) = b
  cases hc : c.2.2
  · simp
  · by_cases ha : a = 10
    · simp [ha]
    · by_cases hb : b = 10
      · simp [hb]
      · simp [ha, hb]
def fieldK (a b : ByteArray) : Bool := nameK a == 0 && valK b == 0 && (L (octTrim b) == L b)
theorem fieldK_eq (a b : ByteArray) : fieldOk a b = fieldK a b := by
  unfold fieldOk fieldK
  rw [nameK_eq, valK_eq, eqB_L]
/-! ### each byte -/
def fbP (b : Nat) : ByteArray := mk ([65, 58, 32, 120] ++ UInt8.ofNat b :: [121])
def fbN (b : Nat) : ByteArray := mk ([65] ++ UInt8.ofNat b :: [58, 32, 120])
def fbGood (b : Nat) : Bool := (Nat.ble 32 b && !(Nat.beq b 127)) || Nat.beq b 9
def fbSome : List Nat := [33, 35, 36, 37, 38, 39, 42, 43, 45, 46, 94, 95, 124, 126]
def fbTok (b : Nat) : Bool := (((Nat.ble 97 b && Nat.ble b 122) || (Nat.ble 65 b && Nat.ble b 90)) || (Nat.ble 48 b && Nat.ble b 57)) || Nat.beq b 96 || fbSome.contains b
def fbChk (b : Nat) : Bool :=
  if Nat.beq b 58 then (parseK (fbP b)).1 == 0 && (parseK (fbN b)).1 == 0
  else (if fbGood b then (parseK (fbP b)).1 == 0 && L (parseK (fbP b)).2.2 == [120] ++ UInt8.ofNat b :: [121] else (parseK (fbP b)).1 == 10)
    && (if fbTok b then (parseK (fbN b)).1 == 0 else !((parseK (fbN b)).1 == 0))
theorem fbAll : (List.range 256).all fbChk = true := by kernel_rfl
/-! ### as long as may be -/
def flA (k : Nat) : ByteArray := mk (List.replicate k 110)
def flV (j : Nat) : ByteArray := mk (List.replicate j 118)
def flL (k j : Nat) : ByteArray := mk (List.replicate k 110 ++ 58 :: 32 :: List.replicate j 118)
def flOk (k j : Nat) : Bool := Nat.ble k 64 && Nat.ble j 512
def flChk (k j : Nat) : Bool :=
  (if flOk k j then (parseK (flL k j)).1 == 0 && L (parseK (flL k j)).2.1 == List.replicate k 110 && L (parseK (flL k j)).2.2 == List.replicate j 118 else (parseK (flL k j)).1 == 12) && (fieldK (flA k) (flV j) == flOk k j)
theorem flAll : (List.range 3).all (fun n => (List.range 3).all fun m => flChk (63 + n) (511 + m)) = true := by kernel_rfl
end Go.Proofs.YtdagppbpeibdgaaDoor
