/- Routes, plainly, in words that the kernel can reckon with. -/
import Derived.Test.YtedombigkebpiaaDoorRouteS
import Derived.KernelRfl
namespace Go.Proofs.YtedombigkebpiaaDoor
open Go.RowKit

def xt (p : ByteArray) (i j : Nat) : ByteArray := mk (((L p).take j).drop i)
theorem xt_eq (p : ByteArray) (i j : Nat) : p.extract i j = xt p i j := L_inj (by rw [L_ext]; unfold xt; rw [L_mk])
def segsE (s : ByteArray) : List ByteArray := (segsL (L s)).map mk
def eqE (a b : ByteArray) : Bool := L a == L b
theorem eqE_eq : eqB = eqE := by funext a b; exact eqB_L a b
theorem segsE_eq : segs = segsE := by funext s; exact segs_eq s
def okE (p : ByteArray × ByteArray) : Bool := hasC p.1 || eqE p.1 p.2
def segsME (ws hs : List ByteArray) : Option (List Pr) := if ws.length = hs.length then (if (ws.zip hs).all okE then some ((ws.zip hs).filterMap nm1) else none) else none
def eqLs : List ByteArray → List ByteArray → Bool
  | [], [] => true
  | a :: l, b :: m => eqE a b && eqLs l m
  | _, _ => false
theorem eqLs_eq : ∀ (l m : List ByteArray), eqLs l m = decide (l = m)
  | [], [] => by simp [eqLs]
  | [], b :: m => by simp [eqLs]
  | a :: l, [] => by simp [eqLs]
  | a :: l, b :: m => by
    have h : eqE a b = decide (a = b) := by
      rw [← eqE_eq, Bool.eq_iff_iff, eqB_iff]; simp
    rw [eqLs, h, eqLs_eq l m, Bool.eq_iff_iff]; simp
def begE (p q : ByteArray) : Bool := Nat.ble (segsE q).length (segsE p).length && eqLs ((segsE p).take (segsE q).length) (segsE q)
theorem begE_eq : begS = begE := by
  funext p q
  unfold begS begE
  rw [segsE_eq, eqLs_eq]
  congr 1
  rw [Bool.eq_iff_iff]; simp
def matchE (k : Int) (rp p : ByteArray) : Option RT :=
  if k = 1 then (if eqE p rp then some (p, ⟨#[]⟩, []) else none)
  else if k = 2 then (segsME (segsE rp) (segsE p)).map fun nm => (p, ⟨#[]⟩, nm)
  else if k = 3 then (if begE p rp then some (bareS rp, xt p (bareS rp).size p.size, []) else none)
  else if k = 4 then (extS rp p).map fun e => (xt p 0 e, xt p e p.size, [])
  else none
theorem matchE_eq : matchS = matchE := by
  funext k rp p
  have h : okP = okE := by funext x; unfold okP okE; rw [eqE_eq]
  have h2 : segsM = segsME := by funext a b; unfold segsM segsME; rw [h]
  unfold matchS matchE
  simp only [eqE_eq, segsE_eq, begE_eq, h2, xt_eq]
def weightE (k : Int) (rp : ByteArray) : Nat :=
  if k = 2 then ((segsE rp).filter fun s => !hasC s).length else if k = 3 then (segsE rp).length else 0
theorem weightE_eq : weightS = weightE := by funext k rp; unfold weightS weightE; rw [segsE_eq]
def amStepE (host p : ByteArray) (b : Bst) (i : Nat) (r : RV) : Bst :=
  match matchE r.kind r.path p with
  | none => b
  | some t => if eqE r.host host then (if aheadB b r.kind (weightE r.kind r.path) then ⟨i, t.1, t.2.1, t.2.2, r.kind, weightE r.kind r.path⟩ else b) else b
theorem amStepE_eq : amStep = amStepE := by funext host p b i r; unfold amStep amStepE; rw [matchE_eq, eqE_eq, weightE_eq]; cases matchE r.kind r.path p <;> rfl
def amE (host p : ByteArray) : Nat → Bst → List RV → Bst
  | _, b, [] => b
  | i, b, r :: l => amE host p (i + 1) (amStepE host p b i r) l
theorem amE_snoc (host p : ByteArray) : ∀ (l : List RV) (i : Nat) (b : Bst) (r : RV), amE host p i b (l ++ [r]) = amStepE host p (amE host p i b l) (i + l.length) r
  | [], i, b, r => rfl
  | x :: l, i, b, r => by
    show amE host p (i + 1) _ (l ++ [r]) = _
    rw [amE_snoc]
    show _ = amStepE host p (amE host p (i + 1) _ l) (i + (l.length + 1)) r
    rw [show i + 1 + l.length = i + (l.length + 1) by omega]
def bst0 : Bst := ⟨0, ⟨#[]⟩, ⟨#[]⟩, [], 0, 0⟩
theorem amE_eq (host p : ByteArray) (l : List RV) : amS l host p = amE host p 0 bst0 l := by
  have h : ∀ k, k ≤ l.length → amN host p l k = amE host p 0 bst0 (l.take k) := by
    intro k
    induction k with
    | zero => intro _; rw [List.take_zero]; rfl
    | succ k ih =>
      intro hk
      rw [List.take_succ_eq_append_getElem (by omega), amE_snoc, ← ih (by omega), ← amStepE_eq]
      show (match l[k]? with | some r => _ | none => _) = _
      rw [List.getElem?_eq_getElem (by omega)]
      simp [Nat.min_eq_left (show k ≤ l.length by omega)]
  have := h l.length (Nat.le_refl _)
  rwa [List.take_length] at this
def hostE (h : ByteArray) : ByteArray := lowB (if Lib.indexByte (L h) 58 < 0 then h else xt h 0 (Lib.indexByte (L h) 58).toNat)
theorem hostE_eq : hostS = hostE := by
  funext h
  unfold hostS hostE cutS
  by_cases h0 : 0 ≤ Lib.indexByte (L h) 58
  · rw [if_pos h0, if_neg (by omega), xt_eq]
  · rw [if_neg h0, if_pos (by omega)]
def chooseE (l : List RV) (host p : ByteArray) : Bst :=
  if (L (hostE host)).isEmpty then amE ⟨#[]⟩ p 0 bst0 l else if (amE (hostE host) p 0 bst0 l).ok then amE (hostE host) p 0 bst0 l else amE ⟨#[]⟩ p 0 bst0 l
theorem chooseE_eq (l : List RV) (host p : ByteArray) : chooseS l host p = chooseE l host p := by
  unfold chooseS chooseE
  rw [hostE_eq, toList_L, amE_eq, amE_eq]
def fitsE (r : RV) (p : ByteArray) : Bool := Nat.ble r.path.size 1000000000 && Nat.ble p.size 1000000000 && (!(r.kind == 3) || !begE p r.path || Nat.ble (bareS r.path).size p.size)
end Go.Proofs.YtedombigkebpiaaDoor
