/- strconv.ParseInt at base 16 of one to seven digits; octet.number, all, isHex. strconv.ParseInt at base 16; octet.all, isDec, isHex, number at base 16; coded. octet.coded, octet.Unescape: what they answer. -/
import Derived.Test.YthjnmcciejfpcaaDoorMA
import Derived.Deep.QuietTactic
import Derived.BigQuiet
import Derived.Deep.Cut
import Derived.Laws.BytesArg
namespace Go.Proofs.YthjnmcciejfpcaaDoor
set_option linter.unusedVariables false
set_option linter.unusedSimpArgs false
open Go.RowKit

theorem or_up : ∀ n : Nat, 65 ≤ n → n ≤ 70 → bits BinOp.or IntKind.u8 (n : Int) 32 = (n : Int) + 32 := by
  intro n h1 h2
  have : n = 65 ∨ n = 66 ∨ n = 67 ∨ n = 68 ∨ n = 69 ∨ n = 70 := by omega
  rcases this with rfl | rfl | rfl | rfl | rfl | rfl <;> decide +kernel
theorem or_lo : ∀ n : Nat, 97 ≤ n → n ≤ 102 → bits BinOp.or IntKind.u8 (n : Int) 32 = (n : Int) := by
  intro n h1 h2
  have : n = 97 ∨ n = 98 ∨ n = 99 ∨ n = 100 ∨ n = 101 ∨ n = 102 := by omega
  rcases this with rfl | rfl | rfl | rfl | rfl | rfl <;> decide +kernel
end Go.Proofs.YthjnmcciejfpcaaDoor

namespace Go.Proofs.YthjnmcciejfpcaaDoor
set_option linter.unusedVariables false
set_option linter.unusedSimpArgs false
open Go.RowKit

def isDecB (c : UInt8) : Bool := decide (48 ≤ (c.toNat : Int)) && decide ((c.toNat : Int) ≤ 57)
theorem isHexB_eq (c : UInt8) : isHexB c = (isDecB c || (decide (97 ≤ (c.toNat : Int)) && decide ((c.toNat : Int) ≤ 102)) || (decide (65 ≤ (c.toNat : Int)) && decide ((c.toNat : Int) ≤ 70))) := by
  rw [Bool.eq_iff_iff]
  unfold isHexB isDecB nib
  simp only [Bool.or_eq_true, Bool.and_eq_true, decide_eq_true_eq]
  constructor
  · intro h
    split at h
    · rename_i h1; exact .inl (.inl h1)
    · split at h
      · rename_i h1; exact .inl (.inr h1)
      · split at h
        · rename_i h1; exact .inr h1
        · omega
  · rintro ((h | h) | h)
    · rw [if_pos h]; omega
    · rw [if_neg (by omega), if_pos h]; omega
    · rw [if_neg (by omega), if_neg (by omega), if_pos h]; omega
def allB (p : UInt8 → Bool) (s : ByteArray) : Bool := (L s).all p && !s.toList.isEmpty
theorem all_drop {p : UInt8 → Bool} {l : List UInt8} {k : Nat} (h : k < l.length) (hk : (l.take k).all p = true) (hp : p l[k] = false) : l.all p = false := by
  rw [← List.take_append_drop k l, List.all_append, hk, List.drop_eq_getElem_cons h, List.all_cons, hp]; rfl
theorem all_succ {p : UInt8 → Bool} {l : List UInt8} {k : Nat} (h : k < l.length) (hk : (l.take k).all p = true) (hp : p l[k] = true) : (l.take (k + 1)).all p = true := by
  rw [List.take_succ_eq_append_getElem h, List.all_append, hk]; simp [hp]

def numR : Option Nat → Value
  | some n => .tuple #[.int .i64 (n : Int), .bool true]
  | none => .tuple #[.int .i64 0, .bool false]
def numS (most : Nat) (s : ByteArray) : Option Nat := if s.size ≤ most ∧ allB isHexB s = true then some (hexN (L s)) else none
theorem allB_nib {s : ByteArray} (h : allB isHexB s = true) : 1 ≤ s.size ∧ ∀ c ∈ L s, 0 ≤ nib c := by
  unfold allB at h
  rw [Bool.and_eq_true, toList_L] at h
  refine ⟨?_, fun c hc => ?_⟩
  · have := h.2
    have hl : (L s).length = s.size := rfl
    cases hq : L s with
    | nil => rw [hq] at this; simp at this
    | cons a b => rw [hq] at hl; simp at hl; omega
  · have := List.all_eq_true.1 h.1 c hc
    unfold isHexB at this
    exact of_decide_eq_true this
end Go.Proofs.YthjnmcciejfpcaaDoor

namespace Go.Proofs.YthjnmcciejfpcaaDoor
set_option linter.unusedVariables false
set_option linter.unusedSimpArgs false
open Go.RowKit

def ucells (l : List UInt8) : List Value := l.map fun c => .int .u8 (c.toNat : Int)
theorem ucells_len (l : List UInt8) : (ucells l).length = l.length := by simp [ucells]
theorem ucells_snoc (l : List UInt8) (c : UInt8) : ucells (l ++ [c]) = ucells l ++ [.int .u8 (c.toNat : Int)] := by simp [ucells]
theorem u8_info : (Tryd.prog.info? 5).map (fun i => (i.zero, i.size, i.bytes)) = some (some (.int .u8 0), 1, 1) := by kernel_rfl
theorem own_back {w : World} {base n : Nat} {v : Value} {l : List UInt8} (h : w.ownsRow base 5 1 v n (ucells l)) :
    (convert 64 9 v).run Tryd.prog w = .ok (.string (mk l)) w := by
  have hn : n = l.length := by have := h.1; rw [ucells_len] at this; omega
  subst hn
  rcases h.2 with ⟨rfl, h0⟩ | ⟨g, cap, cur, rfl, hb, hg, hnc, hcm, hcs, htake⟩
  · have : l = [] := by simpa [ucells] using h0
    subst this
    exact run_convert_bytes_nil w 64 5 Tryd.underlying64 Tryd.underlying5 0 0 9 Tryd.underlying9
  · refine run_convert_bytes_back w _ _ _ _ cap l Tryd.underlying64 Tryd.underlying5 Tryd.underlying9 fun j hj => ?_
    exact h.cells (g := g) rfl j _ (by simp [ucells, hj])

/-! ### two digits behind a percent sign -/
def code2 : List UInt8 → Option UInt8
  | a :: b :: _ => if isHexB a && isHexB b && !(hexN [a, b] == 0) then some (UInt8.ofNat (hexN [a, b])) else none
  | _ => none
def unescA : List UInt8 → List UInt8 → Option (List UInt8)
  | [], acc => some acc
  | [c], acc => if c = 37 then none else some (acc ++ [c])
  | [c, a], acc => if c = 37 then none else unescA [a] (acc ++ [c])
  | c :: a :: b :: r, acc => if c = 37 then (match code2 [a, b] with
    | some z => unescA r (acc ++ [z])
    | none => none) else unescA (a :: b :: r) (acc ++ [c])
theorem unescA_plain {c : UInt8} (h : c ≠ 37) (l acc : List UInt8) : unescA (c :: l) acc = unescA l (acc ++ [c]) := by
  match l with
  | [] => simp [unescA, h]
  | [a] => simp [unescA, h]
  | a :: b :: r => simp [unescA, h]
theorem unescA_pct (l acc : List UInt8) : unescA (37 :: l) acc = match code2 l with
    | some z => unescA (l.drop 2) (acc ++ [z])
    | none => none := by
  match l with
  | [] => rfl
  | [a] => rfl
  | a :: b :: r => 
    have h : code2 (a :: b :: r) = code2 [a, b] := rfl
    rw [h]
    show (if (37 : UInt8) = 37 then _ else _) = _
    rw [if_pos rfl]
    rfl
def unescS (s : ByteArray) : Option (List UInt8) := unescA (L s) []
theorem unescA_len : ∀ (l acc r : List UInt8), unescA l acc = some r → r.length ≤ acc.length + l.length
  | [], acc, r, h => by simp [unescA] at h; subst h; simp
  | [c], acc, r, h => by
    unfold unescA at h
    split at h
    · cases h
    · injection h with h; subst h; simp
  | [c, a], acc, r, h => by
    unfold unescA at h
    split at h
    · cases h
    · have := unescA_len [a] _ r h; simp at this ⊢; omega
  | c :: a :: b :: l, acc, r, h => by
    unfold unescA at h
    split at h
    · split at h
      · have := unescA_len l _ r h; simp at this ⊢; omega
      · cases h
    · have := unescA_len (a :: b :: l) _ r h; simp at this ⊢; omega

theorem ucell_one (c : Int) : ∀ u ∈ [Value.int .u8 c], u.oneCell' = true := by intro u hu; simp at hu; subst hu; rfl
end Go.Proofs.YthjnmcciejfpcaaDoor
