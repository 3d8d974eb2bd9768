/- Routes, plainly: by which rule a path goes (no program is named here). -/
import Derived.Test.YthjnmcciejfpcaaGreatDoorSeg
import Derived.Test.YthjnmcciejfpcaaGreatDoorRuE
namespace Go.Proofs.YthjnmcciejfpcaaGreatDoor
set_option linter.unusedVariables false
set_option linter.unusedSimpArgs false
open Go.RowKit

/-! ### segments of a rule -/
def hasC (x : ByteArray) : Bool := Lib.hasPrefix (L x) [58]
def okP (p : ByteArray × ByteArray) : Bool := hasC p.1 || eqB p.1 p.2
def nm1 (p : ByteArray × ByteArray) : Option Pr := if hasC p.1 then some (tailC p.1, p.2) else none
def segsM (ws hs : List ByteArray) : Option (List Pr) := if ws.length = hs.length then (if (ws.zip hs).all okP then some ((ws.zip hs).filterMap nm1) else none) else none
/-! ### extensions -/
def extGo (e : List UInt8) : Nat → List (List UInt8) → Option Nat
  | _, [] => none
  | a, s :: r => if decide (e.length < s.length) && Lib.hasSuffix s e then some (a + 1 + s.length) else extGo e (a + 1 + s.length) r
def extS (e p : ByteArray) : Option Nat := if p.size = 0 then none else extGo (L e) 0 (cutC 47 ((L p).drop 1))
/-! ### a match: the script, what is behind it, the names -/
abbrev RT := ByteArray × ByteArray × List Pr
def bareS (s : ByteArray) : ByteArray := ⟨(Lib.trimSuffix (L s) [47]).toArray⟩
def matchS (k : Int) (rp p : ByteArray) : Option RT :=
  if k = 1 then (if eqB p rp then some (p, ⟨#[]⟩, []) else none)
  else if k = 2 then (segsM (segs rp) (segs p)).map fun nm => (p, ⟨#[]⟩, nm)
  else if k = 3 then (if begS p rp then some (bareS rp, p.extract (bareS rp).size p.size, []) else none)
  else if k = 4 then (extS rp p).map fun e => (p.extract 0 e, p.extract e p.size, [])
  else none
def rsc : Option RT → ByteArray
  | some t => t.1
  | none => ⟨#[]⟩
def rinf : Option RT → ByteArray
  | some t => t.2.1
  | none => ⟨#[]⟩
def rnm : Option RT → List Pr
  | some t => t.2.2
  | none => []
/-! ### a rule -/
structure RV where
  kind : Int
  host : ByteArray
  path : ByteArray
  backend : Int
  wA : Option Addr
  wn : Nat
  wc : Nat
def RV.cells (r : RV) : List Value := [.int .i64 r.kind, .string r.host, .string r.path, .int .i64 r.backend, .slice r.wA r.wn r.wc]
def Rules (w : World) (A : Option Addr) (l : List RV) : Prop :=
  0 < l.length → ∃ b off, A = some ⟨b, off, none⟩ ∧ b < w.heap.size ∧ ∀ k (h : k < l.length) j v, l[k].cells[j]? = some v → w.cell? ⟨b, off + k * 5 + j, none⟩ = some v
theorem Rules.nil (w : World) (A : Option Addr) : Rules w A [] := fun h => absurd h (by simp)
theorem Rules.fr {w w' : World} {A : Option Addr} {l : List RV} (h : Rules w A l) (hb : Below w.heap.size w w') : Rules w' A l := fun h0 => by
  obtain ⟨b, off, rfl, hlt, hc⟩ := h h0
  exact ⟨b, off, rfl, Nat.lt_of_lt_of_le hlt hb.size, fun k hk j v hv => fr_cell hb (hc k hk j v hv)⟩
def rcells (l : List RV) : List Value := l.flatMap RV.cells
theorem rcells_at : ∀ (l : List RV) k (h : k < l.length) j v, l[k].cells[j]? = some v → (rcells l)[k * 5 + j]? = some v
  | [], k, h, _, _, _ => by simp at h
  | r :: l, 0, _, j, v, hv => by
    have hj : j < 5 := by
      rcases Nat.lt_or_ge j 5 with h | h
      · exact h
      · rw [List.getElem?_eq_none (by simpa [RV.cells] using h)] at hv; cases hv
    have hv' : r.cells[j]? = some v := hv
    simp only [rcells, List.flatMap_cons]
    rw [List.getElem?_append_left (by simp [RV.cells]; omega), Nat.zero_mul, Nat.zero_add]; exact hv'
  | r :: l, k + 1, h, j, v, hv => by
    have := rcells_at l k (by simpa using h) j v hv
    simp only [rcells, List.flatMap_cons]
    rw [List.getElem?_append_right (by simp [RV.cells]; omega)]
    rw [show (k + 1) * 5 + j - r.cells.length = k * 5 + j by simp [RV.cells]; omega]
    exact this
theorem Rules.new (w : World) (l : List RV) (t : TypeId) : Rules (w.alloc (.cells (rcells l).toArray t)) (some ⟨w.heap.size, 0, none⟩) l := fun _ =>
  ⟨w.heap.size, 0, rfl, by simp, fun k hk j v hv => by rw [Nat.zero_add, World.cell?_alloc_mark]; simpa using rcells_at l k hk j v hv⟩
theorem Rules.newAt {w : World} {g : Nat} (hg : g = w.heap.size) (l : List RV) (t : TypeId) : Rules (w.alloc (.cells (rcells l).toArray t)) (some ⟨g, 0, none⟩) l := hg ▸ Rules.new w l t
/-! ### which rule is ahead -/
def weightS (k : Int) (rp : ByteArray) : Nat :=
  if k = 2 then ((segs rp).filter fun s => !hasC s).length else if k = 3 then (segs rp).length else 0
structure Bst where
  rule : Int
  sc : ByteArray
  inf : ByteArray
  nm : List Pr
  kind : Int
  most : Int
def aheadB (b : Bst) (k n : Int) : Bool := b.kind == 0 || decide (k < b.kind) || (k == b.kind && decide (b.most < n))
def amStep (host p : ByteArray) (b : Bst) (i : Nat) (r : RV) : Bst :=
  match matchS r.kind r.path p with
  | none => b
  | some t => if eqB r.host host then (if aheadB b r.kind (weightS r.kind r.path) then ⟨i, t.1, t.2.1, t.2.2, r.kind, weightS r.kind r.path⟩ else b) else b
def amN (host p : ByteArray) (l : List RV) : Nat → Bst
  | 0 => ⟨0, ⟨#[]⟩, ⟨#[]⟩, [], 0, 0⟩
  | k + 1 => match l[k]? with
    | some r => amStep host p (amN host p l k) k r
    | none => amN host p l k
def amS (l : List RV) (host p : ByteArray) : Bst := amN host p l l.length
def Bst.ok (b : Bst) : Bool := decide (0 < b.kind)
def chooseS (l : List RV) (host p : ByteArray) : Bst :=
  if (hostS host).toList.isEmpty then amS l ⟨#[]⟩ p else if (amS l (hostS host) p).ok then amS l (hostS host) p else amS l ⟨#[]⟩ p
end Go.Proofs.YthjnmcciejfpcaaGreatDoor
