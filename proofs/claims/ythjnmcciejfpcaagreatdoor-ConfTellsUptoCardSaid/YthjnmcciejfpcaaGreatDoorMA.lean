/- Words for memory that all walks of this seat share: a frame, a block of bytes, rows of strings and of pairs. No program is named here. Words for memory: a slice of strings that is read; a block known whole. No program is named here. Texts as lists of bytes: cutting at a byte, in the three ways in which the program, the document and the library do it. No program is named here. Digits of base 16, plainly. No program is named here. errors.Is, where the errors are the program's numbers (api.Errno) or nil. -/
import Derived.WalkKit
import Derived.WalkSpells
import Derived.WalkLawsBesides
import Derived.Lib.Hide
import Derived.Laws.IdiomStrings
import Derived.Deep.Draws
import Derived.Lib.SplitLaws
import Derived.Test.YthjnmcciejfpcaaGreatDoorProg
import Derived.LaidEql
import Derived.Stop.Asserts
import Derived.RowKitTokens
import Derived.Lib.IfaceEq
namespace Go.Proofs.YthjnmcciejfpcaaGreatDoor
set_option linter.unusedVariables false
set_option linter.unusedSimpArgs false
open Go.RowKit

/-! ### frames -/
theorem fr_refl (w : World) : Below w.heap.size w w := Below.refl _ _
theorem fr_trans {a b c : World} (h : Below a.heap.size a b) (k : Below b.heap.size b c) : Below a.heap.size a c := h.trans (k.mono h.size)
theorem fr_alloc {a b : World} (h : Below a.heap.size a b) (o : Obj) : Below a.heap.size a (b.alloc o) := h.alloc h.size o
theorem fr_drew {a b : World} (h : Below a.heap.size a b) : Below a.heap.size a b.drew := h.drew
theorem fr_drewN {a b : World} (h : Below a.heap.size a b) (n : Nat) : Below a.heap.size a (b.drewN n) := ⟨h.os, h.tape, h.output, h.size, h.block⟩
theorem fr_set {a b : World} (h : Below a.heap.size a b) {p : Addr} (hp : a.heap.size ≤ p.block) (u : Value) : Below a.heap.size a (b.setCell p u) := h.setCell hp u
theorem fr_cells {W w1 : World} (hb : Below W.heap.size W w1) : (∀ b o, b < W.heap.size → w1.cell? ⟨b, o, none⟩ = W.cell? ⟨b, o, none⟩) ∧ (∀ b o, b < W.heap.size → w1.frozen? ⟨b, o, none⟩ = W.frozen? ⟨b, o, none⟩) :=
  ⟨fun b o h => hb.cell (p := ⟨b, o, none⟩) h, fun b o h => hb.frozen (p := ⟨b, o, none⟩) h⟩
theorem fr_cell {W w1 : World} (hb : Below W.heap.size W w1) {b o : Nat} {v : Value} (h : W.cell? ⟨b, o, none⟩ = some v) : w1.cell? ⟨b, o, none⟩ = some v :=
  (hb.cell (p := ⟨b, o, none⟩) (World.block_lt_of_cell? W _ h)).trans h
theorem fr_grown {a b c : World} {v : Value} (h : Below a.heap.size a b) (hg : b.grownBy c v.ownBlock) (hv : ∀ k, v.ownBlock = some k → a.heap.size ≤ k) : Below a.heap.size a c :=
  h.grown hg h.size hv
theorem own_fr {w w' : World} {base e size n : Nat} {v : Value} {xs : List Value} (h : w.ownsRow base e size v n xs) (hb : Below w.heap.size w w') : w'.ownsRow base e size v n xs :=
  h.kept (row := none) ⟨hb.os, hb.tape, hb.output, hb.size, fun k hk _ => hb.block k hk⟩ (by cases hv : v.ownBlock <;> simp)
theorem own_ge {w : World} {base e size n : Nat} {v : Value} {xs : List Value} (h : w.ownsRow base e size v n xs) : ∀ k, v.ownBlock = some k → base ≤ k := fun k hk => (h.lt k hk).1

theorem meas {n k : Nat} (h : k < n) (K K' : IntKind) : n - (intOf (.int K ((k : Int) + 1))).toNat < n - (intOf (.int K' (k : Int))).toNat := by
  show n - ((k : Int) + 1).toNat < n - ((k : Int)).toNat
  omega
theorem size_app (a b : ByteArray) : (a ++ b).size = a.size + b.size := by simp
theorem take_succ' {α : Type} (l : List α) (k : Nat) (h : k < l.length) : l.take (k + 1) = l.take k ++ [l[k]] := by simp
theorem list_snoc_ind {α : Type} {p : List α → Prop} (h0 : p []) (h1 : ∀ l a, p l → p (l ++ [a])) (l : List α) : p l := by
  have h : ∀ m : List α, p m.reverse := by
    intro m
    induction m with
    | nil => exact h0
    | cons a m ih => rw [List.reverse_cons]; exact h1 _ _ ih
  have := h l.reverse
  rwa [List.reverse_reverse] at this

/-! ### equality of strings, as the walk spells it -/
def eqB (a b : ByteArray) : Bool := a.toList == b.toList
theorem toList_data (a : ByteArray) : a.toList = a.data.toList := ByteArray.toList_eq a
theorem eqB_iff {a b : ByteArray} : eqB a b = true ↔ a = b := by
  unfold eqB
  rw [beq_iff_eq, toList_data, toList_data]
  constructor
  · intro h
    cases a; cases b
    congr
    exact Array.toList_inj.1 h
  · rintro rfl; rfl
theorem eqB_no {a b : ByteArray} : eqB a b = false ↔ a ≠ b := by rw [← Bool.not_eq_true, eqB_iff]
theorem eqB_refl (a : ByteArray) : eqB a a = true := eqB_iff.2 rfl

/-! ### a block of bytes: its first cells are l, none of them frozen -/
def Buf (w : World) (g : Nat) (l : List UInt8) : Prop :=
  g < w.heap.size ∧ ∀ j (h : j < l.length), w.cell? ⟨g, j, none⟩ = some (.int .u8 (l[j].toNat : Int)) ∧ w.frozen? ⟨g, j, none⟩ = false
theorem Buf.drew {w : World} {g : Nat} {l : List UInt8} (h : Buf w g l) : Buf w.drew g l := h
theorem Buf.fr {w w' : World} {g : Nat} {l : List UInt8} (h : Buf w g l) (hb : Below w.heap.size w w') : Buf w' g l :=
  ⟨Nat.lt_of_lt_of_le h.1 hb.size, fun j hj => ⟨(hb.cell (p := ⟨g, j, none⟩) h.1).trans (h.2 j hj).1, (hb.frozen (p := ⟨g, j, none⟩) h.1).trans (h.2 j hj).2⟩⟩
theorem Buf.new (w : World) (s : ByteArray) (cap : Nat) (e : TypeId) :
    Buf (w.alloc (.cells (bytesRow s cap) e ((bytesRow s cap).size, (bytesRow s cap).size + 1))) w.heap.size s.data.toList := by
  refine ⟨by simp, fun j h => ?_⟩
  have hj : j < s.data.size := by simpa using h
  have hlt : j < (bytesRow s cap).size := by
    have := bytesRow_at s cap j hj
    exact (Array.getElem?_eq_some_iff.1 this).1
  refine ⟨?_, ?_⟩
  · rw [World.cell?_alloc_mark, bytesRow_at s cap j hj]; simp
  · rw [World.frozen?_alloc_mark]; simp only [Bool.and_eq_false_imp, decide_eq_true_eq, decide_eq_false_iff_not]; omega
theorem Buf.set {w : World} {g : Nat} {l : List UInt8} (h : Buf w g l) {k : Nat} {n : Int} {c : UInt8} (hk : k < l.length) (hn : n = (c.toNat : Int)) :
    Buf (w.setCell ⟨g, k, none⟩ (.int .u8 n)) g (l.set k c) := by
  subst hn
  refine ⟨by simpa [World.setCell] using h.1, fun j hj => ?_⟩
  have hj' : j < l.length := by simpa using hj
  obtain ⟨hc, hf⟩ := h.2 j hj'
  refine ⟨?_, ?_⟩
  · by_cases e : j = k
    · subst e
      rw [World.cell?_setCell_same w _ _ (by rw [hc])]; simp
    · rw [World.cell?_setCell_other w _ _ _ (by intro h; injection h with _ h2 _; exact e h2.symm), hc, List.getElem_set, if_neg (by omega)]
  · rw [World.frozen?_setCell]; exact hf
theorem Buf.back {P : Program} {w : World} {g : Nat} {l : List UInt8} (h : Buf w g l) {n : Nat} (hn : l.length = n) (src dst e : TypeId) (cap : Nat)
    (hs : P.underlying src = some (.slice e)) (he : P.underlying e = some (.int .u8)) (hd : P.underlying dst = some .string) :
    (convert src dst (.slice (some ⟨g, 0, none⟩) n cap)).run P w = .ok (.string ⟨l.toArray⟩) w := by
  subst hn
  refine run_convert_bytes_back w src dst e _ cap l hs he hd fun j hj => ?_
  rw [show (⟨g, 0, none⟩ : Addr).add j = ⟨g, j, none⟩ by unfold Addr.add; split <;> simp_all]
  exact (h.2 j hj).1

/-! ### a literal's cells behind a slice of the call's own -/
theorem add0 (g j : Nat) : (⟨g, 0, none⟩ : Addr).add j = ⟨g, j, none⟩ := by unfold Addr.add; split <;> simp_all
theorem new_cells (w : World) (cs : List Value) (t : TypeId) : ∀ j u, cs[j]? = some u → (w.alloc (.cells cs.toArray t)).cell? ((⟨w.heap.size, 0, none⟩ : Addr).add j) = some u := by
  intro j u h
  rw [add0, World.cell?_alloc_mark]
  simpa using h

theorem Buf.backAt {P : Program} {w : World} {g : Nat} {l : List UInt8} (h : Buf w g l) {j n : Nat} (hn : j + n = l.length) (src dst e : TypeId) (cap : Nat)
    (hs : P.underlying src = some (.slice e)) (he : P.underlying e = some (.int .u8)) (hd : P.underlying dst = some .string) :
    (convert src dst (.slice (some ⟨g, j, none⟩) n cap)).run P w = .ok (.string ⟨(l.drop j).toArray⟩) w := by
  have hl : (l.drop j).length = n := by rw [List.length_drop]; omega
  rw [← hl]
  refine run_convert_bytes_back w src dst e _ cap (l.drop j) hs he hd fun i hi => ?_
  rw [show (⟨g, j, none⟩ : Addr).add i = ⟨g, j + i, none⟩ by unfold Addr.add; split <;> simp_all, List.getElem_drop]
  exact (h.2 (j + i) (by omega)).1

/-! ### a string made of one byte -/
theorem conv1 {P : Program} (W : World) (g : Nat) (x : Int) (src dst e : TypeId) (cap : Nat) (hs : P.underlying src = some (.slice e)) (he : P.underlying e = some (.int .u8)) (hd : P.underlying dst = some .string)
    (h : W.cell? ⟨g, 0, none⟩ = some (.int .u8 x)) : (convert src dst (.slice (some ⟨g, 0, none⟩) 1 cap)).run P W = .ok (.string ⟨#[UInt8.ofNat x.toNat]⟩) W := by
  have := run_convert_bytes_arg (P := P) W src e hs he g 0 1 cap [x] rfl (fun i hi => by rw [show i = 0 by omega]; exact h) dst hd
  rw [this]; rfl
theorem conv1_new {P : Program} (W : World) (x : Int) (src dst e : TypeId) (hs : P.underlying src = some (.slice e)) (he : P.underlying e = some (.int .u8)) (hd : P.underlying dst = some .string) :
    (convert src dst (.slice (some ⟨W.heap.size, 0, none⟩) 1 1)).run P (W.alloc (.cells #[.int .u8 x] e)) = .ok (.string ⟨#[UInt8.ofNat x.toNat]⟩) (W.alloc (.cells #[.int .u8 x] e)) :=
  conv1 _ _ x src dst e 1 hs he hd (by rw [World.cell?_alloc_mark]; rfl)

/-! ### a struct in a block of its own -/
def Box (w : World) (g : Nat) (vs : List Value) : Prop := g < w.heap.size ∧ ∀ o v, vs[o]? = some v → w.cell? ⟨g, o, none⟩ = some v
theorem Box.new (w : World) (vs : List Value) (t : TypeId) : Box (w.alloc (.cells vs.toArray t)) w.heap.size vs := ⟨by simp, fun o v h => by rw [World.cell?_alloc_mark]; simpa using h⟩
theorem Box.newAt {w : World} {g : Nat} (hg : g = w.heap.size) (vs : List Value) (t : TypeId) : Box (w.alloc (.cells vs.toArray t)) g vs := hg ▸ Box.new w vs t
theorem Box.fr {w w' : World} {g : Nat} {vs : List Value} (h : Box w g vs) (hb : Below w.heap.size w w') : Box w' g vs := ⟨Nat.lt_of_lt_of_le h.1 hb.size, fun o v hv => fr_cell hb (h.2 o v hv)⟩
theorem Box.at_ {w : World} {g : Nat} {vs : List Value} (h : Box w g vs) (o : Nat) (v : Value) (hv : vs[o]? = some v := by rfl) : w.cell? ⟨g, o, none⟩ = some v := h.2 o v hv

/-! ### a slice of pairs of strings that is read -/
abbrev Pr := ByteArray × ByteArray
def Pairs (w : World) (A : Option Addr) (l : List Pr) : Prop :=
  0 < l.length → ∃ b off, A = some ⟨b, off, none⟩ ∧ b < w.heap.size ∧ ∀ k (h : k < l.length), w.cell? ⟨b, off + k * 2, none⟩ = some (.string l[k].1) ∧ w.cell? ⟨b, off + k * 2 + 1, none⟩ = some (.string l[k].2)
def pcells (l : List Pr) : List Value := l.flatMap fun p => [.string p.1, .string p.2]
theorem pcells_len (l : List Pr) : (pcells l).length = l.length * 2 := by
  induction l with
  | nil => rfl
  | cons p l ih => simp only [pcells, List.flatMap_cons, List.length_append, List.length_cons, List.length_nil] at ih ⊢; omega
theorem pcells_snoc (l : List Pr) (p : Pr) : pcells (l ++ [p]) = pcells l ++ [.string p.1, .string p.2] := by simp [pcells]
theorem pcells_at (l : List Pr) : ∀ k (h : k < l.length), (pcells l)[k * 2]? = some (.string l[k].1) ∧ (pcells l)[k * 2 + 1]? = some (.string l[k].2) := by
  induction l with
  | nil => intro k h; simp at h
  | cons p l ih =>
    intro k h
    cases k with
    | zero => exact ⟨rfl, rfl⟩
    | succ k =>
      have h' : k < l.length := by simpa using h
      obtain ⟨h1, h2⟩ := ih k h'
      have e1 : (k + 1) * 2 = k * 2 + 1 + 1 := by omega
      simp only [pcells, List.flatMap_cons, List.cons_append, List.nil_append, List.getElem_cons_succ] at h1 h2 ⊢
      rw [e1]
      exact ⟨by rw [List.getElem?_cons_succ, List.getElem?_cons_succ]; exact h1, by rw [List.getElem?_cons_succ, List.getElem?_cons_succ]; exact h2⟩
theorem pcells_one (l : List Pr) : ∀ u ∈ pcells l, u.oneCell' = true := by
  intro u hu
  simp only [pcells, List.mem_flatMap] at hu
  obtain ⟨p, _, hu⟩ := hu
  simp at hu
  rcases hu with rfl | rfl <;> rfl
theorem Pairs.nil (w : World) (A : Option Addr) : Pairs w A [] := fun h => absurd h (by simp)
theorem Pairs.fr {w w' : World} {A : Option Addr} {l : List Pr} (h : Pairs w A l) (hb : Below w.heap.size w w') : Pairs w' A l := fun h0 => by
  obtain ⟨b, off, rfl, hlt, hc⟩ := h h0
  exact ⟨b, off, rfl, Nat.lt_of_lt_of_le hlt hb.size, fun k hk => ⟨fr_cell hb (hc k hk).1, fr_cell hb (hc k hk).2⟩⟩
/-- a row of the call's own, read -/
theorem Pairs.own {w : World} {base e : Nat} {v : Value} {l : List Pr} {n : Nat} (h : w.ownsRow base e 2 v n (pcells l)) :
    ∃ A c, v = .slice A l.length c ∧ n = l.length ∧ Pairs w A l := by
  have hn : n = l.length := by have := h.1; rw [pcells_len] at this; omega
  subst hn
  rcases h.2 with ⟨rfl, h0⟩ | ⟨g, cap, cur, rfl, hb, hg, hnc, hcm, hcs, htake⟩
  · exact ⟨none, 0, by rw [h0], rfl, fun h1 => absurd h1 (by omega)⟩
  · refine ⟨_, cap, rfl, rfl, fun _ => ⟨g, 0, rfl, (Array.getElem?_eq_some_iff.1 hg).1, fun k hk => ?_⟩⟩
    obtain ⟨h1, h2⟩ := pcells_at l k hk
    have c1 := h.cells (g := g) rfl _ _ h1
    have c2 := h.cells (g := g) rfl _ _ h2
    rw [add0] at c1 c2
    exact ⟨by rw [Nat.zero_add]; exact c1, by rw [Nat.zero_add]; exact c2⟩
theorem Pairs.new (w : World) (l : List Pr) (t : TypeId) : Pairs (w.alloc (.cells (pcells l).toArray t)) (some ⟨w.heap.size, 0, none⟩) l := fun _ =>
  ⟨w.heap.size, 0, rfl, by simp, fun k hk => by
    obtain ⟨h1, h2⟩ := pcells_at l k hk
    exact ⟨by rw [Nat.zero_add, World.cell?_alloc_mark]; simpa using h1, by rw [Nat.zero_add, World.cell?_alloc_mark]; simpa using h2⟩⟩
theorem Pairs.tail {w : World} {b off : Nat} {p : Pr} {l : List Pr} (h : Pairs w (some ⟨b, off, none⟩) (p :: l)) : Pairs w (some ⟨b, off + 2, none⟩) l := fun _ => by
  obtain ⟨b', off', e, hlt, hc⟩ := h (by simp)
  injection e with e; injection e with e1 e2
  subst e1 e2
  refine ⟨b, off + 2, rfl, hlt, fun k hk => ?_⟩
  have := hc (k + 1) (by simpa using hk)
  rw [show off + 2 + k * 2 = off + (k + 1) * 2 by omega]
  exact this
/-- the total of what pairs hold, with four more each -/
def tot (l : List Pr) : Nat := (l.map fun p => p.1.size + p.2.size + 4).sum
theorem tot_nil : tot [] = 0 := rfl
theorem tot_snoc (l : List Pr) (p : Pr) : tot (l ++ [p]) = tot l + (p.1.size + p.2.size + 4) := by simp [tot]
theorem tot_take (l : List Pr) (k : Nat) (h : k < l.length) : tot (l.take k) + (l[k].1.size + l[k].2.size + 4) ≤ tot l := by
  unfold tot
  conv => rhs; rw [← List.take_append_drop k l]
  rw [List.drop_eq_getElem_cons h, List.map_append, List.map_cons, List.sum_append, List.sum_cons]; omega
theorem tot_len (l : List Pr) : l.length ≤ tot l := by
  induction l with
  | nil => exact Nat.le_refl _
  | cons p l ih => simp only [tot, List.map_cons, List.sum_cons, List.length_cons] at ih ⊢; omega

end Go.Proofs.YthjnmcciejfpcaaGreatDoor

namespace Go.Proofs.YthjnmcciejfpcaaGreatDoor
set_option linter.unusedVariables false
set_option linter.unusedSimpArgs false
open Go.RowKit

def Strs (w : World) (A : Option Addr) (l : List ByteArray) : Prop :=
  0 < l.length → ∃ b off, A = some ⟨b, off, none⟩ ∧ b < w.heap.size ∧ ∀ k (h : k < l.length), w.cell? ⟨b, off + k, none⟩ = some (.string l[k])
def scells (l : List ByteArray) : List Value := l.map Value.string
theorem scells_len (l : List ByteArray) : (scells l).length = l.length := by simp [scells]
theorem scells_snoc (l : List ByteArray) (s : ByteArray) : scells (l ++ [s]) = scells l ++ [.string s] := by simp [scells]
theorem scells_one (l : List ByteArray) : ∀ u ∈ scells l, u.oneCell' = true := by
  intro u hu
  simp only [scells, List.mem_map] at hu
  obtain ⟨s, _, rfl⟩ := hu
  rfl
theorem scell_one (s : ByteArray) : ∀ u ∈ [Value.string s], u.oneCell' = true := by intro u hu; simp at hu; subst hu; rfl
theorem Strs.nil (w : World) (A : Option Addr) : Strs w A [] := fun h => absurd h (by simp)
theorem Strs.fr {w w' : World} {A : Option Addr} {l : List ByteArray} (h : Strs w A l) (hb : Below w.heap.size w w') : Strs w' A l := fun h0 => by
  obtain ⟨b, off, rfl, hlt, hc⟩ := h h0
  exact ⟨b, off, rfl, Nat.lt_of_lt_of_le hlt hb.size, fun k hk => fr_cell hb (hc k hk)⟩
theorem Strs.own {w : World} {base e : Nat} {v : Value} {l : List ByteArray} {n : Nat} (h : w.ownsRow base e 1 v n (scells l)) :
    ∃ A c, v = .slice A l.length c ∧ n = l.length ∧ Strs w A l ∧ l.length ≤ c := by
  have hn : n = l.length := by have := h.1; rw [scells_len] at this; omega
  subst hn
  rcases h.2 with ⟨rfl, h0⟩ | ⟨g, cap, cur, rfl, hb, hg, hnc, hcm, hcs, htake⟩
  · exact ⟨none, 0, by rw [h0], rfl, fun h1 => absurd h1 (by omega), by omega⟩
  · refine ⟨_, cap, rfl, rfl, fun _ => ⟨g, 0, rfl, (Array.getElem?_eq_some_iff.1 hg).1, fun k hk => ?_⟩, hnc⟩
    have hu : (scells l)[k]? = some (.string l[k]) := by simp [scells, List.getElem?_eq_getElem hk]
    have c1 := h.cells (g := g) rfl _ _ hu
    rw [add0] at c1
    rw [Nat.zero_add]; exact c1
theorem Strs.at_ {w : World} {A : Option Addr} {l : List ByteArray} (h : Strs w A l) {k : Nat} (hk : k < l.length) : ∃ b off, A = some ⟨b, off, none⟩ ∧ b < w.heap.size ∧ w.cell? ⟨b, off + k, none⟩ = some (.string l[k]) := by
  obtain ⟨b, off, e, hb, hc⟩ := h (by omega)
  exact ⟨b, off, e, hb, hc k hk⟩

/-! ### a block known whole (the guide's words, shortened) -/
def Blk (w : World) (g : Nat) (t : TypeId) (cs : Array Value) : Prop := w.heap[g]? = some (.cells cs t (0, 0))
section
variable {w w' : World} {g : Nat} {t : TypeId} {cs : Array Value}
theorem Blk.lt (h : Blk w g t cs) : g < w.heap.size := by
  rcases Nat.lt_or_ge g w.heap.size with hlt | hge
  · exact hlt
  · unfold Blk at h; rw [Array.getElem?_eq_none hge] at h; cases h
theorem Blk.cell (h : Blk w g t cs) (i : Nat) : w.cell? ⟨g, i, none⟩ = cs[i]? := cell_of_row w g i cs t (0, 0) h
theorem Blk.frozen (h : Blk w g t cs) (i : Nat) : w.frozen? ⟨g, i, none⟩ = false := by
  unfold Blk at h
  simp [World.frozen?, h]
theorem Blk.new (w : World) (t : TypeId) (cs : Array Value) : Blk (w.alloc (.cells cs t)) w.heap.size t cs := heap_alloc_new w _
theorem Blk.drew (h : Blk w g t cs) : Blk w.drew g t cs := h
theorem Blk.drewN (h : Blk w g t cs) (n : Nat) : Blk (w.drewN n) g t cs := h
theorem Blk.alloc (h : Blk w g t cs) (o : Obj) : Blk (w.alloc o) g t cs := (Below.heap_alloc w o g h.lt).trans h
theorem Blk.set_ (h : Blk w g t cs) (i : Nat) (u : Value) : Blk (w.setCell ⟨g, i, none⟩ u) g t (cs.setIfInBounds i u) := by
  unfold Blk at h ⊢
  simp [World.setCell, Array.getElem?_modify, h]
theorem Blk.fr (h : Blk w g t cs) (hb : Below w.heap.size w w') : Blk w' g t cs := (hb.block g h.lt).trans h
theorem Blk.grown {row : Option Nat} (h : Blk w g t cs) (hb : w.grownBy w' row) (hg : some g ≠ row) : Blk w' g t cs := (hb.block g h.lt hg).trans h
end
/-! ### only one block, and what is new, has turned -/
theorem only_refl (w : World) (row : Option Nat) : w.grownBy w row := ⟨rfl, rfl, rfl, Nat.le_refl _, fun _ _ _ => rfl⟩
theorem only_trans {a b c : World} {row : Option Nat} (h : a.grownBy b row) (k : b.grownBy c row) : a.grownBy c row :=
  ⟨k.os.trans h.os, k.tape.trans h.tape, k.output.trans h.output, Nat.le_trans h.size k.size, fun i hi hn => (k.block i (Nat.lt_of_lt_of_le hi h.size) hn).trans (h.block i hi hn)⟩
theorem only_drewN {a w : World} {row : Option Nat} (h : a.grownBy w row) (n : Nat) : a.grownBy (w.drewN n) row := ⟨h.os, h.tape, h.output, h.size, h.block⟩
theorem only_drew {a w : World} {row : Option Nat} (h : a.grownBy w row) : a.grownBy w.drew row := ⟨h.os, h.tape, h.output, h.size, h.block⟩
theorem only_alloc {a w : World} {row : Option Nat} (h : a.grownBy w row) (o : Obj) : a.grownBy (w.alloc o) row :=
  ⟨h.os, h.tape, h.output, Nat.le_trans h.size (by simp), fun i hi hne => (Below.heap_alloc w o i (Nat.lt_of_lt_of_le hi h.size)).trans (h.block i hi hne)⟩
theorem only_set {a w : World} {g : Nat} (h : a.grownBy w (some g)) (i : Nat) (u : Value) : a.grownBy (w.setCell ⟨g, i, none⟩ u) (some g) :=
  ⟨h.os, h.tape, h.output, by simpa [World.setCell] using h.size, fun k hk hne => (Below.heap_setCell w ⟨g, i, none⟩ u k (by rintro rfl; exact hne rfl)).trans (h.block k hk hne)⟩
theorem only_fr {a w w' : World} {row : Option Nat} (h : a.grownBy w row) (hb : Below w.heap.size w w') : a.grownBy w' row :=
  only_trans h ⟨hb.os, hb.tape, hb.output, hb.size, fun k hk _ => hb.block k hk⟩
theorem fr_only {a b c : World} {g : Nat} (h : Below a.heap.size a b) (k : b.grownBy c (some g)) (hg : a.heap.size ≤ g) : Below a.heap.size a c :=
  h.grown k h.size (fun i hi => by injection hi with hi; omega)
end Go.Proofs.YthjnmcciejfpcaaGreatDoor

namespace Go.Proofs.YthjnmcciejfpcaaGreatDoor
set_option linter.unusedVariables false
set_option linter.unusedSimpArgs false
open Go.RowKit

abbrev L (s : ByteArray) : List UInt8 := s.data.toList
def mk (l : List UInt8) : ByteArray := ⟨l.toArray⟩
theorem L_mk (l : List UInt8) : L (mk l) = l := by simp [L, mk]
theorem mk_L (s : ByteArray) : mk (L s) = s := by cases s; simp [L, mk]
theorem L_len (s : ByteArray) : (L s).length = s.size := rfl
theorem mk_size (l : List UInt8) : (mk l).size = l.length := by show l.toArray.size = _; simp
theorem L_app (a b : ByteArray) : L (a ++ b) = L a ++ L b := by simp [L]
theorem mk_app (a b : List UInt8) : mk (a ++ b) = mk a ++ mk b := by apply ByteArray.ext; simp [mk]
theorem L_inj {a b : ByteArray} (h : L a = L b) : a = b := by rw [← mk_L a, ← mk_L b, h]
theorem mk_inj {a b : List UInt8} (h : mk a = mk b) : a = b := by rw [← L_mk a, ← L_mk b, h]
theorem L_ext (s : ByteArray) (i j : Nat) : L (s.extract i j) = ((L s).take j).drop i := by
  unfold L; rw [Lib.extract_data, List.drop_take]
theorem L_end (s : ByteArray) (i : Nat) : L (s.extract i s.size) = (L s).drop i := by rw [L_ext, List.take_of_length_le (Nat.le_of_eq (L_len s))]
theorem L_at (s : ByteArray) (i : Nat) (h : i < s.size) : (L s)[i]'h = s[i] := rfl
theorem toList_L (s : ByteArray) : s.toList = L s := ByteArray.toList_eq s
theorem eqB_L (a b : ByteArray) : eqB a b = (L a == L b) := by unfold eqB; rw [toList_L, toList_L]

/-! ### cut at a byte -/
def cutC (c : UInt8) : List UInt8 → List (List UInt8)
  | [] => [[]]
  | x :: l => if x = c then [] :: cutC c l else match cutC c l with
    | [] => [[x]]
    | h :: t => (x :: h) :: t
def pre (p : List UInt8) : List (List UInt8) → List (List UInt8)
  | [] => [p]
  | h :: t => (p ++ h) :: t
theorem cutC_ne (c : UInt8) (l : List UInt8) : cutC c l ≠ [] := by
  cases l with
  | nil => simp [cutC]
  | cons x l => unfold cutC; split <;> (try split) <;> simp
theorem pre_nil {l : List (List UInt8)} (h : l ≠ []) : pre [] l = l := by cases l with | nil => exact absurd rfl h | cons => rfl
theorem pre_pre (p q : List UInt8) (l : List (List UInt8)) : pre p (pre q l) = pre (p ++ q) l := by cases l <;> simp [pre]
theorem cutC_eq (c : UInt8) (l : List UInt8) : cutC c (c :: l) = [] :: cutC c l := by simp [cutC]
theorem cutC_neq {c x : UInt8} (h : x ≠ c) (l : List UInt8) : cutC c (x :: l) = pre [x] (cutC c l) := by
  show (if x = c then _ else _) = _
  rw [if_neg h]
  cases hq : cutC c l <;> rfl
theorem cutC_none {c : UInt8} : ∀ {l : List UInt8}, c ∉ l → cutC c l = [l]
  | [], _ => rfl
  | x :: l, h => by
    have hx : x ≠ c := fun e => h (by simp [e])
    rw [cutC_neq hx, cutC_none (fun e => h (by simp [e]))]; rfl
theorem cutC_app {c : UInt8} : ∀ {p : List UInt8}, c ∉ p → ∀ l, cutC c (p ++ l) = pre p (cutC c l)
  | [], _, l => (pre_nil (cutC_ne c l)).symm
  | x :: p, h, l => by
    have hx : x ≠ c := fun e => h (by simp [e])
    rw [List.cons_append, cutC_neq hx, cutC_app (fun e => h (by simp [e])), pre_pre]; rfl
theorem cutC_at {c : UInt8} {p : List UInt8} (h : c ∉ p) (l : List UInt8) : cutC c (p ++ c :: l) = p :: cutC c l := by
  rw [cutC_app h, cutC_eq]; simp [pre]
theorem cutC_not {c : UInt8} : ∀ {l : List UInt8}, ∀ p ∈ cutC c l, c ∉ p
  | [], p, h => by simp [cutC] at h; simp [h]
  | x :: l, p, h => by
    by_cases hx : x = c
    · subst hx
      rw [cutC_eq] at h
      rcases List.mem_cons.1 h with rfl | h
      · simp
      · exact cutC_not p h
    · rw [cutC_neq hx] at h
      cases hq : cutC c l with
      | nil => exact absurd hq (cutC_ne c l)
      | cons a t =>
        rw [hq] at h
        simp only [pre, List.mem_cons] at h
        rcases h with rfl | h
        · have := cutC_not (c := c) (l := l) a (by rw [hq]; simp)
          simp only [List.cons_append, List.nil_append, List.mem_cons, not_or]
          exact ⟨fun e => hx e.symm, this⟩
        · exact cutC_not p (by rw [hq]; simp [h])
theorem cutC_len (c : UInt8) : ∀ l : List UInt8, (cutC c l).length ≤ l.length + 1
  | [] => Nat.le_refl _
  | x :: l => by
    have := cutC_len c l
    by_cases hx : x = c
    · subst hx; rw [cutC_eq]; simp; omega
    · rw [cutC_neq hx]
      cases hq : cutC c l with
      | nil => simp [pre]
      | cons a t => rw [hq] at this; simp [pre] at this ⊢; omega
theorem cutC_sum (c : UInt8) : ∀ l : List UInt8, ((cutC c l).map List.length).sum + (cutC c l).length = l.length + 1
  | [] => rfl
  | x :: l => by
    have := cutC_sum c l
    by_cases hx : x = c
    · subst hx; rw [cutC_eq]; simp; omega
    · rw [cutC_neq hx]
      cases hq : cutC c l with
      | nil => exact absurd hq (cutC_ne c l)
      | cons a t => rw [hq] at this; simp [pre] at this ⊢; omega

/-! ### the library's way -/
theorem index_one (c x : UInt8) (l : List UInt8) : Lib.index (x :: l) [c] = if x = c then 0 else if Lib.index l [c] = -1 then -1 else Lib.index l [c] + 1 := by
  rw [Lib.index]
  by_cases h : x = c
  · subst h; simp [List.isPrefixOf]
  · have hp : ([c] : List UInt8).isPrefixOf (x :: l) = false := by simp [List.isPrefixOf, Ne.symm h]
    rw [hp]
    simp [h]
theorem index_no {c : UInt8} : ∀ {l : List UInt8}, c ∉ l → Lib.index l [c] = -1
  | [], _ => by simp [Lib.index]
  | x :: l, h => by
    have hx : x ≠ c := fun e => h (by simp [e])
    rw [index_one, if_neg hx, index_no (fun e => h (by simp [e]))]; rfl
theorem index_yes {c : UInt8} : ∀ {p : List UInt8}, c ∉ p → ∀ l, Lib.index (p ++ c :: l) [c] = (p.length : Int)
  | [], _, l => by rw [List.nil_append, index_one, if_pos rfl]; rfl
  | x :: p, h, l => by
    have hx : x ≠ c := fun e => h (by simp [e])
    rw [List.cons_append, index_one, if_neg hx, index_yes (fun e => h (by simp [e])), if_neg (by omega)]
    simp
theorem split_at {c : UInt8} : ∀ {l : List UInt8}, c ∈ l → ∃ p r, c ∉ p ∧ l = p ++ c :: r
  | [], h => by simp at h
  | x :: l, h => by
    by_cases hx : x = c
    · exact ⟨[], l, by simp, by rw [hx]; rfl⟩
    · obtain ⟨p, r, hp, e⟩ := split_at (l := l) (by rcases List.mem_cons.1 h with e | h; exact absurd e.symm hx; exact h)
      exact ⟨x :: p, r, by simp [hp, Ne.symm hx], by rw [e]; rfl⟩
theorem splitK_cut (c : UInt8) : ∀ (n : Nat) (l : List UInt8), l.length ≤ n → Lib.splitK [c] 0 (Lib.count l [c]) l = cutC c l
  | n, l, hn => by
    by_cases h : c ∈ l
    · obtain ⟨p, r, hp, rfl⟩ := split_at h
      have hi : Lib.index (p ++ c :: r) [c] = ((p.length : Nat) : Int) := index_yes hp r
      have hc : Lib.count (p ++ c :: r) [c] = Lib.count r [c] + 1 := by
        rw [Lib.count_one, Lib.count_one, List.count_append, List.count_cons_self, List.count_eq_zero_of_not_mem hp]; omega
      rw [hc]
      show (if Lib.index (p ++ c :: r) [c] == -1 then _ else _) = _
      rw [hi, if_neg (by simp)]
      have hd : (p ++ c :: r).drop (((p.length : Nat) : Int).toNat + [c].length) = r := by
        rw [Int.toNat_natCast, List.length_singleton, ← List.drop_drop, List.drop_left]; rfl
      have ht : (p ++ c :: r).take (((p.length : Nat) : Int).toNat + 0) = p := by simp
      rw [hd, ht, cutC_at hp]
      cases n with
      | zero => simp at hn
      | succ n => rw [splitK_cut c n r (by simp at hn; omega)]
    · rw [cutC_none h, Lib.count_one, List.count_eq_zero_of_not_mem h]; rfl
theorem countB_one (s : ByteArray) (c : UInt8) : Lib.countB s ⟨#[c]⟩ = (L s).count c := by
  unfold Lib.countB; exact Lib.count_one c _
theorem splitB_cut (s : ByteArray) (c : UInt8) : (Lib.splitB ⟨#[c]⟩ 0 (Lib.countB s ⟨#[c]⟩) s).map L = cutC c (L s) := by
  show (Lib.splitB ⟨#[c]⟩ 0 (Lib.countB s ⟨#[c]⟩) s).map (·.data.toList) = _
  rw [Lib.splitB_data]
  exact splitK_cut c _ (L s) (Nat.le_refl _)
def cutB (s : ByteArray) (c : UInt8) : List ByteArray := (cutC c (L s)).map mk
theorem map_L_mk (l : List ByteArray) : (l.map L).map mk = l := by rw [List.map_map]; conv => rhs; rw [← List.map_id l]
                                                                   exact List.map_congr_left fun s _ => mk_L s
theorem map_mk_L (l : List (List UInt8)) : (l.map mk).map L = l := by rw [List.map_map]; conv => rhs; rw [← List.map_id l]
                                                                      exact List.map_congr_left fun s _ => L_mk s
theorem splitB_cutB (s : ByteArray) (c : UInt8) : Lib.splitB ⟨#[c]⟩ 0 (Lib.countB s ⟨#[c]⟩) s = cutB s c := by
  rw [← map_L_mk (Lib.splitB _ _ _ _), splitB_cut]; rfl

/-! ### the document's way: index by index -/
def spAt (s : ByteArray) (c : UInt8) (i : Nat) : Bool := if h : i < s.size then s[i] == c else true
def spN (s : ByteArray) (c : UInt8) : Nat → List ByteArray × Nat
  | 0 => ([], 0)
  | i + 1 => if spAt s c i then ((spN s c i).1 ++ [s.extract (spN s c i).2 i], i + 1) else spN s c i
def splitL (s : ByteArray) (c : UInt8) : List ByteArray := (spN s c (s.size + 1)).1
theorem spN_yes {s : ByteArray} {c : UInt8} {i : Nat} (h : spAt s c i = true) : spN s c (i + 1) = ((spN s c i).1 ++ [s.extract (spN s c i).2 i], i + 1) := by show (if _ then _ else _) = _; rw [h]; rfl
theorem spN_no {s : ByteArray} {c : UInt8} {i : Nat} (h : spAt s c i = false) : spN s c (i + 1) = spN s c i := by show (if _ then _ else _) = _; rw [h]; rfl
theorem spN_from (s : ByteArray) (c : UInt8) : ∀ i, (spN s c i).2 ≤ i
  | 0 => Nat.le_refl _
  | i + 1 => by
    have := spN_from s c i
    cases h : spAt s c i
    · rw [spN_no h]; omega
    · rw [spN_yes h]; exact Nat.le_refl _
theorem spN_len (s : ByteArray) (c : UInt8) : ∀ i, (spN s c i).1.length ≤ i
  | 0 => Nat.le_refl _
  | i + 1 => by
    have := spN_len s c i
    cases h : spAt s c i
    · rw [spN_no h]; omega
    · rw [spN_yes h, List.length_append]; simp only [List.length_cons, List.length_nil]; omega
theorem spAt_end (s : ByteArray) (c : UInt8) : spAt s c s.size = true := by unfold spAt; rw [dif_neg (by omega)]
theorem spN_inv (s : ByteArray) (c : UInt8) : ∀ i, i ≤ s.size → cutC c (L s) = (spN s c i).1.map L ++ pre (((L s).take i).drop (spN s c i).2) (cutC c ((L s).drop i)) ∧ c ∉ ((L s).take i).drop (spN s c i).2
  | 0, _ => by simp [spN, pre_nil (cutC_ne c _)]
  | i + 1, hi => by
    obtain ⟨h1, h2⟩ := spN_inv s c i (by omega)
    have hf := spN_from s c i
    have hil : i < (L s).length := by show i < s.size; omega
    have hd : (L s).drop i = s[i] :: (L s).drop (i + 1) := by rw [List.drop_eq_getElem_cons hil]; rfl
    cases h : spAt s c i
    · rw [spN_no h]
      have hne : s[i] ≠ c := by unfold spAt at h; rw [dif_pos (by omega)] at h; simpa using h
      have ht : ((L s).take (i + 1)).drop (spN s c i).2 = ((L s).take i).drop (spN s c i).2 ++ [s[i]] := by
        rw [List.take_succ_eq_append_getElem hil, List.drop_append_of_le_length (by rw [List.length_take, L_len]; omega)]; rfl
      rw [ht]
      refine ⟨?_, by simp only [List.mem_append, List.mem_singleton, not_or]; exact ⟨h2, fun e => hne e.symm⟩⟩
      rw [h1, hd, cutC_neq hne, pre_pre]
    · rw [spN_yes h]
      have he : s[i] = c := by unfold spAt at h; rw [dif_pos (by omega)] at h; simpa using h
      have ht : ((L s).take (i + 1)).drop (i + 1) = [] := by simp
      simp only [ht]
      refine ⟨?_, by simp⟩
      rw [h1, hd, he, cutC_eq, pre_nil (cutC_ne c _), List.map_append, List.map_singleton, L_ext, List.append_assoc]
      simp [pre]
theorem splitL_cutB (s : ByteArray) (c : UInt8) : splitL s c = cutB s c := by
  unfold splitL
  rw [spN_yes (spAt_end s c)]
  obtain ⟨h1, h2⟩ := spN_inv s c s.size (Nat.le_refl _)
  rw [show (L s).drop s.size = [] from List.drop_of_length_le (Nat.le_refl _)] at h1
  unfold cutB
  rw [h1, List.map_append, map_L_mk]
  simp only [cutC, pre, List.append_nil, List.map_cons, List.map_nil]
  rw [← L_ext, mk_L]
end Go.Proofs.YthjnmcciejfpcaaGreatDoor

namespace Go.Proofs.YthjnmcciejfpcaaGreatDoor
set_option linter.unusedVariables false
set_option linter.unusedSimpArgs false
open Go.RowKit

/-- the value of a digit of base 16; -1: none -/
def nib (c : UInt8) : Int :=
  if 48 ≤ (c.toNat : Int) ∧ (c.toNat : Int) ≤ 57 then (c.toNat : Int) - 48
  else if 97 ≤ (c.toNat : Int) ∧ (c.toNat : Int) ≤ 102 then (c.toNat : Int) - 97 + 10
  else if 65 ≤ (c.toNat : Int) ∧ (c.toNat : Int) ≤ 70 then (c.toNat : Int) - 65 + 10
  else -1
theorem nib_le (c : UInt8) : -1 ≤ nib c ∧ nib c ≤ 15 := by
  unfold nib
  constructor <;> (repeat' split) <;> omega
def isHexB (c : UInt8) : Bool := decide (0 ≤ nib c)
def hexN (l : List UInt8) : Nat := l.foldl (fun a c => a * 16 + (nib c).toNat) 0
theorem hexN_snoc (l : List UInt8) (c : UInt8) : hexN (l ++ [c]) = hexN l * 16 + (nib c).toNat := by simp [hexN]
theorem hexN_lt (l : List UInt8) : hexN l < 16 ^ l.length := by
  refine list_snoc_ind (p := fun l => hexN l < 16 ^ l.length) (by decide) (fun l c ih => ?_) l
  have h := nib_le c
  rw [hexN_snoc, List.length_append, List.length_singleton, Nat.pow_succ]
  omega
theorem nib_cases (c : UInt8) (h : 0 ≤ nib c) : (48 ≤ (c.toNat : Int) ∧ (c.toNat : Int) ≤ 57 ∧ nib c = (c.toNat : Int) - 48) ∨
    ((97 ≤ (c.toNat : Int) ∧ (c.toNat : Int) ≤ 102) ∧ nib c = (c.toNat : Int) - 97 + 10) ∨ ((65 ≤ (c.toNat : Int) ∧ (c.toNat : Int) ≤ 70) ∧ nib c = (c.toNat : Int) - 65 + 10) := by
  unfold nib at h ⊢
  split
  · rename_i h1; exact .inl ⟨h1.1, h1.2, rfl⟩
  · split
    · rename_i h2; exact .inr (.inl ⟨h2, rfl⟩)
    · split
      · rename_i h3; exact .inr (.inr ⟨h3, rfl⟩)
      · rename_i h1 h2 h3; rw [if_neg h1, if_neg h2, if_neg h3] at h; omega
def hexFold : List UInt8 → Nat → Option Nat
  | [], a => some a
  | c :: l, a => if nib c < 0 then none else hexFold l (a * 16 + (nib c).toNat)
end Go.Proofs.YthjnmcciejfpcaaGreatDoor

namespace Go.Proofs.YthjnmcciejfpcaaGreatDoor
set_option linter.unusedVariables false
set_option linter.unusedSimpArgs false
open Go.RowKit Go.Extern.Stop Go.Stop Go.Extern

/-- an error of the program's: nil, or a number -/
def errV (n : Int) : Value := if n = 0 then .nilIface else .iface 31 (.int .i64 n)
theorem eTypeOf (v : Value) (w : World) : (Extern.ReflectliteType.typeOf #[.iface 31 v]).run Tryz.prog w = .ok (.iface 61 (.agg #[.pointer (some ⟨8, 31, none⟩)])) w := by kernel_rfl
theorem eCompCall (w : World) : (callFunc 154 #[.agg #[.pointer (some ⟨8, 31, none⟩)]]).run Tryz.prog w = .ok (.value (.bool true)) w := by
  have h32 := @run_callFunc_extern Tryz.prog 154 _ (Extern.ReflectliteType.method fun t => do Extern.Rtype.noPackHeld "Comparable" t; pure (.bool (← typeInfo t).comparable)) Tryz.func154 (by kernel_rfl) (by kernel_rfl) (by kernel_rfl) (by kernel_rfl)
  rw [h32]
  have hc : ((Extern.ReflectliteType.method fun t => do Extern.Rtype.noPackHeld "Comparable" t; pure (.bool (← typeInfo t).comparable)) #[.agg #[.pointer (some ⟨8, 31, none⟩)]]).run Tryz.prog w = .ok (.bool true) w := by kernel_rfl
  rw [hc]; rfl
theorem eMethod (v : Value) (w : World) : (Go.method 290 61 v "Comparable").run Tryz.prog w = .ok (154, v) w := by kernel_rfl
theorem eInfo : (Tryz.prog.info? 31).map (·.comparable) = some true := by kernel_rfl
theorem noIs (v : Value) (xT : TypeId) (w : World) : (Instr.typeAssert (.iface 31 v) xT 63 true).run Tryz.prog w = .ok (.tuple #[.nilIface, .bool false]) w := run_typeAssert_lacksB Tryz.underlying63 (by kernel_rfl) (by kernel_rfl) v xT w
theorem noUnwrap (v : Value) (xT : TypeId) (w : World) : (Instr.typeAssert (.iface 31 v) xT 66 true).run Tryz.prog w = .ok (.tuple #[.nilIface, .bool false]) w := run_typeAssert_lacksB Tryz.underlying66 (by kernel_rfl) (by kernel_rfl) v xT w
theorem noUnwraps (v : Value) (xT : TypeId) (w : World) : (Instr.typeAssert (.iface 31 v) xT 68 true).run Tryz.prog w = .ok (.tuple #[.nilIface, .bool false]) w := run_typeAssert_lacksB Tryz.underlying68 (by kernel_rfl) (by kernel_rfl) v xT w

set_option maxRecDepth 100000 in
/-- errors.Is of two numbers -/
theorem is_errno (a b : Int) (w : World) :
    Calls Tryz.prog 7 #[.iface 31 (.int .i64 a), .iface 31 (.int .i64 b)] w fun e w' => e = .returned (.bool (a == b)) ∧ w = w' := by
  have h8 := @run_callFunc_extern Tryz.prog 16 _ Extern.ReflectliteType.typeOf Tryz.func16 (by kernel_rfl) (by kernel_rfl) (by kernel_rfl) (by kernel_rfl)
  have tT := eTypeOf
  have cT := eCompCall
  have mR := eMethod
  have nE := noIs
  have uE := noUnwrap
  have vE := noUnwraps
  have heq := Lib.run_eql_iface_int (P := Tryz.prog) w (k := .i64) a b Tryz.underlying27 eInfo Tryz.underlying31
  cases hab : (a == b)
  all_goals
    rw [hab] at heq
    go_enter Tryz.func7, Tryz.ntmps7
    go_wp2
    refine wp_loop_rounds 1 ?_
    rw [rounds_succ]
    go_wp2
    go_ret
    exact ⟨rfl, rfl⟩
/-- errors.Is(nil, a number) -/
theorem is_nil (b : Int) (w : World) :
    Calls Tryz.prog 7 #[.nilIface, .iface 31 (.int .i64 b)] w fun e w' => e = .returned (.bool false) ∧ w = w' := by
  have hn := run_eql_iface_nil_left (P := Tryz.prog) w 31 (.int .i64 b) Tryz.underlying27
  go_enter Tryz.func7, Tryz.ntmps7
  go_wp2
  go_ret
  exact ⟨rfl, rfl⟩
theorem errors_Is (a b : Int) (ha : 0 ≤ a) (hb : 0 < b) (w : World) :
    Calls Tryz.prog 7 #[errV a, .iface 31 (.int .i64 b)] w fun e w' => e = .returned (.bool (a == b)) ∧ w = w' := by
  by_cases h : a = 0
  · subst h
    have : ((0 : Int) == b) = false := by simp; omega
    rw [this]
    exact is_nil b w
  · unfold errV; rw [if_neg h]; exact is_errno a b w
end Go.Proofs.YthjnmcciejfpcaaGreatDoor
