/- Words for memory that all walks of this seat share: a frame, a block of bytes, rows of strings and of pairs. No program is named here. -/
import Derived.WalkKit
import Derived.WalkSpells
import Derived.WalkLawsBesides
import Derived.Lib.Hide
import Derived.Laws.IdiomStrings
import Derived.Deep.Draws
namespace Go.Proofs.YtdlignhlliellaaDoor
set_option linter.unusedVariables false
set_option linter.unusedSimpArgs false
open Go.RowKit

/-! ### frames -/
theorem fr_refl (w : World) : Below w.heap.size w w := Below.refl _ _
theorem fr_trans {a b c : World} (h : Below a.heap.size a b) (k : Below b.heap.size b c) : Below a.heap.size a c := h.trans (k.mono h.size)
theorem fr_alloc {a b : World} (h : Below a.heap.size a b) (o : Obj) : Below a.heap.size a (b.alloc o) := h.alloc h.size o
theorem fr_drew {a b : World} (h : Below a.heap.size a b) : Below a.heap.size a b.drew := h.drew
theorem fr_drewN {a b : World} (h : Below a.heap.size a b) (n : Nat) : Below a.heap.size a (b.drewN n) := ⟨h.os, h.tape, h.output, h.size, h.block⟩
theorem fr_set {a b : World} (h : Below a.heap.size a b) {p : Addr} (hp : a.heap.size ≤ p.block) (u : Value) : Below a.heap.size a (b.setCell p u) := h.setCell hp u
theorem fr_cells {W w1 : World} (hb : Below W.heap.size W w1) : (∀ b o, b < W.heap.size → w1.cell? ⟨b, o, none⟩ = W.cell? ⟨b, o, none⟩) ∧ (∀ b o, b < W.heap.size → w1.frozen? ⟨b, o, none⟩ = W.frozen? ⟨b, o, none⟩) :=
  ⟨fun b o h => hb.cell (p := ⟨b, o, none⟩) h, fun b o h => hb.frozen (p := ⟨b, o, none⟩) h⟩
theorem fr_cell {W w1 : World} (hb : Below W.heap.size W w1) {b o : Nat} {v : Value} (h : W.cell? ⟨b, o, none⟩ = some v) : w1.cell? ⟨b, o, none⟩ = some v :=
  (hb.cell (p := ⟨b, o, none⟩) (World.block_lt_of_cell? W _ h)).trans h
theorem fr_grown {a b c : World} {v : Value} (h : Below a.heap.size a b) (hg : b.grownBy c v.ownBlock) (hv : ∀ k, v.ownBlock = some k → a.heap.size ≤ k) : Below a.heap.size a c :=
  h.grown hg h.size hv
theorem own_fr {w w' : World} {base e size n : Nat} {v : Value} {xs : List Value} (h : w.ownsRow base e size v n xs) (hb : Below w.heap.size w w') : w'.ownsRow base e size v n xs :=
  h.kept (row := none) ⟨hb.os, hb.tape, hb.output, hb.size, fun k hk _ => hb.block k hk⟩ (by cases hv : v.ownBlock <;> simp)
theorem own_ge {w : World} {base e size n : Nat} {v : Value} {xs : List Value} (h : w.ownsRow base e size v n xs) : ∀ k, v.ownBlock = some k → base ≤ k := fun k hk => (h.lt k hk).1

theorem meas {n k : Nat} (h : k < n) (K K' : IntKind) : n - (intOf (.int K ((k : Int) + 1))).toNat < n - (intOf (.int K' (k : Int))).toNat := by
  show n - ((k : Int) + 1).toNat < n - ((k : Int)).toNat
  omega
theorem size_app (a b : ByteArray) : (a ++ b).size = a.size + b.size := by simp
theorem take_succ' {α : Type} (l : List α) (k : Nat) (h : k < l.length) : l.take (k + 1) = l.take k ++ [l[k]] := by simp
theorem list_snoc_ind {α : Type} {p : List α → Prop} (h0 : p []) (h1 : ∀ l a, p l → p (l ++ [a])) (l : List α) : p l := by
  have h : ∀ m : List α, p m.reverse := by
    intro m
    induction m with
    | nil => exact h0
    | cons a m ih => rw [List.reverse_cons]; exact h1 _ _ ih
  have := h l.reverse
  rwa [List.reverse_reverse] at this

/-! ### equality of strings, as the walk spells it -/
def eqB (a b : ByteArray) : Bool := a.toList == b.toList
theorem toList_data (a : ByteArray) : a.toList = a.data.toList := ByteArray.toList_eq a
theorem eqB_iff {a b : ByteArray} : eqB a b = true ↔ a = b := by
  unfold eqB
  rw [beq_iff_eq, toList_data, toList_data]
  constructor
  · intro h
    cases a; cases b
    congr
    exact Array.toList_inj.1 h
  · rintro rfl; rfl
theorem eqB_no {a b : ByteArray} : eqB a b = false ↔ a ≠ b := by rw [← Bool.not_eq_true, eqB_iff]
theorem eqB_refl (a : ByteArray) : eqB a a = true := eqB_iff.2 rfl

/-! ### a block of bytes: its first cells are l, none of them frozen -/
def Buf (w : World) (g : Nat) (l : List UInt8) : Prop :=
  g < w.heap.size ∧ ∀ j (h : j < l.length), w.cell? ⟨g, j, none⟩ = some (.int .u8 (l[j].toNat : Int)) ∧ w.frozen? ⟨g, j, none⟩ = false
theorem Buf.drew {w : World} {g : Nat} {l : List UInt8} (h : Buf w g l) : Buf w.drew g l := h
theorem Buf.fr {w w' : World} {g : Nat} {l : List UInt8} (h : Buf w g l) (hb : Below w.heap.size w w') : Buf w' g l :=
  ⟨Nat.lt_of_lt_of_le h.1 hb.size, fun j hj => ⟨(hb.cell (p := ⟨g, j, none⟩) h.1).trans (h.2 j hj).1, (hb.frozen (p := ⟨g, j, none⟩) h.1).trans (h.2 j hj).2⟩⟩
theorem Buf.new (w : World) (s : ByteArray) (cap : Nat) (e : TypeId) :
    Buf (w.alloc (.cells (bytesRow s cap) e ((bytesRow s cap).size, (bytesRow s cap).size + 1))) w.heap.size s.data.toList := by
  refine ⟨by simp, fun j h => ?_⟩
  have hj : j < s.data.size := by simpa using h
  have hlt : j < (bytesRow s cap).size := by
    have := bytesRow_at s cap j hj
    exact (Array.getElem?_eq_some_iff.1 this).1
  refine ⟨?_, ?_⟩
  · rw [World.cell?_alloc_mark, bytesRow_at s cap j hj]; simp
  · rw [World.frozen?_alloc_mark]; simp only [Bool.and_eq_false_imp, decide_eq_true_eq, decide_eq_false_iff_not]; omega
theorem Buf.set {w : World} {g : Nat} {l : List UInt8} (h : Buf w g l) {k : Nat} {n : Int} {c : UInt8} (hk : k < l.length) (hn : n = (c.toNat : Int)) :
    Buf (w.setCell ⟨g, k, none⟩ (.int .u8 n)) g (l.set k c) := by
  subst hn
  refine ⟨by simpa [World.setCell] using h.1, fun j hj => ?_⟩
  have hj' : j < l.length := by simpa using hj
  obtain ⟨hc, hf⟩ := h.2 j hj'
  refine ⟨?_, ?_⟩
  · by_cases e : j = k
    · subst e
      rw [World.cell?_setCell_same w _ _ (by rw [hc])]; simp
    · rw [World.cell?_setCell_other w _ _ _ (by intro h; injection h with _ h2 _; exact e h2.symm), hc, List.getElem_set, if_neg (by omega)]
  · rw [World.frozen?_setCell]; exact hf
theorem Buf.back {P : Program} {w : World} {g : Nat} {l : List UInt8} (h : Buf w g l) {n : Nat} (hn : l.length = n) (src dst e : TypeId) (cap : Nat)
    (hs : P.underlying src = some (.slice e)) (he : P.underlying e = some (.int .u8)) (hd : P.underlying dst = some .string) :
    (convert src dst (.slice (some ⟨g, 0, none⟩) n cap)).run P w = .ok (.string ⟨l.toArray⟩) w := by
  subst hn
  refine run_convert_bytes_back w src dst e _ cap l hs he hd fun j hj => ?_
  rw [show (⟨g, 0, none⟩ : Addr).add j = ⟨g, j, none⟩ by unfold Addr.add; split <;> simp_all]
  exact (h.2 j hj).1

/-! ### a literal's cells behind a slice of the call's own -/
theorem add0 (g j : Nat) : (⟨g, 0, none⟩ : Addr).add j = ⟨g, j, none⟩ := by unfold Addr.add; split <;> simp_all
theorem new_cells (w : World) (cs : List Value) (t : TypeId) : ∀ j u, cs[j]? = some u → (w.alloc (.cells cs.toArray t)).cell? ((⟨w.heap.size, 0, none⟩ : Addr).add j) = some u := by
  intro j u h
  rw [add0, World.cell?_alloc_mark]
  simpa using h

theorem Buf.backAt {P : Program} {w : World} {g : Nat} {l : List UInt8} (h : Buf w g l) {j n : Nat} (hn : j + n = l.length) (src dst e : TypeId) (cap : Nat)
    (hs : P.underlying src = some (.slice e)) (he : P.underlying e = some (.int .u8)) (hd : P.underlying dst = some .string) :
    (convert src dst (.slice (some ⟨g, j, none⟩) n cap)).run P w = .ok (.string ⟨(l.drop j).toArray⟩) w := by
  have hl : (l.drop j).length = n := by rw [List.length_drop]; omega
  rw [← hl]
  refine run_convert_bytes_back w src dst e _ cap (l.drop j) hs he hd fun i hi => ?_
  rw [show (⟨g, j, none⟩ : Addr).add i = ⟨g, j + i, none⟩ by unfold Addr.add; split <;> simp_all, List.getElem_drop]
  exact (h.2 (j + i) (by omega)).1

/-! ### a string made of one byte -/
theorem conv1 {P : Program} (W : World) (g : Nat) (x : Int) (src dst e : TypeId) (cap : Nat) (hs : P.underlying src = some (.slice e)) (he : P.underlying e = some (.int .u8)) (hd : P.underlying dst = some .string)
    (h : W.cell? ⟨g, 0, none⟩ = some (.int .u8 x)) : (convert src dst (.slice (some ⟨g, 0, none⟩) 1 cap)).run P W = .ok (.string ⟨#[UInt8.ofNat x.toNat]⟩) W := by
  have := run_convert_bytes_arg (P := P) W src e hs he g 0 1 cap [x] rfl (fun i hi => by rw [show i = 0 by omega]; exact h) dst hd
  rw [this]; rfl
theorem conv1_new {P : Program} (W : World) (x : Int) (src dst e : TypeId) (hs : P.underlying src = some (.slice e)) (he : P.underlying e = some (.int .u8)) (hd : P.underlying dst = some .string) :
    (convert src dst (.slice (some ⟨W.heap.size, 0, none⟩) 1 1)).run P (W.alloc (.cells #[.int .u8 x] e)) = .ok (.string ⟨#[UInt8.ofNat x.toNat]⟩) (W.alloc (.cells #[.int .u8 x] e)) :=
  conv1 _ _ x src dst e 1 hs he hd (by rw [World.cell?_alloc_mark]; rfl)

/-! ### a struct in a block of its own -/
def Box (w : World) (g : Nat) (vs : List Value) : Prop := g < w.heap.size ∧ ∀ o v, vs[o]? = some v → w.cell? ⟨g, o, none⟩ = some v
theorem Box.new (w : World) (vs : List Value) (t : TypeId) : Box (w.alloc (.cells vs.toArray t)) w.heap.size vs := ⟨by simp, fun o v h => by rw [World.cell?_alloc_mark]; simpa using h⟩
theorem Box.newAt {w : World} {g : Nat} (hg : g = w.heap.size) (vs : List Value) (t : TypeId) : Box (w.alloc (.cells vs.toArray t)) g vs := hg ▸ Box.new w vs t
theorem Box.fr {w w' : World} {g : Nat} {vs : List Value} (h : Box w g vs) (hb : Below w.heap.size w w') : Box w' g vs := ⟨Nat.lt_of_lt_of_le h.1 hb.size, fun o v hv => fr_cell hb (h.2 o v hv)⟩
theorem Box.at_ {w : World} {g : Nat} {vs : List Value} (h : Box w g vs) (o : Nat) (v : Value) (hv : vs[o]? = some v := by rfl) : w.cell? ⟨g, o, none⟩ = some v := h.2 o v hv

/-! ### a slice of pairs of strings that is read -/
abbrev Pr := ByteArray × ByteArray
def Pairs (w : World) (A : Option Addr) (l : List Pr) : Prop :=
  0 < l.length → ∃ b off, A = some ⟨b, off, none⟩ ∧ b < w.heap.size ∧ ∀ k (h : k < l.length), w.cell? ⟨b, off + k * 2, none⟩ = some (.string l[k].1) ∧ w.cell? ⟨b, off + k * 2 + 1, none⟩ = some (.string l[k].2)
def pcells (l : List Pr) : List Value := l.flatMap fun p => [.string p.1, .string p.2]
theorem pcells_len (l : List Pr) : (pcells l).length = l.length * 2 := by
  induction l with
  | nil => rfl
  | cons p l ih => simp only [pcells, List.flatMap_cons, List.length_append, List.length_cons, List.length_nil] at ih ⊢; omega
theorem pcells_snoc (l : List Pr) (p : Pr) : pcells (l ++ [p]) = pcells l ++ [.string p.1, .string p.2] := by simp [pcells]
theorem pcells_at (l : List Pr) : ∀ k (h : k < l.length), (pcells l)[k * 2]? = some (.string l[k].1) ∧ (pcells l)[k * 2 + 1]? = some (.string l[k].2) := by
  induction l with
  | nil => intro k h; simp at h
  | cons p l ih =>
    intro k h
    cases k with
    | zero => exact ⟨rfl, rfl⟩
    | succ k =>
      have h' : k < l.length := by simpa using h
      obtain ⟨h1, h2⟩ := ih k h'
      have e1 : (k + 1) * 2 = k * 2 + 1 + 1 := by omega
      simp only [pcells, List.flatMap_cons, List.cons_append, List.nil_append, List.getElem_cons_succ] at h1 h2 ⊢
      rw [e1]
      exact ⟨by rw [List.getElem?_cons_succ, List.getElem?_cons_succ]; exact h1, by rw [List.getElem?_cons_succ, List.getElem?_cons_succ]; exact h2⟩
theorem pcells_one (l : List Pr) : ∀ u ∈ pcells l, u.oneCell' = true := by
  intro u hu
  simp only [pcells, List.mem_flatMap] at hu
  obtain ⟨p, _, hu⟩ := hu
  simp at hu
  rcases hu with rfl | rfl <;> rfl
theorem Pairs.nil (w : World) (A : Option Addr) : Pairs w A [] := fun h => absurd h (by simp)
theorem Pairs.fr {w w' : World} {A : Option Addr} {l : List Pr} (h : Pairs w A l) (hb : Below w.heap.size w w') : Pairs w' A l := fun h0 => by
  obtain ⟨b, off, rfl, hlt, hc⟩ := h h0
  exact ⟨b, off, rfl, Nat.lt_of_lt_of_le hlt hb.size, fun k hk => ⟨fr_cell hb (hc k hk).1, fr_cell hb (hc k hk).2⟩⟩
/-- a row of the call's own, read -/
theorem Pairs.own {w : World} {base e : Nat} {v : Value} {l : List Pr} {n : Nat} (h : w.ownsRow base e 2 v n (pcells l)) :
    ∃ A c, v = .slice A l.length c ∧ n = l.length ∧ Pairs w A l := by
  have hn : n = l.length := by have := h.1; rw [pcells_len] at this; omega
  subst hn
  rcases h.2 with ⟨rfl, h0⟩ | ⟨g, cap, cur, rfl, hb, hg, hnc, hcm, hcs, htake⟩
  · exact ⟨none, 0, by rw [h0], rfl, fun h1 => absurd h1 (by omega)⟩
  · refine ⟨_, cap, rfl, rfl, fun _ => ⟨g, 0, rfl, (Array.getElem?_eq_some_iff.1 hg).1, fun k hk => ?_⟩⟩
    obtain ⟨h1, h2⟩ := pcells_at l k hk
    have c1 := h.cells (g := g) rfl _ _ h1
    have c2 := h.cells (g := g) rfl _ _ h2
    rw [add0] at c1 c2
    exact ⟨by rw [Nat.zero_add]; exact c1, by rw [Nat.zero_add]; exact c2⟩
theorem Pairs.new (w : World) (l : List Pr) (t : TypeId) : Pairs (w.alloc (.cells (pcells l).toArray t)) (some ⟨w.heap.size, 0, none⟩) l := fun _ =>
  ⟨w.heap.size, 0, rfl, by simp, fun k hk => by
    obtain ⟨h1, h2⟩ := pcells_at l k hk
    exact ⟨by rw [Nat.zero_add, World.cell?_alloc_mark]; simpa using h1, by rw [Nat.zero_add, World.cell?_alloc_mark]; simpa using h2⟩⟩
theorem Pairs.tail {w : World} {b off : Nat} {p : Pr} {l : List Pr} (h : Pairs w (some ⟨b, off, none⟩) (p :: l)) : Pairs w (some ⟨b, off + 2, none⟩) l := fun _ => by
  obtain ⟨b', off', e, hlt, hc⟩ := h (by simp)
  injection e with e; injection e with e1 e2
  subst e1 e2
  refine ⟨b, off + 2, rfl, hlt, fun k hk => ?_⟩
  have := hc (k + 1) (by simpa using hk)
  rw [show off + 2 + k * 2 = off + (k + 1) * 2 by omega]
  exact this
/-- the total of what pairs hold, with four more each -/
def tot (l : List Pr) : Nat := (l.map fun p => p.1.size + p.2.size + 4).sum
theorem tot_nil : tot [] = 0 := rfl
theorem tot_snoc (l : List Pr) (p : Pr) : tot (l ++ [p]) = tot l + (p.1.size + p.2.size + 4) := by simp [tot]
theorem tot_take (l : List Pr) (k : Nat) (h : k < l.length) : tot (l.take k) + (l[k].1.size + l[k].2.size + 4) ≤ tot l := by
  unfold tot
  conv => rhs; rw [← List.take_append_drop k l]
  rw [List.drop_eq_getElem_cons h, List.map_append, List.map_cons, List.sum_append, List.sum_cons]; omega
theorem tot_len (l : List Pr) : l.length ≤ tot l := by
  induction l with
  | nil => exact Nat.le_refl _
  | cons p l ih => simp only [tot, List.map_cons, List.sum_cons, List.length_cons] at ih ⊢; omega

end Go.Proofs.YtdlignhlliellaaDoor
