/- The insertion sort of pairs: what it leaves is the same pairs in another order. -/
import Derived.Test.YtdlignhlliellaaDoorVo
namespace Go.Proofs.YtdlignhlliellaaDoor
set_option linter.unusedVariables false
set_option linter.unusedSimpArgs false
open Go.RowKit Go.Sort Go.Lib

def encP (p : Pr) : List Value := [.string p.1, .string p.2]
def cmpP (x y : Pr) : Int := Lib.compareBytes x.1.data.toList y.1.data.toList
theorem cmp_fn (x y : Pr) (w : World) : Calls Tryd.prog 23 #[.agg #[.string x.1, .string x.2], .agg #[.string y.1, .string y.2]] w fun e w' => e = .returned (.int .i64 (cmpP x y)) ∧ w' = (w.alloc (.cells #[.string x.1, .string x.2] 37)).alloc (.cells #[.string y.1, .string y.2] 37) := by
  go_enter Tryd.func23, Tryd.ntmps23
  go_wp2_with fail
  refine (Tryd.strings_Compare x.1 y.1 _).mono ?_
  rintro e w1 ⟨rfl, rfl⟩
  go_wp2
  go_ret
  exact ⟨rfl, rfl⟩
instance : Inhabited Pr := ⟨(⟨#[]⟩, ⟨#[]⟩)⟩
theorem swp_perm (d : Array Pr) (i j : Nat) (hi : i < d.size) (hj : j < d.size) : (Sort.swp d i j).Perm d := by
  unfold Sort.swp
  rw [getElem!_pos d i hi, getElem!_pos d j hj]
  rw [Array.perm_iff_toList_perm]
  rw [Array.toList_setIfInBounds, Array.toList_setIfInBounds]
  exact List.set_set_perm hi hj
theorem swp_size (d : Array Pr) (i j : Nat) : (Sort.swp d i j).size = d.size := by unfold Sort.swp; simp
theorem inner_perm (lt : Pr → Pr → Bool) (a : Nat) : ∀ (j : Nat) (d : Array Pr), j < d.size → (Sort.insInner lt a j d).Perm d ∧ (Sort.insInner lt a j d).size = d.size
  | 0, d, _ => ⟨.rfl, rfl⟩
  | j + 1, d, h => by
    unfold Sort.insInner
    split
    · obtain ⟨h1, h2⟩ := inner_perm lt a j (Sort.swp d (j + 1) j) (by rw [swp_size]; omega)
      exact ⟨h1.trans (swp_perm d _ _ h (by omega)), by rw [h2, swp_size]⟩
    · exact ⟨.rfl, rfl⟩
theorem outer_perm (lt : Pr → Pr → Bool) (a b : Nat) : ∀ (m i : Nat) (d : Array Pr), b - i ≤ m → b ≤ d.size → (Sort.insOuter lt a b i d).Perm d
  | 0, i, d, h, hb => by
    unfold Sort.insOuter
    rw [if_neg (by omega)]
  | m + 1, i, d, h, hb => by
    unfold Sort.insOuter
    split
    · rename_i hi
      obtain ⟨h1, h2⟩ := inner_perm lt a i d (by omega)
      exact (outer_perm lt a b m (i + 1) _ (by omega) (by omega)).trans h1
    · exact .rfl
theorem ins_perm (lt : Pr → Pr → Bool) (d : Array Pr) (a b : Nat) (hb : b ≤ d.size) : (Sort.insertionSort lt d a b).Perm d := outer_perm lt a b _ _ d (Nat.le_refl _) hb
theorem flat_at (l : List Pr) (j : Nat) (h : j < l.length * 2) : (pcells l)[j]? = some ((encP l.toArray[j / 2]!)[j % 2]!) := by
  have hk : j / 2 < l.length := by omega
  obtain ⟨h1, h2⟩ := pcells_at l (j / 2) hk
  have e : l.toArray[j / 2]! = l[j / 2] := by rw [getElem!_pos l.toArray _ (by simpa using hk)]; simp
  rw [e]
  rcases Nat.mod_two_eq_zero_or_one j with hm | hm
  · have ej : j / 2 * 2 = j := by omega
    rw [ej] at h1; rw [h1, hm]; rfl
  · have ej : j / 2 * 2 + 1 = j := by omega
    rw [ej] at h2; rw [h2, hm]; rfl
theorem holdsP {w : World} {base g n c : Nat} {l : List Pr} (h : w.ownsRow base 37 2 (.slice (some ⟨g, 0, none⟩) n c) n (pcells l)) : HoldsK encP 2 w g 0 l.toArray := by
  have hn : n = l.length := by have := h.1; rw [pcells_len] at this; omega
  intro j hj
  rw [size_flatK] at hj
  have hj2 : j < l.length * 2 := by simpa using hj
  rw [get_flatK _ _ _ _ hj]
  have hc := h.cells (g := g) rfl j _ (flat_at l j hj2)
  rw [add0] at hc
  refine ⟨by rw [Nat.zero_add]; exact hc, ?_⟩
  rcases h.2 with ⟨h1, h0⟩ | ⟨g', cap, cur, hv, hb, hg, _⟩
  · omega
  · injection hv with e1 e2 e3
    injection e1 with e1
    injection e1 with e1
    subst e1
    simp [World.frozen?, hg]
theorem grownP {w : World} {g n : Nat} {os : Array Obj} (d : Array Pr) : w.grownBy (sortWorldK encP 2 w g 0 n d os) (some g) := by
  unfold sortWorldK putRowK
  refine ⟨rfl, rfl, rfl, by simp, fun k hk hne => ?_⟩
  rw [heap_grow_old _ _ (by simpa using hk)]
  have : g ≠ k := fun e => hne (by rw [e])
  simp [putRow, mapBlock, Sort.ahead, Array.getElem?_modify, this]
theorem pairs_of_holds {w : World} {g : Nat} (d : Array Pr) (hg : g < w.heap.size) (h : HoldsK encP 2 w g 0 d) : Pairs w (some ⟨g, 0, none⟩) d.toList := fun _ =>
  ⟨g, 0, rfl, hg, fun k hk => by
    have hk' : k < d.size := by simpa using hk
    have h1 := (h (k * 2) (by rw [size_flatK]; omega)).1
    have h2 := (h (k * 2 + 1) (by rw [size_flatK]; omega)).1
    rw [get_flatK _ _ _ _ (by omega)] at h1 h2
    have e1 : k * 2 / 2 = k := by omega
    have e2 : k * 2 % 2 = 0 := by omega
    have e3 : (k * 2 + 1) / 2 = k := by omega
    have e4 : (k * 2 + 1) % 2 = 1 := by omega
    rw [e1, e2, getElem!_pos d k hk'] at h1
    rw [e3, e4, getElem!_pos d k hk'] at h2
    exact ⟨h1, by rw [Nat.add_assoc]; exact h2⟩⟩
theorem ins_sort (base blk cap n : Nat) (l : List Pr) (w : World) (hown : w.ownsRow base 37 2 (.slice (some ⟨blk, 0, none⟩) n cap) n (pcells l)) (hblk : blk < w.heap.size) (hn9 : n ≤ 1000000) :
    Calls Tryd.prog 49 #[.slice (some ⟨blk, 0, none⟩) n cap, .int .i64 0, .int .i64 n, .func (.func 23) #[] #[]] w fun e w' => e = .returned (.tuple #[]) ∧ ∃ l' : List Pr, l'.Perm l ∧ Pairs w' (some ⟨blk, 0, none⟩) l' ∧ w.grownBy w' (some blk) := by
  have hn : n = l.length := by have := hown.1; rw [pcells_len] at this; omega
  have eg : ∀ args w, (callFunc 23 args).run Tryd.prog w = .ok (.enter 23 args) w := enters_of Tryd.func23 (by kernel_rfl) rfl
  have hcmp : CmpLays Tryd.prog 23 #[] encP 2 cmpP blk 0 l.toArray.size w := fun m os dk _ x y => by
    refine (cmp_fn x y _).mono ?_
    rintro e w1 ⟨rfl, rfl⟩
    refine ⟨rfl, 0, #[.cells #[.string x.1, .string x.2] 37, .cells #[.string y.1, .string y.2] 37], ?_⟩
    rw [alloc_eq_grow, alloc_eq_grow, grow_grow]
    rfl
  have hH := holdsP hown
  have hcon := AnyQ.insertionSortCmpFunc slF20 2 Tryd.isAgg37 Tryd.sizeOf37 encP (fun _ => rfl) (fun x v hv => by simp [encP] at hv; rcases hv with rfl | rfl <;> rfl) cmpP 23 #[] blk 0 cap 0 n l.toArray w eg hcmp hH hblk (Nat.zero_le _) (by simp [hn]) (by simp; omega)
  rw [show l.toArray.size = n by simp [hn]] at hcon
  refine Calls.mono hcon ?_
  rintro e w1 ⟨rfl, m, os, rfl⟩
  have hp := ins_perm (ltOf cmpP) l.toArray 0 n (by simp [hn])
  refine ⟨rfl, (Sort.insertionSort (ltOf cmpP) l.toArray 0 n).toList, ?_, ?_, grownP _⟩
  · have := Array.perm_iff_toList_perm.1 hp
    simpa using this
  · have hs : (Sort.insertionSort (ltOf cmpP) l.toArray 0 n).size = l.toArray.size := hp.size_eq
    exact pairs_of_holds _ (Nat.lt_of_lt_of_le hblk (size_sortWorldK_c encP 2 w blk 0 m _ os)) (holdsK_sortWorldK_c encP 2 w blk 0 l.toArray _ m os hH hblk hs)
end Go.Proofs.YtdlignhlliellaaDoor
