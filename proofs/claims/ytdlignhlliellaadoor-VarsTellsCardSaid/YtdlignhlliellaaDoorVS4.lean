/- slices.insertionSortCmpFunc at pairs: a part of the row comes out sorted. -/
import Derived.Test.YtdlignhlliellaaDoorVS1
import Derived.Test.YtdlignhlliellaaDoorSmP
import Derived.Sort.LotA
namespace Go.Proofs.YtdlignhlliellaaDoor
set_option linter.unusedVariables false
set_option linter.unusedSimpArgs false
open Go.RowKit Go.Sort Go.Lib

theorem swoP : SWO (ltOf cmpP) where
  irrefl := fun x => by unfold ltOf cmpP; rw [cmp_self]; rfl
  trans := fun x y z h1 h2 => by
    have h1 : cmpP x y < 0 := of_decide_eq_true h1
    have h2 : cmpP y z < 0 := of_decide_eq_true h2
    exact decide_eq_true (lt_of_le_lt (leP_lt h1) h2)
  ntrans := fun x y z h1 h2 => by
    have h1 := leP_not (of_decide_eq_false h1)
    have h2 := leP_not (of_decide_eq_false h2)
    have h3 := leP_trans h2 h1
    refine decide_eq_false fun h => ?_
    have := lt_of_le_lt h3 h
    unfold cmpP at this; rw [cmp_self] at this; omega
theorem arr_at (d : Array Pr) (i : Nat) (h : i < d.size) : d[i]! = d.toList[i]'(by simpa using h) := by rw [getElem!_pos d i h]; simp
/-- what a permutation of a part says of lists -/
theorem part_list {a b : Nat} {PL M PR : List Pr} {d' : Array Pr} (ha : PL.length = a) (hb : a + M.length = b) (h : PermIn a b (PL ++ (M ++ PR)).toArray d') :
    ∃ M', d'.toList = PL ++ (M' ++ PR) ∧ M'.Perm M ∧ M'.length = M.length := by
  obtain ⟨h1, h2, h3⟩ := h
  have hl : d'.toList.length = (PL ++ (M ++ PR)).length := by simpa using h1
  have hl' : d'.size = PL.length + (M.length + PR.length) := by simpa using h1
  subst ha; subst hb
  have hm : (d'.toList.drop PL.length).take M.length = (d'.extract PL.length (PL.length + M.length)).toList := by simp [List.extract_eq_take_drop]
  refine ⟨(d'.toList.drop PL.length).take M.length, ?_, ?_, by simp; omega⟩
  · apply List.ext_getElem
    · simp; omega
    · intro i q1 q2
      have q3 : i < d'.size := by simpa using q1
      by_cases c1 : i < PL.length
      · have := h2 i (.inl c1)
        rw [arr_at d' i q3, arr_at _ i (by simp; omega)] at this
        rw [this]; simp [List.getElem_append_left, c1]
      · by_cases c2 : i < PL.length + M.length
        · rw [List.getElem_append_right (by omega), List.getElem_append_left (by simp; omega)]
          simp only [List.getElem_take, List.getElem_drop]
          congr 1; omega
        · have := h2 i (.inr (by omega))
          rw [arr_at d' i q3, arr_at _ i (by simp; omega)] at this
          rw [this]
          simp only [List.toList_toArray]
          rw [List.getElem_append_right (by omega), List.getElem_append_right (by omega), List.getElem_append_right (by omega), List.getElem_append_right (by simp; omega)]
          congr 1; simp; omega
  · rw [hm]
    refine h3.trans ?_
    simp [List.extract_eq_take_drop]
theorem part_srt {a b : Nat} {PL M PR : List Pr} {d' : Array Pr} (ha : PL.length = a) (hb : a + M.length = b) (e : d'.toList = PL ++ (M ++ PR)) (h : SortedIn (ltOf cmpP) a b d') : Srt M := by
  have hl' : d'.size = PL.length + (M.length + PR.length) := by have := congrArg List.length e; simpa using this
  refine List.pairwise_iff_getElem.2 fun i j hi hj hij => ?_
  have := h (a + i) (a + j) (by omega) (by omega) (by omega)
  rw [arr_at d' (a + i) (by omega), arr_at d' (a + j) (by omega)] at this
  have e1 : ∀ k (hk : k < M.length), d'.toList[a + k]'(by simp; omega) = M[k] := fun k hk => by
    have : d'.toList[a + k]'(by simp; omega) = (PL ++ (M ++ PR))[a + k]'(by simp; omega) := by congr 1
    rw [this, List.getElem_append_right (by omega), List.getElem_append_left (by omega)]
    congr 1; omega
  rw [e1 i hi, e1 j hj] at this
  exact leP_not (of_decide_eq_false this)
theorem row_sorted {w : World} {base g n cap m : Nat} {l : List Pr} {d : Array Pr} {os : Array Obj} (h : Row w base g n cap l) (hs : d.size = l.length) : Row (sortWorldK encP 2 w g 0 m d os) base g n cap d.toList := by
  have hlt := h.lt
  have hH := holdsK_sortWorldK_c encP 2 w g 0 l.toArray d m os (holdsP h) hlt (by simpa using hs)
  have hn := h.len
  rcases h.2 with ⟨h1, h0⟩ | ⟨g', cap', cur, hv, hb, hg, hnc, hcm, hcs, _⟩
  · simp at h1
  · injection hv with e1 e2 e3
    injection e1 with e1
    injection e1 with e1
    subst e1
    subst e3
    have hg' : (sortWorldK encP 2 w g 0 m d os).heap[g]? = some (.cells (putCells id 0 (flatK encP 2 d) cur) 37 (0, 0)) := by
      unfold sortWorldK putRowK
      rw [heap_grow_old _ _ (by simpa [putRow, mapBlock, Sort.ahead] using hlt)]
      simp [putRow, mapBlock, Sort.ahead, Array.getElem?_modify, hg, onCells]
    refine ⟨by rw [pcells_len]; simp [hs, hn], .inr ⟨g, cap, _, rfl, hb, hg', hnc, hcm, by simp [putCells, hcs], ?_⟩⟩
    apply List.ext_getElem?
    intro j
    by_cases hj : j < n * 2
    · rw [List.getElem?_take_of_lt hj]
      have hj2 : j < d.toList.length * 2 := by simp [hs, hn]; exact hj
      have := (hH j (by rw [size_flatK, hs, hn]; exact hj)).1
      rw [get_flatK _ _ _ _ (by rw [hs, hn]; exact hj)] at this
      rw [flat_at d.toList j hj2]
      have e : d.toList.toArray = d := by simp
      rw [e]
      unfold World.cell? at this
      simp only [Nat.zero_add, hg'] at this
      simpa using this
    · rw [List.getElem?_eq_none (by simp; omega), List.getElem?_eq_none (by rw [pcells_len]; simp [hs, hn]; omega)]
theorem cmp_lays (g sz : Nat) (w : World) : CmpLays Tryd.prog 23 #[] encP 2 cmpP g 0 sz w := fun m os dk _ x y => by
  refine (cmp_fn x y _).mono ?_
  rintro e w1 ⟨rfl, rfl⟩
  refine ⟨rfl, 0, #[.cells #[.string x.1, .string x.2] 37, .cells #[.string y.1, .string y.2] 37], ?_⟩
  rw [alloc_eq_grow, alloc_eq_grow, grow_grow]
  rfl
abbrev cmpV : Value := .func (.func 23) #[] #[]
theorem ins_part (base g n cap a b : Nat) (PL M PR : List Pr) (w : World) (ha : PL.length = a) (hb : a + M.length = b) (hn9 : n ≤ 1000000) (h : Row w base g n cap (PL ++ (M ++ PR))) :
    Calls Tryd.prog 49 #[.slice (some ⟨g, 0, none⟩) n cap, .int .i64 a, .int .i64 b, cmpV] w fun e w' => e = .returned (.tuple #[]) ∧ ∃ M', M'.Perm M ∧ M'.length = M.length ∧ Srt M' ∧ Row w' base g n cap (PL ++ (M' ++ PR)) ∧ w.grownBy w' (some g) := by
  have hl := h.len
  have hbn : b ≤ n := by simp only [List.length_append] at hl; omega
  have eg : ∀ args w, (callFunc 23 args).run Tryd.prog w = .ok (.enter 23 args) w := enters_of Tryd.func23 (by kernel_rfl) rfl
  have hs : (PL ++ (M ++ PR)).toArray.size = n := by simpa using hl
  have hcon := AnyQ.insertionSortCmpFunc slF20 2 Tryd.isAgg37 Tryd.sizeOf37 encP (fun _ => rfl) (fun x v hv => by simp [encP] at hv; rcases hv with rfl | rfl <;> rfl) cmpP 23 #[] g 0 cap a b (PL ++ (M ++ PR)).toArray w eg (cmp_lays g _ w) (holdsP h) h.lt (by omega) (by omega) (by omega)
  obtain ⟨hp, hsrt⟩ := insertionSort_holds swoP (PL ++ (M ++ PR)).toArray a b (by omega) (by omega)
  obtain ⟨M', e1, e2, e3⟩ := part_list ha hb hp
  have hsz := hp.1
  have hM := part_srt (M := M') ha (by rw [e3]; exact hb) e1 hsrt
  rw [hs] at hcon
  refine Calls.mono hcon ?_
  rintro e w1 ⟨rfl, m, os, rfl⟩
  refine ⟨rfl, M', e2, e3, hM, ?_, grownP _⟩
  rw [← e1]
  exact row_sorted h (by rw [hsz]; simp)
end Go.Proofs.YtdlignhlliellaaDoor
