/- Texts as lists of bytes: cutting at a byte, in the three ways in which the program, the document and the library do it. No program is named here. -/
import Derived.Test.YtdlignhlliellaaDoorStrs
import Derived.Lib.SplitLaws
namespace Go.Proofs.YtdlignhlliellaaDoor
set_option linter.unusedVariables false
set_option linter.unusedSimpArgs false
open Go.RowKit

abbrev L (s : ByteArray) : List UInt8 := s.data.toList
def mk (l : List UInt8) : ByteArray := ⟨l.toArray⟩
theorem L_mk (l : List UInt8) : L (mk l) = l := by simp [L, mk]
theorem mk_L (s : ByteArray) : mk (L s) = s := by cases s; simp [L, mk]
theorem L_len (s : ByteArray) : (L s).length = s.size := rfl
theorem mk_size (l : List UInt8) : (mk l).size = l.length := by show l.toArray.size = _; simp
theorem L_app (a b : ByteArray) : L (a ++ b) = L a ++ L b := by simp [L]
theorem mk_app (a b : List UInt8) : mk (a ++ b) = mk a ++ mk b := by apply ByteArray.ext; simp [mk]
theorem L_inj {a b : ByteArray} (h : L a = L b) : a = b := by rw [← mk_L a, ← mk_L b, h]
theorem mk_inj {a b : List UInt8} (h : mk a = mk b) : a = b := by rw [← L_mk a, ← L_mk b, h]
theorem L_ext (s : ByteArray) (i j : Nat) : L (s.extract i j) = ((L s).take j).drop i := by
  unfold L; rw [Lib.extract_data, List.drop_take]
theorem L_end (s : ByteArray) (i : Nat) : L (s.extract i s.size) = (L s).drop i := by rw [L_ext, List.take_of_length_le (Nat.le_of_eq (L_len s))]
theorem L_at (s : ByteArray) (i : Nat) (h : i < s.size) : (L s)[i]'h = s[i] := rfl
theorem toList_L (s : ByteArray) : s.toList = L s := ByteArray.toList_eq s
theorem eqB_L (a b : ByteArray) : eqB a b = (L a == L b) := by unfold eqB; rw [toList_L, toList_L]

/-! ### cut at a byte -/
def cutC (c : UInt8) : List UInt8 → List (List UInt8)
  | [] => [[]]
  | x :: l => if x = c then [] :: cutC c l else match cutC c l with
    | [] => [[x]]
    | h :: t => (x :: h) :: t
def pre (p : List UInt8) : List (List UInt8) → List (List UInt8)
  | [] => [p]
  | h :: t => (p ++ h) :: t
theorem cutC_ne (c : UInt8) (l : List UInt8) : cutC c l ≠ [] := by
  cases l with
  | nil => simp [cutC]
  | cons x l => unfold cutC; split <;> (try split) <;> simp
theorem pre_nil {l : List (List UInt8)} (h : l ≠ []) : pre [] l = l := by cases l with | nil => exact absurd rfl h | cons => rfl
theorem pre_pre (p q : List UInt8) (l : List (List UInt8)) : pre p (pre q l) = pre (p ++ q) l := by cases l <;> simp [pre]
theorem cutC_eq (c : UInt8) (l : List UInt8) : cutC c (c :: l) = [] :: cutC c l := by simp [cutC]
theorem cutC_neq {c x : UInt8} (h : x ≠ c) (l : List UInt8) : cutC c (x :: l) = pre [x] (cutC c l) := by
  show (if x = c then _ else _) = _
  rw [if_neg h]
  cases hq : cutC c l <;> rfl
theorem cutC_none {c : UInt8} : ∀ {l : List UInt8}, c ∉ l → cutC c l = [l]
  | [], _ => rfl
  | x :: l, h => by
    have hx : x ≠ c := fun e => h (by simp [e])
    rw [cutC_neq hx, cutC_none (fun e => h (by simp [e]))]; rfl
theorem cutC_app {c : UInt8} : ∀ {p : List UInt8}, c ∉ p → ∀ l, cutC c (p ++ l) = pre p (cutC c l)
  | [], _, l => (pre_nil (cutC_ne c l)).symm
  | x :: p, h, l => by
    have hx : x ≠ c := fun e => h (by simp [e])
    rw [List.cons_append, cutC_neq hx, cutC_app (fun e => h (by simp [e])), pre_pre]; rfl
theorem cutC_at {c : UInt8} {p : List UInt8} (h : c ∉ p) (l : List UInt8) : cutC c (p ++ c :: l) = p :: cutC c l := by
  rw [cutC_app h, cutC_eq]; simp [pre]
theorem cutC_not {c : UInt8} : ∀ {l : List UInt8}, ∀ p ∈ cutC c l, c ∉ p
  | [], p, h => by simp [cutC] at h; simp [h]
  | x :: l, p, h => by
    by_cases hx : x = c
    · subst hx
      rw [cutC_eq] at h
      rcases List.mem_cons.1 h with rfl | h
      · simp
      · exact cutC_not p h
    · rw [cutC_neq hx] at h
      cases hq : cutC c l with
      | nil => exact absurd hq (cutC_ne c l)
      | cons a t =>
        rw [hq] at h
        simp only [pre, List.mem_cons] at h
        rcases h with rfl | h
        · have := cutC_not (c := c) (l := l) a (by rw [hq]; simp)
          simp only [List.cons_append, List.nil_append, List.mem_cons, not_or]
          exact ⟨fun e => hx e.symm, this⟩
        · exact cutC_not p (by rw [hq]; simp [h])
theorem cutC_len (c : UInt8) : ∀ l : List UInt8, (cutC c l).length ≤ l.length + 1
  | [] => Nat.le_refl _
  | x :: l => by
    have := cutC_len c l
    by_cases hx : x = c
    · subst hx; rw [cutC_eq]; simp; omega
    · rw [cutC_neq hx]
      cases hq : cutC c l with
      | nil => simp [pre]
      | cons a t => rw [hq] at this; simp [pre] at this ⊢; omega
theorem cutC_sum (c : UInt8) : ∀ l : List UInt8, ((cutC c l).map List.length).sum + (cutC c l).length = l.length + 1
  | [] => rfl
  | x :: l => by
    have := cutC_sum c l
    by_cases hx : x = c
    · subst hx; rw [cutC_eq]; simp; omega
    · rw [cutC_neq hx]
      cases hq : cutC c l with
      | nil => exact absurd hq (cutC_ne c l)
      | cons a t => rw [hq] at this; simp [pre] at this ⊢; omega

/-! ### the library's way -/
theorem index_one (c x : UInt8) (l : List UInt8) : Lib.index (x :: l) [c] = if x = c then 0 else if Lib.index l [c] = -1 then -1 else Lib.index l [c] + 1 := by
  rw [Lib.index]
  by_cases h : x = c
  · subst h; simp [List.isPrefixOf]
  · have hp : ([c] : List UInt8).isPrefixOf (x :: l) = false := by simp [List.isPrefixOf, Ne.symm h]
    rw [hp]
    simp [h]
theorem index_no {c : UInt8} : ∀ {l : List UInt8}, c ∉ l → Lib.index l [c] = -1
  | [], _ => by simp [Lib.index]
  | x :: l, h => by
    have hx : x ≠ c := fun e => h (by simp [e])
    rw [index_one, if_neg hx, index_no (fun e => h (by simp [e]))]; rfl
theorem index_yes {c : UInt8} : ∀ {p : List UInt8}, c ∉ p → ∀ l, Lib.index (p ++ c :: l) [c] = (p.length : Int)
  | [], _, l => by rw [List.nil_append, index_one, if_pos rfl]; rfl
  | x :: p, h, l => by
    have hx : x ≠ c := fun e => h (by simp [e])
    rw [List.cons_append, index_one, if_neg hx, index_yes (fun e => h (by simp [e])), if_neg (by omega)]
    simp
theorem split_at {c : UInt8} : ∀ {l : List UInt8}, c ∈ l → ∃ p r, c ∉ p ∧ l = p ++ c :: r
  | [], h => by simp at h
  | x :: l, h => by
    by_cases hx : x = c
    · exact ⟨[], l, by simp, by rw [hx]; rfl⟩
    · obtain ⟨p, r, hp, e⟩ := split_at (l := l) (by rcases List.mem_cons.1 h with e | h; exact absurd e.symm hx; exact h)
      exact ⟨x :: p, r, by simp [hp, Ne.symm hx], by rw [e]; rfl⟩
theorem splitK_cut (c : UInt8) : ∀ (n : Nat) (l : List UInt8), l.length ≤ n → Lib.splitK [c] 0 (Lib.count l [c]) l = cutC c l
  | n, l, hn => by
    by_cases h : c ∈ l
    · obtain ⟨p, r, hp, rfl⟩ := split_at h
      have hi : Lib.index (p ++ c :: r) [c] = ((p.length : Nat) : Int) := index_yes hp r
      have hc : Lib.count (p ++ c :: r) [c] = Lib.count r [c] + 1 := by
        rw [Lib.count_one, Lib.count_one, List.count_append, List.count_cons_self, List.count_eq_zero_of_not_mem hp]; omega
      rw [hc]
      show (if Lib.index (p ++ c :: r) [c] == -1 then _ else _) = _
      rw [hi, if_neg (by simp)]
      have hd : (p ++ c :: r).drop (((p.length : Nat) : Int).toNat + [c].length) = r := by
        rw [Int.toNat_natCast, List.length_singleton, ← List.drop_drop, List.drop_left]; rfl
      have ht : (p ++ c :: r).take (((p.length : Nat) : Int).toNat + 0) = p := by simp
      rw [hd, ht, cutC_at hp]
      cases n with
      | zero => simp at hn
      | succ n => rw [splitK_cut c n r (by simp at hn; omega)]
    · rw [cutC_none h, Lib.count_one, List.count_eq_zero_of_not_mem h]; rfl
theorem countB_one (s : ByteArray) (c : UInt8) : Lib.countB s ⟨#[c]⟩ = (L s).count c := by
  unfold Lib.countB; exact Lib.count_one c _
theorem splitB_cut (s : ByteArray) (c : UInt8) : (Lib.splitB ⟨#[c]⟩ 0 (Lib.countB s ⟨#[c]⟩) s).map L = cutC c (L s) := by
  show (Lib.splitB ⟨#[c]⟩ 0 (Lib.countB s ⟨#[c]⟩) s).map (·.data.toList) = _
  rw [Lib.splitB_data]
  exact splitK_cut c _ (L s) (Nat.le_refl _)
def cutB (s : ByteArray) (c : UInt8) : List ByteArray := (cutC c (L s)).map mk
theorem map_L_mk (l : List ByteArray) : (l.map L).map mk = l := by rw [List.map_map]; conv => rhs; rw [← List.map_id l]
                                                                   exact List.map_congr_left fun s _ => mk_L s
theorem map_mk_L (l : List (List UInt8)) : (l.map mk).map L = l := by rw [List.map_map]; conv => rhs; rw [← List.map_id l]
                                                                      exact List.map_congr_left fun s _ => L_mk s
theorem splitB_cutB (s : ByteArray) (c : UInt8) : Lib.splitB ⟨#[c]⟩ 0 (Lib.countB s ⟨#[c]⟩) s = cutB s c := by
  rw [← map_L_mk (Lib.splitB _ _ _ _), splitB_cut]; rfl

/-! ### the document's way: index by index -/
def spAt (s : ByteArray) (c : UInt8) (i : Nat) : Bool := if h : i < s.size then s[i] == c else true
def spN (s : ByteArray) (c : UInt8) : Nat → List ByteArray × Nat
  | 0 => ([], 0)
  | i + 1 => if spAt s c i then ((spN s c i).1 ++ [s.extract (spN s c i).2 i], i + 1) else spN s c i
def splitL (s : ByteArray) (c : UInt8) : List ByteArray := (spN s c (s.size + 1)).1
theorem spN_yes {s : ByteArray} {c : UInt8} {i : Nat} (h : spAt s c i = true) : spN s c (i + 1) = ((spN s c i).1 ++ [s.extract (spN s c i).2 i], i + 1) := by show (if _ then _ else _) = _; rw [h]; rfl
theorem spN_no {s : ByteArray} {c : UInt8} {i : Nat} (h : spAt s c i = false) : spN s c (i + 1) = spN s c i := by show (if _ then _ else _) = _; rw [h]; rfl
theorem spN_from (s : ByteArray) (c : UInt8) : ∀ i, (spN s c i).2 ≤ i
  | 0 => Nat.le_refl _
  | i + 1 => by
    have := spN_from s c i
    cases h : spAt s c i
    · rw [spN_no h]; omega
    · rw [spN_yes h]; exact Nat.le_refl _
theorem spN_len (s : ByteArray) (c : UInt8) : ∀ i, (spN s c i).1.length ≤ i
  | 0 => Nat.le_refl _
  | i + 1 => by
    have := spN_len s c i
    cases h : spAt s c i
    · rw [spN_no h]; omega
    · rw [spN_yes h, List.length_append]; simp only [List.length_cons, List.length_nil]; omega
theorem spAt_end (s : ByteArray) (c : UInt8) : spAt s c s.size = true := by unfold spAt; rw [dif_neg (by omega)]
theorem spN_inv (s : ByteArray) (c : UInt8) : ∀ i, i ≤ s.size → cutC c (L s) = (spN s c i).1.map L ++ pre (((L s).take i).drop (spN s c i).2) (cutC c ((L s).drop i)) ∧ c ∉ ((L s).take i).drop (spN s c i).2
  | 0, _ => by simp [spN, pre_nil (cutC_ne c _)]
  | i + 1, hi => by
    obtain ⟨h1, h2⟩ := spN_inv s c i (by omega)
    have hf := spN_from s c i
    have hil : i < (L s).length := by show i < s.size; omega
    have hd : (L s).drop i = s[i] :: (L s).drop (i + 1) := by rw [List.drop_eq_getElem_cons hil]; rfl
    cases h : spAt s c i
    · rw [spN_no h]
      have hne : s[i] ≠ c := by unfold spAt at h; rw [dif_pos (by omega)] at h; simpa using h
      have ht : ((L s).take (i + 1)).drop (spN s c i).2 = ((L s).take i).drop (spN s c i).2 ++ [s[i]] := by
        rw [List.take_succ_eq_append_getElem hil, List.drop_append_of_le_length (by rw [List.length_take, L_len]; omega)]; rfl
      rw [ht]
      refine ⟨?_, by simp only [List.mem_append, List.mem_singleton, not_or]; exact ⟨h2, fun e => hne e.symm⟩⟩
      rw [h1, hd, cutC_neq hne, pre_pre]
    · rw [spN_yes h]
      have he : s[i] = c := by unfold spAt at h; rw [dif_pos (by omega)] at h; simpa using h
      have ht : ((L s).take (i + 1)).drop (i + 1) = [] := by simp
      simp only [ht]
      refine ⟨?_, by simp⟩
      rw [h1, hd, he, cutC_eq, pre_nil (cutC_ne c _), List.map_append, List.map_singleton, L_ext, List.append_assoc]
      simp [pre]
theorem splitL_cutB (s : ByteArray) (c : UInt8) : splitL s c = cutB s c := by
  unfold splitL
  rw [spN_yes (spAt_end s c)]
  obtain ⟨h1, h2⟩ := spN_inv s c s.size (Nat.le_refl _)
  rw [show (L s).drop s.size = [] from List.drop_of_length_le (Nat.le_refl _)] at h1
  unfold cutB
  rw [h1, List.map_append, map_L_mk]
  simp only [cutC, pre, List.append_nil, List.map_cons, List.map_nil]
  rw [← L_ext, mk_L]
end Go.Proofs.YtdlignhlliellaaDoor
