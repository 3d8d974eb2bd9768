/- A path put right, escaped, put right again: plainly. -/
import Derived.Test.YthjnmcciejfpcaaGreatDoorMC
namespace Go.Proofs.YthjnmcciejfpcaaGreatDoor
set_option linter.unusedVariables false
set_option linter.unusedSimpArgs false
open Go.RowKit

def T (l : List (List UInt8)) : List UInt8 := Lib.joinTail [47] l
theorem T_cons (x : List UInt8) (r : List (List UInt8)) : T (x :: r) = 47 :: (x ++ T r) := by simp [T, Lib.joinTail]
theorem T_snoc (l : List (List UInt8)) (x : List UInt8) : T (l ++ [x]) = T l ++ 47 :: x := by simp [T, Lib.joinTail]
def tlB (t : Bool) : List UInt8 := if t then [47] else []
def tlS (t : Bool) : List (List UInt8) := if t then [[]] else []
theorem cutT (t : Bool) : ∀ (l : List (List UInt8)) (x : List UInt8), (47 : UInt8) ∉ x → (∀ y ∈ l, (47 : UInt8) ∉ y) → cutC 47 (x ++ (T l ++ tlB t)) = x :: l ++ tlS t
  | [], x, hx, _ => by
    cases t
    · show cutC 47 (x ++ []) = [x]
      rw [List.append_nil, cutC_none hx]
    · show cutC 47 (x ++ [47]) = [x, []]
      rw [cutC_at hx]; rfl
  | y :: r, x, hx, h => by
    rw [T_cons]
    show cutC 47 (x ++ 47 :: ((y ++ T r) ++ tlB t)) = _
    rw [cutC_at hx, List.append_assoc, cutT t r y (h y (by simp)) (fun z hz => h z (by simp [hz]))]
    rfl
def dotL (x : List UInt8) : Bool := x.isEmpty || x == [46] || x == [46, 46]
theorem dotB_L (p : ByteArray) : dotB p = dotL (L p) := by unfold dotB dotL; rw [eq_dot, eq_dots, toList_L]
structure GoodX (M : Nat) (x : List UInt8) : Prop where
  ok : ∀ c ∈ x, okB c = true
  dot : dotL x = false
  len : x.length ≤ M
theorem okB_47 {x : List UInt8} (h : ∀ c ∈ x, okB c = true) : (47 : UInt8) ∉ x := fun hc => by have := h 47 hc; simp [okB] at this
theorem partS_ok {s p : ByteArray} (h : partS s = some p) : ∀ c ∈ L p, okB c = true := by
  unfold partS at h
  split at h
  · split at h
    · rename_i q _ hq
      injection h with h; subst h
      rw [L_mk]
      exact fun c hc => List.all_eq_true.1 hq c hc
    · cases h
  · cases h
theorem cleanStep_L (st : List ByteArray) (p : ByteArray) : cleanStep st p = if dotL (L p) then (if (L p) == [46, 46] then (if st.length = 0 then none else some (st.take (st.length - 1))) else some st) else some (st ++ [p]) := by
  unfold cleanStep dotL
  rw [eq_dot, eq_dots, toList_L]
  by_cases h1 : (L p) = [46, 46]
  · rw [h1]; rfl
  · have h2 : ((L p) == [46, 46]) = false := by simpa using h1
    rw [h2]
    cases (L p).isEmpty <;> cases ((L p) == [46]) <;> rfl
theorem cleanGo_inv (M : Nat) : ∀ (l st : List ByteArray) (last : ByteArray) (r : List ByteArray × ByteArray), cleanGo l st last = some r → (∀ s ∈ l, s.size ≤ M) → (∀ x ∈ st, GoodX M (L x)) →
    (∀ x ∈ r.1, GoodX M (L x)) ∧ r.1.length ≤ st.length + l.length
  | [], st, last, r, h, _, hst => by
    injection h with h; subst h; exact ⟨hst, by simp⟩
  | s :: l, st, last, r, h, hl, hst => by
    unfold cleanGo at h
    cases hp : partS s with
    | none => rw [hp] at h; cases h
    | some p =>
      rw [hp] at h
      simp only [] at h
      cases hs : cleanStep st p with
      | none => rw [hs] at h; cases h
      | some st' =>
        rw [hs] at h
        simp only [] at h
        have hst' : (∀ x ∈ st', GoodX M (L x)) ∧ st'.length ≤ st.length + 1 := by
          rw [cleanStep_L] at hs
          split at hs
          · split at hs
            · split at hs
              · cases hs
              · injection hs with hs; subst hs
                exact ⟨fun x hx => hst x (List.mem_of_mem_take hx), by rw [List.length_take]; omega⟩
            · injection hs with hs; subst hs; exact ⟨hst, by omega⟩
          · rename_i hd
            injection hs with hs; subst hs
            refine ⟨fun x hx => ?_, by simp⟩
            rcases List.mem_append.1 hx with hx | hx
            · exact hst x hx
            · rw [List.mem_singleton.1 hx]
              exact ⟨partS_ok hp, by simpa using hd, Nat.le_trans (partS_size hp) (hl s (by simp))⟩
        have ih := cleanGo_inv M l st' p r h (fun s hs => hl s (by simp [hs])) hst'.1
        exact ⟨ih.1, by rw [List.length_cons]; have := ih.2; have := hst'.2; omega⟩
structure Shape (a : ByteArray) (st : List (List UInt8)) (t : Bool) : Prop where
  eq : L a = T st ++ tlB t
  nil : st = [] → t = true
  good : ∀ x ∈ st, GoodX 400 x
  len : st.length ≤ 401
theorem L_joinB (l : List ByteArray) : L (joinB l) = Lib.join (l.map L) [47] := by
  have hj : joinB l = mk (Lib.join (l.map L) [47]) := rfl
  rw [hj, L_mk]
theorem slashJ (x : List UInt8) (r : List (List UInt8)) : 47 :: Lib.join (x :: r) [47] = T (x :: r) := by rw [Lib.join_cons, T_cons]; rfl
theorem clean_shape {p a : ByteArray} (h : cleanS p = some a) (hp : p.size ≤ 400) : ∃ st t, Shape a st t := by
  unfold cleanS at h
  split at h
  · cases hg : cleanGo (cutB (p.extract 1 p.size) 47) [] ⟨#[]⟩ with
    | none => rw [hg] at h; cases h
    | some r =>
      rw [hg] at h
      injection h with h
      have hex : (p.extract 1 p.size).size ≤ 400 := by rw [← L_len, L_end, List.length_drop, L_len]; omega
      have hlen := cutB_len (p.extract 1 p.size) 47
      have inv := cleanGo_inv 400 _ _ _ r hg (fun s hs => by
        have h1 := cutC_sum 47 (L (p.extract 1 p.size))
        obtain ⟨y, hy, rfl⟩ := List.mem_map.1 hs
        have h2 : y.length ≤ ((cutC 47 (L (p.extract 1 p.size))).map List.length).sum := by
          obtain ⟨a, b, e⟩ := List.append_of_mem hy
          rw [e]; simp; omega
        have h3 : 0 < (cutC 47 (L (p.extract 1 p.size))).length := List.length_pos_iff.2 (cutC_ne _ _)
        rw [mk_size]
        have : (L (p.extract 1 p.size)).length = (p.extract 1 p.size).size := rfl
        omega) (fun x hx => by cases hx)
      obtain ⟨st, last⟩ := r
      have hgood : ∀ x ∈ st.map L, GoodX 400 x := fun x hx => by
        obtain ⟨y, hy, rfl⟩ := List.mem_map.1 hx
        exact inv.1 y hy
      have hl : (st.map L).length ≤ 401 := by rw [List.length_map]; have := inv.2; simp at this; omega
      cases st with
      | nil =>
        refine ⟨[], true, ?_, fun _ => rfl, fun x hx => (by cases hx), by simp⟩
        rw [← h]; rfl
      | cons x r =>
        refine ⟨(x :: r).map L, dotB last, ?_, fun h0 => (by cases h0), hgood, hl⟩
        rw [← h]
        unfold cleanOut
        rw [List.map_cons, ← slashJ, ← List.map_cons, ← L_joinB]
        cases dotB last
        · rw [Bool.and_false, if_neg (by decide), L_app]; simp [tlB]; rfl
        · rw [Bool.and_true, if_pos (by simp), L_app, L_app]; simp [tlB]; rfl
  · cases h
theorem shape_segs_ {a : ByteArray} {st : List (List UInt8)} {t : Bool} (h : Shape a st t) : segs a = st.map mk := by
  rw [segs_eq]
  congr 1
  unfold segsL
  have h47 : ∀ y ∈ st, (47 : UInt8) ∉ y := fun y hy => okB_47 (h.good y hy).ok
  have hc := cutT t st [] (by simp) h47
  rw [List.nil_append] at hc
  rw [h.eq, hc, List.filter_append, List.filter_cons]
  have h1 : (tlS t).filter (fun x => !x.isEmpty) = [] := by cases t <;> rfl
  rw [h1, List.append_nil]
  simp only [List.isEmpty_nil, Bool.not_true, Bool.false_eq_true, if_false]
  refine List.filter_eq_self.2 fun x hx => ?_
  have := (h.good x hx).dot
  unfold dotL at this
  cases he : x.isEmpty
  · rfl
  · rw [he] at this; simp at this
theorem begS_root (a : ByteArray) : begS a ⟨#[47]⟩ = true := by
  rw [begS_E]
  have : segsE' ⟨#[47]⟩ = [] := by kernel_rfl
  rw [this]; simp
theorem shape_end_ {a : ByteArray} {st : List (List UInt8)} {t : Bool} (h : Shape a st t) : (t = false ∧ a = mk (T st)) ∨ (t = true ∧ a = mk (T st) ++ ⟨#[47]⟩) := by
  cases t
  · exact .inl ⟨rfl, L_inj (by rw [h.eq, L_mk]; simp [tlB])⟩
  · exact .inr ⟨rfl, L_inj (by rw [h.eq, L_app, L_mk]; rfl)⟩

/-! ### escaped -/
def upD (q : Nat) : UInt8 := (L ⟨#[48, 49, 50, 51, 52, 53, 54, 55, 56, 57, 65, 66, 67, 68, 69, 70]⟩).getD q 0
def plainB (c : UInt8) : Bool := ((decide (97 ≤ c.toNat) && decide (c.toNat ≤ 122)) || (decide (65 ≤ c.toNat) && decide (c.toNat ≤ 90))) || (decide (48 ≤ c.toNat) && decide (c.toNat ≤ 57)) || (L ⟨#[45, 46, 95, 126, 47]⟩).contains c
def esc1 (c : UInt8) : List UInt8 := if plainB c then [c] else [37, upD (c.toNat / 16), upD (c.toNat % 16)]
def E (l : List UInt8) : List UInt8 := l.flatMap esc1
theorem E_cons (c : UInt8) (l : List UInt8) : E (c :: l) = esc1 c ++ E l := by simp [E]
theorem E_app (a b : List UInt8) : E (a ++ b) = E a ++ E b := by simp [E]
theorem E_T : ∀ st : List (List UInt8), E (T st) = T (st.map E)
  | [] => rfl
  | x :: r => by
    rw [T_cons, E_cons, E_app, E_T r, List.map_cons, T_cons]; rfl
theorem E_tl (t : Bool) : E (tlB t) = tlB t := by cases t <;> rfl
theorem E_len : ∀ l : List UInt8, (E l).length ≤ 3 * l.length
  | [] => by simp [E]
  | c :: l => by
    have := E_len l
    have h1 : (esc1 c).length ≤ 3 := by unfold esc1; split <;> simp
    rw [E_cons, List.length_append, List.length_cons]; omega
def escOkB (n : Nat) : Bool := (plainB (UInt8.ofNat n) && !(n == 37)) || (!plainB (UInt8.ofNat n) && code2 [upD (n / 16), upD (n % 16)] == some (UInt8.ofNat n) && !(upD (n / 16) == 47) && !(upD (n % 16) == 47))
theorem escAllB : (List.range 256).all (fun n => n == 0 || escOkB n) = true := by kernel_rfl
theorem escOneB (c : UInt8) (h0 : c.toNat ≠ 0) : (plainB c = true ∧ c ≠ 37) ∨ (plainB c = false ∧ code2 [upD (c.toNat / 16), upD (c.toNat % 16)] = some c ∧ upD (c.toNat / 16) ≠ 47 ∧ upD (c.toNat % 16) ≠ 47) := by
  have h := List.all_eq_true.1 escAllB c.toNat (List.mem_range.2 c.toNat_lt)
  have hz : (c.toNat == 0) = false := by simpa using h0
  rw [hz, Bool.false_or] at h
  unfold escOkB at h
  rw [show UInt8.ofNat c.toNat = c by simp] at h
  simp only [Bool.or_eq_true, Bool.and_eq_true, Bool.not_eq_true', beq_iff_eq, beq_eq_false_iff_ne, ne_eq] at h
  rcases h with ⟨h1, h2⟩ | ⟨⟨⟨h1, h2⟩, h3⟩, h4⟩
  · exact .inl ⟨h1, fun e => h2 (by rw [e]; rfl)⟩
  · exact .inr ⟨h1, h2, h3, h4⟩
theorem okB_0 {c : UInt8} (h : okB c = true) : c.toNat ≠ 0 := by unfold okB at h; simp at h; omega
theorem unescE : ∀ (l acc : List UInt8), (∀ c ∈ l, okB c = true) → unescA (E l) acc = some (acc ++ l)
  | [], acc, _ => by simp [E, unescA]
  | c :: l, acc, h => by
    have ih := unescE l (acc ++ [c]) (fun d hd => h d (by simp [hd]))
    rw [E_cons]
    rcases escOneB c (okB_0 (h c (by simp))) with ⟨h1, h2⟩ | ⟨h1, h2, -, -⟩
    · unfold esc1
      rw [if_pos h1]
      show unescA (c :: E l) acc = _
      rw [unescA_plain h2, ih, List.append_assoc]; rfl
    · unfold esc1
      rw [h1, if_neg (by decide)]
      show unescA (37 :: upD (c.toNat / 16) :: upD (c.toNat % 16) :: E l) acc = _
      have hc : code2 (upD (c.toNat / 16) :: upD (c.toNat % 16) :: E l) = some c := h2
      rw [unescA_pct, hc]
      show unescA (E l) (acc ++ [c]) = _
      rw [ih, List.append_assoc]; rfl
theorem E_47 : ∀ l : List UInt8, (∀ c ∈ l, okB c = true) → (47 : UInt8) ∉ E l
  | [], _ => by simp [E]
  | c :: l, h => by
    have ih := E_47 l (fun d hd => h d (by simp [hd]))
    have hc := h c (by simp)
    have hc47 : c ≠ 47 := fun e => by rw [e] at hc; simp [okB] at hc
    rw [E_cons, List.mem_append, not_or]
    refine ⟨?_, ih⟩
    rcases escOneB c (okB_0 hc) with ⟨h1, -⟩ | ⟨h1, -, h3, h4⟩
    · unfold esc1; rw [if_pos h1]; simpa using fun e => hc47 e.symm
    · unfold esc1; rw [h1, if_neg (by decide)]
      simp only [List.mem_cons, List.not_mem_nil, or_false, not_or]
      exact ⟨by decide, fun e => h3 e.symm, fun e => h4 e.symm⟩
theorem partE {M : Nat} {x : List UInt8} (h : GoodX M x) : partS (mk (E x)) = some (mk x) := by
  unfold partS unescS
  rw [L_mk, unescE x [] h.ok]
  simp only [List.nil_append]
  rw [if_pos (List.all_eq_true.2 h.ok)]
def lastD : List (List UInt8) → ByteArray → ByteArray
  | [], b => b
  | x :: r, _ => lastD r (mk x)
theorem lastD_dot : ∀ (l : List (List UInt8)) (b : ByteArray), (∀ x ∈ l, dotL x = false) → dotB b = false → dotB (lastD l b) = false
  | [], _, _, hb => hb
  | x :: r, _, h, _ => lastD_dot r (mk x) (fun y hy => h y (by simp [hy])) (by rw [dotB_L, L_mk]; exact h x (by simp))
theorem goE {M : Nat} : ∀ (l : List (List UInt8)) (acc tail : List ByteArray) (last : ByteArray), (∀ x ∈ l, GoodX M x) → cleanGo ((l.map E).map mk ++ tail) acc last = cleanGo tail (acc ++ l.map mk) (lastD l last)
  | [], acc, tail, last, _ => by simp [lastD]
  | x :: r, acc, tail, last, h => by
    have hx := h x (by simp)
    have hs : cleanStep acc (mk x) = some (acc ++ [mk x]) := by rw [cleanStep_L, L_mk, hx.dot]; rfl
    have ih := goE r (acc ++ [mk x]) tail (mk x) (fun y hy => h y (by simp [hy]))
    show cleanGo (mk (E x) :: ((r.map E).map mk ++ tail)) acc last = _
    rw [cleanGo_yes (partE hx) hs, ih, List.append_assoc]; rfl
theorem partNil : partS (mk []) = some (mk []) := rfl
theorem shape_back {a : ByteArray} {st : List (List UInt8)} {t : Bool} (h : Shape a st t) : cleanS (mk (E (L a))) = some a := by
  have hE : E (L a) = T (st.map E) ++ tlB t := by rw [h.eq, E_app, E_T, E_tl]
  unfold cleanS cutB
  rw [L_end, L_mk, hE]
  cases st with
  | nil =>
    have ht := h.nil rfl
    subst ht
    have ha : a = ⟨#[47]⟩ := L_inj (by rw [h.eq]; rfl)
    rw [ha]
    have hs : cleanStep [] (mk []) = some [] := by rw [cleanStep_L, L_mk]; rfl
    show (if Lib.hasPrefix ([47] : List UInt8) [47] = true then Option.map cleanOut (cleanGo [mk []] [] ⟨#[]⟩) else none) = _
    rw [if_pos (by simp [Lib.hasPrefix]), cleanGo_yes partNil hs]
    show some (cleanOut ([], mk [])) = _
    congr 1
  | cons x r =>
    have h47 : ∀ y ∈ r.map E, (47 : UInt8) ∉ y := fun y hy => by
      obtain ⟨z, hz, rfl⟩ := List.mem_map.1 hy
      exact E_47 z (h.good z (by simp [hz])).ok
    rw [List.map_cons, T_cons]
    have hp : Lib.hasPrefix (47 :: (E x ++ T (r.map E)) ++ tlB t) [47] = true := by simp [Lib.hasPrefix]
    rw [hp, if_pos rfl]
    have hd : (47 :: (E x ++ T (r.map E)) ++ tlB t).drop 1 = E x ++ (T (r.map E) ++ tlB t) := by simp
    rw [hd, cutT t _ _ (E_47 x (h.good x (by simp)).ok) h47, List.map_append]
    have hl : ((E x :: r.map E).map mk) = (((x :: r).map E).map mk) := rfl
    rw [hl, goE (x :: r) [] _ _ h.good, List.nil_append]
    have hlen : decide (0 < ((x :: r).map mk).length) = true := by simp
    have hdl : dotB (lastD (x :: r) ⟨#[]⟩) = false := lastD_dot r (mk x) (fun y hy => (h.good y (by simp [hy])).dot) (by rw [dotB_L, L_mk]; exact (h.good x (by simp)).dot)
    have hLJ : L (joinB ((x :: r).map mk)) = Lib.join (x :: r) [47] := by rw [L_joinB, map_mk_L]
    cases t
    · show Option.map cleanOut (some ((x :: r).map mk, lastD (x :: r) ⟨#[]⟩)) = some a
      rw [Option.map_some]
      congr 1
      unfold cleanOut
      rw [hlen, hdl, Bool.and_false, if_neg (by decide)]
      apply L_inj
      rw [L_app, hLJ, h.eq, ← slashJ]; simp [tlB]; rfl
    · have hg : cleanGo ((tlS true).map mk) ((x :: r).map mk) (lastD (x :: r) ⟨#[]⟩) = some ((x :: r).map mk, mk []) := by
        show cleanGo [mk []] _ _ = _
        have hs : cleanStep ((x :: r).map mk) (mk []) = some ((x :: r).map mk) := by rw [cleanStep_L, L_mk]; rfl
        rw [cleanGo_yes partNil hs]; rfl
      rw [hg, Option.map_some]
      congr 1
      unfold cleanOut
      have hd2 : dotB (mk []) = true := by rw [dotB_L, L_mk]; rfl
      rw [hlen, hd2, Bool.and_true, if_pos rfl]
      apply L_inj
      rw [L_app, L_app, hLJ, h.eq, ← slashJ]; simp [tlB]; rfl
theorem shape_size {a : ByteArray} {st : List (List UInt8)} {t : Bool} (h : Shape a st t) : a.size ≤ 161000 := by
  have h1 := joinTail_len 400 st (fun x hx => (h.good x hx).len)
  have h2 := h.len
  rw [← L_len, h.eq, List.length_append]
  have h3 : (tlB t).length ≤ 1 := by cases t <;> simp [tlB]
  have h4 : st.length * (400 + 1) ≤ 401 * 401 := Nat.mul_le_mul h2 (Nat.le_refl _)
  unfold T
  omega
end Go.Proofs.YthjnmcciejfpcaaGreatDoor
