/- Routes, plainly, in words that the kernel can reckon with. Cleaned paths, plainly: their shape; what a prefix of one is; a match's script and what is behind it. -/
import Derived.Test.YthjnmcciejfpcaaDoorRouteS
import Derived.KernelRfl
import Derived.Test.YthjnmcciejfpcaaDoorPBack
import Derived.Test.YthjnmcciejfpcaaDoorRouteE
namespace Go.Proofs.YthjnmcciejfpcaaDoor
set_option linter.unusedVariables false
set_option linter.unusedSimpArgs false
open Go.RowKit

def xt (p : ByteArray) (i j : Nat) : ByteArray := mk (((L p).take j).drop i)
theorem xt_eq (p : ByteArray) (i j : Nat) : p.extract i j = xt p i j := L_inj (by rw [L_ext]; unfold xt; rw [L_mk])
def segsE (s : ByteArray) : List ByteArray := (segsL (L s)).map mk
def eqE (a b : ByteArray) : Bool := L a == L b
theorem eqE_eq : eqB = eqE := by funext a b; exact eqB_L a b
theorem segsE_eq : segs = segsE := by funext s; exact segs_eq s
def okE (p : ByteArray × ByteArray) : Bool := hasC p.1 || eqE p.1 p.2
def segsME (ws hs : List ByteArray) : Option (List Pr) := if ws.length = hs.length then (if (ws.zip hs).all okE then some ((ws.zip hs).filterMap nm1) else none) else none
def eqLs : List ByteArray → List ByteArray → Bool
  | [], [] => true
  | a :: l, b :: m => eqE a b && eqLs l m
  | _, _ => false
theorem eqLs_eq : ∀ (l m : List ByteArray), eqLs l m = decide (l = m)
  | [], [] => by simp [eqLs]
  | [], b :: m => by simp [eqLs]
  | a :: l, [] => by simp [eqLs]
  | a :: l, b :: m => by
    have h : eqE a b = decide (a = b) := by
      rw [← eqE_eq, Bool.eq_iff_iff, eqB_iff]; simp
    rw [eqLs, h, eqLs_eq l m, Bool.eq_iff_iff]; simp
def begE (p q : ByteArray) : Bool := Nat.ble (segsE q).length (segsE p).length && eqLs ((segsE p).take (segsE q).length) (segsE q)
theorem begE_eq : begS = begE := by
  funext p q
  unfold begS begE
  rw [segsE_eq, eqLs_eq]
  congr 1
  rw [Bool.eq_iff_iff]; simp
def matchE (k : Int) (rp p : ByteArray) : Option RT :=
  if k = 1 then (if eqE p rp then some (p, ⟨#[]⟩, []) else none)
  else if k = 2 then (segsME (segsE rp) (segsE p)).map fun nm => (p, ⟨#[]⟩, nm)
  else if k = 3 then (if begE p rp then some (bareS rp, xt p (bareS rp).size p.size, []) else none)
  else if k = 4 then (extS rp p).map fun e => (xt p 0 e, xt p e p.size, [])
  else none
theorem matchE_eq : matchS = matchE := by
  funext k rp p
  have h : okP = okE := by funext x; unfold okP okE; rw [eqE_eq]
  have h2 : segsM = segsME := by funext a b; unfold segsM segsME; rw [h]
  unfold matchS matchE
  simp only [eqE_eq, segsE_eq, begE_eq, h2, xt_eq]
def weightE (k : Int) (rp : ByteArray) : Nat :=
  if k = 2 then ((segsE rp).filter fun s => !hasC s).length else if k = 3 then (segsE rp).length else 0
theorem weightE_eq : weightS = weightE := by funext k rp; unfold weightS weightE; rw [segsE_eq]
def amStepE (host p : ByteArray) (b : Bst) (i : Nat) (r : RV) : Bst :=
  match matchE r.kind r.path p with
  | none => b
  | some t => if eqE r.host host then (if aheadB b r.kind (weightE r.kind r.path) then ⟨i, t.1, t.2.1, t.2.2, r.kind, weightE r.kind r.path⟩ else b) else b
theorem amStepE_eq : amStep = amStepE := by funext host p b i r; unfold amStep amStepE; rw [matchE_eq, eqE_eq, weightE_eq]; cases matchE r.kind r.path p <;> rfl
def amE (host p : ByteArray) : Nat → Bst → List RV → Bst
  | _, b, [] => b
  | i, b, r :: l => amE host p (i + 1) (amStepE host p b i r) l
theorem amE_snoc (host p : ByteArray) : ∀ (l : List RV) (i : Nat) (b : Bst) (r : RV), amE host p i b (l ++ [r]) = amStepE host p (amE host p i b l) (i + l.length) r
  | [], i, b, r => rfl
  | x :: l, i, b, r => by
    show amE host p (i + 1) _ (l ++ [r]) = _
    rw [amE_snoc]
    show _ = amStepE host p (amE host p (i + 1) _ l) (i + (l.length + 1)) r
    rw [show i + 1 + l.length = i + (l.length + 1) by omega]
def bst0 : Bst := ⟨0, ⟨#[]⟩, ⟨#[]⟩, [], 0, 0⟩
theorem amE_eq (host p : ByteArray) (l : List RV) : amS l host p = amE host p 0 bst0 l := by
  have h : ∀ k, k ≤ l.length → amN host p l k = amE host p 0 bst0 (l.take k) := by
    intro k
    induction k with
    | zero => intro _; rw [List.take_zero]; rfl
    | succ k ih =>
      intro hk
      rw [List.take_succ_eq_append_getElem (by omega), amE_snoc, ← ih (by omega), ← amStepE_eq]
      show (match l[k]? with | some r => _ | none => _) = _
      rw [List.getElem?_eq_getElem (by omega)]
      simp [Nat.min_eq_left (show k ≤ l.length by omega)]
  have := h l.length (Nat.le_refl _)
  rwa [List.take_length] at this
def hostE (h : ByteArray) : ByteArray := lowB (if Lib.indexByte (L h) 58 < 0 then h else xt h 0 (Lib.indexByte (L h) 58).toNat)
theorem hostE_eq : hostS = hostE := by
  funext h
  unfold hostS hostE cutS
  by_cases h0 : 0 ≤ Lib.indexByte (L h) 58
  · rw [if_pos h0, if_neg (by omega), xt_eq]
  · rw [if_neg h0, if_pos (by omega)]
def chooseE (l : List RV) (host p : ByteArray) : Bst :=
  if (L (hostE host)).isEmpty then amE ⟨#[]⟩ p 0 bst0 l else if (amE (hostE host) p 0 bst0 l).ok then amE (hostE host) p 0 bst0 l else amE ⟨#[]⟩ p 0 bst0 l
theorem chooseE_eq (l : List RV) (host p : ByteArray) : chooseS l host p = chooseE l host p := by
  unfold chooseS chooseE
  rw [hostE_eq, toList_L, amE_eq, amE_eq]
def fitsE (r : RV) (p : ByteArray) : Bool := Nat.ble r.path.size 1000000000 && Nat.ble p.size 1000000000 && (!(r.kind == 3) || !begE p r.path || Nat.ble (bareS r.path).size p.size)
end Go.Proofs.YthjnmcciejfpcaaDoor

namespace Go.Proofs.YthjnmcciejfpcaaDoor
set_option linter.unusedVariables false
set_option linter.unusedSimpArgs false
open Go.RowKit

structure ShapeG (a : ByteArray) (st : List (List UInt8)) (t : Bool) : Prop where
  eq : L a = T st ++ tlB t
  nil : st = [] → t = true
  sl : ∀ x ∈ st, (47 : UInt8) ∉ x
  ne : ∀ x ∈ st, x ≠ []
theorem cleanG {p a : ByteArray} (h : cleanS p = some a) : ∃ st t, ShapeG a st t := by
  unfold cleanS at h
  split at h
  · cases hg : cleanGo (cutB (p.extract 1 p.size) 47) [] ⟨#[]⟩ with
    | none => rw [hg] at h; cases h
    | some r =>
      rw [hg] at h
      injection h with h
      have inv := cleanGo_inv (p.extract 1 p.size).size _ _ _ r hg (fun s hs => cutB_size hs) (fun x hx => by cases hx)
      obtain ⟨st, last⟩ := r
      have hgood : ∀ x ∈ st.map L, GoodX (p.extract 1 p.size).size x := fun x hx => by
        obtain ⟨y, hy, rfl⟩ := List.mem_map.1 hx
        exact inv.1 y hy
      have hs : ∀ x ∈ st.map L, (47 : UInt8) ∉ x := fun x hx => okB_47 (hgood x hx).ok
      have hn : ∀ x ∈ st.map L, x ≠ [] := fun x hx e => by
        have := (hgood x hx).dot
        rw [e] at this; cases this
      cases st with
      | nil =>
        refine ⟨[], true, ?_, fun _ => rfl, fun x hx => (by cases hx), fun x hx => (by cases hx)⟩
        rw [← h]; rfl
      | cons x r =>
        refine ⟨(x :: r).map L, dotB last, ?_, fun h0 => (by cases h0), hs, hn⟩
        rw [← h]
        unfold cleanOut
        rw [List.map_cons, ← slashJ, ← List.map_cons, ← L_joinB]
        cases dotB last
        · rw [Bool.and_false, if_neg (by decide), L_app]; simp [tlB]; rfl
        · rw [Bool.and_true, if_pos (by simp), L_app, L_app]; simp [tlB]; rfl
  · cases h
theorem segsG {a : ByteArray} {st : List (List UInt8)} {t : Bool} (h : ShapeG a st t) : segs a = st.map mk := by
  rw [segs_eq]
  congr 1
  unfold segsL
  have hc := cutT t st [] (by simp) h.sl
  rw [List.nil_append] at hc
  rw [h.eq, hc, List.filter_append, List.filter_cons]
  have h1 : (tlS t).filter (fun x => !x.isEmpty) = [] := by cases t <;> rfl
  rw [h1, List.append_nil]
  simp only [List.isEmpty_nil, Bool.not_true, Bool.false_eq_true, if_false]
  refine List.filter_eq_self.2 fun x hx => ?_
  have := h.ne x hx
  cases x with
  | nil => exact absurd rfl this
  | cons c x => rfl
theorem map_mk_inj : ∀ {a b : List (List UInt8)}, a.map mk = b.map mk → a = b
  | [], [], _ => rfl
  | [], _ :: _, h => by cases h
  | _ :: _, [], h => by cases h
  | x :: a, y :: b, h => by
    rw [List.map_cons, List.map_cons] at h
    injection h with h1 h2
    rw [mk_inj h1, map_mk_inj h2]
theorem T_app (a b : List (List UInt8)) : T (a ++ b) = T a ++ T b := by
  induction a with
  | nil => rfl
  | cons x a ih => rw [List.cons_append, T_cons, T_cons, ih]; simp
theorem begG {p q : ByteArray} {sp sq : List (List UInt8)} {tp tq : Bool} (hp : ShapeG p sp tp) (hq : ShapeG q sq tq) (h : begS p q = true) : ∃ r, sp = sq ++ r := by
  unfold begS at h
  rw [Bool.and_eq_true, decide_eq_true_eq, decide_eq_true_eq, segsG hp, segsG hq, List.length_map, ← List.map_take] at h
  have e := map_mk_inj h.2
  exact ⟨sp.drop sq.length, by conv => lhs; rw [← List.take_append_drop sq.length sp, e]⟩
theorem bareG {q : ByteArray} {sq : List (List UInt8)} {tq : Bool} (hq : ShapeG q sq tq) : L (bareS q) = T sq := by
  have e : L (bareS q) = Lib.trimSuffix (L q) [47] := by unfold bareS; simp [L]
  rw [e, hq.eq]
  unfold Lib.trimSuffix Lib.hasSuffix
  cases tq with
  | true =>
    have : ([47] : List UInt8).isSuffixOf (T sq ++ tlB true) = true := List.isSuffixOf_iff_suffix.2 ⟨T sq, rfl⟩
    rw [this, if_pos rfl]
    simp [tlB]
  | false =>
    have hne : sq ≠ [] := fun e => by have := hq.nil e; cases this
    have : ([47] : List UInt8).isSuffixOf (T sq ++ tlB false) = false := by
      cases hs : ([47] : List UInt8).isSuffixOf (T sq ++ tlB false) with
      | false => rfl
      | true =>
        obtain ⟨y, hy⟩ := List.isSuffixOf_iff_suffix.1 hs
        rcases List.eq_nil_or_concat sq with h0 | ⟨s', x, hx⟩
        · exact absurd h0 hne
        · have hm : x ∈ sq := by rw [hx]; simp
          rcases List.eq_nil_or_concat x with h1 | ⟨x', c, hc⟩
          · exact absurd h1 (hq.ne x hm)
          · have h2 : (y ++ [47]).getLast? = (T sq ++ tlB false).getLast? := by rw [hy]
            have h3 : T sq ++ tlB false = (T s' ++ 47 :: x') ++ [c] := by
              rw [hx, List.concat_eq_append, T_snoc, hc, List.concat_eq_append]; simp [tlB]
            rw [h3] at h2
            simp only [List.getLast?_append, List.getLast?_singleton, Option.some_or, Option.some.injEq] at h2
            have := hq.sl x hm
            rw [hc, ← h2] at this
            simp at this
    rw [this, if_neg (by decide)]
    simp [tlB]
/-- what is behind a cleaned path's prefix -/
theorem behindG {p q : ByteArray} {sp sq : List (List UInt8)} {tp tq : Bool} (hp : ShapeG p sp tp) (hq : ShapeG q sq tq) (h : begS p q = true) : ∃ r : List UInt8, L p = L (bareS q) ++ r ∧ (r = [] ∨ ∃ x, r = 47 :: x) := by
  obtain ⟨r, hr⟩ := begG hp hq h
  refine ⟨T r ++ tlB tp, ?_, ?_⟩
  · rw [hp.eq, bareG hq, hr, T_app, List.append_assoc]
  · cases r with
    | nil => cases tp with
      | false => exact .inl rfl
      | true => exact .inr ⟨[], rfl⟩
    | cons x r => exact .inr ⟨_, by rw [T_cons]; rfl⟩
theorem fitsG {p q : ByteArray} {sp sq : List (List UInt8)} {tp tq : Bool} (hp : ShapeG p sp tp) (hq : ShapeG q sq tq) (h : begS p q = true) : (bareS q).size ≤ p.size := by
  obtain ⟨r, e, -⟩ := behindG hp hq h
  have := congrArg List.length e
  rw [List.length_append] at this
  show (L (bareS q)).length ≤ (L p).length
  omega
/-! ### extensions -/
theorem ext_step {e p : ByteArray} {a z : Nat} (ha : a < p.size) (haz : a < z) (hz : z ≤ p.size) (hno : ∀ j (h : j < p.size), a + 1 ≤ j → j < z → p[j] ≠ 47) (hat : ∀ h : z < p.size, p[z] = 47) :
    extAt e p a = if extB e p a z then some z else extAt e p z := by
  have hl : L (p.extract (a + 1) p.size) = (L p).drop (a + 1) := L_end p (a + 1)
  by_cases h : z < p.size
  · have hz2 := hat h
    obtain ⟨j, rfl⟩ : ∃ j, z = a + 1 + j := ⟨z - (a + 1), by omega⟩
    suffices hi : Lib.indexByte (L (p.extract (a + 1) p.size)) 47 = (j : Int) by
      have h5 := (extAt_next (e := e) ha hi).2
      rwa [show j + (a + 1) = a + 1 + j by omega] at h5
    rw [hl]
    have hs : (L p).drop (a + 1) = ((L p).drop (a + 1)).take j ++ 47 :: (L p).drop (a + 1 + j + 1) := by
      have hj : j < ((L p).drop (a + 1)).length := by rw [List.length_drop, L_len]; omega
      conv => lhs; rw [← List.take_append_drop j ((L p).drop (a + 1))]
      rw [List.drop_eq_getElem_cons hj, List.getElem_drop, List.drop_drop]
      have : (L p)[a + 1 + j]'(by rw [L_len]; omega) = 47 := hz2
      rw [this]; rfl
    rw [hs, idx_yes]
    · rw [List.length_take, List.length_drop, L_len]; congr 1; omega
    · intro hm
      obtain ⟨i, hi, he⟩ := List.getElem_of_mem hm
      rw [List.getElem_take, List.getElem_drop] at he
      rw [List.length_take] at hi
      exact hno (a + 1 + i) (by omega) (by omega) (by omega) he
  · have e1 : z = p.size := by omega
    subst e1
    refine extAt_last ha ?_
    rw [hl]
    refine idx_no fun hm => ?_
    obtain ⟨i, hi, he⟩ := List.getElem_of_mem hm
    rw [List.getElem_drop] at he
    rw [List.length_drop, L_len] at hi
    exact hno (a + 1 + i) (by omega) (by omega) (by omega) he
theorem ext_end {e p : ByteArray} (n : Nat) : ∀ a z, p.size - a ≤ n → extAt e p a = some z → z ≤ p.size ∧ ∀ h : z < p.size, p[z] = 47 := by
  induction n with
  | zero =>
    intro a z hn h
    unfold extAt at h
    rw [if_neg (by omega)] at h; cases h
  | succ n ih =>
    intro a z hn h
    by_cases ha : a < p.size
    · by_cases hx : ∃ j, ∃ h : j < p.size, a + 1 ≤ j ∧ p[j] = 47
      · obtain ⟨z1, hz1, hle, hz47, hmin⟩ : ∃ z1, ∃ h : z1 < p.size, a + 1 ≤ z1 ∧ p[z1] = 47 ∧ ∀ j (h : j < p.size), a + 1 ≤ j → j < z1 → p[j] ≠ 47 := by
          have hd : ∀ m, (∃ j, ∃ h : j < p.size, a + 1 ≤ j ∧ j ≤ m ∧ p[j] = 47) → ∃ z1, ∃ h : z1 < p.size, a + 1 ≤ z1 ∧ p[z1] = 47 ∧ ∀ j (h : j < p.size), a + 1 ≤ j → j < z1 → p[j] ≠ 47 := by
            intro m
            induction m with
            | zero => rintro ⟨j, h, h1, h2, -⟩; omega
            | succ m ihm =>
              rintro ⟨j, h, h1, h2, h3⟩
              by_cases hm : ∃ j, ∃ h : j < p.size, a + 1 ≤ j ∧ j ≤ m ∧ p[j] = 47
              · exact ihm hm
              · exact ⟨j, h, h1, h3, fun i hi h4 h5 h6 => hm ⟨i, hi, h4, by omega, h6⟩⟩
          obtain ⟨j, h, h1, h2⟩ := hx
          exact hd j ⟨j, h, h1, Nat.le_refl _, h2⟩
        rw [ext_step ha (by omega) (by omega) hmin (fun _ => hz47)] at h
        split at h
        · injection h with h
          subst h
          exact ⟨by omega, fun _ => hz47⟩
        · exact ih z1 z (by omega) h
      · have hno : ∀ j (h : j < p.size), a + 1 ≤ j → j < p.size → p[j] ≠ 47 := fun j h h1 _ h2 => hx ⟨j, h, h1, h2⟩
        rw [ext_step ha ha (Nat.le_refl _) hno (fun h => absurd h (by omega))] at h
        split at h
        · injection h with h
          subst h
          exact ⟨Nat.le_refl _, fun h => absurd h (by omega)⟩
        · unfold extAt at h
          rw [if_neg (by omega)] at h; cases h
    · unfold extAt at h
      rw [if_neg ha] at h; cases h
theorem app_extract (p : ByteArray) (e : Nat) (h : e ≤ p.size) : p.extract 0 e ++ p.extract e p.size = p := L_inj (by
  rw [L_app, L_ext, L_end, List.drop_zero, List.take_append_drop])
theorem first_L {p : ByteArray} {r : List UInt8} (h : L p = 47 :: r) : ∃ h : 0 < p.size, p[0] = 47 := by
  have hl : 0 < p.size := by rw [← L_len, h]; simp
  refine ⟨hl, ?_⟩
  have : (L p)[0]'hl = 47 := by simp [h]
  exact this
/-- what a match says of its path -/
structure Says (k : Int) (p sc inf : ByteArray) (nm : List Pr) : Prop where
  whole : sc ++ inf = p
  first : inf.size = 0 ∨ ∃ h : 0 < inf.size, inf[0] = 47
  names : nm = [] ∨ k = 2
  behind : inf.size = 0 ∨ k = 3 ∨ k = 4
theorem size0 {a : ByteArray} (h : L a = []) : a.size = 0 := by rw [← L_len, h]; rfl
theorem says_of {k : Int} {rp p sc inf : ByteArray} {nm : List Pr} (hk : k = 3 → ∃ sq tq, ShapeG rp sq tq) {sp : List (List UInt8)} {tp : Bool} (hp : ShapeG p sp tp) (h : matchS k rp p = some (sc, inf, nm)) : Says k p sc inf nm := by
  have nil_app : ∀ a : ByteArray, a ++ (⟨#[]⟩ : ByteArray) = a := fun a => L_inj (by rw [L_app]; simp)
  unfold matchS at h
  split at h
  · split at h
    · injection h with h; injection h with h1 h2; injection h2 with h2 h3
      subst h1 h2 h3
      exact ⟨nil_app _, .inl rfl, .inl rfl, .inl rfl⟩
    · cases h
  · split at h
    · rename_i hk2
      cases hs : segsM (segs rp) (segs p) with
      | none => rw [hs] at h; cases h
      | some m =>
        rw [hs] at h
        injection h with h; injection h with h1 h2; injection h2 with h2 h3
        subst h1 h2 h3
        exact ⟨nil_app _, .inl rfl, .inr hk2, .inl rfl⟩
    · split at h
      · rename_i hk3
        split at h
        · rename_i hb
          injection h with h; injection h with h1 h2; injection h2 with h2 h3
          subst h1 h2 h3
          obtain ⟨sq, tq, hq⟩ := hk hk3
          obtain ⟨r, hr, hr2⟩ := behindG hp hq hb
          have hx : L (p.extract (bareS rp).size p.size) = r := by
            rw [L_end, hr]
            have : (L (bareS rp)).length = (bareS rp).size := rfl
            rw [← this, List.drop_left]
          refine ⟨L_inj (by rw [L_app, hx, ← hr]), ?_, .inl rfl, .inr (.inl hk3)⟩
          rcases hr2 with h0 | ⟨x, h0⟩
          · exact .inl (size0 (by rw [hx, h0]))
          · exact .inr (first_L (by rw [hx, h0]))
        · cases h
      · split at h
        · rename_i hk4
          cases hs : extS rp p with
          | none => rw [hs] at h; cases h
          | some e =>
            rw [hs] at h
            injection h with h; injection h with h1 h2; injection h2 with h2 h3
            subst h1 h2 h3
            rw [extS_at] at hs
            obtain ⟨hle, hat⟩ := ext_end p.size 0 e (by omega) hs
            refine ⟨app_extract p e hle, ?_, .inl rfl, .inr (.inr hk4)⟩
            by_cases hlt : e < p.size
            · have hx : L (p.extract e p.size) = 47 :: (L p).drop (e + 1) := by
                rw [L_end, List.drop_eq_getElem_cons (show e < (L p).length from hlt)]
                have : (L p)[e]'hlt = 47 := hat hlt
                rw [this]
              exact .inr (first_L hx)
            · exact .inl (size0 (by rw [L_end, List.drop_eq_nil_of_le (by rw [L_len]; omega)]))
        · cases h
/-! ### the choice -/
def Bgood (l : List RV) (p : ByteArray) (n : Nat) (b : Bst) : Prop :=
  (b.kind = 0 ∧ b.rule = 0 ∧ b.sc = ⟨#[]⟩ ∧ b.inf = ⟨#[]⟩ ∧ b.nm = []) ∨ ∃ i, ∃ h : i < l.length, i < n ∧ b.rule = (i : Int) ∧ b.kind = l[i].kind ∧ 0 < b.kind ∧ matchS l[i].kind l[i].path p = some (b.sc, b.inf, b.nm)
theorem amN_good {host p : ByteArray} {l : List RV} (hk : ∀ r ∈ l, 0 < r.kind) : ∀ k, Bgood l p k (amN host p l k)
  | 0 => .inl ⟨rfl, rfl, rfl, rfl, rfl⟩
  | k + 1 => by
    have ih := amN_good (host := host) (p := p) hk k
    have mono : ∀ b, Bgood l p k b → Bgood l p (k + 1) b := fun b hb => hb.imp id (fun ⟨i, h, h1, h2⟩ => ⟨i, h, by omega, h2⟩)
    show Bgood l p (k + 1) (match l[k]? with | some r => amStep host p (amN host p l k) k r | none => amN host p l k)
    by_cases hl : k < l.length
    · rw [List.getElem?_eq_getElem hl]
      show Bgood l p (k + 1) (amStep host p (amN host p l k) k l[k])
      unfold amStep
      cases hm : matchS l[k].kind l[k].path p with
      | none => exact mono _ ih
      | some t =>
        simp only []
        split
        · split
          · exact .inr ⟨k, hl, by omega, rfl, rfl, hk _ (List.getElem_mem hl), by rw [hm]⟩
          · exact mono _ ih
        · exact mono _ ih
    · rw [List.getElem?_eq_none (by omega)]
      exact mono _ ih
theorem choose_good {host p : ByteArray} {l : List RV} (hk : ∀ r ∈ l, 0 < r.kind) : Bgood l p l.length (chooseS l host p) := by
  unfold chooseS amS
  split
  · exact amN_good hk _
  · split
    · exact amN_good hk _
    · exact amN_good hk _
end Go.Proofs.YthjnmcciejfpcaaDoor
