/- Rows of variables, plainly: what a chain of adds holds under each name; which names vars.Build tells. -/
import Derived.Test.YtdlignhlliellaaDoorVz0
namespace Go.Proofs.YtdlignhlliellaaDoor
set_option linter.unusedVariables false
set_option linter.unusedSimpArgs false
open Go.RowKit

theorem eqB_symm (a b : ByteArray) : eqB a b = eqB b a := by
  cases h : eqB a b
  · cases h2 : eqB b a
    · rfl
    · rw [eqB_iff] at h2; subst h2; rw [eqB_refl] at h; cases h
  · rw [eqB_iff] at h; subst h; rw [eqB_refl]
theorem getV_nil (k : ByteArray) : getV [] k = none := rfl
theorem getV_cons (n v : ByteArray) (l : List Pr) (k : ByteArray) : getV ((n, v) :: l) k = if eqB n k then some v else getV l k := by
  unfold getV
  rw [List.find?_cons]
  cases h : eqB n k <;> simp [h]
theorem getV_app (a b : List Pr) (k : ByteArray) : getV (a ++ b) k = (getV a k).or (getV b k) := by
  unfold getV
  rw [List.find?_append]
  cases a.find? (fun p => eqB p.1 k) <;> simp
theorem getV_has {l : List Pr} {k : ByteArray} : hasN l k = (getV l k).isSome := by
  cases h : hasN l k
  · rw [getV_none h]; rfl
  · unfold hasN at h
    unfold getV
    cases hf : l.find? (fun p => eqB p.1 k) with
    | some p => rfl
    | none =>
      rw [List.find?_eq_none] at hf
      rw [List.any_eq_true] at h
      obtain ⟨x, hx, h2⟩ := h
      exact absurd h2 (hf x hx)
theorem getV_add (l : List Pr) (n v k : ByteArray) : getV (addL l n v) k = (getV l k).or (if eqB n k then some v else none) := by
  unfold addL
  cases h : hasN l n
  · rw [if_neg (by decide), getV_app, getV_cons]; rfl
  · rw [if_pos rfl]
    cases hq : eqB n k
    · simp
    · rw [eqB_iff] at hq
      subst hq
      rw [getV_has] at h
      cases hg : getV l n with
      | none => rw [hg] at h; cases h
      | some x => rfl
def addsL (l xs : List Pr) : List Pr := xs.foldl (fun a p => addL a p.1 p.2) l
theorem addsL_app (l a b : List Pr) : addsL l (a ++ b) = addsL (addsL l a) b := by unfold addsL; rw [List.foldl_append]
theorem getV_adds : ∀ (xs l : List Pr) (k : ByteArray), getV (addsL l xs) k = (getV l k).or (getV xs k)
  | [], l, k => by show getV l k = _; rw [getV_nil]; simp
  | (n, v) :: xs, l, k => by
    show getV (addsL (addL l n v) xs) k = _
    rw [getV_adds xs, getV_add, getV_cons]
    cases getV l k <;> cases eqB n k <;> simp
def headX (nm : ByteArray) (p cl : Int) (r : Req) (sc inf : ByteArray) : List Pr :=
  (if r.bd.toList.isEmpty then [] else [(⟨#[67, 79, 78, 84, 69, 78, 84, 95, 76, 69, 78, 71, 84, 72]⟩, itoaB (r.bd.size : Int))]) ++ ((getS r.fl ⟨#[67, 111, 110, 116, 101, 110, 116, 45, 84, 121, 112, 101]⟩).map (fun v => (⟨#[67, 79, 78, 84, 69, 78, 84, 95, 84, 89, 80, 69]⟩, v)) ++ ([(⟨#[71, 65, 84, 69, 87, 65, 89, 95, 73, 78, 84, 69, 82, 70, 65, 67, 69]⟩, ⟨#[67, 71, 73, 47, 49, 46, 49]⟩)] ++ ((if inf.toList.isEmpty then [] else [(⟨#[80, 65, 84, 72, 95, 73, 78, 70, 79]⟩, inf)]) ++ [(⟨#[81, 85, 69, 82, 89, 95, 83, 84, 82, 73, 78, 71]⟩, (cutS r.tg 63).2.1), (⟨#[82, 69, 77, 79, 84, 69, 95, 65, 68, 68, 82]⟩, ⟨#[49, 48, 46, 48, 46, 48, 46]⟩ ++ itoaB (cl + 1)), (⟨#[82, 69, 81, 85, 69, 83, 84, 95, 77, 69, 84, 72, 79, 68]⟩, r.m), (⟨#[82, 69, 81, 85, 69, 83, 84, 95, 85, 82, 73]⟩, r.tg), (⟨#[83, 67, 82, 73, 80, 84, 95, 78, 65, 77, 69]⟩, sc), (⟨#[83, 69, 82, 86, 69, 82, 95, 78, 65, 77, 69]⟩, serverS nm r.fl), (⟨#[83, 69, 82, 86, 69, 82, 95, 80, 79, 82, 84]⟩, itoaB p), (⟨#[83, 69, 82, 86, 69, 82, 95, 80, 82, 79, 84, 79, 67, 79, 76]⟩, ⟨#[72, 84, 84, 80, 47, 49, 46]⟩ ++ itoaB r.mn), (⟨#[83, 69, 82, 86, 69, 82, 95, 83, 79, 70, 84, 87, 65, 82, 69]⟩, ⟨#[99, 111, 110, 100, 117, 105, 116]⟩)])))
def routX (ns : List Pr) : List Pr := ns.map fun p => (⟨#[82, 79, 85, 84, 69, 95]⟩ ++ greatB p.1, p.2)
theorem L12_eq (nm : ByteArray) (p cl : Int) (r : Req) (sc inf : ByteArray) : L12 nm p cl r sc inf = addsL [] (headX nm p cl r sc inf) := by
  have h1 : L1 r = addsL [] (if r.bd.toList.isEmpty then [] else [(⟨#[67, 79, 78, 84, 69, 78, 84, 95, 76, 69, 78, 71, 84, 72]⟩, itoaB (r.bd.size : Int))]) := by unfold L1; split <;> rfl
  have h2 : ∀ vs l, ctL vs l = addsL l (vs.map (fun v => (⟨#[67, 79, 78, 84, 69, 78, 84, 95, 84, 89, 80, 69]⟩, v))) := fun vs l => by unfold ctL addsL; rw [List.foldl_map]
  have h3 : ∀ l, someL l ⟨#[80, 65, 84, 72, 95, 73, 78, 70, 79]⟩ inf = addsL l (if inf.toList.isEmpty then [] else [(⟨#[80, 65, 84, 72, 95, 73, 78, 70, 79]⟩, inf)]) := fun l => by unfold someL; split <;> rfl
  unfold headX L12 L8 L4
  rw [addsL_app, addsL_app, addsL_app, addsL_app, h3, h2, h1]
  simp only [addsL, List.foldl_cons, List.foldl_nil]
theorem rouL_eq (ns l : List Pr) : rouL ns l = addsL l (routX ns) := by unfold rouL addsL routX; rw [List.foldl_map]
theorem buildL_eq (nm : ByteArray) (p cl : Int) (r : Req) (sc inf : ByteArray) (ns : List Pr) : buildL nm p cl r sc inf ns = addsL [] (headX nm p cl r sc inf ++ (routX ns ++ fieldsL r.fl)) := by
  unfold buildL
  rw [addsL_app, addsL_app, ← L12_eq, ← rouL_eq]
  rfl
theorem getV_build (nm : ByteArray) (p cl : Int) (r : Req) (sc inf : ByteArray) (ns : List Pr) (k : ByteArray) : getV (buildL nm p cl r sc inf ns) k = ((getV (headX nm p cl r sc inf) k).or (getV (routX ns) k)).or (getV (fieldsL r.fl) k) := by
  rw [buildL_eq, getV_adds, getV_nil, getV_app, getV_app]
  simp [Option.or_assoc]
theorem addsL_len (l xs : List Pr) : (addsL l xs).length ≤ l.length + xs.length := by
  induction xs generalizing l with
  | nil => exact Nat.le_refl _
  | cons p xs ih =>
    have h1 := ih (addL l p.1 p.2)
    have h2 := addL_len l p.1 p.2
    show (addsL (addL l p.1 p.2) xs).length ≤ _
    rw [List.length_cons]; omega
theorem buildL_len (nm : ByteArray) (p cl : Int) (r : Req) (sc inf : ByteArray) (ns : List Pr) (h1 : r.fl.length ≤ 20) (h2 : ns.length ≤ 10) : (buildL nm p cl r sc inf ns).length ≤ 100 := by
  rw [buildL_eq]
  have h3 := addsL_len [] (headX nm p cl r sc inf ++ (routX ns ++ fieldsL r.fl))
  have h4 : (fieldsL r.fl).length ≤ 20 := by have := fieldsL_len r.fl r.fl.length; rw [List.take_length] at this; omega
  have h5 : (routX ns).length = ns.length := by unfold routX; rw [List.length_map]
  have h6 : (getS r.fl ⟨#[67, 111, 110, 116, 101, 110, 116, 45, 84, 121, 112, 101]⟩).length ≤ r.fl.length := getS_len _ _
  have h7 : (headX nm p cl r sc inf).length ≤ 36 := by
    unfold headX
    simp only [List.length_append, List.length_map]
    have a1 : (if r.bd.toList.isEmpty = true then ([] : List Pr) else [(⟨#[67, 79, 78, 84, 69, 78, 84, 95, 76, 69, 78, 71, 84, 72]⟩, itoaB (r.bd.size : Int))]).length ≤ 1 := by split <;> simp
    have a2 : (if inf.toList.isEmpty = true then ([] : List Pr) else [(⟨#[80, 65, 84, 72, 95, 73, 78, 70, 79]⟩, inf)]).length ≤ 1 := by split <;> simp
    simp only [List.length_cons, List.length_nil]
    omega
  rw [List.length_append, List.length_append] at h3
  simp only [List.length_nil] at h3
  omega
/-! ### the fields -/
theorem findIdx_has {own : List Pr} {n : ByteArray} : (own.findIdx? (fun p => eqB p.1 n) = none ∧ hasN own n = false) ∨ (∃ j, own.findIdx? (fun p => eqB p.1 n) = some j ∧ hasN own n = true) := by
  cases h : own.findIdx? (fun p => eqB p.1 n) with
  | none =>
    refine .inl ⟨rfl, ?_⟩
    rw [List.findIdx?_eq_none_iff] at h
    unfold hasN
    rw [List.any_eq_false]
    intro x hx hc
    rw [h x hx] at hc; cases hc
  | some j =>
    refine .inr ⟨j, rfl, ?_⟩
    rw [List.findIdx?_eq_some_iff_getElem] at h
    obtain ⟨hj, h1, _⟩ := h
    unfold hasN
    rw [List.any_eq_true]
    exact ⟨own[j], List.getElem_mem hj, h1⟩
end Go.Proofs.YtdlignhlliellaaDoor
