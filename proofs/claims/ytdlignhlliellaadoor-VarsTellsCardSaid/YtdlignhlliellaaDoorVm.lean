/- vars.rows.fields, plainly: fields of one name put together; a map of names tells their places. -/
import Derived.Test.YtdlignhlliellaaDoorVu
import Derived.Maps.OwnSet
import Derived.Maps.OwnOps
namespace Go.Proofs.YtdlignhlliellaaDoor
set_option linter.unusedVariables false
set_option linter.unusedSimpArgs false
open Go.RowKit

def nmB (s : ByteArray) : ByteArray := ⟨#[72, 84, 84, 80, 95]⟩ ++ greatB s
def sepB (n : ByteArray) : ByteArray := if eqB n ⟨#[72, 84, 84, 80, 95, 67, 79, 79, 75, 73, 69]⟩ then ⟨#[59, 32]⟩ else ⟨#[44, 32]⟩
def addF (own : List Pr) (n v : ByteArray) : List Pr := match own.findIdx? (fun p => eqB p.1 n) with
  | some i => own.modify i (fun p => (p.1, p.2 ++ (sepB n ++ v)))
  | none => own ++ [(n, v)]
def stepF (own : List Pr) (f : Pr) : List Pr := if isKept f.1 then own else addF own (nmB f.1) f.2
def fieldsL (l : List Pr) : List Pr := l.foldl stepF []
theorem fieldsL_snoc (l : List Pr) (f : Pr) : fieldsL (l ++ [f]) = stepF (fieldsL l) f := by unfold fieldsL; rw [List.foldl_append]; rfl
def kS (s : ByteArray) : Lit := .string s.data.toList
theorem kS_inj {a b : ByteArray} (h : kS a = kS b) : a = b := by
  unfold kS at h
  injection h with h
  exact L_inj h
structure Idx (D : DataW Unit) (own : List Pr) : Prop where
  isMap : Maps.IsMap D
  nd : (own.map (·.1)).Nodup
  yes : ∀ j (h : j < own.length), Maps.has D (kS own[j].1) = true ∧ D.atKey (kS own[j].1) (.lit (.int .i64 0)) = .lit (.int .i64 (j : Int))
  no : ∀ n, hasN own n = false → Maps.has D (kS n) = false
theorem Idx.nil : Idx (.map []) [] := ⟨⟨[], rfl⟩, List.nodup_nil, fun j h => absurd h (by simp), fun _ _ => rfl⟩
theorem Idx.same {D : DataW Unit} {own own' : List Pr} (h : Idx D own) (e : own'.map (·.1) = own.map (·.1)) : Idx D own' := by
  have hl : own'.length = own.length := by have := congrArg List.length e; simpa using this
  have hat : ∀ j (h1 : j < own'.length) (h2 : j < own.length), own'[j].1 = own[j].1 := fun j h1 h2 => by
    have h3 : (own'.map (·.1))[j]? = (own.map (·.1))[j]? := by rw [e]
    simpa [h1, h2] using h3
  refine ⟨h.isMap, by rw [e]; exact h.nd, fun j hj => ?_, fun n hn => h.no n ?_⟩
  · rw [hat j hj (by omega)]; exact h.yes j (by omega)
  · have e1 : ∀ l : List Pr, hasN l n = (l.map (·.1)).any (fun x => eqB x n) := fun l => by unfold hasN; rw [List.any_map]; rfl
    rw [e1] at hn ⊢
    rw [← e]; exact hn
theorem kS_key (n : ByteArray) : WideAt.IsKeyLit (kS n) := by unfold kS; trivial
theorem Idx.put {D : DataW Unit} {own : List Pr} (h : Idx D own) (n v : ByteArray) (hn : hasN own n = false) : Idx (D.put (kS n) (.lit (.int .i64 (own.length : Int)))) (own ++ [(n, v)]) := by
  have hne : ∀ j (hj : j < own.length), kS own[j].1 ≠ kS n := fun j hj e => by
    unfold hasN at hn
    rw [List.any_eq_false] at hn
    exact hn own[j] (List.getElem_mem hj) (by rw [kS_inj e]; exact eqB_refl n)
  refine ⟨?_, ?_, fun j hj => ?_, fun m hm => ?_⟩
  · obtain ⟨es, rfl⟩ := h.isMap; exact ⟨_, rfl⟩
  · have := addL_nodup (n := n) (v := v) h.nd
    unfold addL at this
    rw [hn, if_neg (by decide)] at this
    exact this
  · by_cases hj2 : j < own.length
    · rw [List.getElem_append_left hj2]
      rw [Maps.has_put_other (hne j hj2), Maps.atKey_put_other (hne j hj2)]
      exact h.yes j hj2
    · have ej : j = own.length := by rw [List.length_append, List.length_singleton] at hj; omega
      subst ej
      rw [List.getElem_append_right (Nat.le_refl _)]
      simp only [Nat.sub_self, List.getElem_singleton]
      exact ⟨Maps.has_put_same h.isMap (kS_key n) _, Maps.atKey_put_same h.isMap (kS_key n) _ _⟩
  · unfold hasN at hm
    rw [List.any_append, Bool.or_eq_false_iff] at hm
    have hmn : kS m ≠ kS n := fun e => by
      have h2 := hm.2
      rw [kS_inj e] at h2
      simp [eqB_refl] at h2
    rw [Maps.has_put_other hmn]
    exact h.no m hm.1
end Go.Proofs.YtdlignhlliellaaDoor
