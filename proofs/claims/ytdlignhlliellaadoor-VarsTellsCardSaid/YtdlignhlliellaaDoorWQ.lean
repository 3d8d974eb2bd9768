/- What VarsOrder says of Build's variables, plainly. -/
import Derived.Test.YtdlignhlliellaaDoorWP
import Derived.Test.YtdlignhlliellaaDoorWG
namespace Go.Proofs.YtdlignhlliellaaDoor
set_option linter.unusedVariables false
set_option linter.unusedSimpArgs false
open Go.RowKit

theorem stepF_names {own : List Pr} {f p : Pr} (h : p ∈ stepF own f) : (∃ q ∈ own, q.1 = p.1) ∨ (isKept f.1 = false ∧ p.1 = nmB f.1) := by
  unfold stepF at h
  cases hk : isKept f.1
  · rw [hk, if_neg (by decide)] at h
    unfold addF at h
    split at h
    · left
      obtain ⟨j, hj, e⟩ := List.getElem_of_mem h
      rw [List.getElem_modify] at e
      have hj' : j < own.length := by simpa using hj
      refine ⟨own[j], List.getElem_mem hj', ?_⟩
      split at e <;> rw [← e]
    · rcases List.mem_append.1 h with h | h
      · exact .inl ⟨p, h, rfl⟩
      · rw [List.mem_singleton] at h
        subst h
        exact .inr ⟨rfl, rfl⟩
  · rw [hk, if_pos rfl] at h
    exact .inl ⟨p, h, rfl⟩
theorem fieldsL_names (fl : List Pr) : ∀ p ∈ fieldsL fl, ∃ f ∈ fl, isKept f.1 = false ∧ p.1 = nmB f.1 := by
  induction fl using list_snoc_ind with
  | h0 => intro p hp; cases hp
  | h1 l a ih =>
    intro p hp
    rw [fieldsL_snoc] at hp
    rcases stepF_names hp with ⟨q, hq, e⟩ | ⟨h1, h2⟩
    · obtain ⟨f, hf, h1, h2⟩ := ih q hq
      exact ⟨f, List.mem_append_left _ hf, h1, by rw [← e]; exact h2⟩
    · exact ⟨a, List.mem_append_right _ (List.mem_singleton.2 rfl), h1, h2⟩
theorem kept_ne {s x : ByteArray} (h : isKept s = false) (hx : x ∈ keptL) : eqB (lowB s) x = false := by
  unfold isKept hasB at h
  rw [List.any_eq_false] at h
  cases hq : eqB (lowB s) x
  · rfl
  · exact absurd hq (h x hx)
theorem getV_const (vs : List ByteArray) {n k : ByteArray} (h : eqB n k = false) : getV (vs.map fun v => (n, v)) k = none := by
  induction vs with
  | nil => rfl
  | cons v vs ih => rw [List.map_cons, getV_cons, h]; simpa using ih
theorem getV_if {c : Prop} [Decidable c] {n v k : ByteArray} (h : eqB n k = false) : getV (if c then [] else [(n, v)]) k = none := by
  split
  · rfl
  · rw [getV_cons, h]; rfl
theorem route_ne (x k : ByteArray) (h : (L k).take 1 ≠ [82]) : eqB (⟨#[82, 79, 85, 84, 69, 95]⟩ ++ x) k = false := by
  rw [eqB_no]
  intro e
  apply h
  rw [← e, L_app]
  rfl
theorem getV_rout (ns : List Pr) (k : ByteArray) (h : (L k).take 1 ≠ [82]) : getV (routX ns) k = none := by
  unfold routX
  induction ns with
  | nil => rfl
  | cons p ns ih => rw [List.map_cons, getV_cons, route_ne _ _ h]; simpa using ih
theorem getV_head_none (nm : ByteArray) (p cl : Int) (r : Req) (sc inf k : ByteArray) (h : [⟨#[67, 79, 78, 84, 69, 78, 84, 95, 76, 69, 78, 71, 84, 72]⟩, ⟨#[67, 79, 78, 84, 69, 78, 84, 95, 84, 89, 80, 69]⟩, ⟨#[71, 65, 84, 69, 87, 65, 89, 95, 73, 78, 84, 69, 82, 70, 65, 67, 69]⟩, ⟨#[80, 65, 84, 72, 95, 73, 78, 70, 79]⟩, ⟨#[81, 85, 69, 82, 89, 95, 83, 84, 82, 73, 78, 71]⟩, ⟨#[82, 69, 77, 79, 84, 69, 95, 65, 68, 68, 82]⟩, ⟨#[82, 69, 81, 85, 69, 83, 84, 95, 77, 69, 84, 72, 79, 68]⟩, ⟨#[82, 69, 81, 85, 69, 83, 84, 95, 85, 82, 73]⟩, ⟨#[83, 67, 82, 73, 80, 84, 95, 78, 65, 77, 69]⟩, ⟨#[83, 69, 82, 86, 69, 82, 95, 78, 65, 77, 69]⟩, ⟨#[83, 69, 82, 86, 69, 82, 95, 80, 79, 82, 84]⟩, ⟨#[83, 69, 82, 86, 69, 82, 95, 80, 82, 79, 84, 79, 67, 79, 76]⟩, ⟨#[83, 69, 82, 86, 69, 82, 95, 83, 79, 70, 84, 87, 65, 82, 69]⟩].any (fun x => eqB x k) = false) : getV (headX nm p cl r sc inf) k = none := by
  simp only [List.any_cons, List.any_nil, Bool.or_false, Bool.or_eq_false_iff] at h
  obtain ⟨h1, h2, h3, h4, h5, h6, h7, h8, h9, h10, h11, h12, h13⟩ := h
  unfold headX
  rw [getV_app, getV_app, getV_app, getV_app, getV_if h1, getV_const _ h2, getV_if h4]
  simp only [getV_cons, h3, h5, h6, h7, h8, h9, h10, h11, h12, h13, getV_nil]
  rfl
theorem getV_method (nm : ByteArray) (p cl : Int) (r : Req) (sc inf : ByteArray) : getV (headX nm p cl r sc inf) ⟨#[82, 69, 81, 85, 69, 83, 84, 95, 77, 69, 84, 72, 79, 68]⟩ = some r.m := by
  unfold headX
  rw [getV_app, getV_app, getV_app, getV_app, getV_if (by rw [eqE_eq]; kernel_rfl), getV_const _ (by rw [eqE_eq]; kernel_rfl), getV_if (by rw [eqE_eq]; kernel_rfl)]
  have e1 : eqB ⟨#[71, 65, 84, 69, 87, 65, 89, 95, 73, 78, 84, 69, 82, 70, 65, 67, 69]⟩ ⟨#[82, 69, 81, 85, 69, 83, 84, 95, 77, 69, 84, 72, 79, 68]⟩ = false := by rw [eqE_eq]; kernel_rfl
  have e2 : eqB ⟨#[81, 85, 69, 82, 89, 95, 83, 84, 82, 73, 78, 71]⟩ ⟨#[82, 69, 81, 85, 69, 83, 84, 95, 77, 69, 84, 72, 79, 68]⟩ = false := by rw [eqE_eq]; kernel_rfl
  have e3 : eqB ⟨#[82, 69, 77, 79, 84, 69, 95, 65, 68, 68, 82]⟩ ⟨#[82, 69, 81, 85, 69, 83, 84, 95, 77, 69, 84, 72, 79, 68]⟩ = false := by rw [eqE_eq]; kernel_rfl
  simp only [getV_cons, e1, e2, e3, eqB_refl, getV_nil]
  rfl
theorem getV_software (nm : ByteArray) (p cl : Int) (r : Req) (sc inf : ByteArray) : getV (headX nm p cl r sc inf) ⟨#[83, 69, 82, 86, 69, 82, 95, 83, 79, 70, 84, 87, 65, 82, 69]⟩ = some ⟨#[99, 111, 110, 100, 117, 105, 116]⟩ := by
  unfold headX
  rw [getV_app, getV_app, getV_app, getV_app, getV_if (by rw [eqE_eq]; kernel_rfl), getV_const _ (by rw [eqE_eq]; kernel_rfl), getV_if (by rw [eqE_eq]; kernel_rfl)]
  have e1 : eqB ⟨#[71, 65, 84, 69, 87, 65, 89, 95, 73, 78, 84, 69, 82, 70, 65, 67, 69]⟩ ⟨#[83, 69, 82, 86, 69, 82, 95, 83, 79, 70, 84, 87, 65, 82, 69]⟩ = false := by rw [eqE_eq]; kernel_rfl
  have e2 : eqB ⟨#[81, 85, 69, 82, 89, 95, 83, 84, 82, 73, 78, 71]⟩ ⟨#[83, 69, 82, 86, 69, 82, 95, 83, 79, 70, 84, 87, 65, 82, 69]⟩ = false := by rw [eqE_eq]; kernel_rfl
  have e3 : eqB ⟨#[82, 69, 77, 79, 84, 69, 95, 65, 68, 68, 82]⟩ ⟨#[83, 69, 82, 86, 69, 82, 95, 83, 79, 70, 84, 87, 65, 82, 69]⟩ = false := by rw [eqE_eq]; kernel_rfl
  have e4 : eqB ⟨#[82, 69, 81, 85, 69, 83, 84, 95, 77, 69, 84, 72, 79, 68]⟩ ⟨#[83, 69, 82, 86, 69, 82, 95, 83, 79, 70, 84, 87, 65, 82, 69]⟩ = false := by rw [eqE_eq]; kernel_rfl
  have e5 : eqB ⟨#[82, 69, 81, 85, 69, 83, 84, 95, 85, 82, 73]⟩ ⟨#[83, 69, 82, 86, 69, 82, 95, 83, 79, 70, 84, 87, 65, 82, 69]⟩ = false := by rw [eqE_eq]; kernel_rfl
  have e6 : eqB ⟨#[83, 67, 82, 73, 80, 84, 95, 78, 65, 77, 69]⟩ ⟨#[83, 69, 82, 86, 69, 82, 95, 83, 79, 70, 84, 87, 65, 82, 69]⟩ = false := by rw [eqE_eq]; kernel_rfl
  have e7 : eqB ⟨#[83, 69, 82, 86, 69, 82, 95, 78, 65, 77, 69]⟩ ⟨#[83, 69, 82, 86, 69, 82, 95, 83, 79, 70, 84, 87, 65, 82, 69]⟩ = false := by rw [eqE_eq]; kernel_rfl
  have e8 : eqB ⟨#[83, 69, 82, 86, 69, 82, 95, 80, 79, 82, 84]⟩ ⟨#[83, 69, 82, 86, 69, 82, 95, 83, 79, 70, 84, 87, 65, 82, 69]⟩ = false := by rw [eqE_eq]; kernel_rfl
  have e9 : eqB ⟨#[83, 69, 82, 86, 69, 82, 95, 80, 82, 79, 84, 79, 67, 79, 76]⟩ ⟨#[83, 69, 82, 86, 69, 82, 95, 83, 79, 70, 84, 87, 65, 82, 69]⟩ = false := by rw [eqE_eq]; kernel_rfl
  simp only [getV_cons, e1, e2, e3, e4, e5, e6, e7, e8, e9, eqB_refl, getV_nil]
  rfl
section
variable {nm : ByteArray} {p cl : Int} {r : Req} {sc inf : ByteArray} {ns l : List Pr}
theorem vo_get (hp : l.Perm (buildL nm p cl r sc inf ns)) (k : ByteArray) : getV l k = ((getV (headX nm p cl r sc inf) k).or (getV (routX ns) k)).or (getV (fieldsL r.fl) k) :=
  (getV_perm hp (buildL_nd _ _ _ _ _ _ _) k).trans (getV_build _ _ _ _ _ _ _ k)
theorem vo_nd (hp : l.Perm (buildL nm p cl r sc inf ns)) : Nd l := ((hp.map _).nodup_iff).2 (buildL_nd _ _ _ _ _ _ _)
theorem vo_method (hp : l.Perm (buildL nm p cl r sc inf ns)) : getV l ⟨#[82, 69, 81, 85, 69, 83, 84, 95, 77, 69, 84, 72, 79, 68]⟩ = some r.m := by rw [vo_get hp, getV_method]; rfl
theorem vo_software (hp : l.Perm (buildL nm p cl r sc inf ns)) : getV l ⟨#[83, 69, 82, 86, 69, 82, 95, 83, 79, 70, 84, 87, 65, 82, 69]⟩ = some ⟨#[99, 111, 110, 100, 117, 105, 116]⟩ := by rw [vo_get hp, getV_software]; rfl
theorem vo_given {x N : ByteArray} (hp : l.Perm (buildL nm p cl r sc inf ns)) (hx : x ∈ keptL) (hN : nmB x = N) (hR : (L N).take 1 ≠ [82])
    (hh : [⟨#[67, 79, 78, 84, 69, 78, 84, 95, 76, 69, 78, 71, 84, 72]⟩, ⟨#[67, 79, 78, 84, 69, 78, 84, 95, 84, 89, 80, 69]⟩, ⟨#[71, 65, 84, 69, 87, 65, 89, 95, 73, 78, 84, 69, 82, 70, 65, 67, 69]⟩, ⟨#[80, 65, 84, 72, 95, 73, 78, 70, 79]⟩, ⟨#[81, 85, 69, 82, 89, 95, 83, 84, 82, 73, 78, 71]⟩, ⟨#[82, 69, 77, 79, 84, 69, 95, 65, 68, 68, 82]⟩, ⟨#[82, 69, 81, 85, 69, 83, 84, 95, 77, 69, 84, 72, 79, 68]⟩, ⟨#[82, 69, 81, 85, 69, 83, 84, 95, 85, 82, 73]⟩, ⟨#[83, 67, 82, 73, 80, 84, 95, 78, 65, 77, 69]⟩, ⟨#[83, 69, 82, 86, 69, 82, 95, 78, 65, 77, 69]⟩, ⟨#[83, 69, 82, 86, 69, 82, 95, 80, 79, 82, 84]⟩, ⟨#[83, 69, 82, 86, 69, 82, 95, 80, 82, 79, 84, 79, 67, 79, 76]⟩, ⟨#[83, 69, 82, 86, 69, 82, 95, 83, 79, 70, 84, 87, 65, 82, 69]⟩].any (fun x => eqB x N) = false)
    {i : Nat} (h : i < l.length) (e : l[i].1 = N) : givenL r.fl x = true := by
  have h1 := mem_getV (vo_nd hp) (show (N, l[i].2) ∈ l by rw [← e]; exact List.getElem_mem h)
  rw [vo_get hp, getV_head_none _ _ _ _ _ _ _ hh, getV_rout _ _ hR] at h1
  have h2 : getV (fieldsL r.fl) N = some l[i].2 := by simpa using h1
  obtain ⟨f, hf, hk, hn⟩ := fieldsL_names _ _ (getV_mem h2)
  unfold givenL
  rw [List.any_eq_true]
  refine ⟨f, hf, ?_⟩
  unfold givP
  rw [kept_ne hk hx, ← hn, hN, eqB_refl]
  rfl
theorem vo_proxy (hp : l.Perm (buildL nm p cl r sc inf ns)) {i : Nat} (h : i < l.length) (e : l[i].1 = ⟨#[72, 84, 84, 80, 95, 80, 82, 79, 88, 89]⟩) : givenL r.fl ⟨#[112, 114, 111, 120, 121]⟩ = true :=
  vo_given hp (by simp [keptL]) (by rw [nmE_eq]; kernel_rfl) (by decide) (by rw [eqE_eq]; kernel_rfl) h e
theorem vo_auth (hp : l.Perm (buildL nm p cl r sc inf ns)) {i : Nat} (h : i < l.length) (e : l[i].1 = ⟨#[72, 84, 84, 80, 95, 65, 85, 84, 72, 79, 82, 73, 90, 65, 84, 73, 79, 78]⟩) : givenL r.fl ⟨#[97, 117, 116, 104, 111, 114, 105, 122, 97, 116, 105, 111, 110]⟩ = true :=
  vo_given hp (by simp [keptL]) (by rw [nmE_eq]; kernel_rfl) (by decide) (by rw [eqE_eq]; kernel_rfl) h e
end
theorem cmp_eq0 : ∀ a b : List UInt8, Lib.compareBytes a b = 0 → a = b
  | [], [], _ => rfl
  | [], _ :: _, h => absurd (show (-1 : Int) = 0 from h) (by decide)
  | _ :: _, [], h => absurd (show (1 : Int) = 0 from h) (by decide)
  | x :: a, y :: b, h => by
    rw [cmp_cons] at h
    by_cases h1 : x.toNat < y.toNat
    · rw [if_pos h1] at h; exact absurd h (by decide)
    · rw [if_neg h1] at h
      by_cases h2 : y.toNat < x.toNat
      · rw [if_pos h2] at h; exact absurd h (by decide)
      · rw [if_neg h2] at h
        have e : x = y := UInt8.toNat_inj.1 (by omega)
        rw [e, cmp_eq0 a b h]
theorem leP_antisymm {x y : Pr} (h1 : leP x y) (h2 : leP y x) : x.1 = y.1 := by
  have h3 : cmpP y x = - cmpP x y := cmp_neg _ _
  have h4 : cmpP x y = 0 := by unfold leP at h1 h2; omega
  have := cmp_eq0 _ _ h4
  cases hx : x.1; cases hy : y.1
  rw [hx, hy] at this
  exact congrArg _ (Array.toList_inj.1 this)
theorem srt_lt {l : List Pr} (hs : Srt l) (hd : Nd l) {i j : Nat} (hj : j < l.length) (hij : i < j) : cmpP l[i] l[j] < 0 := by
  have h1 := srt_le hs (show i < l.length by omega) hj (by omega)
  have h2 : cmpP l[i] l[j] ≠ 0 := fun h => by
    have e := leP_antisymm h1 (by unfold leP; rw [show cmpP l[j] l[i] = - cmpP l[i] l[j] from cmp_neg _ _]; omega)
    have hi' : i < (l.map (·.1)).length := by rw [List.length_map]; omega
    have hj' : j < (l.map (·.1)).length := by rw [List.length_map]; omega
    have := (List.getElem_inj (h₀ := hi') (h₁ := hj') hd).1 (by rw [List.getElem_map, List.getElem_map]; exact e)
    omega
  unfold leP at h1
  omega
end Go.Proofs.YtdlignhlliellaaDoor
