/- The law of VarsTells, plainly: a row that rises by names is the only one that tells what it tells. -/
import Derived.Test.YtdlignhlliellaaDoorWPm
import Derived.Test.YtdlignhlliellaaDoorWO
namespace Go.Proofs.YtdlignhlliellaaDoor
set_option linter.unusedVariables false
set_option linter.unusedSimpArgs false
open Go.RowKit

/-! ### rows that rise strictly by names -/
abbrev SS (l : List Pr) : Prop := l.Pairwise fun x y => cmpP x y < 0
theorem cmp_name (a b : ByteArray) (u v : ByteArray) : cmpP (a, u) (b, v) = Lib.compareBytes a.data.toList b.data.toList := rfl
theorem cmpP_neg (x y : Pr) : cmpP y x = - cmpP x y := cmp_neg _ _
theorem gt_iff {p : Pr} {n v : ByteArray} (he : eqB p.1 n = false) : (gtB p.1 n = true ↔ cmpP (n, v) p < 0) ∧ (gtB p.1 n = false ↔ cmpP p (n, v) < 0) := by
  have h0 : cmpP (n, v) p = - cmpP p (n, v) := cmpP_neg _ _
  have h1 : gtB p.1 n = !decide (cmpP p (n, v) < 0) := by
    unfold gtB
    have : (p.1.toList == n.toList) = false := he
    rw [this, toList_data, toList_data, bless_eq]; simp; rfl
  have h2 : cmpP p (n, v) ≠ 0 := fun h => by
    have := cmp_eq0 _ _ h
    rw [eqB_no] at he
    apply he
    cases hp : p.1; cases n
    rw [hp] at this
    exact congrArg _ (Array.toList_inj.1 this)
  rw [h1]
  constructor
  · simp; omega
  · simp
theorem putL_mem {l : List Pr} {n v : ByteArray} : ∀ {y : Pr}, y ∈ putL l n v → y ∈ l ∨ y = (n, v) := by
  induction l with
  | nil => intro y h; exact .inr (List.mem_singleton.1 h)
  | cons p l ih =>
    intro y h
    unfold putL at h
    split at h
    · exact .inl h
    · split at h
      · rcases List.mem_cons.1 h with h | h
        · exact .inr h
        · exact .inl h
      · rcases List.mem_cons.1 h with h | h
        · exact .inl (h ▸ List.mem_cons_self)
        · rcases ih h with h | h
          · exact .inl (List.mem_cons_of_mem _ h)
          · exact .inr h
theorem SS.put {l : List Pr} (n v : ByteArray) (h : SS l) : SS (putL l n v) := by
  induction l with
  | nil => exact List.pairwise_singleton _ _
  | cons p l ih =>
    obtain ⟨h1, h2⟩ := List.pairwise_cons.1 h
    unfold putL
    cases he : eqB p.1 n
    · obtain ⟨g1, g2⟩ := gt_iff (v := v) he
      cases hg : gtB p.1 n
      · rw [if_neg (by decide), if_neg (by decide)]
        refine List.pairwise_cons.2 ⟨fun y hy => ?_, ih h2⟩
        rcases putL_mem hy with hy | hy
        · exact h1 y hy
        · rw [hy]; exact g2.1 hg
      · rw [if_neg (by decide), if_pos rfl]
        refine List.pairwise_cons.2 ⟨fun y hy => ?_, h⟩
        rcases List.mem_cons.1 hy with hy | hy
        · rw [hy]; exact g1.1 hg
        · exact lt_of_le_lt (leP_lt (g1.1 hg)) (h1 y hy)
    · rw [if_pos rfl]; exact h
theorem name_of_cmp {x y : Pr} (h : cmpP x y < 0) : eqB x.1 y.1 = false := by
  rw [eqB_no]
  intro e
  have : cmpP x y = 0 := by unfold cmpP; rw [e]; exact cmp_self _
  omega
theorem getV_put {l : List Pr} (h : SS l) (n v k : ByteArray) : getV (putL l n v) k = (getV l k).or (if eqB n k then some v else none) := by
  induction l with
  | nil => unfold putL; rw [getV_cons, getV_nil]; cases eqB n k <;> rfl
  | cons p l ih =>
    obtain ⟨h1, h2⟩ := List.pairwise_cons.1 h
    obtain ⟨a, u⟩ := p
    unfold putL
    cases he : eqB a n
    · rw [if_neg (by simp [he])]
      cases hg : gtB a n
      · rw [if_neg (by simp [hg]), getV_cons, getV_cons, ih h2]
        cases eqB a k <;> simp
      · rw [if_pos (by simp [hg]), getV_cons]
        cases hk : eqB n k
        · rw [if_neg (by decide)]; simp
        · rw [if_pos rfl]
          rw [eqB_iff] at hk
          subst hk
          have hno : getV ((a, u) :: l) n = none := by
            refine getV_none ?_
            unfold hasN
            rw [List.any_eq_false]
            intro y hy hc
            have hlt : cmpP (n, v) (a, u) < 0 := ((gt_iff (p := (a, u)) (v := v) he).1).1 hg
            have : cmpP (n, v) y < 0 := by
              rcases List.mem_cons.1 hy with hy | hy
              · rw [hy]; exact hlt
              · exact lt_of_le_lt (leP_lt hlt) (h1 y hy)
            have := name_of_cmp this
            rw [eqB_symm] at this
            simp only at this hc
            rw [this] at hc; cases hc
          rw [hno]; simp
    · rw [if_pos (by simp [he])]
      rw [eqB_iff] at he
      subst he
      rw [getV_cons]
      cases eqB a k <;> simp
def putsL (l xs : List Pr) : List Pr := xs.foldl (fun a p => putL a p.1 p.2) l
theorem putsL_app (l a b : List Pr) : putsL l (a ++ b) = putsL (putsL l a) b := by unfold putsL; rw [List.foldl_append]
theorem puts_ok : ∀ (xs : List Pr) {l : List Pr}, SS l → SS (putsL l xs) ∧ ∀ k, getV (putsL l xs) k = (getV l k).or (getV xs k)
  | [], l, h => ⟨h, fun k => by show getV l k = _; rw [getV_nil]; simp⟩
  | (n, v) :: xs, l, h => by
    obtain ⟨h1, h2⟩ := puts_ok xs (h.put n v)
    refine ⟨h1, fun k => ?_⟩
    show getV (putsL (putL l n v) xs) k = _
    rw [h2, getV_put h, getV_cons]
    cases getV l k <;> cases eqB n k <;> simp
theorem SS.nd {l : List Pr} (h : SS l) : Nd l := by
  induction l with
  | nil => exact List.nodup_nil
  | cons p l ih =>
    obtain ⟨h1, h2⟩ := List.pairwise_cons.1 h
    refine List.nodup_cons.2 ⟨fun hm => ?_, ih h2⟩
    obtain ⟨y, hy, e⟩ := List.mem_map.1 hm
    have := name_of_cmp (h1 y hy)
    rw [eqB_no] at this
    exact this e.symm
theorem SS.nodup {l : List Pr} (h : SS l) : l.Nodup := List.Pairwise.imp (fun {a b} hab e => by subst e; unfold cmpP at hab; rw [cmp_self] at hab; omega) h
theorem SS.eq_ {a b : List Pr} (ha : SS a) (hb : SS b) (h : ∀ k, getV a k = getV b k) : a = b := by
  have hp : a.Perm b := by
    rw [List.perm_ext_iff_of_nodup ha.nodup hb.nodup]
    intro ⟨n, v⟩
    constructor
    · intro hm; have := mem_getV ha.nd hm; rw [h] at this; exact getV_mem this
    · intro hm; have := mem_getV hb.nd hm; rw [← h] at this; exact getV_mem this
  exact hp.eq_of_pairwise (fun x y _ _ h1 h2 => by have := cmpP_neg x y; omega) ha hb
theorem srt_SS {l : List Pr} (hs : Srt l) (hd : Nd l) : SS l := List.pairwise_iff_getElem.2 fun i j hi hj hij => srt_lt hs hd hj hij
/-! ### the fields of both sides -/
theorem addF_nil (n v : ByteArray) : addF [] n v = [(n, v)] := rfl
theorem addF_cons (p : Pr) (own : List Pr) (n v : ByteArray) : addF (p :: own) n v = if eqB p.1 n then (p.1, p.2 ++ (sepB n ++ v)) :: own else p :: addF own n v := by
  unfold addF
  rw [List.findIdx?_cons]
  cases he : eqB p.1 n
  · rw [if_neg (by decide), if_neg (by decide)]
    cases hf : List.findIdx? (fun p => eqB p.1 n) own with
    | none => rfl
    | some j => simp [List.modify_succ_cons]
  · rw [if_pos rfl, if_pos rfl]; rfl
theorem getV_addF (own : List Pr) (n v k : ByteArray) : getV (addF own n v) k = if eqB n k then some (match getV own k with | none => v | some u => u ++ (sepB n ++ v)) else getV own k := by
  induction own with
  | nil => rw [addF_nil, getV_cons, getV_nil]
  | cons p own ih =>
    obtain ⟨a, u⟩ := p
    rw [addF_cons]
    cases he : eqB a n
    · rw [if_neg (by simp [he]), getV_cons, getV_cons, ih]
      cases hk : eqB n k
      · simp
      · rw [eqB_iff] at hk; subst hk
        rw [he]; simp
    · rw [if_pos (by simp [he])]
      rw [eqB_iff] at he
      subst he
      rw [getV_cons, getV_cons]
      cases hk : eqB a k
      · simp
      · simp
theorem getV_fields (fl : List Pr) (N : ByteArray) : getV (fieldsL fl) N = jnS fl N none := by
  induction fl using list_snoc_ind with
  | h0 => rfl
  | h1 l f ih =>
    rw [fieldsL_snoc, jnS_snoc, ← ih]
    unfold stepF jnP
    cases hk : isKept f.1
    · rw [if_neg (by decide), getV_addF]
      cases he : eqB (nmB f.1) N
      · simp
      · have := eqB_iff.1 he
        simp only [Bool.not_true, Bool.or_false, Bool.false_eq_true, if_false, if_true, this]
        cases getV (fieldsL l) N <;> rfl
    · simp
def gX (all fl : List Pr) : List Pr := (fl.filter fun f => !(isKept f.1)).map fun f => (nmB f.1, jnV (jnS all (nmB f.1) none))
theorem refF_eq (all fl l : List Pr) : refF all fl l = putsL l (gX all fl) := by
  induction fl generalizing l with
  | nil => rfl
  | cons f fl ih =>
    show refF all fl (if isKept f.1 then l else putL l (nmB f.1) (jnV (jnS all (nmB f.1) none))) = _
    unfold gX
    cases hk : isKept f.1
    · rw [List.filter_cons_of_pos (by simp [hk]), List.map_cons]
      exact ih _
    · rw [List.filter_cons_of_neg (by simp [hk])]
      exact ih _
def anyN (fl : List Pr) (N : ByteArray) : Bool := fl.any fun f => !(isKept f.1) && eqB (nmB f.1) N
theorem jnS_some (l : List Pr) (N : ByteArray) (a : Option ByteArray) : (jnS l N a).isSome = (a.isSome || anyN l N) := by
  induction l using list_snoc_ind with
  | h0 => simp [jnS, anyN]
  | h1 l f ih =>
    rw [jnS_snoc]
    unfold anyN at ih ⊢
    rw [List.any_append]
    unfold jnP
    cases hk : isKept f.1 <;> cases he : eqB (nmB f.1) N <;> simp [ih, hk, he]
theorem getV_gX (all fl : List Pr) (N : ByteArray) : getV (gX all fl) N = if anyN fl N then some (jnV (jnS all N none)) else none := by
  induction fl with
  | nil => rfl
  | cons f fl ih =>
    have hany : anyN (f :: fl) N = ((!(isKept f.1) && eqB (nmB f.1) N) || anyN fl N) := by unfold anyN; rw [List.any_cons]
    rw [hany]
    cases hk : isKept f.1
    · have hg : gX all (f :: fl) = (nmB f.1, jnV (jnS all (nmB f.1) none)) :: gX all fl := by unfold gX; rw [List.filter_cons_of_pos (by simp [hk]), List.map_cons]
      rw [hg, getV_cons, ih]
      cases he : eqB (nmB f.1) N
      · rfl
      · rw [eqB_iff] at he
        rw [he]; rfl
    · have hg : gX all (f :: fl) = gX all fl := by unfold gX; rw [List.filter_cons_of_neg (by simp [hk])]
      rw [hg, ih]; rfl
theorem fields_same (fl : List Pr) (N : ByteArray) : getV (gX fl fl) N = getV (fieldsL fl) N := by
  rw [getV_gX, getV_fields]
  have := jnS_some fl N none
  cases h : jnS fl N none with
  | none => rw [h] at this; simp at this; rw [this]; rfl
  | some x => rw [h] at this; simp at this; rw [this]; rfl
/-! ### the head -/
def headR (nm : ByteArray) (p cl : Int) (r : Req) (sc inf : ByteArray) : List Pr :=
  (if r.bd.toList.isEmpty then [] else [(⟨#[67, 79, 78, 84, 69, 78, 84, 95, 76, 69, 78, 71, 84, 72]⟩, itoaB (r.bd.size : Int))]) ++ ((match getS r.fl ⟨#[99, 111, 110, 116, 101, 110, 116, 45, 116, 121, 112, 101]⟩ with | [] => [] | v :: _ => [(⟨#[67, 79, 78, 84, 69, 78, 84, 95, 84, 89, 80, 69]⟩, v)]) ++ ((if inf.toList.isEmpty then [] else [(⟨#[80, 65, 84, 72, 95, 73, 78, 70, 79]⟩, inf)]) ++ [(⟨#[71, 65, 84, 69, 87, 65, 89, 95, 73, 78, 84, 69, 82, 70, 65, 67, 69]⟩, ⟨#[67, 71, 73, 47, 49, 46, 49]⟩), (⟨#[81, 85, 69, 82, 89, 95, 83, 84, 82, 73, 78, 71]⟩, (cutS r.tg 63).2.1), (⟨#[82, 69, 77, 79, 84, 69, 95, 65, 68, 68, 82]⟩, ⟨#[49, 48, 46, 48, 46, 48, 46]⟩ ++ itoaB (cl + 1)), (⟨#[82, 69, 81, 85, 69, 83, 84, 95, 77, 69, 84, 72, 79, 68]⟩, r.m), (⟨#[82, 69, 81, 85, 69, 83, 84, 95, 85, 82, 73]⟩, r.tg), (⟨#[83, 67, 82, 73, 80, 84, 95, 78, 65, 77, 69]⟩, sc), (⟨#[83, 69, 82, 86, 69, 82, 95, 78, 65, 77, 69]⟩, serverS nm r.fl), (⟨#[83, 69, 82, 86, 69, 82, 95, 80, 79, 82, 84]⟩, itoaB p), (⟨#[83, 69, 82, 86, 69, 82, 95, 80, 82, 79, 84, 79, 67, 79, 76]⟩, ⟨#[72, 84, 84, 80, 47, 49, 46]⟩ ++ itoaB r.mn), (⟨#[83, 69, 82, 86, 69, 82, 95, 83, 79, 70, 84, 87, 65, 82, 69]⟩, ⟨#[99, 111, 110, 100, 117, 105, 116]⟩)]))
theorem getS_lower (l : List Pr) {a b : ByteArray} (h : lowB a = lowB b) : getS l a = getS l b := by unfold getS; rw [h]
theorem ct_low : lowB ⟨#[99, 111, 110, 116, 101, 110, 116, 45, 116, 121, 112, 101]⟩ = lowB ⟨#[67, 111, 110, 116, 101, 110, 116, 45, 84, 121, 112, 101]⟩ := by kernel_rfl
theorem getV_ct (vs : List ByteArray) (k : ByteArray) : getV (vs.map fun v => (⟨#[67, 79, 78, 84, 69, 78, 84, 95, 84, 89, 80, 69]⟩, v)) k = getV (match vs with | [] => ([] : List Pr) | v :: _ => [(⟨#[67, 79, 78, 84, 69, 78, 84, 95, 84, 89, 80, 69]⟩, v)]) k := by
  cases vs with
  | nil => rfl
  | cons v vs =>
    rw [List.map_cons, getV_cons]
    show _ = getV [(⟨#[67, 79, 78, 84, 69, 78, 84, 95, 84, 89, 80, 69]⟩, v)] k
    rw [getV_cons]
    cases h : eqB ⟨#[67, 79, 78, 84, 69, 78, 84, 95, 84, 89, 80, 69]⟩ k
    · rw [if_neg (by decide), if_neg (by decide), getV_const vs h]; rfl
    · rfl
theorem head_same (nm : ByteArray) (p cl : Int) (r : Req) (sc inf k : ByteArray) : getV (headR nm p cl r sc inf) k = getV (headX nm p cl r sc inf) k := by
  unfold headR headX
  rw [getS_lower r.fl ct_low]
  simp only [getV_app]
  rw [getV_ct]
  congr 2
  have hne : eqB ⟨#[71, 65, 84, 69, 87, 65, 89, 95, 73, 78, 84, 69, 82, 70, 65, 67, 69]⟩ ⟨#[80, 65, 84, 72, 95, 73, 78, 70, 79]⟩ = false := by rw [eqE_eq]; kernel_rfl
  simp only [getV_cons, getV_nil]
  cases hg : eqB ⟨#[71, 65, 84, 69, 87, 65, 89, 95, 73, 78, 84, 69, 82, 70, 65, 67, 69]⟩ k
  · simp
  · have hk := eqB_iff.1 hg
    have hp : getV (if inf.toList.isEmpty = true then ([] : List Pr) else [(⟨#[80, 65, 84, 72, 95, 73, 78, 70, 79]⟩, inf)]) k = none := by
      refine getV_if ?_
      rw [← hk, eqB_symm]; exact hne
    rw [hp]; simp
def varsR (nm : ByteArray) (p cl : Int) (r : Req) (sc inf : ByteArray) (ns : List Pr) : List Pr := refF r.fl r.fl (putsL (putsL [] (headR nm p cl r sc inf)) (routX ns))
theorem tells_law {nm : ByteArray} {p cl : Int} {r : Req} {sc inf : ByteArray} {ns l : List Pr} (hp : l.Perm (buildL nm p cl r sc inf ns)) (hs : Srt l) : l = varsR nm p cl r sc inf ns := by
  have hss := srt_SS hs (vo_nd hp)
  have e : varsR nm p cl r sc inf ns = putsL [] (headR nm p cl r sc inf ++ (routX ns ++ gX r.fl r.fl)) := by
    unfold varsR; rw [refF_eq, putsL_app, putsL_app]
  rw [e]
  obtain ⟨h1, h2⟩ := puts_ok (headR nm p cl r sc inf ++ (routX ns ++ gX r.fl r.fl)) (l := []) List.Pairwise.nil
  refine hss.eq_ h1 fun k => ?_
  rw [h2, vo_get hp, getV_nil, getV_app, getV_app, head_same, fields_same]
  simp [Option.or_assoc]
end Go.Proofs.YtdlignhlliellaaDoor
