/- conduitlaw13.RouteLongest, plainly. -/
import Derived.Test.YtedombigkebpiaaDoorRKnown
import Derived.Laws.AppendOwnNone
namespace Go.Proofs.YtedombigkebpiaaDoor
set_option linter.unusedVariables false
set_option linter.unusedSimpArgs false
open Go.RowKit

def dS : Nat → ByteArray
  | 0 => ⟨#[]⟩
  | k + 1 => dS k ++ ⟨#[47, 100]⟩
theorem dS_size : ∀ k, (dS k).size = k * 2
  | 0 => rfl
  | k + 1 => by have := dS_size k; unfold dS; rw [size_app, this]; show _ + 2 = _; omega
def eD : Nat → List UInt8
  | 0 => []
  | k + 1 => eD k ++ [47, 100]
theorem eD_eq : ∀ k, dS k = mk (eD k)
  | 0 => rfl
  | k + 1 => by unfold dS eD; rw [eD_eq k]; apply L_inj; simp only [L_app, L_mk]
def pD (k : Nat) : ByteArray := if k = 0 then ⟨#[47]⟩ else dS k
def pE (k : Nat) : List UInt8 := if k = 0 then [47] else eD k
theorem pE_eq (k : Nat) : pD k = mk (pE k) := by
  unfold pD pE
  split
  · rfl
  · exact eD_eq k
theorem pD_size (k : Nat) : (pD k).size = if k = 0 then 1 else k * 2 := by
  unfold pD
  split
  · rfl
  · exact dS_size k
def rD (n : Nat) : RV := rv 3 ⟨#[]⟩ (dS n)
def dOk (n k : Nat) : Bool :=
  (match matchE 3 (mk (eD n)) (mk (pE k)) with
  | none => Nat.blt k n
  | some (sc, inf, nm) => Nat.ble n k && eqE sc (mk (eD n)) && (inf.size + 2 * n == 2 * k) && nm.isEmpty) && weightE 3 (mk (eD n)) == n && (!begE (mk (pE k)) (mk (eD n)) || Nat.ble (bareS (mk (eD n))).size (mk (pE k)).size)
theorem dAll : (List.range 6).all (fun n => (List.range 8).all fun k => dOk (n + 1) k) = true := by kernel_rfl
theorem dOne (n k : Nat) (h1 : 1 ≤ n) (h6 : n ≤ 6) (hk : k < 8) : ((k < n ∧ matchS 3 (dS n) (pD k) = none) ∨ (n ≤ k ∧ ∃ inf, matchS 3 (dS n) (pD k) = some (dS n, inf, []) ∧ inf.size + 2 * n = 2 * k)) ∧ weightS 3 (dS n) = n ∧ FitsR (dS n) (pD k) 3 := by
  have h := List.all_eq_true.1 (List.all_eq_true.1 dAll (n - 1) (List.mem_range.2 (by omega))) k (List.mem_range.2 hk)
  rw [Nat.sub_add_cancel h1] at h
  unfold dOk at h
  rw [← eD_eq, ← pE_eq] at h
  simp only [Bool.and_eq_true, beq_iff_eq] at h
  obtain ⟨⟨ha, hw⟩, hf⟩ := h
  refine ⟨?_, by rw [weightE_eq]; exact hw, by rw [dS_size]; omega, by rw [pD_size]; split <;> omega, fun _ hb => ?_⟩
  · rw [matchE_eq]
    cases hc : matchE 3 (dS n) (pD k) with
    | none => rw [hc] at ha; exact .inl ⟨by simpa [Nat.blt_eq] using ha, rfl⟩
    | some t =>
      obtain ⟨sc, inf, nm⟩ := t
      rw [hc] at ha
      simp only [Bool.and_eq_true, Nat.ble_eq, beq_iff_eq, ← eqE_eq, eqB_iff, List.isEmpty_iff] at ha
      obtain ⟨⟨⟨hnk, hsc⟩, hi⟩, hn⟩ := ha
      exact .inr ⟨hnk, inf, by rw [hsc, hn], hi⟩
  · rw [begE_eq] at hb
    rw [hb] at hf
    simpa using hf
/-- the best so far: none of them fits, or the one of M segments -/
def BestD (k M : Nat) (b : Bst) : Prop := (M = 0 → b = bst0) ∧ (0 < M → b.kind = 3 ∧ b.most = (M : Int) ∧ b.sc = dS M ∧ b.inf.size + 2 * M = 2 * k ∧ b.nm = [])
theorem stepD {k M n i : Nat} {b : Bst} (h : BestD k M b) (h1 : 1 ≤ n) (h6 : n ≤ 6) (hk : k < 8) : BestD k (if n ≤ k then max M n else M) (amStep ⟨#[]⟩ (pD k) b i (rD n)) := by
  obtain ⟨ho, hw, -⟩ := dOne n k h1 h6 hk
  rcases ho with ⟨hkn, hm⟩ | ⟨hnk, inf, hm, hi⟩
  · rw [if_neg (by omega), amStep_none (r := rD n) hm]; exact h
  · rw [if_pos hnk, amStep_some (host := ⟨#[]⟩) (r := rD n) hm (eqB_iff.2 rfl)]
    have hw' : weightS (rD n).kind (rD n).path = n := hw
    rw [hw']
    by_cases hM : M = 0
    · have hb := h.1 hM
      have ha : aheadB b (rD n).kind (n : Int) = true := by rw [hb]; rfl
      rw [if_pos ha]
      have hmx : max M n = n := by omega
      rw [hmx]
      exact ⟨fun h0 => by omega, fun _ => ⟨rfl, rfl, rfl, hi, rfl⟩⟩
    · obtain ⟨b1, b2, b3, b4, b5⟩ := h.2 (by omega)
      have ha : aheadB b (rD n).kind (n : Int) = decide (M < n) := by
        unfold aheadB
        rw [b1, b2]
        show ((3 : Int) == 0 || decide ((3 : Int) < 3) || ((3 : Int) == 3 && decide ((M : Int) < (n : Int)))) = _
        simp
      rw [ha]
      by_cases hMn : M < n
      · rw [if_pos (by simpa using hMn)]
        have hmx : max M n = n := by omega
        rw [hmx]
        exact ⟨fun h0 => by omega, fun _ => ⟨rfl, rfl, rfl, hi, rfl⟩⟩
      · rw [if_neg (by simpa using hMn)]
        have hmx : max M n = M := by omega
        rw [hmx]
        exact h
theorem runD {k : Nat} (hk : k < 8) : ∀ (ns : List Nat) (i M : Nat) (b : Bst), BestD k M b → (∀ n ∈ ns, 1 ≤ n ∧ n ≤ 6) → M ≤ k →
    ∃ M', BestD k M' (amE ⟨#[]⟩ (pD k) i b (ns.map rD)) ∧ M ≤ M' ∧ M' ≤ k ∧ (M' = M ∨ M' ∈ ns) ∧ ∀ n ∈ ns, n ≤ k → n ≤ M'
  | [], i, M, b, hb, _, hMk => ⟨M, hb, Nat.le_refl _, hMk, .inl rfl, fun n h => by cases h⟩
  | n :: ns, i, M, b, hb, hn, hMk => by
    have h0 := hn n (List.mem_cons_self ..)
    have hs := stepD (i := i) hb h0.1 h0.2 hk
    rw [amStepE_eq] at hs
    obtain ⟨M', h1, h2, h3, h4, h5⟩ := runD hk ns (i + 1) _ _ hs (fun m hm => hn m (List.mem_cons_of_mem _ hm)) (by split <;> omega)
    refine ⟨M', h1, ?_, h3, ?_, ?_⟩
    · split at h2 <;> omega
    · rcases h4 with h4 | h4
      · split at h4
        · rcases Nat.le_total M n with h | h
          · right; rw [h4, Nat.max_eq_right h]; exact List.mem_cons_self ..
          · left; rw [h4, Nat.max_eq_left h]
        · exact .inl h4
      · exact .inr (List.mem_cons_of_mem _ h4)
    · intro m hm hmk
      rcases List.mem_cons.1 hm with rfl | hm
      · rw [if_pos hmk] at h2; omega
      · exact h5 m hm hmk
theorem noneD (k : Nat) (h : ByteArray) (hh : eqB ⟨#[]⟩ h = false) : ∀ (ns : List Nat) (i : Nat) (b : Bst), amE h (pD k) i b (ns.map rD) = b
  | [], _, _ => rfl
  | n :: ns, i, b => by
    show amE h (pD k) (i + 1) (amStepE h (pD k) b i (rD n)) (ns.map rD) = b
    rw [← amStepE_eq, amStep_host (r := rD n) hh, noneD k h hh ns]
def nsD (b : Nat → Bool) : Nat → List Nat
  | 0 => []
  | j + 1 => if b j then (j + 1) :: nsD b j else nsD b j ++ [j + 1]
theorem nsD_mem (b : Nat → Bool) : ∀ j n, n ∈ nsD b j ↔ 1 ≤ n ∧ n ≤ j
  | 0, n => by simp [nsD]; omega
  | j + 1, n => by
    have := nsD_mem b j n
    unfold nsD
    split
    · rw [List.mem_cons, this]; omega
    · rw [List.mem_append, List.mem_singleton, this]; omega
theorem nsD_len (b : Nat → Bool) : ∀ j, (nsD b j).length = j
  | 0 => rfl
  | j + 1 => by
    have := nsD_len b j
    unfold nsD
    split
    · rw [List.length_cons, this]
    · rw [List.length_append, this]; rfl
theorem anyD : hostE ⟨#[97, 110, 121]⟩ = ⟨#[97, 110, 121]⟩ := by kernel_rfl
theorem longD (b : Nat → Bool) (j k : Nat) (hj : j ≤ 6) (hk : k < 8) : BestD k (min j k) (chooseS ((nsD b j).map rD) ⟨#[97, 110, 121]⟩ (pD k)) := by
  rw [chooseE_eq]
  unfold chooseE
  rw [anyD, if_neg (by decide), noneD k _ (by rw [eqE_eq]; rfl), if_neg (by decide)]
  obtain ⟨M, h1, h2, h3, h4, h5⟩ := runD hk (nsD b j) 0 0 bst0 ⟨fun _ => rfl, fun h => by omega⟩ (fun n hn => by rw [nsD_mem] at hn; omega) (Nat.zero_le _)
  have hM : M = min j k := by
    have hle : M ≤ j := by
      rcases h4 with h4 | h4
      · omega
      · rw [nsD_mem] at h4; exact h4.2
    have hge : min j k ≤ M := by
      by_cases h0 : min j k = 0
      · omega
      · exact h5 (min j k) (by rw [nsD_mem]; omega) (by omega)
    omega
  rw [← hM]; exact h1
theorem fitsD (b : Nat → Bool) (j k : Nat) (hj : j ≤ 6) (hk : k < 8) : ∀ r ∈ (nsD b j).map rD, FitsR r.path (pD k) r.kind := by
  intro r hr
  obtain ⟨n, hn, rfl⟩ := List.mem_map.1 hr
  rw [nsD_mem] at hn
  exact (dOne n k hn.1 (by omega) hk).2.2
end Go.Proofs.YtedombigkebpiaaDoor
