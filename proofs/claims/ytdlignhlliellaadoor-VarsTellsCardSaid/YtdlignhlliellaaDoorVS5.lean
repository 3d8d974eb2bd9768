/- slices.symMergeCmpFunc at pairs: one pair on the left, one on the right. -/
import Derived.Test.YtdlignhlliellaaDoorVS3
import Derived.Test.YtdlignhlliellaaDoorVS4
namespace Go.Proofs.YtdlignhlliellaaDoor
set_option linter.unusedVariables false
set_option linter.unusedSimpArgs false
open Go.RowKit Go.Sort Go.Lib

def LoB (V : List Pr) (x : Pr) (m p : Nat) : Prop := ∀ t (h : t < V.length), m + t < p → cmpP V[t] x < 0
def HiB (V : List Pr) (x : Pr) (m q : Nat) : Prop := ∀ t (h : t < V.length), q ≤ m + t → leP x V[t]
theorem LoB.step {V : List Pr} {x : Pr} {m k t : Nat} (hV : Srt V) (ht : t < V.length) (hk : m + t = k) (h : cmpP V[t] x < 0) : LoB V x m (k + 1) :=
  fun i hi hl => lt_of_le_lt (srt_le hV hi ht (by omega)) h
theorem HiB.step {V : List Pr} {x : Pr} {m k t : Nat} (hV : Srt V) (ht : t < V.length) (hk : m + t = k) (h : ¬ cmpP V[t] x < 0) : HiB V x m k :=
  fun i hi hl => leP_trans (leP_not h) (srt_le hV ht hi (by omega))
def LoR (U : List Pr) (y : Pr) (a p : Nat) : Prop := ∀ t (h : t < U.length), a + t < p → leP U[t] y
def HiR (U : List Pr) (y : Pr) (a q : Nat) : Prop := ∀ t (h : t < U.length), q ≤ a + t → leP y U[t]
theorem LoR.step {U : List Pr} {y : Pr} {a k t : Nat} (hU : Srt U) (ht : t < U.length) (hk : a + t = k) (h : ¬ cmpP y U[t] < 0) : LoR U y a (k + 1) :=
  fun i hi hl => leP_trans (srt_le hU hi ht (by omega)) (leP_not h)
theorem HiR.step {U : List Pr} {y : Pr} {a k t : Nat} (hU : Srt U) (ht : t < U.length) (hk : a + t = k) (h : cmpP y U[t] < 0) : HiR U y a k :=
  fun i hi hl => leP_trans (leP_lt h) (srt_le hU ht hi (by omega))
theorem snoc_of {α : Type} {l : List α} (h : 0 < l.length) : ∃ a x, l = a ++ [x] := by
  rcases List.eq_nil_or_concat l with h0 | ⟨a, x, hx⟩
  · subst h0; simp at h
  · exact ⟨a, x, by rw [hx, List.concat_eq_append]⟩
theorem Row.mid {w : World} {base g n cap m k t : Nat} {A V C : List Pr} (h : Row w base g n cap (A ++ (V ++ C))) (hA : A.length = m) (ht : t < V.length) (hk : m + t = k) :
    w.cell? ⟨g, k * 2, none⟩ = some (.string V[t].1) ∧ w.cell? ⟨g, k * 2 + 1, none⟩ = some (.string V[t].2) ∧ k < n := by
  have hl := h.len
  simp only [List.length_append] at hl
  have hk1 : k < (A ++ (V ++ C)).length := by simp only [List.length_append]; omega
  obtain ⟨h1, h2, _, _⟩ := h.at_ hk1
  have e : (A ++ (V ++ C))[k] = V[t] := by
    rw [List.getElem_append_right (by omega), List.getElem_append_left (by omega)]
    congr 1; omega
  rw [e] at h1 h2
  exact ⟨h1, h2, by omega⟩
theorem cmp_grown (x y : Pr) (c : Int) (h : cmpP x y = c) (W : World) : Calls Tryd.prog 23 #[.agg #[.string x.1, .string x.2], .agg #[.string y.1, .string y.2]] W fun e w' => e = .returned (.int .i64 c) ∧ ∃ q os', w' = grow (W.drewN q) os' := by
  subst h
  refine (cmp_fn x y W).mono ?_
  rintro e w1 ⟨rfl, rfl⟩
  refine ⟨rfl, 0, #[.cells #[.string x.1, .string x.2] 37, .cells #[.string y.1, .string y.2] 37], ?_⟩
  rw [alloc_eq_grow, alloc_eq_grow, grow_grow]
  rfl
theorem fr_growN {a b : World} (h : RowKit.Below a.heap.size a b) (n : Nat) (os : Array Obj) : RowKit.Below a.heap.size a (grow (b.drewN n) os) :=
  ⟨h.os, h.tape, h.output, by have := h.size; simp [grow, World.drewN]; omega, fun k hk => by
    have h1 : k < b.heap.size := Nat.lt_of_lt_of_le hk h.size
    have e : (grow (b.drewN n) os).heap[k]? = b.heap[k]? := by
      show (b.heap ++ os)[k]? = b.heap[k]?
      rw [Array.getElem?_append_left h1]
    rw [e]; exact h.block k hk⟩
theorem mid_wrap (p q k : Nat) (hp : p ≤ 1000000) (hq : q ≤ 1000000) (hk : (p + q) / 2 = k) : wrap64 (IntKind.u64.wrap (wrap64 ((p : Int) + (q : Int))) / 2) = (k : Int) := by
  have h1 : wrap64 ((p : Int) + (q : Int)) = (p : Int) + (q : Int) := IntWalk.wrap64_in _ (by omega)
  have h2 : IntKind.u64.wrap ((p : Int) + (q : Int)) = (p : Int) + (q : Int) := IntWalk.u64_in _ (by omega)
  have h3 : ((p : Int) + (q : Int)) / 2 = (k : Int) := by omega
  rw [h1, h2, h3]
  exact wrap_nat k (by omega)
set_option maxRecDepth 100000 in
set_option maxHeartbeats 4000000 in
theorem sym_left (base g n cap a m b : Nat) (PL V PR : List Pr) (x : Pr) (w : World) (hn9 : n ≤ 10000) (ha : PL.length = a) (hm : a + 1 = m) (hb : m + V.length = b) (hV : Srt V) (hV0 : 0 < V.length)
    (h : Row w base g n cap (PL ++ (x :: (V ++ PR)))) :
    Calls Tryd.prog 50 #[.slice (some ⟨g, 0, none⟩) n cap, .int .i64 a, .int .i64 m, .int .i64 b, cmpV] w fun e w' => e = .returned (.tuple #[]) ∧ ∃ W, W.Perm (x :: V) ∧ Srt W ∧ Row w' base g n cap (PL ++ (W ++ PR)) ∧ w.grownBy w' (some g) := by
  have hl := h.len
  simp only [List.length_append, List.length_cons] at hl
  have hbn : b ≤ n := by omega
  have h1 : (m : Int) - (a : Int) = 1 := by omega
  have H := Lib.hid h; have HV := Lib.hid hV; have HA := Lib.hid ha; have HM := Lib.hid hm; have HB := Lib.hid hb; have HN := Lib.hid hn9; have HBN := Lib.hid hbn
  have HX := Lib.hid (Row.mid (A := PL) (V := [x]) (C := V ++ PR) (t := 0) h ha (by simp) (k := a) rfl)
  clear h hV ha hl hbn hb hm hV0
  have mixed : Tryd.prog.follows .mixedOrders = true := by kernel_rfl
  unfold cmpV
  go_enter Tryd.func50, Tryd.ntmps50
  go_wp2
  go_loopw [10, 11] (fun i j wr => ∃ (p q : Nat), m ≤ p ∧ p ≤ q ∧ q ≤ b ∧ i = .int .i64 p ∧ j = .int .i64 q ∧ Below w.heap.size w wr ∧ LoB V x m p ∧ HiB V x m q) (fun i j _ => (intOf j).toNat - (intOf i).toNat)
  case atStart => exact ⟨m, b, Nat.le_refl _, by have := HB.out; omega, Nat.le_refl _, rfl, rfl, fr_refl _, fun t _ h => by omega, fun t h h2 => by have := HB.out; omega⟩
  case round =>
    obtain ⟨p, q, hp, hpq, hq, rfl, rfl, hbl, hlo, hhi⟩ := hrel
    have HBL := Lib.hid hbl; have HLO := Lib.hid hlo; have HHI := Lib.hid hhi
    clear hbl hlo hhi
    by_cases hlt : p < q
    · have hltI : (p : Int) < (q : Int) := by omega
      obtain ⟨k, hk⟩ : ∃ k, (p + q) / 2 = k := ⟨_, rfl⟩
      obtain ⟨t, ht⟩ : ∃ t, m + t = k := ⟨k - m, by omega⟩
      have htV : t < V.length := by have := HB.out; omega
      obtain ⟨c0, c1, hkn⟩ := Row.mid (A := PL ++ [x]) (V := V) (C := PR) (by simpa using H.out) (by have := HA.out; have := HM.out; simp; omega) htV ht
      obtain ⟨d0, d1, han⟩ := HX.out
      have hgl := H.out.lt
      have hbl := HBL.out
      have c0' := cell_grown (Nat.lt_of_lt_of_le hgl hbl.size) (fr_cell hbl c0)
      have c1' := cell_grown (Nat.lt_of_lt_of_le hgl hbl.size) (fr_cell hbl c1)
      have d0' := cell_grown (Nat.lt_of_lt_of_le hgl hbl.size) (fr_cell hbl d0)
      have d1' := cell_grown (Nat.lt_of_lt_of_le hgl hbl.size) (fr_cell hbl d1)
      simp only [List.getElem_cons_zero] at d0' d1'
      obtain ⟨y, hy⟩ : ∃ y, V[t] = y := ⟨_, rfl⟩
      rw [hy] at c0' c1'
      obtain ⟨c, hc⟩ : ∃ c, cmpP y x = c := ⟨_, rfl⟩
      have hcg := fun n' os' => cmp_grown y x c hc (grow (wr.drewN n') os')
      have hknI := Int.ofNat_lt.2 hkn
      have hanI := Int.ofNat_lt.2 han
      have hmid := mid_wrap p q k (by have := HBN.out; omega) (by have := HBN.out; omega) hk
      have HP := Lib.hid hp; have HQ := Lib.hid hq
      have HPQ := Lib.hid hlt; have HK := Lib.hid hk; have HT := Lib.hid ht
      have HTV := Lib.hid (show ∃ h : t < V.length, cmpP V[t] x = c from ⟨htV, by rw [hy]; exact hc⟩)
      clear hn9 hpq hp hq hk ht c0 c1 d0 d1 hgl hbl hy hc hkn han htV
      go_wp2_with fail
      rw [hmid]
      go_quiet_grown (first | (go_at_call 23; refine Calls.grown_of (hcg _ _)))
      have hfr := fr_growN HBL.out nq osq
      generalize grow (wr.drewN nq) osq = wz at hfr
      have HFR := Lib.hid hfr
      clear hfr c0' c1' d0' d1' hcg hmid
      by_cases hcz : c < 0
      · have HK1 := Lib.hid (wrap_succ k (by have := HN.out; omega))
        clear hknI hanI
        go_wp2
        go_roundw
        case measure => rw [HK1.out]; show ((q : Int)).toNat - ((k : Int) + 1).toNat < ((q : Int)).toNat - ((p : Int)).toNat; have := HK.out; omega
        case rel =>
          obtain ⟨htV, e⟩ := HTV.out
          exact ⟨k + 1, q, by have := HK.out; have := HP.out; omega, by have := HK.out; omega, HQ.out, by rw [HK1.out]; rfl, rfl, HFR.out, LoB.step HV.out htV HT.out (by rw [e]; exact hcz), HHI.out⟩
      · clear hknI hanI
        go_wp2
        go_roundw
        case measure => show ((k : Int)).toNat - ((p : Int)).toNat < ((q : Int)).toNat - ((p : Int)).toNat; have := HK.out; omega
        case rel =>
          obtain ⟨htV, e⟩ := HTV.out
          exact ⟨p, k, HP.out, by have := HK.out; omega, by have := HK.out; have := HQ.out; omega, rfl, rfl, HFR.out, HLO.out, HiB.step HV.out htV HT.out (by rw [e]; exact hcz)⟩
    · obtain rfl : p = q := by omega
      have hltI : ¬ (p : Int) < (p : Int) := by omega
      obtain ⟨p1, hp1⟩ : ∃ p1, p = p1 + 1 := ⟨p - 1, by have := HM.out; omega⟩
      have hp1I : (p : Int) - 1 = (p1 : Int) := by omega
      have HP1 := Lib.hid hp1; have HP := Lib.hid hp; have HQ := Lib.hid hq
      have HR := Lib.hid (H.out.fr HBL.out)
      have HW1 := Lib.hid (show wrap64 (p1 : Int) = (p1 : Int) from wrap_nat p1 (by have := HBN.out; omega))
      clear hn9 hp hpq hq hp1
      have hw1 := HW1.out
      go_wp2
      clear hw1
      go_loopw [13] (fun i wr => ∃ (k : Nat) (V1 V2 : List Pr), V = V1 ++ V2 ∧ a + V1.length = k ∧ k ≤ p1 ∧ i = .int .i64 k ∧ w.grownBy wr (some g) ∧ Row wr base g n cap (PL ++ (V1 ++ (x :: (V2 ++ PR))))) (fun i _ => p1 - (intOf i).toNat)
      case atStart => exact ⟨a, [], V, rfl, rfl, by have := HP.out; have := HM.out; have := HP1.out; omega, rfl, only_fr (only_refl _ _) HBL.out, HR.out⟩
      case round =>
        obtain ⟨k, V1, V2, eV, hk, hkp, rfl, hg, hrow⟩ := hrel
        have HG := Lib.hid hg; have HROW := Lib.hid hrow; have HEV := Lib.hid eV; have HK := Lib.hid hk
        have hVl : V.length = V1.length + V2.length := by rw [eV, List.length_append]
        have HVL := Lib.hid hVl
        clear hg hrow
        by_cases hlt2 : k < p1
        · have hlt2I : (k : Int) < (p1 : Int) := by omega
          obtain ⟨v, V3, rfl⟩ : ∃ v V3, V2 = v :: V3 := by
            cases V2 with
            | nil => have := HB.out; have := HQ.out; have := HP1.out; have := HM.out; simp at hVl; omega
            | cons v V3 => exact ⟨v, V3, rfl⟩
          obtain ⟨k1, hk1⟩ : ∃ k1, k + 1 = k1 := ⟨_, rfl⟩
          have hk1I : (k : Int) + 1 = (k1 : Int) := by omega
          have E : Exch wr base g n cap k k1 x v (PL ++ ((V1 ++ [v]) ++ (x :: (V3 ++ PR)))) := by
            have h2 : Row wr base g n cap ((PL ++ V1) ++ x :: ([] ++ v :: (V3 ++ PR))) := by have := HROW.out; simpa using this
            have := h2.exch (p := k) (q := k1) (by rw [List.length_append, HA.out]; exact hk) (by simpa using hk1)
            simpa using this
          have hpn := Int.ofNat_lt.2 E.pn
          have hqn := Int.ofNat_lt.2 E.qn
          have hpn' : ¬ k1 * 2 = k * 2 := by omega
          have HK1 := Lib.hid hk1
          have hkw := wrap_nat k1 (by have := E.qn; have := HN.out; omega)
          have p0 := E.p0; have p1' := E.p1; have q0 := E.q0; have q1 := E.q1; have p2 := E.p2; have p3 := E.p3; have q2 := E.q2; have q3 := E.q3
          have HE := Lib.hid E; have HL2 := Lib.hid hlt2
          clear E eV hk hVl hk1 hlt2
          have hw1 := HW1.out
          go_wp2_with fail
          go_big_region
          clear hw1
          go_wp2
          go_roundw
          case measure => rw [hkw]; show p1 - ((k1 : Int)).toNat < p1 - ((k : Int)).toNat; have := HK1.out; have := HL2.out; clear hkw; omega
          case rel =>
            refine ⟨k1, V1 ++ [v], V3, by rw [HEV.out, List.append_assoc]; rfl, ?_, by have := HK1.out; have := HL2.out; clear hkw; omega, by rw [hkw], ?_, HE.out.pq⟩
            · rw [List.length_append]; have := HK.out; have := HK1.out; clear hkw; simp; omega
            · exact only_drew (only_set (only_set (only_set (only_set HG.out _ _) _ _) _ _) _ _)
        · have hlt2I : ¬ (k : Int) < (p1 : Int) := by omega
          have HF := Lib.hid (show V1.length = p - m by have := HP1.out; have := HM.out; omega)
          clear hlt2 eV hk hVl
          have hw1 := HW1.out
          go_wp2
          refine bodyPost_ret (results_none rfl _ _ _) rfl ?_
          have e1 : V1 = V.take (p - m) := by rw [HEV.out, ← HF.out]; simp
          have e2 : V2 = V.drop (p - m) := by rw [HEV.out, ← HF.out]; simp
          refine ⟨rfl, V1 ++ x :: V2, ?_, ?_, ?_, HG.out⟩
          · rw [HEV.out]; exact List.perm_middle
          · rw [e1, e2]
            exact srt_ins HV.out (fun t h h2 => leP_lt (HLO.out t h (by omega))) (fun t h h2 => HHI.out t h (by have := HP.out; omega))
          · have := HROW.out; simpa using this
set_option maxRecDepth 100000 in
set_option maxHeartbeats 4000000 in
theorem sym_right (base g n cap a m b u : Nat) (PL U PR : List Pr) (y : Pr) (w : World) (hn9 : n ≤ 10000) (ha : PL.length = a) (hu : U.length = u) (hm : a + u = m) (hb : m + 1 = b) (hU : Srt U) (hU0 : 1 < u)
    (h : Row w base g n cap (PL ++ (U ++ (y :: PR)))) :
    Calls Tryd.prog 50 #[.slice (some ⟨g, 0, none⟩) n cap, .int .i64 a, .int .i64 m, .int .i64 b, cmpV] w fun e w' => e = .returned (.tuple #[]) ∧ ∃ W, W.Perm (U ++ [y]) ∧ Srt W ∧ Row w' base g n cap (PL ++ (W ++ PR)) ∧ w.grownBy w' (some g) := by
  have hl := h.len
  simp only [List.length_append, List.length_cons] at hl
  have hbn : b ≤ n := by omega
  have h1 : (b : Int) - (m : Int) = 1 := by omega
  have hda : (m : Int) - (a : Int) = (u : Int) := by omega
  have hu1 : ((u : Int) == 1) = false := by
    have : ¬ (u : Int) = 1 := by omega
    simp [this]
  have H := Lib.hid h; have HU := Lib.hid hU; have HA := Lib.hid ha; have HM := Lib.hid hm; have HB := Lib.hid hb; have HN := Lib.hid hn9; have HBN := Lib.hid hbn; have HUL := Lib.hid hu; have HU0 := Lib.hid hU0
  have HX := Lib.hid (Row.mid (A := PL ++ U) (V := [y]) (C := PR) (t := 0) (by simpa using h) (by simp; omega) (by simp) (k := m) rfl)
  have HUW := Lib.hid (wrap_nat u (by omega))
  clear h hU ha hl hbn hb hm hU0 hu
  have mixed : Tryd.prog.follows .mixedOrders = true := by kernel_rfl
  unfold cmpV
  go_enter Tryd.func50, Tryd.ntmps50
  have huw := HUW.out
  go_wp2
  clear huw
  go_loopw [14, 15] (fun i j wr => ∃ (p q : Nat), a ≤ p ∧ p ≤ q ∧ q ≤ m ∧ i = .int .i64 p ∧ j = .int .i64 q ∧ Below w.heap.size w wr ∧ LoR U y a p ∧ HiR U y a q) (fun i j _ => (intOf j).toNat - (intOf i).toNat)
  case atStart => exact ⟨a, m, Nat.le_refl _, by have := HM.out; omega, Nat.le_refl _, rfl, rfl, fr_refl _, fun t _ h => by omega, fun t h h2 => by have := HM.out; have := HUL.out; omega⟩
  case round =>
    obtain ⟨p, q, hp, hpq, hq, rfl, rfl, hbl, hlo, hhi⟩ := hrel
    have HBL := Lib.hid hbl; have HLO := Lib.hid hlo; have HHI := Lib.hid hhi
    clear hbl hlo hhi
    by_cases hlt : p < q
    · have hltI : (p : Int) < (q : Int) := by omega
      obtain ⟨k, hk⟩ : ∃ k, (p + q) / 2 = k := ⟨_, rfl⟩
      obtain ⟨t, ht⟩ : ∃ t, a + t = k := ⟨k - a, by omega⟩
      have htV : t < U.length := by have := HM.out; have := HUL.out; omega
      obtain ⟨c0, c1, hkn⟩ := Row.mid (A := PL) (V := U) (C := y :: PR) H.out HA.out htV ht
      obtain ⟨d0, d1, han⟩ := HX.out
      have hgl := H.out.lt
      have hbl := HBL.out
      have c0' := cell_grown (Nat.lt_of_lt_of_le hgl hbl.size) (fr_cell hbl c0)
      have c1' := cell_grown (Nat.lt_of_lt_of_le hgl hbl.size) (fr_cell hbl c1)
      have d0' := cell_grown (Nat.lt_of_lt_of_le hgl hbl.size) (fr_cell hbl d0)
      have d1' := cell_grown (Nat.lt_of_lt_of_le hgl hbl.size) (fr_cell hbl d1)
      simp only [List.getElem_cons_zero] at d0' d1'
      obtain ⟨x, hy⟩ : ∃ x, U[t] = x := ⟨_, rfl⟩
      rw [hy] at c0' c1'
      obtain ⟨c, hc⟩ : ∃ c, cmpP y x = c := ⟨_, rfl⟩
      have hcg := fun n' os' => cmp_grown y x c hc (grow (wr.drewN n') os')
      have hknI := Int.ofNat_lt.2 hkn
      have hanI := Int.ofNat_lt.2 han
      have hmid := mid_wrap p q k (by have := HBN.out; omega) (by have := HBN.out; omega) hk
      have HP := Lib.hid hp; have HQ := Lib.hid hq
      have HPQ := Lib.hid hlt; have HK := Lib.hid hk; have HT := Lib.hid ht
      have HTV := Lib.hid (show ∃ h : t < U.length, cmpP y U[t] = c from ⟨htV, by rw [hy]; exact hc⟩)
      clear hn9 hpq hp hq hk ht c0 c1 d0 d1 hgl hbl hy hc hkn han htV
      go_wp2_with fail
      rw [hmid]
      go_quiet_grown (first | (go_at_call 23; refine Calls.grown_of (hcg _ _)))
      have hfr := fr_growN HBL.out nq osq
      generalize grow (wr.drewN nq) osq = wz at hfr
      have HFR := Lib.hid hfr
      clear hfr c0' c1' d0' d1' hcg hmid
      have HK1 := Lib.hid (wrap_succ k (by have := HN.out; omega))
      clear hknI hanI
      go_wp2
      · rename_i hcz0
        have hcz : ¬ c < 0 := by simpa using hcz0
        go_roundw
        case measure => rw [HK1.out]; show ((q : Int)).toNat - ((k : Int) + 1).toNat < ((q : Int)).toNat - ((p : Int)).toNat; have := HK.out; omega
        case rel =>
          obtain ⟨htV, e⟩ := HTV.out
          exact ⟨k + 1, q, by have := HK.out; have := HP.out; omega, by have := HK.out; omega, HQ.out, by rw [HK1.out]; rfl, rfl, HFR.out, LoR.step HU.out htV HT.out (by rw [e]; exact hcz), HHI.out⟩
      · rename_i hcz0
        have hcz : c < 0 := by simpa using hcz0
        go_roundw
        case measure => show ((k : Int)).toNat - ((p : Int)).toNat < ((q : Int)).toNat - ((p : Int)).toNat; have := HK.out; omega
        case rel =>
          obtain ⟨htV, e⟩ := HTV.out
          exact ⟨p, k, HP.out, by have := HK.out; omega, by have := HK.out; have := HQ.out; omega, rfl, rfl, HFR.out, HLO.out, HiR.step HU.out htV HT.out (by rw [e]; exact hcz)⟩
    · obtain rfl : p = q := by omega
      have hltI : ¬ (p : Int) < (p : Int) := by omega
      have HP := Lib.hid hp; have HQ := Lib.hid hq
      have HR := Lib.hid (H.out.fr HBL.out)
      clear hn9 hp hpq hq
      go_wp2
      go_loopw [17] (fun i wr => ∃ (k : Nat) (U1 U2 : List Pr), U = U1 ++ U2 ∧ a + U1.length = k ∧ p ≤ k ∧ i = .int .i64 k ∧ w.grownBy wr (some g) ∧ Row wr base g n cap (PL ++ (U1 ++ (y :: (U2 ++ PR))))) (fun i _ => (intOf i).toNat)
      case atStart => exact ⟨m, U, [], by simp, by have := HM.out; have := HUL.out; omega, HQ.out, rfl, only_fr (only_refl _ _) HBL.out, HR.out⟩
      case round =>
        obtain ⟨k, U1, U2, eU, hk, hkp, rfl, hg, hrow⟩ := hrel
        have HG := Lib.hid hg; have HROW := Lib.hid hrow; have HEU := Lib.hid eU; have HK := Lib.hid hk
        clear hg hrow
        by_cases hlt2 : p < k
        · have hlt2I : (p : Int) < (k : Int) := by omega
          obtain ⟨U3, v, rfl⟩ := snoc_of (l := U1) (by have := HP.out; omega)
          obtain ⟨k1, hk1⟩ : ∃ k1, k1 + 1 = k := ⟨k - 1, by omega⟩
          have hk1I : (k : Int) - 1 = (k1 : Int) := by omega
          have hk3 : a + U3.length = k1 := by rw [List.length_append] at hk; simp at hk; omega
          have E : Exch wr base g n cap k1 k v y (PL ++ (U3 ++ (y :: ((v :: U2) ++ PR)))) := by
            have h2 : Row wr base g n cap ((PL ++ U3) ++ v :: ([] ++ y :: (U2 ++ PR))) := by have := HROW.out; simpa using this
            have := h2.exch (p := k1) (q := k) (by rw [List.length_append, HA.out]; exact hk3) (by simpa using hk1)
            simpa using this
          have hpn := Int.ofNat_lt.2 E.pn
          have hqn := Int.ofNat_lt.2 E.qn
          have hpn' : ¬ k1 * 2 = k * 2 := by omega
          have HK1 := Lib.hid hk1; have HK3 := Lib.hid hk3
          have hkw := wrap_nat k1 (by have := E.pn; have := HN.out; omega)
          have p0 := E.p0; have p1' := E.p1; have q0 := E.q0; have q1 := E.q1; have p2 := E.p2; have p3 := E.p3; have q2 := E.q2; have q3 := E.q3
          have HE := Lib.hid E; have HL2 := Lib.hid hlt2
          clear E eU hk hk1 hlt2 hk3
          go_wp2_with fail
          go_big_region
          go_wp2
          go_roundw
          case measure => rw [hkw]; show ((k1 : Int)).toNat < ((k : Int)).toNat; have := HK1.out; have := HL2.out; clear hkw; omega
          case rel =>
            refine ⟨k1, U3, v :: U2, by rw [HEU.out]; simp, HK3.out, by have := HK1.out; have := HL2.out; clear hkw; omega, by rw [hkw], ?_, HE.out.qp⟩
            exact only_drew (only_set (only_set (only_set (only_set HG.out _ _) _ _) _ _) _ _)
        · have hlt2I : ¬ (p : Int) < (k : Int) := by omega
          have HF := Lib.hid (show U1.length = p - a by have := HP.out; omega)
          clear hlt2 eU hk
          go_wp2
          refine bodyPost_ret (results_none rfl _ _ _) rfl ?_
          have e1 : U1 = U.take (p - a) := by rw [HEU.out, ← HF.out]; simp
          have e2 : U2 = U.drop (p - a) := by rw [HEU.out, ← HF.out]; simp
          refine ⟨rfl, U1 ++ y :: U2, ?_, ?_, ?_, HG.out⟩
          · rw [HEU.out]; exact List.perm_middle.trans (List.perm_append_singleton y (U1 ++ U2)).symm
          · rw [e1, e2]
            exact srt_ins HU.out (fun t h h2 => HLO.out t h (by omega)) (fun t h h2 => HHI.out t h (by have := HP.out; omega))
          · have := HROW.out; simpa using this
end Go.Proofs.YtdlignhlliellaaDoor
