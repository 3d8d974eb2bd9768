/- slices.symMergeCmpFunc at pairs: two sorted rows beside one another come out as one. -/
import Derived.Test.YtdlignhlliellaaDoorVS5
import Derived.Deep.DeepCutAuto
namespace Go.Proofs.YtdlignhlliellaaDoor
set_option linter.unusedVariables false
set_option linter.unusedSimpArgs false
open Go.RowKit Go.Sort Go.Lib

def MergeOK (base g n cap z : Nat) : Prop := ∀ (a m b : Nat) (PL U V PR : List Pr) (w : World), U.length + V.length ≤ z → PL.length = a → a + U.length = m → m + V.length = b → 0 < U.length → 0 < V.length → Srt U → Srt V → Row w base g n cap (PL ++ (U ++ (V ++ PR))) →
  Calls Tryd.prog 50 #[.slice (some ⟨g, 0, none⟩) n cap, .int .i64 a, .int .i64 m, .int .i64 b, .func (.func 23) #[] #[]] w fun e w' => e = .returned (.tuple #[]) ∧ ∃ W, W.Perm (U ++ V) ∧ Srt W ∧ Row w' base g n cap (PL ++ (W ++ PR)) ∧ w.grownBy w' (some g)
def CrLo (U V : List Pr) (half s : Nat) : Prop := s = 0 ∨ half - s = V.length ∨ ∃ (h1 : s - 1 < U.length) (h2 : half - s < V.length), leP U[s - 1] V[half - s]
def CrHi (U V : List Pr) (half s : Nat) : Prop := s = U.length ∨ half = s ∨ ∃ (h1 : s < U.length) (h2 : half - 1 - s < V.length), leP V[half - 1 - s] U[s]
structure SymInv (U V : List Pr) (a half p q : Nat) : Prop where
  ap : a ≤ p
  pq : p ≤ q
  qu : q - a ≤ U.length
  qh : q - a ≤ half
  hv : half ≤ V.length + (p - a)
  lo : CrLo U V half (p - a)
  hi : CrHi U V half (q - a)
theorem SymInv.left {U V : List Pr} {a m b mid lo : Nat} (hm : a + U.length = m) (hb : m + V.length = b) (hmid : (a + b) / 2 = mid) (hgt : mid < m) (hlo : lo + b = mid + m) : SymInv U V a (mid - a) lo mid :=
  ⟨by omega, by omega, by omega, by omega, by omega, .inr (.inl (by omega)), .inr (.inl rfl)⟩
theorem SymInv.right {U V : List Pr} {a m b mid : Nat} (hm : a + U.length = m) (hb : m + V.length = b) (hmid : (a + b) / 2 = mid) (hgt : ¬ mid < m) : SymInv U V a (mid - a) a m :=
  ⟨Nat.le_refl _, by omega, by omega, by omega, by omega, .inl (by omega), .inl (by omega)⟩
/-- the place compared with: of V -/
theorem SymInv.at_ {U V : List Pr} {a half p q k : Nat} (h : SymInv U V a half p q) (hlt : p < q) (hk : (p + q) / 2 = k) : ∃ i j, a + i = k ∧ i < U.length ∧ j < V.length ∧ i + 1 + j = half :=
  have h1 := h.ap; have h3 := h.qu; have h4 := h.qh; have h5 := h.hv
  ⟨k - a, half - 1 - (k - a), by omega, by omega, by omega, by omega⟩
theorem SymInv.up {U V : List Pr} {a half p q k i j : Nat} (h : SymInv U V a half p q) (hlt : p < q) (hk : (p + q) / 2 = k) (hi : a + i = k) (hiU : i < U.length) (hjV : j < V.length) (hij : i + 1 + j = half) (hc : ¬ cmpP V[j] U[i] < 0) : SymInv U V a half (k + 1) q := by
  have h1 := h.ap; have h3 := h.qu; have h4 := h.qh; have h5 := h.hv
  refine ⟨by omega, by omega, h3, h4, by omega, .inr (.inr ⟨by omega, by omega, ?_⟩), h.hi⟩
  have e1 : k + 1 - a - 1 = i := by omega
  have e2 : half - (k + 1 - a) = j := by omega
  simp only [e1, e2]
  exact leP_not hc
theorem SymInv.down {U V : List Pr} {a half p q k i j : Nat} (h : SymInv U V a half p q) (hlt : p < q) (hk : (p + q) / 2 = k) (hi : a + i = k) (hiU : i < U.length) (hjV : j < V.length) (hij : i + 1 + j = half) (hc : cmpP V[j] U[i] < 0) : SymInv U V a half p k := by
  have h1 := h.ap; have h3 := h.qu; have h4 := h.qh; have h5 := h.hv
  refine ⟨h1, by omega, by omega, by omega, h5, h.lo, .inr (.inr ⟨by omega, by omega, ?_⟩)⟩
  have e1 : k - a = i := by omega
  have e2 : half - 1 - (k - a) = j := by omega
  have e3 : half - 1 - i = j := by omega
  simp only [e1, e3]
  exact leP_lt hc
theorem SymInv.parts {U V : List Pr} {a half p : Nat} (h : SymInv U V a half p p) (hU : Srt U) (hV : Srt V) : ∃ U1 U2 V1 V2, U = U1 ++ U2 ∧ V = V1 ++ V2 ∧ a + U1.length = p ∧ U1.length + V1.length = half ∧ Srt U1 ∧ Srt U2 ∧ Srt V1 ∧ Srt V2 ∧ (∀ x ∈ U1 ++ V1, ∀ y ∈ U2 ++ V2, leP x y) := by
  have h1 := h.ap; have h3 := h.qu; have h4 := h.qh; have h5 := h.hv
  refine ⟨U.take (p - a), U.drop (p - a), V.take (half - (p - a)), V.drop (half - (p - a)), (List.take_append_drop _ _).symm, (List.take_append_drop _ _).symm, ?_, ?_, hU.sublist (List.take_sublist _ _), hU.sublist (List.drop_sublist _ _), hV.sublist (List.take_sublist _ _), hV.sublist (List.drop_sublist _ _), sym_cross hU hV h4 h.lo h.hi⟩
  · rw [List.length_take]; omega
  · rw [List.length_take, List.length_take]; omega
set_option maxRecDepth 100000 in
set_option maxHeartbeats 8000000 in
theorem sym_step (base g n cap z a m b u v : Nat) (PL U V PR : List Pr) (w : World) (hn9 : n ≤ 10000) (IH : MergeOK base g n cap z) (hz : u + v ≤ z + 1) (ha : PL.length = a) (hu : U.length = u) (hv : V.length = v) (hm : a + u = m) (hb : m + v = b) (hu1 : 1 < u) (hv1 : 1 < v) (hU : Srt U) (hV : Srt V)
    (h : Row w base g n cap (PL ++ (U ++ (V ++ PR)))) :
    Calls Tryd.prog 50 #[.slice (some ⟨g, 0, none⟩) n cap, .int .i64 a, .int .i64 m, .int .i64 b, .func (.func 23) #[] #[]] w fun e w' => e = .returned (.tuple #[]) ∧ ∃ W, W.Perm (U ++ V) ∧ Srt W ∧ Row w' base g n cap (PL ++ (W ++ PR)) ∧ w.grownBy w' (some g) := by
  have hl := h.len
  simp only [List.length_append] at hl
  have hbn : b ≤ n := by omega
  have hda : (m : Int) - (a : Int) = (u : Int) := by omega
  have hdb : (b : Int) - (m : Int) = (v : Int) := by omega
  have hu2 : ((u : Int) == 1) = false := by
    have : ¬ (u : Int) = 1 := by omega
    simp [this]
  have hv2 : ((v : Int) == 1) = false := by
    have : ¬ (v : Int) = 1 := by omega
    simp [this]
  obtain ⟨mid, hmid⟩ : ∃ mid, (a + b) / 2 = mid := ⟨_, rfl⟩
  obtain ⟨N1, hN1⟩ : ∃ N1, N1 + 1 = mid + m := ⟨mid + m - 1, by omega⟩
  obtain ⟨N, hN⟩ : ∃ N, mid + m = N := ⟨_, rfl⟩
  have hNI : (mid : Int) + (m : Int) = (N : Int) := by omega
  have hN1I : (N : Int) - 1 = (N1 : Int) := by omega
  have HFA := Lib.hid (show a ≤ mid ∧ mid < b ∧ a < mid by omega)
  have H := Lib.hid h; have HU := Lib.hid hU; have HV := Lib.hid hV; have HA := Lib.hid ha; have HM := Lib.hid hm; have HB := Lib.hid hb; have HNN := Lib.hid hn9; have HBN := Lib.hid hbn; have HUL := Lib.hid hu; have HVL := Lib.hid hv
  have HZ := Lib.hid hz; have HI := Lib.hid IH; have HMID := Lib.hid hmid; have HN1 := Lib.hid hN1; have HN := Lib.hid hN
  have HU1 := Lib.hid hu1; have HV1 := Lib.hid hv1
  have HUW := Lib.hid (wrap_nat u (by omega)); have HVW := Lib.hid (wrap_nat v (by omega)); have HNW := Lib.hid (wrap_nat N (by omega)); have HN1W := Lib.hid (wrap_nat N1 (by omega))
  have HMW := Lib.hid (mid_wrap a b mid (by omega) (by omega) hmid)
  have mixed : Tryd.prog.follows .mixedOrders = true := by kernel_rfl
  clear h hU hV ha hl hbn hb hm hu1 hv1 hu hv hz IH hmid hN1 hN hn9
  go_enter Tryd.func50, Tryd.ntmps50
  have huw := HUW.out; have hvw := HVW.out
  go_upto_region 25 with fail
  clear huw hvw
  rw [HMW.out]
  have hnw := HNW.out
  go_upto_if 140 with fail
  clear hnw
  rw [HNW.out]
  go_cut [20, 21] (fun s20 s21 wx => w = wx ∧ ∃ p q : Nat, s20 = .int .i64 p ∧ s21 = .int .i64 q ∧ SymInv U V a (mid - a) p q)
  case first => as_aux_lemma =>
    by_cases hgt : mid < m
    · have hgtI : (mid : Int) < (m : Int) := by omega
      obtain ⟨lo, hlo⟩ : ∃ lo, lo + b = mid + m := ⟨mid + m - b, by have := HMID.out; omega⟩
      have hNb : (N : Int) - (b : Int) = (lo : Int) := by have := HN.out; omega
      have HLO := Lib.hid hlo
      have hlw := wrap_nat lo (by have := HMID.out; have := HBN.out; have := HNN.out; have := HM.out; have := HB.out; omega)
      clear hlo
      go_wp2
      go_meet
      exact ⟨rfl, lo, mid, by rw [hlw], rfl, SymInv.left (by rw [HUL.out]; exact HM.out) (by rw [HVL.out]; exact HB.out) HMID.out hgt HLO.out⟩
    · have hgtI : ¬ (mid : Int) < (m : Int) := by omega
      go_wp2
      go_meet
      exact ⟨rfl, a, m, rfl, rfl, SymInv.right (by rw [HUL.out]; exact HM.out) (by rw [HVL.out]; exact HB.out) HMID.out hgt⟩
  case rest =>
    obtain ⟨rfl, p, q, rfl, rfl, hinv⟩ := hcut
    have HINV := Lib.hid hinv
    clear hinv
    have hn1 := HN1W.out
    go_wp2
    clear hn1
    rw [HN1W.out]
    go_loopw [20, 21] (fun i r wr => ∃ p q : Nat, i = .int .i64 p ∧ r = .int .i64 q ∧ Below w.heap.size w wr ∧ SymInv U V a (mid - a) p q) (fun i r _ => (intOf r).toNat - (intOf i).toNat)
    case atStart => exact ⟨p, q, rfl, rfl, fr_refl _, HINV.out⟩
    case round =>
      obtain ⟨p, q, rfl, rfl, hbl, hinv⟩ := hrel
      have HBL := Lib.hid hbl; have HINV := Lib.hid hinv
      clear hinv
      by_cases hlt : p < q
      · have hltI : (p : Int) < (q : Int) := by omega
        obtain ⟨k, hk⟩ : ∃ k, (p + q) / 2 = k := ⟨_, rfl⟩
        obtain ⟨i, j, hi, hiU, hjV, hij⟩ := HINV.out.at_ hlt hk
        obtain ⟨jj, hjj⟩ : ∃ jj, m + j = jj := ⟨_, rfl⟩
        have hjI : (N1 : Int) - (k : Int) = (jj : Int) := by have := HN1.out; have := HFA.out; omega
        obtain ⟨c0, c1, hkn⟩ := Row.mid (A := PL) (V := U) (C := V ++ PR) H.out HA.out hiU hi
        obtain ⟨d0, d1, hjn⟩ := Row.mid (A := PL ++ U) (V := V) (C := PR) (by simpa using H.out) (by rw [List.length_append, HA.out, HUL.out, HM.out]) hjV hjj
        have hgl := H.out.lt
        have c0' := cell_grown (Nat.lt_of_lt_of_le hgl hbl.size) (fr_cell hbl c0)
        have c1' := cell_grown (Nat.lt_of_lt_of_le hgl hbl.size) (fr_cell hbl c1)
        have d0' := cell_grown (Nat.lt_of_lt_of_le hgl hbl.size) (fr_cell hbl d0)
        have d1' := cell_grown (Nat.lt_of_lt_of_le hgl hbl.size) (fr_cell hbl d1)
        obtain ⟨x, hx⟩ : ∃ x, U[i] = x := ⟨_, rfl⟩
        obtain ⟨y, hy⟩ : ∃ y, V[j] = y := ⟨_, rfl⟩
        rw [hx] at c0' c1'
        rw [hy] at d0' d1'
        obtain ⟨c, hc⟩ : ∃ c, cmpP y x = c := ⟨_, rfl⟩
        have hcg := fun n' os' => cmp_grown y x c hc (grow (wr.drewN n') os')
        have hknI := Int.ofNat_lt.2 hkn
        have hjnI := Int.ofNat_lt.2 hjn
        have hqb : q ≤ n := by have := HINV.out.qu; have := HBN.out; have := HM.out; have := HB.out; have := HUL.out; have := HINV.out.ap; omega
        have HMK := Lib.hid (mid_wrap p q k (by have := HNN.out; omega) (by have := HNN.out; omega) hk)
        have HK1 := Lib.hid (wrap_succ k (by have := HNN.out; omega))
        have hjw2 : IntKind.i64.wrap (jj : Int) = (jj : Int) := IntWalk.i64_in _ (by have := HNN.out; omega)
        have hjw := wrap_nat jj (by have := HNN.out; omega)
        have HE := Lib.hid (And.intro hlt (And.intro hk (And.intro hi (And.intro hij (show ∃ (h1 : i < U.length) (h2 : j < V.length), cmpP V[j] U[i] = c from ⟨hiU, hjV, by rw [hx, hy]; exact hc⟩)))))
        clear hbl hk hi hiU hjV hij hjj c0 c1 d0 d1 hkn hjn hgl hx hy hc hqb
        go_wp2_with fail
        rw [HMK.out]
        go_quiet_grown (first | (go_at_call 23; refine Calls.grown_of (hcg _ _)))
        have hfr := fr_growN HBL.out nq osq
        generalize grow (wr.drewN nq) osq = wz at hfr
        have HFR := Lib.hid hfr
        clear hfr c0' c1' d0' d1' hcg hknI hjnI hjw hjw2
        go_wp2
        · rename_i hcz0
          have hcz : ¬ c < 0 := by simpa using hcz0
          obtain ⟨hlt, hk, hi, hij, hiU, hjV, e⟩ := HE.out
          go_roundw
          case measure => rw [HK1.out]; show ((q : Int)).toNat - ((k : Int) + 1).toNat < ((q : Int)).toNat - ((p : Int)).toNat; omega
          case rel => exact ⟨k + 1, q, by rw [HK1.out]; rfl, rfl, HFR.out, HINV.out.up hlt hk hi hiU hjV hij (by rw [e]; exact hcz)⟩
        · rename_i hcz0
          have hcz : c < 0 := by simpa using hcz0
          obtain ⟨hlt, hk, hi, hij, hiU, hjV, e⟩ := HE.out
          go_roundw
          case measure => show ((k : Int)).toNat - ((p : Int)).toNat < ((q : Int)).toNat - ((p : Int)).toNat; omega
          case rel => exact ⟨p, k, rfl, rfl, HFR.out, HINV.out.down hlt hk hi hiU hjV hij (by rw [e]; exact hcz)⟩
      · have hltI : ¬ (p : Int) < (q : Int) := by omega
        obtain rfl : p = q := by have := HINV.out.pq; omega
        have hltJ : ¬ (p : Int) < (p : Int) := by omega
        obtain ⟨U1, U2, V1, V2, eU, eV, l1, l2, s1, s2, s3, s4, hcr⟩ := HINV.out.parts HU.out HV.out
        obtain ⟨e, he⟩ : ∃ e, m + V1.length = e := ⟨_, rfl⟩
        have hul : u = U1.length + U2.length := by rw [← HUL.out, eU, List.length_append]
        have hvl : v = V1.length + V2.length := by rw [← HVL.out, eV, List.length_append]
        have HNE := Lib.hid (show (N : Int) - (p : Int) = (e : Int) by have := HN.out; have := HFA.out; omega)
        have HEW := Lib.hid (wrap_nat e (by have := HBN.out; have := HNN.out; have := HB.out; omega))
        have HF := Lib.hid (show a ≤ p ∧ p ≤ m ∧ m ≤ e ∧ e ≤ b ∧ p ≤ mid ∧ mid ≤ e by have := HM.out; have := HB.out; have := HFA.out; omega)
        have HS := Lib.hid (And.intro s1 (And.intro s2 (And.intro s3 (And.intro s4 hcr))))
        have HLEN := Lib.hid (And.intro l1 (And.intro l2 (And.intro he (And.intro hul hvl))))
        have HE := Lib.hid (And.intro eU eV)
        have HR0 := Lib.hid (show Row wr base g n cap (PL ++ (U1 ++ (U2 ++ (V1 ++ (V2 ++ PR))))) by have := H.out.fr hbl; rw [eU, eV] at this; simpa using this)
        have HG0 := Lib.hid (show w.grownBy wr (some g) from only_fr (only_refl _ _) hbl)
        obtain ⟨B1, hB1⟩ : ∃ B1, (decide (p < m) && decide (m < e)) = B1 := ⟨_, rfl⟩
        obtain ⟨B2, hB2⟩ : ∃ B2, (decide (a < p) && decide (p < mid)) = B2 := ⟨_, rfl⟩
        obtain ⟨B3, hB3⟩ : ∃ B3, (decide (mid < e) && decide (e < b)) = B3 := ⟨_, rfl⟩
        have HB1 := Lib.hid hB1; have HB2 := Lib.hid hB2; have HB3 := Lib.hid hB3
        clear hbl eU eV l1 l2 s1 s2 s3 s4 hcr he hul hvl hB1 hB2 hB3 hlt hltI
        have hNe := HNE.out
        have hew := HEW.out
        go_upto_region 39 with fail
        clear hNe hew
        rw [HEW.out]
        go_cut [185] (fun s wx => s = .bool B1 ∧ wr = wx)
        case first => as_aux_lemma =>
          by_cases h1 : p < m
          · have h1I : (p : Int) < (m : Int) := by omega
            by_cases h2 : m < e
            · have h2I : (m : Int) < (e : Int) := by omega
              go_wp2
              go_meet
              exact ⟨by rw [← HB1.out]; simp [h1, h2], rfl⟩
            · have h2I : ¬ (m : Int) < (e : Int) := by omega
              go_wp2
              go_meet
              exact ⟨by rw [← HB1.out]; simp [h2], rfl⟩
          · have h1I : ¬ (p : Int) < (m : Int) := by omega
            go_wp2
            go_meet
            exact ⟨by rw [← HB1.out]; simp [h1], rfl⟩
        case rest =>
          obtain ⟨rfl, rfl⟩ := hcut
          go_upto_if 185 with fail
          go_cut [] (fun wx => w.grownBy wx (some g) ∧ Row wx base g n cap (PL ++ (U1 ++ (V1 ++ (U2 ++ (V2 ++ PR))))))
          case first => as_aux_lemma =>
            cases B1 with
            | true =>
              have hB := HB1.out
              simp only [Bool.and_eq_true, decide_eq_true_eq] at hB
              have hc := rotate base g n cap p m e (PL ++ U1) U2 V1 (V2 ++ PR) (.func (.func 23) #[] #[]) wr (by rw [List.length_append, HA.out]; exact HLEN.out.1) (by have := HLEN.out; have := HM.out; omega) HLEN.out.2.2.1 (by have := HLEN.out; have := HM.out; omega) (by have := HLEN.out; omega) (by have := HNN.out; omega) (by have := HR0.out; simpa using this)
              have HC := Lib.hid hc
              clear hc hB
              go_wp2_with fail
              refine HC.out.mono ?_
              rintro x w1 ⟨rfl, hr1, hg1⟩
              have HR1 := Lib.hid hr1; have HG1 := Lib.hid (only_trans HG0.out hg1)
              clear hr1 hg1
              go_wp2
              go_meet
              exact ⟨HG1.out, by have := HR1.out; simpa using this⟩
            | false =>
              have hB := HB1.out
              simp only [Bool.and_eq_false_imp, decide_eq_true_eq, decide_eq_false_iff_not] at hB
              have HR1 := Lib.hid (show Row wr base g n cap (PL ++ (U1 ++ (V1 ++ (U2 ++ (V2 ++ PR))))) by
                have h0 := HR0.out
                by_cases hp : p < m
                · obtain rfl : V1 = [] := List.eq_nil_of_length_eq_zero (by have := HLEN.out; have := hB hp; omega)
                  simpa using h0
                · obtain rfl : U2 = [] := List.eq_nil_of_length_eq_zero (by have := HLEN.out; have := HM.out; omega)
                  simpa using h0)
              clear hB
              go_wp2
              go_meet
              exact ⟨HG0.out, HR1.out⟩
          case rest =>
            obtain ⟨hg1, hr1⟩ := hcut
            clear HR0 HG0
            have HG1 := Lib.hid hg1; have HR1 := Lib.hid hr1
            clear hg1 hr1
            obtain ⟨w1, hw1⟩ : ∃ w1, w1 = wc := ⟨_, rfl⟩
            subst hw1
            go_upto_region 41 with fail
            go_cut [199] (fun s wx => s = .bool B2 ∧ w1 = wx)
            case first => as_aux_lemma =>
              by_cases h1 : a < p
              · have h1I : (a : Int) < (p : Int) := by omega
                by_cases h2 : p < mid
                · have h2I : (p : Int) < (mid : Int) := by omega
                  go_wp2
                  go_meet
                  exact ⟨by rw [← HB2.out]; simp [h1, h2], rfl⟩
                · have h2I : ¬ (p : Int) < (mid : Int) := by omega
                  go_wp2
                  go_meet
                  exact ⟨by rw [← HB2.out]; simp [h2], rfl⟩
              · have h1I : ¬ (a : Int) < (p : Int) := by omega
                go_wp2
                go_meet
                exact ⟨by rw [← HB2.out]; simp [h1], rfl⟩
            case rest =>
              obtain ⟨rfl, hw2⟩ := hcut
              subst hw2
              go_upto_if 199 with fail
              go_cut [] (fun wx => ∃ W1, W1.Perm (U1 ++ V1) ∧ Srt W1 ∧ w.grownBy wx (some g) ∧ Row wx base g n cap (PL ++ (W1 ++ (U2 ++ (V2 ++ PR)))))
              case first => as_aux_lemma =>
                cases B2 with
                | true =>
                  have hB := HB2.out
                  simp only [Bool.and_eq_true, decide_eq_true_eq] at hB
                  have hc := HI.out a p mid PL U1 V1 (U2 ++ (V2 ++ PR)) w1 (by have := HZ.out; have := HLEN.out; have := HFA.out; have := HMID.out; have := HM.out; have := HB.out; have := HU1.out; have := HV1.out; omega) HA.out HLEN.out.1 (by have := HLEN.out; have := HFA.out; omega) (by have := HLEN.out; omega) (by have := HLEN.out; have := HFA.out; omega) HS.out.1 HS.out.2.2.1 HR1.out
                  have HC := Lib.hid hc
                  clear hc hB
                  go_wp2_with fail
                  refine HC.out.mono ?_
                  rintro x w2 ⟨rfl, W1, q1, q2, hr2, hg2⟩
                  have HR2 := Lib.hid hr2; have HG2 := Lib.hid (only_trans HG1.out hg2); have HW := Lib.hid (And.intro q1 q2)
                  clear hr2 hg2 q1 q2
                  go_wp2
                  go_meet
                  exact ⟨W1, HW.out.1, HW.out.2, HG2.out, HR2.out⟩
                | false =>
                  have hB := HB2.out
                  simp only [Bool.and_eq_false_imp, decide_eq_true_eq, decide_eq_false_iff_not] at hB
                  have HR2 := Lib.hid (show ∃ W1, W1.Perm (U1 ++ V1) ∧ Srt W1 ∧ Row w1 base g n cap (PL ++ (W1 ++ (U2 ++ (V2 ++ PR)))) by
                    have h0 := HR1.out
                    by_cases hp : a < p
                    · obtain rfl : V1 = [] := List.eq_nil_of_length_eq_zero (by have := HLEN.out; have := hB hp; have := HFA.out; omega)
                      exact ⟨U1, by rw [List.append_nil], HS.out.1, by simpa using h0⟩
                    · obtain rfl : U1 = [] := List.eq_nil_of_length_eq_zero (by have := HLEN.out; omega)
                      exact ⟨V1, by rw [List.nil_append], HS.out.2.2.1, by simpa using h0⟩)
                  clear hB
                  go_wp2
                  go_meet
                  obtain ⟨W1, q1, q2, q3⟩ := HR2.out
                  exact ⟨W1, q1, q2, HG1.out, q3⟩
              case rest =>
                obtain ⟨W1, q1, q2, hg2, hr2⟩ := hcut
                clear HR1 HG1
                have HG2 := Lib.hid hg2; have HR2 := Lib.hid hr2; have HW := Lib.hid (And.intro q1 q2)
                have HWL := Lib.hid (show W1.length = mid - a by rw [q1.length_eq, List.length_append, HLEN.out.2.1])
                clear hg2 hr2 q1 q2
                obtain ⟨w2, hw2⟩ : ∃ w2, w2 = wc := ⟨_, rfl⟩
                subst hw2
                go_upto_region 43 with fail
                go_cut [213] (fun s wx => s = .bool B3 ∧ w2 = wx)
                case first => as_aux_lemma =>
                  by_cases h1 : mid < e
                  · have h1I : (mid : Int) < (e : Int) := by omega
                    by_cases h2 : e < b
                    · have h2I : (e : Int) < (b : Int) := by omega
                      go_wp2
                      go_meet
                      exact ⟨by rw [← HB3.out]; simp [h1, h2], rfl⟩
                    · have h2I : ¬ (e : Int) < (b : Int) := by omega
                      go_wp2
                      go_meet
                      exact ⟨by rw [← HB3.out]; simp [h2], rfl⟩
                  · have h1I : ¬ (mid : Int) < (e : Int) := by omega
                    go_wp2
                    go_meet
                    exact ⟨by rw [← HB3.out]; simp [h1], rfl⟩
                case rest =>
                  obtain ⟨rfl, hw3⟩ := hcut
                  subst hw3
                  cases B3 with
                  | true =>
                    have hB := HB3.out
                    simp only [Bool.and_eq_true, decide_eq_true_eq] at hB
                    have hc := HI.out mid e b (PL ++ W1) U2 V2 PR w2 (by have := HZ.out; have := HLEN.out; have := HFA.out; have := HMID.out; have := HM.out; have := HB.out; have := HU1.out; have := HV1.out; omega) (by rw [List.length_append, HA.out, HWL.out]; have := HFA.out; omega) (by have := HLEN.out; have := HFA.out; have := HM.out; omega) (by have := HLEN.out; have := HB.out; omega) (by have := HLEN.out; have := HFA.out; have := HM.out; omega) (by have := HLEN.out; have := HB.out; omega) HS.out.2.1 HS.out.2.2.2.1 (by have := HR2.out; simpa using this)
                    have HC := Lib.hid hc
                    clear hc hB
                    go_wp2_with fail
                    refine HC.out.mono ?_
                    rintro x w3 ⟨rfl, W2, q1, q2, hr3, hg3⟩
                    have HR3 := Lib.hid hr3; have HG3 := Lib.hid (only_trans HG2.out hg3); have HW2 := Lib.hid (And.intro q1 q2)
                    clear hr3 hg3 q1 q2
                    go_wp2
                    go_end0
                    refine ⟨rfl, W1 ++ W2, ?_, ?_, by have := HR3.out; simpa using this, HG3.out⟩
                    · rw [HE.out.1, HE.out.2]; exact perm_four HW.out.1 HW2.out.1
                    · exact srt_join HW.out.1 HW2.out.1 HW.out.2 HW2.out.2 HS.out.2.2.2.2
                  | false =>
                    have hB := HB3.out
                    simp only [Bool.and_eq_false_imp, decide_eq_true_eq, decide_eq_false_iff_not] at hB
                    have HR3 := Lib.hid (show ∃ W2, W2.Perm (U2 ++ V2) ∧ Srt W2 ∧ Row w2 base g n cap (PL ++ (W1 ++ (W2 ++ PR))) by
                      have h0 := HR2.out
                      by_cases hp : mid < e
                      · obtain rfl : V2 = [] := List.eq_nil_of_length_eq_zero (by have := HLEN.out; have := hB hp; have := HB.out; omega)
                        exact ⟨U2, by rw [List.append_nil], HS.out.2.1, by simpa using h0⟩
                      · obtain rfl : U2 = [] := List.eq_nil_of_length_eq_zero (by have := HLEN.out; have := HFA.out; have := HM.out; omega)
                        exact ⟨V2, by rw [List.nil_append], HS.out.2.2.2.1, by simpa using h0⟩)
                    clear hB
                    go_wp2
                    go_end0
                    obtain ⟨W2, q1, q2, q3⟩ := HR3.out
                    refine ⟨rfl, W1 ++ W2, ?_, ?_, by simpa using q3, HG2.out⟩
                    · rw [HE.out.1, HE.out.2]; exact perm_four HW.out.1 q1
                    · exact srt_join HW.out.1 q1 HW.out.2 q2 HS.out.2.2.2.2
theorem merge_ok (base g n cap : Nat) (hn9 : n ≤ 10000) : ∀ z, MergeOK base g n cap z
  | 0 => fun a m b PL U V PR w hz _ _ _ hu hv => by omega
  | z + 1 => fun a m b PL U V PR w hz ha hm hb hu hv hU hV h => by
    by_cases h1 : U.length = 1
    · obtain ⟨x, rfl⟩ := List.length_eq_one_iff.1 h1
      exact sym_left base g n cap a m b PL V PR x w hn9 ha hm hb hV hv (by simpa using h)
    · by_cases h2 : V.length = 1
      · obtain ⟨y, rfl⟩ := List.length_eq_one_iff.1 h2
        exact sym_right base g n cap a m b U.length PL U PR y w hn9 ha rfl hm hb hU (by omega) (by simpa using h)
      · exact sym_step base g n cap z a m b U.length V.length PL U V PR w hn9 (merge_ok base g n cap hn9 z) hz ha rfl rfl hm hb (by omega) (by omega) hU hV h
theorem sym_merge (base g n cap : Nat) (hn9 : n ≤ 10000) (z a m b : Nat) (PL U V PR : List Pr) (w : World) (hz : U.length + V.length ≤ z) (ha : PL.length = a) (hm : a + U.length = m) (hb : m + V.length = b) (hu : 0 < U.length) (hv : 0 < V.length) (hU : Srt U) (hV : Srt V) (h : Row w base g n cap (PL ++ (U ++ (V ++ PR)))) :
    Calls Tryd.prog 50 #[.slice (some ⟨g, 0, none⟩) n cap, .int .i64 a, .int .i64 m, .int .i64 b, .func (.func 23) #[] #[]] w fun e w' => e = .returned (.tuple #[]) ∧ ∃ W, W.Perm (U ++ V) ∧ Srt W ∧ Row w' base g n cap (PL ++ (W ++ PR)) ∧ w.grownBy w' (some g) :=
  merge_ok base g n cap hn9 z a m b PL U V PR w hz ha hm hb hu hv hU hV h
end Go.Proofs.YtdlignhlliellaaDoor
