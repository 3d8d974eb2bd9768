/- (*vars.rows).fields: its walk. -/
import Derived.Test.YtdlignhlliellaaDoorVx0
namespace Go.Proofs.YtdlignhlliellaaDoor
set_option linter.unusedVariables false
set_option linter.unusedSimpArgs false
open Go.RowKit Go.Maps

theorem lookup_at {P : Program} (w : World) {ops : Array Oper} {rest : List Oper} {o : Oper} {a : Act} {Q : Exit → Act → World → Prop}
    (hg : o.guard = none) (m x : Operand) (t : TypeId) (hop : o.op = Op.lookup t m x true)
    (k e : TypeId) (q : IntKind) (K : Keyed P k) (ht : P.underlying t = some (.map k e)) (he : P.underlying e = some (.int q)) (hz : (zeroValue e).run P w = .ok (.int q 0) w) (b n : Nat) (D : DataW Unit)
    (hm : a.eval m = .map (some b)) (hown : w.ownsMap P k (plainElem P e) b n D) (key : Value) (kl : Lit) (hx : a.eval x = key) (hkey : keyOf P k key = some kl)
    (j : Int) (hj : D.atKey kl (.lit (.int q 0)) = .lit (.int q j)) (y : Bool) (hy : Maps.has D kl = y)
    (hK : wpList P ops Q rest (a.put o.dst (.tuple #[.int q j, .bool y])) w) : wpList P ops Q (o :: rest) a w :=
  wpList_lookup_own_ok_int w hg m x t hop k e q K ht he hz b n D hm hown key kl hx hkey fun c hat _ => by
    rw [hj] at hat
    injection hat with e1
    injection e1 with _ e2
    subst e2 hy
    exact hK
set_option maxRecDepth 100000 in
set_option maxHeartbeats 4000000 in
theorem rows_fields (base g : Nat) (f : Value) (L0 : List Pr) (A : Option Addr) (n c : Nat) (l : List Pr) (w : World) (hR : RowsAt base g w f L0) (hbw : base ≤ w.heap.size) (hgb : g < base) (hL : L0.length ≤ 100000)
    (hn : l.length = n) (hn9 : n ≤ 1000) (hp : Pairs w A l) (hs : ∀ p ∈ l, p.1.size ≤ 140737488351232 ∧ p.2.size ≤ 140737488351232) :
    Calls Tryd.prog 21 #[.pointer (some ⟨g, 0, none⟩), .slice A n c] w fun e w' => e = .returned (.tuple #[]) ∧ (∃ f', RowsAt base g w' f' ((fieldsL l).foldl (fun a p => addL a p.1 p.2) L0) ∧ Fresh w f f') ∧ Two g f.ownBlock w w' := by
  obtain ⟨i0, hi, hz0, hz1, hz2⟩ := info_parts pair_info
  have hmm := @run_makeMap Tryd.prog
  have HR := Lib.hid hR; have HN := Lib.hid hn; have HP := Lib.hid hp; have HS := Lib.hid hs
  clear hR hn hp hs
  go_enter Tryd.func21, Tryd.ntmps21
  go_wp2
  go_loopw [5, 17] (fun v i wr => ∃ (k : Nat) (D : DataW Unit), k ≤ n ∧ i = .int .i64 k ∧ Below w.heap.size w wr ∧ wr.ownsRow (w.heap.size + 1) 37 2 v (fieldsL (l.take k)).length (pcells (fieldsL (l.take k))) ∧ wr.ownsMap Tryd.prog 9 (plainElem Tryd.prog 3) w.heap.size k D ∧ Idx D (fieldsL (l.take k)) ∧ ∀ p ∈ fieldsL (l.take k), p.1.size ≤ 200000000000000 ∧ p.2.size ≤ k * 200000000000000) (fun _ i _ => n - (intOf i).toNat)
  case atStart => exact ⟨0, .map [], Nat.zero_le _, rfl, fr_alloc (fr_refl _) _, World.ownsRow_nil _ _ _ _, World.ownsMap_made _ _ _ _, Idx.nil, by intro p hp; cases hp⟩
  case round =>
    obtain ⟨k, D, hk, rfl, hb, hown, hmap, hidx, hsz⟩ := hrel
    have HB := Lib.hid hb; have HO := Lib.hid hown; have HMP := Lib.hid hmap; have HI := Lib.hid hidx; have HSZ := Lib.hid hsz
    clear hb hown hmap hidx hsz hmm
    by_cases hlt : k < n
    · have hkl : k < l.length := by have := HN.out; omega
      obtain ⟨b, off, rfl, hbl, hcell⟩ := (HP.out.fr HB.out) (by omega)
      obtain ⟨h1, h2⟩ := hcell k hkl
      have hs1 := HS.out l[k] (List.getElem_mem hkl)
      have hst : fieldsL (l.take (k + 1)) = stepF (fieldsL (l.take k)) l[k] := by rw [List.take_succ_eq_append_getElem hkl, fieldsL_snoc]
      obtain ⟨⟨pn, pv⟩, hpe⟩ : ∃ p, l[k] = p := ⟨_, rfl⟩
      rw [hpe] at h1 h2 hs1 hst
      simp only at h1 h2 hs1
      obtain ⟨O, hO⟩ : ∃ O, fieldsL (l.take k) = O := ⟨_, rfl⟩
      have hOk := fieldsL_len l k
      rw [hO] at HO HI HSZ hst hOk
      obtain ⟨A5, c5, hv5, -, hP5⟩ := Pairs.own HO.out
      obtain ⟨m, hm⟩ : ∃ m, O.length = m := ⟨_, rfl⟩
      rw [hm] at hv5 HO hOk
      subst hv5
      have HM := Lib.hid hm; have HP5 := Lib.hid hP5
      clear hP5 hm
      have HST := Lib.hid hst; have HS1 := Lib.hid hs1
      have kI : (k : Int) < (n : Int) := by omega
      have k0 : (0 : Int) ≤ (k : Int) := by omega
      clear hcell hpe hO hst hs1
      have hbx := Box.new wr [.string pn, .string pv] 37
      have hfx := fr_alloc (fr_refl wr) (.cells #[.string pn, .string pv] 37)
      have HBX := Lib.hid hbx; have HFX := Lib.hid hfx
      clear hbx hfx
      cases hkp : isKept pn
      · have HKP := Lib.hid hkp
        clear hkp
        obtain ⟨nm, hnm⟩ : ∃ x, nmB pn = x := ⟨_, rfl⟩
        have HNM := Lib.hid hnm
        have hnz : nm.size ≤ 200000000000000 := by rw [← hnm]; unfold nmB; rw [size_app, greatB_size]; have := HS1.out.1; show 5 + pn.size ≤ _; omega
        have hkey : keyOf Tryd.prog 9 (.string nm) = some (kS nm) := WideMaps.keyOf_string_mk (P := Tryd.prog) Tryd.underlying9 (by simp only [maxLen]; omega)
        clear hnm
        go_wp2_with fail
        refine (isKept_at pn _ _ HKP.out (by have := HS1.out.1; omega)).mono ?_
        rintro e w1 ⟨rfl, hb1⟩
        have x1 := HBX.out.fr hb1
        have qc0 : w1.cell? ⟨wr.heap.size, 0, none⟩ = some (.string pn) := x1.2 0 _ rfl
        have qc1 : w1.cell? ⟨wr.heap.size, 1, none⟩ = some (.string pv) := x1.2 1 _ rfl
        have qlt : wr.heap.size < w1.heap.size := x1.1
        have HX1 := Lib.hid x1; have H1 := Lib.hid (fr_trans HFX.out hb1)
        clear x1 hb1
        go_wp2_with fail
        refine (vars_Name_at pn nm _ HNM.out (by have := HS1.out.1; omega)).mono ?_
        rintro e w2 ⟨rfl, hb2⟩
        have x2 := HX1.out.fr hb2
        have qc0 : w2.cell? ⟨wr.heap.size, 0, none⟩ = some (.string pn) := x2.2 0 _ rfl
        have qc1 : w2.cell? ⟨wr.heap.size, 1, none⟩ = some (.string pv) := x2.2 1 _ rfl
        have qlt : wr.heap.size < w2.heap.size := x2.1
        have HX2 := Lib.hid x2
        have h02 := fr_trans H1.out hb2
        have H2 := Lib.hid h02
        have hmap2 := HMP.out.kept (only_fr (only_refl wr none) h02) (by simp)
        clear x2 hb2 h02
        cases hh : hasN O nm
        · have hmiss : has D (kS nm) = false := HI.out.no nm hh
          have HH := Lib.hid hh
          clear hh
          have hO2 : w2.ownsRow (w.heap.size + 1) 37 2 (.slice A5 m c5) m (pcells O) := own_fr HO.out H2.out
          have hval := plainElem_int (H := Unit) (P := Tryd.prog) Tryd.underlying3 (wf_i64 m (by omega))
          have hne5 : ∀ x, (Value.slice A5 m c5).ownBlock = some x → w.heap.size + 1 ≤ x := own_ge hO2
          have HO2 := Lib.hid hO2; have HNE := Lib.hid hne5; have HMP2 := Lib.hid hmap2
          clear hO2 hne5
          have q1lt : wr.heap.size < w2.heap.size := World.block_lt_of_cell? w2 _ qc1
          have hmlt : w.heap.size < wr.heap.size := HMP.out.lt
          go_wp2_with (first | (at_lookup; refine wpList_lookup_own_ok_int _ rfl _ _ 69 rfl 9 3 .i64 lawS Tryd.underlying69 Tryd.underlying3 (zeroE _) w.heap.size k D rfl hmap2 _ _ rfl hkey ?_; intro cL hat hwc; rw [hmiss]) | (at_mapUpdate; refine wpList_mapUpdate_own _ rfl _ _ _ 69 rfl 9 3 lawS Tryd.underlying69 _ w.heap.size k D rfl hmap2 (by simp only [maxLen]; omega) _ _ (kS nm) rfl rfl hkey _ [] hval ?_; intro wm hmapm hgrow; have dv : wm.cell? ⟨wr.heap.size, 1, none⟩ = some (.string pv) := (hgrow.cell_far ⟨wr.heap.size, 1, none⟩ q1lt (by simp; omega)).trans qc1; have hOm := HO2.out.kept hgrow (.inr (fun e => absurd (HNE.out _ e) (by omega))); have hmsz := hgrow.size; have hbm := (fr_trans HB.out H2.out).grown hgrow (Nat.le_trans HB.out.size (fr_trans (fr_refl _) H2.out).size) (fun x hx => by injection hx with hx; omega)) | (at_builtin; refine wpList_append_own _ rfl (.tmp 52) (.tmp 57) _ rfl (w.heap.size + 1) 37 i0 _ 2 32 Tryd.underlying25 hi hz0 hz1 hz2 rfl (by decide) _ _ _ rfl (hOm.alloc _) ⟨wm.heap.size, 0, none⟩ 1 1 [.string nm, .string pv] rfl rfl (new_cells _ _ _) (by intro u hu; simp at hu; rcases hu with rfl | rfl <;> rfl) (by simp only [maxLen]; omega) (by omega) (by simp; omega) ?_; intro v2 w3 hown2 hg2 _))
          go_roundw
          case measure => exact meas hlt .i64 .i64
          case rel =>
            have hst2 : fieldsL (l.take (k + 1)) = O ++ [(nm, pv)] := by
              rw [HST.out]
              show (if isKept pn = true then O else addF O (nmB pn) pv) = _
              rw [HKP.out, if_neg (by decide), HNM.out, addF_no HH.out]
            refine ⟨k + 1, D.put (kS nm) (.lit (.int .i64 (m : Int))), by omega, by go_num, fr_grown (fr_alloc hbm _) hg2 (fun x hx => by have := HNE.out x hx; omega), ?_, (hmapm.alloc _).kept hg2 (fun e => by have := HNE.out _ e.symm; omega), ?_, ?_⟩
            · rw [hst2, List.length_append, List.length_singleton, pcells_snoc, HM.out]; exact hown2
            · rw [hst2, ← HM.out]; exact HI.out.put nm pv HH.out
            · rw [hst2]
              intro p hp
              rcases List.mem_append.1 hp with h | h
              · have := HSZ.out p h; exact ⟨this.1, by omega⟩
              · rw [List.mem_singleton.1 h]; exact ⟨hnz, by have := HS1.out.2; show pv.size ≤ _; omega⟩
        · obtain ⟨j, hj, hje⟩ := has_at hh
          obtain ⟨hhas, hatk⟩ := HI.out.yes j hj
          rw [hje] at hhas hatk
          have hjm : j < m := by have := HM.out; omega
          have hO2 : w2.ownsRow (w.heap.size + 1) 37 2 (.slice A5 m c5) m (pcells O) := own_fr HO.out H2.out
          obtain ⟨gb, cc, hgb2, -, -⟩ := hO2.form (by omega)
          injection hgb2 with e1 e2 e3
          subst e1 e3
          obtain ⟨ov, hov⟩ : ∃ v, O[j].2 = v := ⟨_, rfl⟩
          have hovz : ov.size ≤ k * 200000000000000 := by rw [← hov]; exact (HSZ.out _ (List.getElem_mem hj)).2
          have pc1 : w2.cell? ⟨gb, j * 2 + 1, none⟩ = some (.string ov) := by rw [hO2.cellAt _ (by omega), (pcells_at O j hj).2, hov]
          have pf1 : w2.frozen? ⟨gb, j * 2 + 1, none⟩ = false := hO2.frozenAt _
          have q1lt : wr.heap.size < w2.heap.size := World.block_lt_of_cell? w2 _ qc1
          have jI : (j : Int) < (m : Int) := by omega
          have j0 : (0 : Int) ≤ (j : Int) := by omega
          have z2 : ¬ 9223372036854775807 < 2 + pv.size := by have := HS1.out.2; omega
          have z3 : ¬ 9223372036854775807 < ov.size + (2 + pv.size) := by have := HS1.out.2; omega
          have HO2 := Lib.hid hO2; have HMP2 := Lib.hid hmap2; have HJ := Lib.hid hj; have HJE := Lib.hid hje; have HOV := Lib.hid hov
          clear hO2 hje hov hh
          have hdone : ∀ ws, Below w.heap.size w ws → ws.ownsRow (w.heap.size + 1) 37 2 (.slice (some ⟨gb, 0, none⟩) m c5) m ((pcells O).set (j * 2 + 1) (.string (ov ++ (sepB nm ++ pv)))) → ws.ownsMap Tryd.prog 9 (plainElem Tryd.prog 3) w.heap.size k D → ∃ (k' : Nat) (D : DataW Unit), k' ≤ n ∧ Value.int .i64 ((k : Int) + 1) = .int .i64 k' ∧ Below w.heap.size w ws ∧ ws.ownsRow (w.heap.size + 1) 37 2 (.slice (some ⟨gb, 0, none⟩) m c5) (fieldsL (l.take k')).length (pcells (fieldsL (l.take k'))) ∧ ws.ownsMap Tryd.prog 9 (plainElem Tryd.prog 3) w.heap.size k' D ∧ Idx D (fieldsL (l.take k')) ∧ ∀ p ∈ fieldsL (l.take k'), p.1.size ≤ 200000000000000 ∧ p.2.size ≤ k' * 200000000000000 := fun ws hbs hos hms => by
            have hf : addF O nm pv = O.set j (nm, ov ++ (sepB nm ++ pv)) := by rw [addF_yes HJ.out HJE.out HI.out.nd, HOV.out]
            have hst2 : fieldsL (l.take (k + 1)) = addF O nm pv := by
              rw [HST.out]
              show (if isKept pn = true then O else addF O (nmB pn) pv) = _
              rw [HKP.out, if_neg (by decide), HNM.out]
            have hmp : (addF O nm pv).map (·.1) = O.map (·.1) := by
              rw [hf, List.map_set]
              show (O.map (·.1)).set j nm = _
              rw [show nm = (O.map (·.1))[j]'(by rw [List.length_map]; exact HJ.out) by rw [List.getElem_map, HJE.out], List.set_getElem_self]
            refine ⟨k + 1, D, by omega, by go_num, hbs, ?_, hms.mono (Nat.le_succ k), ?_, ?_⟩
            · rw [hst2, hf, List.length_set, HM.out, ← pcells_set O j (nm, ov ++ (sepB nm ++ pv)) HJ.out HJE.out]; exact hos
            · rw [hst2]; exact HI.out.same hmp
            · rw [hst2]
              intro p hp
              have := addF_size (N := 200000000000000) (M := k * 200000000000000) (n := nm) (v := pv) HSZ.out hnz (by have := HS1.out.2; omega) p hp
              exact ⟨this.1, by have := HS1.out.2; omega⟩
          have HD := Lib.hid hdone
          clear hdone
          have hsepN : eqB nm ⟨#[72, 84, 84, 80, 95, 67, 79, 79, 75, 73, 69]⟩ = false → sepB nm = ⟨#[44, 32]⟩ := fun h => by unfold sepB; rw [h, if_neg (by decide)]
          have hsepY : eqB nm ⟨#[72, 84, 84, 80, 95, 67, 79, 79, 75, 73, 69]⟩ = true → sepB nm = ⟨#[59, 32]⟩ := fun h => by unfold sepB; rw [h, if_pos rfl]
          have HSN := Lib.hid hsepN; have HSY := Lib.hid hsepY
          clear hsepN hsepY
          cases hck : eqB nm ⟨#[72, 84, 84, 80, 95, 67, 79, 79, 75, 73, 69]⟩
          · have HCK := Lib.hid hck
            have hck2 : (nm.toList == [72, 84, 84, 80, 95, 67, 79, 79, 75, 73, 69]) = false := by rw [← hck]; unfold eqB; kernel_rfl
            clear hck
            go_wp2_with (first | (at_lookup; refine lookup_at _ rfl _ _ 69 rfl 9 3 .i64 lawS Tryd.underlying69 Tryd.underlying3 (zeroE _) w.heap.size k D rfl hmap2 _ _ rfl hkey (j : Int) hatk true hhas ?_))
            go_region
            go_wp2
            go_roundw
            case measure => exact meas hlt .i64 .i64
            case rel =>
              have hge := own_ge HO2.out gb rfl
              exact HD.out _ (fr_drew (fr_set (fr_trans HB.out H2.out) (by show _ ≤ gb; omega) _)) (by rw [HSN.out HCK.out]; exact (HO2.out.stored (j * 2 + 1) _).1.drew) ((HMP2.out.setCell (by show _ ≠ gb; omega) _).drew)
          · have HCK := Lib.hid hck
            have hck2 : (nm.toList == [72, 84, 84, 80, 95, 67, 79, 79, 75, 73, 69]) = true := by rw [← hck]; unfold eqB; kernel_rfl
            clear hck
            go_wp2_with (first | (at_lookup; refine lookup_at _ rfl _ _ 69 rfl 9 3 .i64 lawS Tryd.underlying69 Tryd.underlying3 (zeroE _) w.heap.size k D rfl hmap2 _ _ rfl hkey (j : Int) hatk true hhas ?_))
            go_region
            go_wp2
            go_roundw
            case measure => exact meas hlt .i64 .i64
            case rel =>
              have hge := own_ge HO2.out gb rfl
              exact HD.out _ (fr_drew (fr_set (fr_trans HB.out H2.out) (by show _ ≤ gb; omega) _)) (by rw [HSY.out HCK.out]; exact (HO2.out.stored (j * 2 + 1) _).1.drew) ((HMP2.out.setCell (by show _ ≠ gb; omega) _).drew)
      · have HKP := Lib.hid hkp
        clear hkp
        go_wp2_with fail
        refine (isKept_at pn _ _ HKP.out (by have := HS1.out.1; omega)).mono ?_
        rintro e w1 ⟨rfl, hb1⟩
        have h01 := fr_trans HFX.out hb1
        have hfin : fieldsL (l.take (k + 1)) = O := by rw [HST.out]; unfold stepF; rw [HKP.out, if_pos rfl]
        have HFIN := Lib.hid hfin; have H1 := Lib.hid h01
        clear hfin hb1 h01
        go_wp2
        go_roundw
        case measure => exact meas hlt .i64 .i64
        case rel => exact ⟨k + 1, D, by omega, by go_num, fr_trans HB.out H1.out, by rw [HFIN.out, HM.out]; exact own_fr HO.out H1.out, (HMP.out.kept (only_fr (only_refl wr none) H1.out) (by simp)).mono (Nat.le_succ k), by rw [HFIN.out]; exact HI.out, by rw [HFIN.out]; intro p hp; have := HSZ.out p hp; exact ⟨this.1, by omega⟩⟩
    · obtain ⟨wa, rfl⟩ : ∃ x, x = wr := ⟨_, rfl⟩
      have e : l.take k = l := List.take_of_length_le (by have := HN.out; omega)
      have hOk := fieldsL_len l k
      rw [e] at HO hOk
      obtain ⟨O, hO⟩ : ∃ O, fieldsL l = O := ⟨_, rfl⟩
      rw [hO] at HO hOk
      have HFO := Lib.hid hO
      clear hO
      obtain ⟨A5, c5, hv5, -, hP5⟩ := Pairs.own HO.out
      obtain ⟨m, hm⟩ : ∃ m, O.length = m := ⟨_, rfl⟩
      rw [hm] at hv5 HO hOk
      subst hv5
      have hge5 := own_ge HO.out
      have hlt5 := HO.out.lt
      have HM := Lib.hid hm
      have hA5 : ∀ x : Addr, A5 = some x → w.heap.size + 1 ≤ x.block ∧ x.block < wa.heap.size := fun x hx => ⟨hge5 x.block (by rw [hx]; rfl), (hlt5 x.block (by rw [hx]; rfl)).2⟩
      have HA5 := Lib.hid hA5
      have hR1 := HR.out.fr HB.out
      have hfl := HR.out.own.lt
      have HFL := Lib.hid hfl
      have HR1 := Lib.hid hR1; have HP5 := Lib.hid hP5
      clear hP5 hm e hge5 hlt5 hA5 hR1 hfl HO HMP HI HSZ
      go_wp2
      go_loopw [62] (fun i wq => ∃ (q : Nat) (f' : Value), q ≤ m ∧ i = .int .i64 q ∧ RowsAt base g wq f' ((O.take q).foldl (fun a p => addL a p.1 p.2) L0) ∧ Two g f.ownBlock w wq ∧ Fresh wa f f' ∧ wa.heap.size ≤ wq.heap.size ∧ Pairs wq A5 O) (fun i _ => m - (intOf i).toNat)
      case atStart => exact ⟨0, f, Nat.zero_le _, rfl, HR1.out, Two.of_fr HB.out, Fresh.refl _ _, Nat.le_refl _, HP5.out⟩
      case round =>
        obtain ⟨q, f', hq, rfl, hRq, hTq, hFq, hzq, hPq⟩ := hrel
        have HRQ := Lib.hid hRq; have HTQ := Lib.hid hTq; have HFQ := Lib.hid hFq; have HPQ := Lib.hid hPq
        clear hRq hTq hFq hPq
        by_cases hql : q < m
        · have hqo : q < O.length := by have := HM.out; omega
          obtain ⟨b, off, rfl, hbl, hcell⟩ := HPQ.out (by omega)
          obtain ⟨h1, h2⟩ := hcell q hqo
          have htk : (O.take (q + 1)).foldl (fun a p => addL a p.1 p.2) L0 = addL ((O.take q).foldl (fun a p => addL a p.1 p.2) L0) O[q].1 O[q].2 := by rw [List.take_succ_eq_append_getElem hqo, List.foldl_append]; rfl
          have hlen := foldl_add_len (O.take q) L0
          have hlen2 : (O.take q).length ≤ q := List.length_take_le _ _
          obtain ⟨Lq, hLq⟩ : ∃ x, (O.take q).foldl (fun a p => addL a p.1 p.2) L0 = x := ⟨_, rfl⟩
          obtain ⟨⟨pn, pv⟩, hpe⟩ : ∃ p, O[q] = p := ⟨_, rfl⟩
          rw [hLq] at htk hlen HRQ
          rw [hpe] at h1 h2 htk
          simp only at h1 h2 htk
          have HTK := Lib.hid htk
          have kI : (q : Int) < (m : Int) := by omega
          have k0 : (0 : Int) ≤ (q : Int) := by omega
          have hfa := fr_alloc (fr_refl wr) (.cells #[.string pn, .string pv] 37)
          have HADD := Lib.hid (rows_add base g f' Lq pn pv _ (HRQ.out.fr hfa) (by have := HTQ.out.size; simp; omega) hgb (by omega))
          have HFA := Lib.hid hfa
          clear hcell hpe hLq htk hfa
          go_wp2_with fail
          refine HADD.out.mono ?_
          rintro e w1 ⟨rfl, ⟨f2, hR2, hF2⟩, hT2⟩
          have HR2 := Lib.hid hR2; have HF2 := Lib.hid hF2; have HT2 := Lib.hid hT2
          clear hR2 hF2 hT2
          go_wp2
          go_roundw
          case measure => exact meas hql .i64 .i64
          case rel =>
            have hA : w.heap.size + 1 ≤ b ∧ b < wa.heap.size := HA5.out _ rfl
            have hT3 := (Two.of_fr (g := g) (r := f'.ownBlock) HFA.out).trans HT2.out (.inl rfl)
            have hff : f'.ownBlock ≠ some b := fun e => by
              rcases HFQ.out with e1 | ⟨x, e1, hx⟩
              · have := (HFL.out b (e1 ▸ e)).2; have := hA.1; omega
              · rw [e1] at e; injection e with e; have := hA.2; omega
            refine ⟨q + 1, f2, by omega, by go_num, by rw [HTK.out]; exact HR2.out, HTQ.out.trans hT3 ?_, HFQ.out.trans HF2.out (Nat.le_trans hzq HFA.out.size), Nat.le_trans hzq hT3.size, HPQ.out.two hT3 (fun x hx => ?_)⟩
            · rcases HFQ.out with e1 | ⟨x, e1, hx⟩
              · exact .inl e1
              · exact .inr ⟨x, e1, Nat.le_trans HB.out.size hx⟩
            · injection hx with hx
              subst hx
              exact ⟨by have := hA.1; show b ≠ g; omega, hff⟩
        · have e : O.take q = O := List.take_of_length_le (by have := HM.out; omega)
          rw [e] at HRQ
          clear e
          go_wp2
          go_end0
          exact ⟨rfl, ⟨f', by rw [HFO.out]; exact HRQ.out, by rcases HFQ.out with e1 | ⟨x, e1, hx⟩; exact .inl e1; exact .inr ⟨x, e1, Nat.le_trans HB.out.size hx⟩⟩, HTQ.out⟩
end Go.Proofs.YtdlignhlliellaaDoor
