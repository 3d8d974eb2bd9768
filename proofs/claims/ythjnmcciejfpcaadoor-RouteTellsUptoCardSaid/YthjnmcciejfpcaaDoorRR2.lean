/- conduitref11.Match: what route.Match answers. -/
import Derived.Test.YthjnmcciejfpcaaDoorRR1
import Derived.Deep.RegionLaw
import Derived.Deep.AppendLies
import Derived.Deep.DrawnRows
import Derived.Deep.RegionHeld3
namespace Go.Proofs.YthjnmcciejfpcaaDoor
set_option linter.unusedVariables false
set_option linter.unusedSimpArgs false
open Go.RowKit

theorem Below.drewN_ {B : Nat} {a w : World} (h : Below B a w) (n : Nat) : Below B a (w.drewN n) := ⟨h.os, h.tape, h.output, h.size, h.block⟩
theorem begins_ref (p q : ByteArray) (b : Bool) (w : World) (h : begS p q = b) (hp : p.size ≤ 4398046511103) (hq : q.size ≤ 4398046511103) :
    Calls Tryd.prog 27 #[.string p, .string q] w fun e w' => e = .returned (.bool b) ∧ Below w.heap.size w w' := h ▸ ref11_Begins p q w hp hq
set_option maxRecDepth 100000 in
set_option maxHeartbeats 8000000 in
theorem ref11_Match2 (h0 rp : ByteArray) (b0 : Int) (wA : Option Addr) (wn wc : Nat) (p : ByteArray) (w : World) (hrp : rp.size ≤ 1000000000) (hp : p.size ≤ 1000000000) :
    Calls Tryd.prog 12 #[.agg #[.int .i64 2, .string h0, .string rp, .int .i64 b0, .slice wA wn wc], .string p] w (MatchR w ((segsM (segs rp) (segs p)).map fun nm => (p, ⟨#[]⟩, nm))) := by
  obtain ⟨i0, hi, hz0, hz1, hz2⟩ := info_parts pair_info
  have l1 := segs_len rp
  have l2 := segs_len p
  have hbR := Box.new w [.int .i64 2, .string h0, .string rp, .int .i64 b0, .slice wA wn wc] 36
  have hbT := Blk.newAt (w := w.alloc (.cells #[.int .i64 2, .string h0, .string rp, .int .i64 b0, .slice wA wn wc] 36)) (g := w.heap.size + 1) (by simp) 29 #[.int .i64 0, .string ⟨#[]⟩, .string ⟨#[]⟩, .slice none 0 0]
  have hbS := Blk.newAt (w := (w.alloc (.cells #[.int .i64 2, .string h0, .string rp, .int .i64 b0, .slice wA wn wc] 36)).alloc (.cells #[.int .i64 0, .string ⟨#[]⟩, .string ⟨#[]⟩, .slice none 0 0] 29)) (g := w.heap.size + 1 + 1) (by simp) 29 #[.int .i64 0, .string p, .string ⟨#[]⟩, .slice none 0 0]
  obtain ⟨w0, hw0e⟩ : ∃ w0, w0 = ((w.alloc (.cells #[.int .i64 2, .string h0, .string rp, .int .i64 b0, .slice wA wn wc] 36)).alloc (.cells #[.int .i64 0, .string ⟨#[]⟩, .string ⟨#[]⟩, .slice none 0 0] 29)).alloc (.cells #[.int .i64 0, .string p, .string ⟨#[]⟩, .slice none 0 0] 29) := ⟨_, rfl⟩
  have hw0 : Below w.heap.size w w0 := by rw [hw0e]; exact fr_alloc (fr_alloc (fr_alloc (fr_refl _) _) _) _
  have hR0 : Box w0 w.heap.size [.int .i64 2, .string h0, .string rp, .int .i64 b0, .slice wA wn wc] := by
    rw [hw0e]; exact hbR.fr (fr_alloc (fr_alloc (fr_refl _) _) _)
  have hT0 : Blk w0 (w.heap.size + 1) 29 #[.int .i64 0, .string ⟨#[]⟩, .string ⟨#[]⟩, .slice none 0 0] := by rw [hw0e]; exact hbT.alloc _
  have hS0 : Blk w0 (w.heap.size + 1 + 1) 29 #[.int .i64 0, .string p, .string ⟨#[]⟩, .slice none 0 0] := by rw [hw0e]; exact hbS
  have hsz0 : w0.heap.size = w.heap.size + 3 := by rw [hw0e]; simp
  have HW0 := Lib.hid hw0; have HR0 := Lib.hid hR0; have HT0 := Lib.hid hT0; have HS0 := Lib.hid hS0; have HSZ := Lib.hid hsz0; have HE0 := Lib.hid hw0e
  have hfl : ∀ x ∈ segs rp, 0 < x.size := fun x hx => segs_full hx
  have HFL := Lib.hid hfl
  have HC1 := Lib.hid (fun (n : Nat) (W : World) (hn : (segs rp).length = n) => segsR_ref rp n W hn (by omega))
  have HC2 := Lib.hid (fun (n : Nat) (W : World) (hn : (segs p).length = n) => segsR_ref p n W hn (by omega))
  clear hbR hbT hbS hw0 hR0 hT0 hS0 hsz0 hw0e hfl
  obtain ⟨ws, hws⟩ : ∃ ws, segs rp = ws := ⟨_, rfl⟩
  obtain ⟨hs, hhs⟩ : ∃ hs, segs p = hs := ⟨_, rfl⟩
  rw [hws] at l1 HFL HC1 ⊢
  rw [hhs] at l2 HC2 ⊢
  clear hws hhs
  obtain ⟨n, hn⟩ : ∃ n, ws.length = n := ⟨_, rfl⟩
  obtain ⟨m, hm⟩ : ∃ m, hs.length = m := ⟨_, rfl⟩
  rw [hn] at l1; rw [hm] at l2
  have hRC := HR0.out
  have HC1' := Lib.hid (fun W => HC1.out n W hn); have HC2' := Lib.hid (fun W => HC2.out m W hm)
  have HN := Lib.hid hn; have HM := Lib.hid hm
  clear hn hm HC1 HC2
  have qc0 : w0.cell? ⟨w.heap.size, 0, none⟩ = some (.int .i64 2) := hRC.2 0 _ rfl
  have qc1 : w0.cell? ⟨w.heap.size, 1, none⟩ = some (.string h0) := hRC.2 1 _ rfl
  have qc2 : w0.cell? ⟨w.heap.size, 2, none⟩ = some (.string rp) := hRC.2 2 _ rfl
  have qc3 : w0.cell? ⟨w.heap.size, 3, none⟩ = some (.int .i64 b0) := hRC.2 3 _ rfl
  have qc4 : w0.cell? ⟨w.heap.size, 4, none⟩ = some (.slice wA wn wc) := hRC.2 4 _ rfl
  have qlt : w.heap.size < w0.heap.size := hRC.1
  have d0 : w0.drew.cell? ⟨w.heap.size, 2, none⟩ = some (.string rp) := qc2
  go_enter Tryd.func12, Tryd.ntmps12
  go_wp2_with fail
  rw [show (((w.alloc (.cells #[.int .i64 2, .string h0, .string rp, .int .i64 b0, .slice wA wn wc] 36)).alloc (.cells #[.int .i64 0, .string ⟨#[]⟩, .string ⟨#[]⟩, .slice none 0 0] 29)).alloc (.cells #[.int .i64 0, .string p, .string ⟨#[]⟩, .slice none 0 0] 29)) = w0 from HE0.out.symm]
  go_region_held3 (fun W' => W'.cell? ⟨w.heap.size, 2, none⟩ = some (.string rp)) (first | exact qc2 | exact d0 | exact fr_cell hbP d0 | exact fr_cell hbR (fr_cell hbP d0))
    (first
    | (go_at_call 25; with_reducible refine (HC1'.out _).mono ?_; rintro e wR ⟨⟨AR, cR, rfl, hSR, -⟩, hbR⟩)
    | (go_at_call 25; with_reducible refine (HC2'.out _).mono ?_; rintro e wP ⟨⟨AP, cP, rfl, hSP, -⟩, hbP⟩))
  have hbP1 := hbP; have hbR1 := hbR
  have hE0 : w0.heap.size ≤ wR.heap.size := Nat.le_trans hbP.size hbR.size
  have HB2 := Lib.hid (fr_trans (fr_trans HW0.out (fr_drew (fr_refl _))) (fr_trans hbP hbR))
  have HSA := Lib.hid ((hSP.below hbR).more (Nat.le_refl w0.heap.size) hbR.size)
  have HSB := Lib.hid (hSR.more (show w0.heap.size ≤ wP.heap.size from hbP.size) (Nat.le_refl wR.heap.size))
  have HT2 := Lib.hid ((HT0.out.drew.fr hbP).fr hbR)
  have HS2 := Lib.hid ((HS0.out.drew.fr hbP).fr hbR)
  have HE := Lib.hid hE0
  clear hbP hbR hSP hSR hbP1 hbR1 hRC qc0 qc1 qc2 qc3 qc4 qlt d0 hE0 HR0 HE0
  obtain ⟨w2, hw2⟩ : ∃ w2, w2 = wR := ⟨_, rfl⟩
  obtain ⟨B, hB⟩ : ∃ B, B = w0.heap.size := ⟨_, rfl⟩
  obtain ⟨E, hEE⟩ : ∃ E, E = wR.heap.size := ⟨_, rfl⟩
  rw [← hB, ← hEE] at HSA HSB HE
  have HBZ := Lib.hid (show B = w.heap.size + 3 by rw [hB]; exact HSZ.out)
  have HEZ := Lib.hid hEE
  clear hB hEE
  by_cases hne : n = m
  · subst hne
    obtain ⟨zs, hzs⟩ : ∃ zs, ws.zip hs = zs := ⟨_, rfl⟩
    have hzl : zs.length = ws.length := by rw [← hzs]; have := HN.out; have := HM.out; simp; omega
    have hz1 : ∀ k (h : k < zs.length), ∃ h1 h2, zs[k] = (ws[k]'h1, hs[k]'h2) := fun k h => ⟨by omega, by have := HN.out; have := HM.out; omega, by subst hzs; simp⟩
    have HZS := Lib.hid hzs; have HZL := Lib.hid hzl; have HZ1 := Lib.hid hz1
    clear hzs hzl hz1
    go_wp2
    go_loopw [9] (fun i wr => ∃ (k : Nat) (v : Value), k ≤ n ∧ i = .int .i64 k ∧ okN zs k = true ∧ Below w.heap.size w wr ∧ E ≤ wr.heap.size ∧ RStrs B E wr AP hs ∧ RStrs B E wr AR ws ∧ Blk wr (w.heap.size + 1) 29 #[.int .i64 0, .string ⟨#[]⟩, .string ⟨#[]⟩, .slice none 0 0] ∧ Blk wr (w.heap.size + 1 + 1) 29 #[.int .i64 0, .string p, .string ⟨#[]⟩, v] ∧ wr.ownsRow E 40 2 v (nmN zs k).length (pcells (nmN zs k))) (fun i _ => n - (intOf i).toNat)
    case atStart => exact ⟨0, _, Nat.zero_le _, rfl, rfl, HB2.out, by have := HEZ.out; omega, HSA.out, HSB.out, HT2.out, HS2.out, World.ownsRow_nil _ _ _ _⟩
    case round =>
      obtain ⟨k, v, hk, rfl, hok, hb, hEw, hsa, hsb, ht4, ht6, hown⟩ := hrel
      have HB3 := Lib.hid hb; have HA3 := Lib.hid hsa; have HR3 := Lib.hid hsb; have H43 := Lib.hid ht4; have H63 := Lib.hid ht6; have HOW := Lib.hid hown; have HOK := Lib.hid hok
      clear hb hsa hsb hown hok
      by_cases hlt : k < n
      · obtain ⟨ab, ao, rfl, ab1, ab2, hac⟩ := HR3.out.at_ (k := k) (by have := HN.out; omega)
        obtain ⟨bb, bo, rfl, bb1, bb2, hbc⟩ := HA3.out.at_ (k := k) (by have := HM.out; omega)
        have hkz : k < zs.length := by have := HN.out; have := HZL.out; omega
        obtain ⟨g1, g2, hzk⟩ := HZ1.out k hkz
        have hx0 := HFL.out ws[k] (List.getElem_mem g1)
        obtain ⟨x, hx⟩ : ∃ x, ws[k] = x := ⟨_, rfl⟩
        obtain ⟨y, hy⟩ : ∃ y, hs[k] = y := ⟨_, rfl⟩
        rw [hx] at hac hzk hx0
        rw [hy] at hbc hzk
        have HO1 := Lib.hid (okN_succ hkz); have HM1 := Lib.hid (nmN_succ hkz)
        rw [hzk, HOK.out] at HO1
        rw [hzk] at HM1
        have hlen := nmN_len zs k
        clear hzk hx hy
        have hblr : ab < wr.heap.size := World.block_lt_of_cell? wr _ hac
        have hblr2 : bb < wr.heap.size := World.block_lt_of_cell? wr _ hbc
        have hkI : (k : Int) < (n : Int) := by omega
        have hk0 : (0 : Int) ≤ (k : Int) := by omega
        have hcx : hasC x = ((x[0].toNat : Int) == 58) := hasP_iff hx0
        cases hq : hasC x
        · have hcI : ((x[0].toNat : Int) == 58) = false := by rw [← hcx, hq]
          have HCX := Lib.hid hq
          clear hcx hq
          cases hq : eqB x y
          · have HQ := Lib.hid hq
            have hq2 : (y.toList == x.toList) = false := by
              unfold eqB at hq
              rw [beq_eq_false_iff_ne] at hq ⊢
              exact fun e => hq e.symm
            clear hq
            have uc0 : wr.cell? ⟨w.heap.size + 1, 0, none⟩ = some (.int .i64 0) := H43.out.cell 0
            have uf0 : wr.frozen? ⟨w.heap.size + 1, 0, none⟩ = false := H43.out.frozen 0
            have uc1 : wr.cell? ⟨w.heap.size + 1, 1, none⟩ = some (.string ⟨#[]⟩) := H43.out.cell 1
            have uf1 : wr.frozen? ⟨w.heap.size + 1, 1, none⟩ = false := H43.out.frozen 1
            have uc2 : wr.cell? ⟨w.heap.size + 1, 2, none⟩ = some (.string ⟨#[]⟩) := H43.out.cell 2
            have uf2 : wr.frozen? ⟨w.heap.size + 1, 2, none⟩ = false := H43.out.frozen 2
            have uc3 : wr.cell? ⟨w.heap.size + 1, 3, none⟩ = some (.slice none 0 0) := H43.out.cell 3
            have uf3 : wr.frozen? ⟨w.heap.size + 1, 3, none⟩ = false := H43.out.frozen 3
            have ult : w.heap.size + 1 < wr.heap.size := H43.out.lt
            go_wp2_with fail
            go_quiet (fail)
            go_wp2_with fail
            refine bodyPost_ret (res_route (g := w.heap.size + 1) (v0 := .int .i64 0) (v1 := .string ⟨#[]⟩) (v2 := .string ⟨#[]⟩) (v3 := .slice none 0 0) Tryd.results12 rfl (((((H43.out.drewN _).set_ 0 _).set_ 1 _).set_ 2 _).set_ 3 _)) rfl (MatchR.none_ ?_ ?_)
            · rw [segsM_no (k := k + 1) (by rw [HZS.out]; exact hkz) (by rw [HZS.out, HO1.out]; unfold okP; rw [HCX.out, HQ.out]; rfl)]; rfl
            · exact fr_set (fr_set (fr_set (fr_set (fr_drewN HB3.out _) (by simp) _) (by simp) _) (by simp) _) (by simp) _
          · have HQ := Lib.hid hq
            have hq2 : (y.toList == x.toList) = true := by
              unfold eqB at hq
              rw [beq_iff_eq] at hq ⊢
              exact hq.symm
            clear hq
            go_wp2_with fail
            go_quiet (fail)
            go_wp2_with fail
            go_roundw
            case measure => exact meas hlt .i64 .i64
            case rel =>
              have e : nmN zs (k + 1) = nmN zs k := by rw [HM1.out]; unfold nm1; simp [HCX.out]
              refine ⟨k + 1, v, by omega, by go_num, ?_, fr_drewN HB3.out _, hEw, HA3.out.below (Below.drewN_ (Below.refl _ _) _), HR3.out.below (Below.drewN_ (Below.refl _ _) _), H43.out.drewN _, H63.out.drewN _, ?_⟩
              · rw [HO1.out]; unfold okP; rw [HQ.out]; simp
              · rw [e]; exact own_drewN HOW.out _
        · have hcI : ((x[0].toNat : Int) == 58) = true := by rw [← hcx, hq]
          have HCX := Lib.hid hq
          have htx : tailC x = x.extract 1 x.size := tailC_eq hq
          clear hcx hq
          have HTX := Lib.hid htx; clear htx
          have hne := own_ge HOW.out
          have c2 : wr.cell? ⟨w.heap.size + 1 + 1, 3, none⟩ = some v := H63.out.cell 3
          have c3 : wr.frozen? ⟨w.heap.size + 1 + 1, 3, none⟩ = false := H63.out.frozen 3
          have lt2 : w.heap.size + 1 + 1 < wr.heap.size := H63.out.lt
          have hBz := HBZ.out
          have hEz := HE.out
          have ne2 : v.ownBlock ≠ some (w.heap.size + 1 + 1) := fun e => by have := hne _ e; omega
          have ne4 : v.ownBlock ≠ some (w.heap.size + 1) := fun e => by have := hne _ e; omega
          have h1z : (1 : Int) ≤ (x.size : Int) := by omega
          go_wp2_with fail
          go_region_law (refine step_append_lies _ (by rfl) _ _ _ (by rfl) E 40 i0 _ 2 32 Tryd.underlying27 hi hz0 hz1 hz2 rfl (by omega) v _ _ (by rfl) ((HOW.out.alloc _).drew) ⟨wr.heap.size, 0, none⟩ 1 1 [.string (x.extract 1 x.size), .string y] (by rfl) (by rfl) (World.news_of_block (cs := #[.string (x.extract 1 x.size), .string y]) (t := 40) (fr := (0, 0)) (heap_alloc_new wr _)) (by simp [Value.oneCell']) (by omega) (by simp only [maxLen]; omega) (by omega) (by simp; omega) (wr.heap.size + 1) (by simp) ?_; intro gg cap w5 hown1 hgrow hat hlt2; have hbs2 := ((H63.out.alloc (.cells #[.string (x.extract 1 x.size), .string y] 40)).drew).grown hgrow (Ne.symm ne2); have hbs4 := ((H43.out.alloc (.cells #[.string (x.extract 1 x.size), .string y] 40)).drew).grown hgrow (Ne.symm ne4); have d2 : w5.cell? ⟨w.heap.size + 1 + 1, 3, none⟩ = some v := hbs2.cell 3; have d3 : w5.frozen? ⟨w.heap.size + 1 + 1, 3, none⟩ = false := hbs2.frozen 3)
          all_goals
            go_wp2_with fail
            go_roundw
            case measure => exact meas hlt .i64 .i64
            case rel =>
              have e : nmN zs (k + 1) = nmN zs k ++ [(x.extract 1 x.size, y)] := by rw [HM1.out]; unfold nm1; simp [HCX.out, HTX.out]
              have hb5 : Below E wr w5 := (((Below.refl E wr).alloc hEw _).drew).grown hgrow (by simp; omega) hne
              have hbw : Below w.heap.size w w5 := fr_grown (fr_alloc HB3.out _).drew hgrow (fun k hk => by have := hne k hk; omega)
              refine ⟨k + 1, .slice (some ⟨gg, 0, none⟩) ((nmN zs k).length + 1) cap, by omega, by go_num, ?_, fr_set hbw (by show w.heap.size ≤ w.heap.size + 1 + 1; omega) _, by have := hb5.size; simpa [World.setCell] using (by omega : E ≤ w5.heap.size), (HA3.out.below hb5).set_ (by simp; omega) _, (HR3.out.below hb5).set_ (by simp; omega) _, ?_, hbs2.set_ 3 _, ?_⟩
              · rw [HO1.out]; unfold okP; rw [HCX.out]; rfl
              · exact (Below.heap_setCell w5 ⟨w.heap.size + 1 + 1, 3, none⟩ _ (w.heap.size + 1) (by simp)).trans hbs4
              · rw [e, List.length_append, pcells_snoc]
                exact ownsRow_setCell_below hown1 (a := ⟨w.heap.size + 1 + 1, 3, none⟩) (by simp; omega) _
      · obtain rfl : k = n := by omega
        obtain ⟨A', c', rfl, hnl, _⟩ := Pairs.own HOW.out
        have uc0 : wr.cell? ⟨w.heap.size + 1, 0, none⟩ = some (.int .i64 0) := H43.out.cell 0
        have uf0 : wr.frozen? ⟨w.heap.size + 1, 0, none⟩ = false := H43.out.frozen 0
        have uc1 : wr.cell? ⟨w.heap.size + 1, 1, none⟩ = some (.string ⟨#[]⟩) := H43.out.cell 1
        have uf1 : wr.frozen? ⟨w.heap.size + 1, 1, none⟩ = false := H43.out.frozen 1
        have uc2 : wr.cell? ⟨w.heap.size + 1, 2, none⟩ = some (.string ⟨#[]⟩) := H43.out.cell 2
        have uf2 : wr.frozen? ⟨w.heap.size + 1, 2, none⟩ = false := H43.out.frozen 2
        have uc3 : wr.cell? ⟨w.heap.size + 1, 3, none⟩ = some (.slice none 0 0) := H43.out.cell 3
        have uf3 : wr.frozen? ⟨w.heap.size + 1, 3, none⟩ = false := H43.out.frozen 3
        have ult : w.heap.size + 1 < wr.heap.size := H43.out.lt
        have sc0 : wr.cell? ⟨w.heap.size + 1 + 1, 0, none⟩ = some (.int .i64 0) := H63.out.cell 0
        have sf0 : wr.frozen? ⟨w.heap.size + 1 + 1, 0, none⟩ = false := H63.out.frozen 0
        have sc1 : wr.cell? ⟨w.heap.size + 1 + 1, 1, none⟩ = some (.string p) := H63.out.cell 1
        have sf1 : wr.frozen? ⟨w.heap.size + 1 + 1, 1, none⟩ = false := H63.out.frozen 1
        have sc2 : wr.cell? ⟨w.heap.size + 1 + 1, 2, none⟩ = some (.string ⟨#[]⟩) := H63.out.cell 2
        have sf2 : wr.frozen? ⟨w.heap.size + 1 + 1, 2, none⟩ = false := H63.out.frozen 2
        have sc3 : wr.cell? ⟨w.heap.size + 1 + 1, 3, none⟩ = some (.slice A' (nmN zs k).length c') := H63.out.cell 3
        have sf3 : wr.frozen? ⟨w.heap.size + 1 + 1, 3, none⟩ = false := H63.out.frozen 3
        have slt : w.heap.size + 1 + 1 < wr.heap.size := H63.out.lt
        clear hnl
        obtain ⟨nms, hnms⟩ : ∃ nms, nmN zs k = nms := ⟨_, rfl⟩
        rw [hnms] at HOW sc3
        have HNM := Lib.hid hnms; clear hnms
        go_wp2_with fail
        refine bodyPost_ret (res_route (g := w.heap.size + 1) (v0 := .int .i64 0) (v1 := .string p) (v2 := .string ⟨#[]⟩) (v3 := .slice A' nms.length c') Tryd.results12 rfl ((((H43.out.set_ 0 _).set_ 1 _).set_ 2 _).set_ 3 _)) rfl (MatchR.some_ (l := nms) ?_ rfl ?_ ?_)
        · rw [segsM_all (k := k) (by have := HN.out; have := HM.out; omega) (by have := HN.out; omega) (by rw [HZS.out]; exact HOK.out), HZS.out, HNM.out]; rfl
        · have hBz := HBZ.out
          have hEz := HE.out
          have h4 := ownsRow_setCell_below (ownsRow_setCell_below (ownsRow_setCell_below (ownsRow_setCell_below HOW.out (a := ⟨w.heap.size + 1, 0, none⟩) (by show w.heap.size + 1 < E; omega) (.int .i64 0)) (a := ⟨w.heap.size + 1, 1, none⟩) (by show w.heap.size + 1 < E; omega) (.string p)) (a := ⟨w.heap.size + 1, 2, none⟩) (by show w.heap.size + 1 < E; omega) (.string ⟨#[]⟩)) (a := ⟨w.heap.size + 1, 3, none⟩) (by show w.heap.size + 1 < E; omega) (.slice A' nms.length c')
          obtain ⟨A2, c2, e2, _, hp2⟩ := FPairs.own h4
          injection e2 with e2 _ _
          subst e2
          exact hp2.more (by omega)
        · exact fr_set (fr_set (fr_set (fr_set HB3.out (by simp) _) (by simp) _) (by simp) _) (by simp) _
  · have hne' : ((m : Int) == (n : Int)) = false := by simp; omega
    have hnone : segsM ws hs = none := by unfold segsM; rw [if_neg (by have := HN.out; have := HM.out; omega)]
    have HNO := Lib.hid hnone; clear hnone
    have hT := HT2.out; have hS := HS2.out
    go_wp2
    go_loopw [9] (fun i wr => i = .int .i64 0 ∧ wR = wr) (fun _ _ => 0)
    case atStart => exact ⟨rfl, rfl⟩
    case round =>
      obtain ⟨rfl, rfl⟩ := hrel
      have uc0 : wR.cell? ⟨w.heap.size + 1, 0, none⟩ = some (.int .i64 0) := hT.cell 0
      have uf0 : wR.frozen? ⟨w.heap.size + 1, 0, none⟩ = false := hT.frozen 0
      have uc1 : wR.cell? ⟨w.heap.size + 1, 1, none⟩ = some (.string ⟨#[]⟩) := hT.cell 1
      have uf1 : wR.frozen? ⟨w.heap.size + 1, 1, none⟩ = false := hT.frozen 1
      have uc2 : wR.cell? ⟨w.heap.size + 1, 2, none⟩ = some (.string ⟨#[]⟩) := hT.cell 2
      have uf2 : wR.frozen? ⟨w.heap.size + 1, 2, none⟩ = false := hT.frozen 2
      have uc3 : wR.cell? ⟨w.heap.size + 1, 3, none⟩ = some (.slice none 0 0) := hT.cell 3
      have uf3 : wR.frozen? ⟨w.heap.size + 1, 3, none⟩ = false := hT.frozen 3
      have ult : w.heap.size + 1 < wR.heap.size := hT.lt
      have sc0 : wR.cell? ⟨w.heap.size + 1 + 1, 0, none⟩ = some (.int .i64 0) := hS.cell 0
      have sf0 : wR.frozen? ⟨w.heap.size + 1 + 1, 0, none⟩ = false := hS.frozen 0
      have sc1 : wR.cell? ⟨w.heap.size + 1 + 1, 1, none⟩ = some (.string p) := hS.cell 1
      have sf1 : wR.frozen? ⟨w.heap.size + 1 + 1, 1, none⟩ = false := hS.frozen 1
      have sc2 : wR.cell? ⟨w.heap.size + 1 + 1, 2, none⟩ = some (.string ⟨#[]⟩) := hS.cell 2
      have sf2 : wR.frozen? ⟨w.heap.size + 1 + 1, 2, none⟩ = false := hS.frozen 2
      have sc3 : wR.cell? ⟨w.heap.size + 1 + 1, 3, none⟩ = some (.slice none 0 0) := hS.cell 3
      have sf3 : wR.frozen? ⟨w.heap.size + 1 + 1, 3, none⟩ = false := hS.frozen 3
      have slt : w.heap.size + 1 + 1 < wR.heap.size := hS.lt
      rcases Nat.eq_zero_or_pos n with hn0 | hn0
      · have hnI : ¬ (0 : Int) < (n : Int) := by omega
        have hm0 : ((m : Int) == 0) = false := by simp; omega
        clear hT hS hne
        go_wp2_with fail
        refine bodyPost_ret (res_route (g := w.heap.size + 1) (v0 := .int .i64 0) (v1 := .string p) (v2 := .string ⟨#[]⟩) (v3 := .slice none 0 0) Tryd.results12 rfl ((((HT2.out.set_ 0 _).set_ 1 _).set_ 2 _).set_ 3 _)) rfl (MatchR.none_ ?_ ?_)
        · rw [HNO.out]; rfl
        · exact fr_set (fr_set (fr_set (fr_set HB2.out (by simp) _) (by simp) _) (by simp) _) (by simp) _
      · have hnI : (0 : Int) < (n : Int) := by omega
        clear hT hS hne
        go_wp2_with fail
        refine bodyPost_ret (res_route (g := w.heap.size + 1) (v0 := .int .i64 0) (v1 := .string p) (v2 := .string ⟨#[]⟩) (v3 := .slice none 0 0) Tryd.results12 rfl ((((HT2.out.set_ 0 _).set_ 1 _).set_ 2 _).set_ 3 _)) rfl (MatchR.none_ ?_ ?_)
        · rw [HNO.out]; rfl
        · exact fr_set (fr_set (fr_set (fr_set HB2.out (by simp) _) (by simp) _) (by simp) _) (by simp) _
end Go.Proofs.YthjnmcciejfpcaaDoor
