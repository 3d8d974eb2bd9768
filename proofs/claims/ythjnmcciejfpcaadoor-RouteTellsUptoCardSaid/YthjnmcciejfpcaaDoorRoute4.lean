/- route.among, route.Choose: what they answer. -/
import Derived.Test.YthjnmcciejfpcaaDoorRoute3
namespace Go.Proofs.YthjnmcciejfpcaaDoor
set_option linter.unusedVariables false
set_option linter.unusedSimpArgs false
open Go.RowKit

def ChooseEnd (w0 : World) (b : Bst) (e : Ending) (w' : World) : Prop :=
  (∃ A c, e = .returned (.tuple #[.agg #[.int .i64 b.rule, .string b.sc, .string b.inf, .slice A b.nm.length c], .bool b.ok]) ∧ FPairs w0.heap.size w' A b.nm) ∧ Below w0.heap.size w0 w'
theorem amN_succ {host p : ByteArray} {l : List RV} {k : Nat} (h : k < l.length) : amN host p l (k + 1) = amStep host p (amN host p l k) k l[k] := by
  show (match l[k]? with | some r => _ | none => _) = _
  rw [List.getElem?_eq_getElem h]
theorem amStep_none {host p : ByteArray} {b : Bst} {i : Nat} {r : RV} (h : matchS r.kind r.path p = none) : amStep host p b i r = b := by unfold amStep; rw [h]
theorem amStep_host {host p : ByteArray} {b : Bst} {i : Nat} {r : RV} (h : eqB r.host host = false) : amStep host p b i r = b := by
  unfold amStep
  split
  · rfl
  · rw [h]; rfl
theorem amStep_some {host p : ByteArray} {b : Bst} {i : Nat} {r : RV} {t : RT} (h : matchS r.kind r.path p = some t) (hh : eqB r.host host = true) :
    amStep host p b i r = if aheadB b r.kind (weightS r.kind r.path) then ⟨i, t.1, t.2.1, t.2.2, r.kind, weightS r.kind r.path⟩ else b := by
  unfold amStep; rw [h, hh]; rfl
theorem weightS_le (k : Int) (rp : ByteArray) : weightS k rp ≤ rp.size + 1 := by
  unfold weightS
  split
  · exact Nat.le_trans (List.length_filter_le _ _) (segs_len rp)
  · split
    · exact segs_len rp
    · omega

theorem ahead_cases (b : Bst) (k n : Int) :
    ((b.kind == 0) = true ∧ RowKit.Hid (aheadB b k n = true)) ∨ ((b.kind == 0) = false ∧ decide (k < b.kind) = true ∧ RowKit.Hid (aheadB b k n = true)) ∨
    ((b.kind == 0) = false ∧ decide (k < b.kind) = false ∧ (k == b.kind) = false ∧ RowKit.Hid (aheadB b k n = false)) ∨
    ((b.kind == 0) = false ∧ decide (k < b.kind) = false ∧ (k == b.kind) = true ∧ decide (b.most < n) = true ∧ RowKit.Hid (aheadB b k n = true)) ∨
    ((b.kind == 0) = false ∧ decide (k < b.kind) = false ∧ (k == b.kind) = true ∧ decide (b.most < n) = false ∧ RowKit.Hid (aheadB b k n = false)) := by
  unfold aheadB RowKit.Hid
  cases (b.kind == 0) <;> cases decide (k < b.kind) <;> cases (k == b.kind) <;> cases decide (b.most < n) <;> simp

set_option maxHeartbeats 4000000 in
theorem route_among (A : Option Addr) (c : Nat) (l : List RV) (host p : ByteArray) (w : World) (hm : MaxL w) (hR : Rules w A l) (hf : ∀ r ∈ l, FitsR r.path p r.kind) (hl : l.length ≤ 1000000000) :
    Calls Tryd.prog 17 #[.slice A l.length c, .string host, .string p] w (ChooseEnd w (amS l host p)) := by
  have HM := Lib.hid hm; have HR := Lib.hid hR; have HF := Lib.hid hf; clear hm hR hf
  have HT := Lib.hid (Blk.new w 29 routeZ)
  have HS := Lib.hid (Blk.newAt (w := w.alloc (.cells routeZ 29)) (g := w.heap.size + 1) (by simp) 29 routeZ)
  obtain ⟨w1, hw1⟩ : ∃ w1, w1 = w.alloc (.cells routeZ 29) := ⟨_, rfl⟩
  have hsz1 : w1.heap.size = w.heap.size + 1 := by rw [hw1]; simp
  have hww1 : Below w.heap.size w w1 := by rw [hw1]; exact fr_alloc (fr_refl _) _
  have HSZ := Lib.hid hsz1
  have HW1 := Lib.hid hw1
  clear hsz1 hw1
  have hunf : amS l host p = amN host p l l.length := rfl
  have HU := Lib.hid hunf; clear hunf
  go_enter Tryd.func17, Tryd.ntmps17
  go_wp2
  go_loopw [9, 10, 19] (fun kd ms i wr => ∃ (k : Nat) (b : Bst) (A' : Option Addr) (c' : Nat), k ≤ l.length ∧ i = .int .i64 k ∧ b = amN host p l k ∧ kd = .int .i64 b.kind ∧ ms = .int .i64 b.most ∧ Below w1.heap.size w1 wr ∧
    Blk wr (w.heap.size + 1) 29 #[.int .i64 b.rule, .string b.sc, .string b.inf, .slice A' b.nm.length c'] ∧ FPairs (w.heap.size + 2) wr A' b.nm) (fun _ _ i _ => l.length - (intOf i).toNat)
  case atStart => exact ⟨0, _, none, 0, Nat.zero_le _, rfl, rfl, rfl, rfl, by rw [HW1.out]; exact fr_alloc (fr_refl _) _, HS.out, FPairs.nil _ _ _⟩
  case round =>
    obtain ⟨k, b, A', c', hk, rfl, hbst, rfl, rfl, hb, hbs, hnm⟩ := hrel
    by_cases hlt : k < l.length
    · obtain ⟨ab, ao, rfl, habl, hcell⟩ := HR.out (by omega)
      obtain ⟨r, hr⟩ : ∃ r, l[k] = r := ⟨_, rfl⟩
      have hcr := hcell k hlt
      rw [hr] at hcr
      have hfr := HF.out r (by rw [← hr]; exact List.getElem_mem hlt)
      have hsuc := amN_succ (host := host) (p := p) hlt
      rw [hr, ← hbst] at hsuc
      have hwr : Below w.heap.size w wr := fr_trans hww1 hb
      have q0 : wr.cell? ⟨ab, ao + k * 5, none⟩ = some (.int .i64 r.kind) := fr_cell hwr (hcr 0 _ rfl)
      have q1 := fr_cell hwr (hcr 1 _ rfl)
      have q2 := fr_cell hwr (hcr 2 _ rfl)
      have q3 := fr_cell hwr (hcr 3 _ rfl)
      have q4 := fr_cell hwr (hcr 4 _ rfl)
      have habr : ab < wr.heap.size := Nat.lt_of_lt_of_le habl hwr.size
      have hwl := weightS_le r.kind r.path
      have hrps := hfr.1
      have HSU := Lib.hid hsuc; have HBS := Lib.hid hbs; have HNM := Lib.hid hnm; have HFR := Lib.hid hfr; have HWR := Lib.hid hwr; have HB := Lib.hid hb
      clear hsuc hbs hnm hfr hcr hcell hr hwr hb hbst
      obtain ⟨kind, rhost, rpath, rback, wA, wn, wc⟩ := r
      simp only at HSU HFR q0 q1 q2 q3 q4 hwl hrps
      obtain ⟨brule, bsc, binf, bnm, bkind, bmost⟩ := b
      simp only at HBS HNM
      have hR1 := Box.new wr [.int .i64 kind, .string rhost, .string rpath, .int .i64 rback, .slice wA wn wc] 36
      have HR1 := Lib.hid hR1; clear hR1
      obtain ⟨o, ho⟩ : ∃ o, matchS kind rpath p = o := ⟨_, rfl⟩
      have hcm := route_Match kind rhost rpath rback wA wn wc p (wr.alloc (.cells #[.int .i64 kind, .string rhost, .string rpath, .int .i64 rback, .slice wA wn wc] 36)) (HM.out.fr (fr_alloc HWR.out _)) HFR.out
      rw [ho] at hcm
      have HO := Lib.hid ho; clear ho
      have HCM := Lib.hid hcm; clear hcm
      go_wp2_with fail
      refine HCM.out.mono ?_
      rintro e w2 ⟨⟨A2, c2, rfl, hpr⟩, hb2⟩
      have hw2 : Below w1.heap.size w1 w2 := fr_trans (fr_alloc HB.out _) hb2
      have HS2 := Lib.hid ((HBS.out.alloc (.cells #[.int .i64 kind, .string rhost, .string rpath, .int .i64 rback, .slice wA wn wc] 36)).fr hb2)
      have HN2 := Lib.hid ((HNM.out.fr (fr_alloc (fr_refl _) (.cells #[.int .i64 kind, .string rhost, .string rpath, .int .i64 rback, .slice wA wn wc] 36))).fr hb2)
      have hRb := HR1.out.fr hb2
      have rc0 : w2.cell? ⟨wr.heap.size, 0, none⟩ = some (.int .i64 kind) := hRb.2 0 _ rfl
      have rc1 : w2.cell? ⟨wr.heap.size, 1, none⟩ = some (.string rhost) := hRb.2 1 _ rfl
      have rc2 : w2.cell? ⟨wr.heap.size, 2, none⟩ = some (.string rpath) := hRb.2 2 _ rfl
      have rc3 : w2.cell? ⟨wr.heap.size, 3, none⟩ = some (.int .i64 rback) := hRb.2 3 _ rfl
      have rc4 : w2.cell? ⟨wr.heap.size, 4, none⟩ = some (.slice wA wn wc) := hRb.2 4 _ rfl
      have rlt : wr.heap.size < w2.heap.size := hRb.1
      have HRB := Lib.hid hRb; have HP := Lib.hid hpr; have HW2 := Lib.hid hw2
      have hzz := HBS.out.lt
      clear hb2 hRb hpr hw2 q0 q1 q2 q3 q4
      cases hos : o.isSome
      · have hon : o = none := by cases o with | none => rfl | some _ => simp at hos
        have hst := amStep_none (host := host) (b := ⟨brule, bsc, binf, bnm, bkind, bmost⟩) (i := k) (r := ⟨kind, rhost, rpath, rback, wA, wn, wc⟩) (HO.out.trans hon)
        have HST := Lib.hid hst
        subst hon
        clear hst hos
        go_wp2_with fail
        go_roundw
        case measure => exact meas hlt .i64 .i64
        case rel => exact ⟨k + 1, ⟨brule, bsc, binf, bnm, bkind, bmost⟩, A', c', by omega, by go_num, by rw [HSU.out, HST.out], rfl, rfl, fr_alloc HW2.out _, HS2.out.alloc _, HN2.out.fr (fr_alloc (fr_refl _) _)⟩
      · obtain ⟨⟨tsc, tinf, tnm⟩, rfl⟩ := Option.isSome_iff_exists.1 hos
        clear hos
        simp only [rsc, rinf, rnm] at HP ⊢
        cases hqh : eqB rhost host
        · have HST := Lib.hid (amStep_host (host := host) (p := p) (b := ⟨brule, bsc, binf, bnm, bkind, bmost⟩) (i := k) (r := ⟨kind, rhost, rpath, rback, wA, wn, wc⟩) hqh)
          unfold eqB at hqh
          go_wp2_with fail
          go_roundw
          case measure => exact meas hlt .i64 .i64
          case rel => exact ⟨k + 1, ⟨brule, bsc, binf, bnm, bkind, bmost⟩, A', c', by omega, by go_num, by rw [HSU.out, HST.out], rfl, rfl, fr_alloc HW2.out _, HS2.out.alloc _, HN2.out.fr (fr_alloc (fr_refl _) _)⟩
        · have hst := amStep_some (host := host) (b := ⟨brule, bsc, binf, bnm, bkind, bmost⟩) (i := k) (r := ⟨kind, rhost, rpath, rback, wA, wn, wc⟩) HO.out hqh
          simp only at hst
          unfold eqB at hqh
          have HST := Lib.hid hst; clear hst
          have hcw := route_weight kind rhost rpath rback wA wn wc (w2.alloc (.cells #[.int .i64 0, .string tsc, .string tinf, .slice A2 tnm.length c2] 29)) (HM.out.fr (fr_trans hww1 (fr_alloc HW2.out _))) hrps
          obtain ⟨wt, hwt⟩ : ∃ wt, weightS kind rpath = wt := ⟨_, rfl⟩
          rw [hwt] at hcw hwl HST
          have HCW := Lib.hid hcw; have HWT := Lib.hid hwt; clear hcw hwt
          have hNR := Box.new w2 [.int .i64 0, .string tsc, .string tinf, .slice A2 tnm.length c2] 29
          have HNR := Lib.hid hNR; clear hNR
          go_wp2_with fail
          refine HCW.out.mono ?_
          rintro e w3 ⟨rfl, hb3⟩
          have hNR3 := HNR.out.fr hb3
          have nc0 : w3.cell? ⟨w2.heap.size, 0, none⟩ = some (.int .i64 0) := hNR3.2 0 _ rfl
          have nc1 : w3.cell? ⟨w2.heap.size, 1, none⟩ = some (.string tsc) := hNR3.2 1 _ rfl
          have nc2 : w3.cell? ⟨w2.heap.size, 2, none⟩ = some (.string tinf) := hNR3.2 2 _ rfl
          have nc3 : w3.cell? ⟨w2.heap.size, 3, none⟩ = some (.slice A2 tnm.length c2) := hNR3.2 3 _ rfl
          have nlt : w2.heap.size < w3.heap.size := hNR3.1
          have hS3 := (HS2.out.alloc (.cells #[.int .i64 0, .string tsc, .string tinf, .slice A2 tnm.length c2] 29)).fr hb3
          have sc0 : w3.cell? ⟨w.heap.size + 1, 0, none⟩ = some (.int .i64 brule) := hS3.cell 0
          have sf0 : w3.frozen? ⟨w.heap.size + 1, 0, none⟩ = false := hS3.frozen 0
          have sc1 : w3.cell? ⟨w.heap.size + 1, 1, none⟩ = some (.string bsc) := hS3.cell 1
          have sf1 : w3.frozen? ⟨w.heap.size + 1, 1, none⟩ = false := hS3.frozen 1
          have sc2 : w3.cell? ⟨w.heap.size + 1, 2, none⟩ = some (.string binf) := hS3.cell 2
          have sf2 : w3.frozen? ⟨w.heap.size + 1, 2, none⟩ = false := hS3.frozen 2
          have sc3 : w3.cell? ⟨w.heap.size + 1, 3, none⟩ = some (.slice A' bnm.length c') := hS3.cell 3
          have sf3 : w3.frozen? ⟨w.heap.size + 1, 3, none⟩ = false := hS3.frozen 3
          have slt : w.heap.size + 1 < w3.heap.size := hS3.lt
          have HS3 := Lib.hid hS3
          have HN3 := Lib.hid ((HN2.out.fr (fr_alloc (fr_refl _) (.cells #[.int .i64 0, .string tsc, .string tinf, .slice A2 tnm.length c2] 29))).fr hb3)
          have HP3 := Lib.hid ((HP.out.fr (fr_alloc (fr_refl _) (.cells #[.int .i64 0, .string tsc, .string tinf, .slice A2 tnm.length c2] 29))).fr hb3)
          have HW3 := Lib.hid (fr_trans (fr_alloc HW2.out (.cells #[.int .i64 0, .string tsc, .string tinf, .slice A2 tnm.length c2] 29)) hb3)
          clear hNR3 hS3 hb3 rc0 rc1 rc2 rc3 rc4
          have hcs := ahead_cases ⟨brule, bsc, binf, bnm, bkind, bmost⟩ kind wt
          simp only at hcs
          rcases hcs with ⟨h1, hah⟩ | ⟨h1, h2, hah⟩ | ⟨h1, h2, h3, hah⟩ | ⟨h1, h2, h3, h4, hah⟩ | ⟨h1, h2, h3, h4, hah⟩
          all_goals
            go_wp2_with fail
            go_roundw
            case measure => exact meas hlt .i64 .i64
            case rel =>
              first
              | exact ⟨k + 1, ⟨brule, bsc, binf, bnm, bkind, bmost⟩, A', c', by omega, by go_num, by rw [HSU.out, HST.out, hah.out]; rfl, rfl, rfl, HW3.out, HS3.out, HN3.out⟩
              | exact ⟨k + 1, ⟨k, tsc, tinf, tnm, kind, wt⟩, A2, c2, by omega, by go_num, by rw [HSU.out, HST.out, hah.out]; rfl, rfl, rfl,
                  fr_set (fr_set (fr_set (fr_set (fr_set HW3.out (by show w1.heap.size ≤ w.heap.size + 1; have := HSZ.out; omega) _) (by show w1.heap.size ≤ w.heap.size + 1; have := HSZ.out; omega) _) (by show w1.heap.size ≤ w.heap.size + 1; have := HSZ.out; omega) _) (by show w1.heap.size ≤ w.heap.size + 1; have := HSZ.out; omega) _) (by show w1.heap.size ≤ w.heap.size + 1; have := HSZ.out; omega) _,
                  ((((HS3.out.set_ 0 _).set_ 1 _).set_ 2 _).set_ 3 _).set_ 0 _,
                  (((((HP3.out.set_ (by simp; omega) _).set_ (by simp; omega) _).set_ (by simp; omega) _).set_ (by simp; omega) _).set_ (by simp; omega) _).more (by simp; omega)⟩
    · obtain rfl : k = l.length := by omega
      have hT3 := (HT.out.fr (w := w.alloc (.cells routeZ 29)) (by rw [← HW1.out]; exact hb))
      have uc0 : wr.cell? ⟨w.heap.size, 0, none⟩ = some (.int .i64 0) := hT3.cell 0
      have uf0 : wr.frozen? ⟨w.heap.size, 0, none⟩ = false := hT3.frozen 0
      have uc1 : wr.cell? ⟨w.heap.size, 1, none⟩ = some (.string ⟨#[]⟩) := hT3.cell 1
      have uf1 : wr.frozen? ⟨w.heap.size, 1, none⟩ = false := hT3.frozen 1
      have uc2 : wr.cell? ⟨w.heap.size, 2, none⟩ = some (.string ⟨#[]⟩) := hT3.cell 2
      have uf2 : wr.frozen? ⟨w.heap.size, 2, none⟩ = false := hT3.frozen 2
      have uc3 : wr.cell? ⟨w.heap.size, 3, none⟩ = some (.slice none 0 0) := hT3.cell 3
      have uf3 : wr.frozen? ⟨w.heap.size, 3, none⟩ = false := hT3.frozen 3
      have ult : w.heap.size < wr.heap.size := hT3.lt
      have HT3 := Lib.hid hT3; clear hT3
      obtain ⟨brule, bsc, binf, bnm, bkind, bmost⟩ := b
      simp only at hbs hnm
      have sc0 : wr.cell? ⟨w.heap.size + 1, 0, none⟩ = some (.int .i64 brule) := hbs.cell 0
      have sf0 : wr.frozen? ⟨w.heap.size + 1, 0, none⟩ = false := hbs.frozen 0
      have sc1 : wr.cell? ⟨w.heap.size + 1, 1, none⟩ = some (.string bsc) := hbs.cell 1
      have sf1 : wr.frozen? ⟨w.heap.size + 1, 1, none⟩ = false := hbs.frozen 1
      have sc2 : wr.cell? ⟨w.heap.size + 1, 2, none⟩ = some (.string binf) := hbs.cell 2
      have sf2 : wr.frozen? ⟨w.heap.size + 1, 2, none⟩ = false := hbs.frozen 2
      have sc3 : wr.cell? ⟨w.heap.size + 1, 3, none⟩ = some (.slice A' bnm.length c') := hbs.cell 3
      have sf3 : wr.frozen? ⟨w.heap.size + 1, 3, none⟩ = false := hbs.frozen 3
      have slt : w.heap.size + 1 < wr.heap.size := hbs.lt
      have HNM := Lib.hid hnm; have HB := Lib.hid hb; have HBST := Lib.hid hbst
      clear hbs hnm hb hbst
      cases hk0 : decide (0 < bkind)
      all_goals
        go_wp2_with fail
        refine bodyPost_ret (res_route (g := w.heap.size) (v0 := .int .i64 brule) (v1 := .string bsc) (v2 := .string binf) (v3 := .slice A' bnm.length c') Tryd.results17 rfl ((((HT3.out.set_ 0 _).set_ 1 _).set_ 2 _).set_ 3 _)) rfl ?_
        rw [HU.out, ← HBST.out]
        refine ⟨⟨A', c', ?_, ?_⟩, ?_⟩
        · unfold Bst.ok; simp only [hk0]; rfl
        · exact (((((HNM.out.set_ (by simp) _).set_ (by simp) _).set_ (by simp) _).set_ (by simp) _)).more (by omega)
        · have hwr := fr_trans hww1 HB.out
          exact fr_set (fr_set (fr_set (fr_set hwr (by simp) _) (by simp) _) (by simp) _) (by simp) _
end Go.Proofs.YthjnmcciejfpcaaDoor
