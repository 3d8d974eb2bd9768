/- rule.Host, route.segs, route.ext: what they answer. -/
import Derived.Test.YthjnmcciejfpcaaDoorRouteS
import Derived.Test.YthjnmcciejfpcaaDoorShelf
import Derived.Deep.RegionLaw
import Derived.Deep.AppendLies
import Derived.Deep.DrawnRows
namespace Go.Proofs.YthjnmcciejfpcaaDoor
set_option linter.unusedVariables false
set_option linter.unusedSimpArgs false
open Go.RowKit


/-- pairs in memory of the call's own -/
def FPairs (B : Nat) (w : World) (A : Option Addr) (l : List Pr) : Prop :=
  0 < l.length → ∃ b off, A = some ⟨b, off, none⟩ ∧ B ≤ b ∧ b < w.heap.size ∧ ∀ k (h : k < l.length), w.cell? ⟨b, off + k * 2, none⟩ = some (.string l[k].1) ∧ w.cell? ⟨b, off + k * 2 + 1, none⟩ = some (.string l[k].2)
theorem FPairs.nil (B : Nat) (w : World) (A : Option Addr) : FPairs B w A [] := fun h => absurd h (by simp)
theorem FPairs.pairs {B : Nat} {w : World} {A : Option Addr} {l : List Pr} (h : FPairs B w A l) : Pairs w A l := fun h0 => by
  obtain ⟨b, off, e, _, hlt, hc⟩ := h h0
  exact ⟨b, off, e, hlt, hc⟩
theorem FPairs.fr {B : Nat} {w w' : World} {A : Option Addr} {l : List Pr} (h : FPairs B w A l) (hb : Below w.heap.size w w') : FPairs B w' A l := fun h0 => by
  obtain ⟨b, off, rfl, hB, hlt, hc⟩ := h h0
  exact ⟨b, off, rfl, hB, Nat.lt_of_lt_of_le hlt hb.size, fun k hk => ⟨fr_cell hb (hc k hk).1, fr_cell hb (hc k hk).2⟩⟩
theorem FPairs.more {B B' : Nat} {w : World} {A : Option Addr} {l : List Pr} (h : FPairs B w A l) (hB : B' ≤ B) : FPairs B' w A l := fun h0 => by
  obtain ⟨b, off, e, hb, hlt, hc⟩ := h h0
  exact ⟨b, off, e, Nat.le_trans hB hb, hlt, hc⟩
theorem FPairs.set_ {B : Nat} {w : World} {A : Option Addr} {l : List Pr} (h : FPairs B w A l) {p : Addr} (hp : p.block < B) (u : Value) : FPairs B (w.setCell p u) A l := fun h0 => by
  obtain ⟨b, off, e, hb, hlt, hc⟩ := h h0
  refine ⟨b, off, e, hb, by simpa [World.setCell] using hlt, fun k hk => ⟨?_, ?_⟩⟩
  · rw [World.cell?_setCell_other w _ _ _ (by rintro rfl; simp at hp; omega)]; exact (hc k hk).1
  · rw [World.cell?_setCell_other w _ _ _ (by rintro rfl; simp at hp; omega)]; exact (hc k hk).2
theorem FPairs.own {w : World} {base e : Nat} {v : Value} {l : List Pr} {n : Nat} (h : w.ownsRow base e 2 v n (pcells l)) :
    ∃ A c, v = .slice A l.length c ∧ n = l.length ∧ FPairs base w A l := by
  obtain ⟨A, c, e1, hn, hp⟩ := Pairs.own h
  refine ⟨A, c, e1, hn, fun h0 => ?_⟩
  obtain ⟨b, off, rfl, hlt, hc⟩ := hp h0
  refine ⟨b, off, rfl, ?_, hlt, hc⟩
  have := own_ge h b (by rw [e1]; rfl)
  exact this
def MatchEnd (w0 : World) (o : Option RT) (e : Ending) (w' : World) : Prop :=
  (∃ A c, e = .returned (.tuple #[.agg #[.int .i64 0, .string (rsc o), .string (rinf o), .slice A (rnm o).length c], .bool o.isSome]) ∧ FPairs w0.heap.size w' A (rnm o)) ∧ Below w0.heap.size w0 w'
theorem MatchEnd.none_ {w0 w' : World} {o : Option RT} (h : o = none) (hb : Below w0.heap.size w0 w') :
    MatchEnd w0 o (.returned (.tuple #[.agg #[.int .i64 0, .string ⟨#[]⟩, .string ⟨#[]⟩, .slice none 0 0], .bool false])) w' := by
  subst h; exact ⟨⟨none, 0, rfl, FPairs.nil _ _ _⟩, hb⟩
theorem MatchEnd.some_ {w0 w' : World} {o : Option RT} {a b : ByteArray} {l : List Pr} {A : Option Addr} {n c : Nat} (h : o = some (a, b, l)) (hn : n = l.length) (hp : FPairs w0.heap.size w' A l) (hb : Below w0.heap.size w0 w') :
    MatchEnd w0 o (.returned (.tuple #[.agg #[.int .i64 0, .string a, .string b, .slice A n c], .bool true])) w' := by
  subst h hn; exact ⟨⟨A, c, rfl, hp⟩, hb⟩
def routeZ : Array Value := #[.int .i64 0, .string ⟨#[]⟩, .string ⟨#[]⟩, .slice none 0 0]
theorem pair_info : (Tryd.prog.info? 40).map (fun i => (i.zero, i.size, i.bytes)) = some (some (.agg #[.string ⟨#[]⟩, .string ⟨#[]⟩]), 2, 32) := by kernel_rfl

def okN (zs : List (ByteArray × ByteArray)) (k : Nat) : Bool := (zs.take k).all okP
def nmN (zs : List (ByteArray × ByteArray)) (k : Nat) : List Pr := (zs.take k).filterMap nm1
theorem okN_succ {zs : List (ByteArray × ByteArray)} {k : Nat} (h : k < zs.length) : okN zs (k + 1) = (okN zs k && okP zs[k]) := by
  unfold okN; rw [List.take_succ_eq_append_getElem h, List.all_append]; simp
theorem nmN_succ {zs : List (ByteArray × ByteArray)} {k : Nat} (h : k < zs.length) : nmN zs (k + 1) = nmN zs k ++ (nm1 zs[k]).toList := by
  unfold nmN; rw [List.take_succ_eq_append_getElem h, List.filterMap_append]
  cases hq : nm1 zs[k] <;> simp [hq]
theorem nmN_len (zs : List (ByteArray × ByteArray)) (k : Nat) : (nmN zs k).length ≤ k := Nat.le_trans (List.length_filterMap_le _ _) (List.length_take_le _ _)
theorem segsM_no {ws hs : List ByteArray} {k : Nat} (h : k ≤ (ws.zip hs).length) (hn : okN (ws.zip hs) k = false) : segsM ws hs = none := by
  unfold segsM
  split
  · rw [if_neg]
    intro ha
    rw [← List.take_append_drop k (ws.zip hs), List.all_append] at ha
    unfold okN at hn
    rw [hn] at ha; simp at ha
  · rfl
theorem segsM_all {ws hs : List ByteArray} {k : Nat} (hl : ws.length = hs.length) (hk : k = ws.length) (h : okN (ws.zip hs) k = true) : segsM ws hs = some (nmN (ws.zip hs) k) := by
  have : (ws.zip hs).take k = ws.zip hs := List.take_of_length_le (by simp; omega)
  unfold segsM; rw [if_pos hl]
  unfold okN at h; unfold nmN
  rw [this] at h ⊢
  rw [if_pos h]

theorem Blk.newAt {w : World} {g : Nat} (hg : g = w.heap.size) (t : TypeId) (cs : Array Value) : Blk (w.alloc (.cells cs t)) g t cs := hg ▸ Blk.new w t cs
theorem res_route {fn : Func} {a u : Tmp} {tmps : Array Value} {w : World} {g : Nat} {v0 v1 v2 v3 : Value} (h : fn.results = #[.cell a 29, .tmp u]) (ht : tmps.getD a undef = .pointer (some ⟨g, 0, none⟩))
    (hb : Blk w g 29 #[v0, v1, v2, v3]) : (results fn tmps).run Tryd.prog w = .ok (.tuple #[.agg #[v0, v1, v2, v3], tmps.getD u undef]) w := by
  have c0 : w.cell? ⟨g, 0, none⟩ = some v0 := hb.cell 0
  have c1 : w.cell? ⟨g, 1, none⟩ = some v1 := hb.cell 1
  have c2 : w.cell? ⟨g, 2, none⟩ = some v2 := hb.cell 2
  have c3 : w.cell? ⟨g, 3, none⟩ = some v3 := hb.cell 3
  have ht' : tmps[a]?.getD undef = .pointer (some ⟨g, 0, none⟩) := by simpa using ht
  simp [results, h, ht', go_sem, c0, c1, c2, c3]
set_option maxHeartbeats 4000000 in
theorem route_segs (k0 : Int) (h0 rp : ByteArray) (b0 : Int) (wA : Option Addr) (wn wc : Nat) (p : ByteArray) (w : World) (hm : MaxL w) (hrp : rp.size ≤ 1000000000) (hp : p.size ≤ 1000000000) :
    Calls Tryd.prog 21 #[.agg #[.int .i64 k0, .string h0, .string rp, .int .i64 b0, .slice wA wn wc], .string p] w
      (MatchEnd w ((segsM (segs rp) (segs p)).map fun nm => (p, ⟨#[]⟩, nm))) := by
  obtain ⟨i0, hi, hz0, hz1, hz2⟩ := info_parts pair_info
  have l1 := segs_len rp
  have l2 := segs_len p
  have HM := Lib.hid hm; clear hm
  have hbR := Box.new w [.int .i64 k0, .string h0, .string rp, .int .i64 b0, .slice wA wn wc] 36
  have hbT := Blk.newAt (w := w.alloc (.cells #[.int .i64 k0, .string h0, .string rp, .int .i64 b0, .slice wA wn wc] 36)) (g := w.heap.size + 1) (by simp) 29 routeZ
  have HR := Lib.hid (hbR.fr (fr_alloc (fr_refl _) (.cells routeZ 29)))
  have HT := Lib.hid hbT
  clear hbR hbT
  go_enter Tryd.func21, Tryd.ntmps21
  go_wp2_with fail
  refine (path_Segments rp _ (HM.out.fr (fr_alloc (fr_alloc (fr_refl _) _) _)) (by omega)).mono ?_
  rintro e w1 ⟨⟨A, c, rfl, hc, hA⟩, hb1⟩
  have hw1 : Below w.heap.size w w1 := fr_trans (fr_alloc (fr_alloc (fr_refl _) _) _) hb1
  have HR1 := Lib.hid (HR.out.fr hb1)
  have HT1 := Lib.hid (HT.out.fr hb1)
  clear HR HT hb1
  go_wp2_with fail
  refine (path_Segments p _ (HM.out.fr hw1) (by omega)).mono ?_
  rintro e w2 ⟨⟨B, d, rfl, hd, hB⟩, hb2⟩
  have hw2 := fr_trans hw1 hb2
  have HA := Lib.hid (hA.fr hb2)
  have HB := Lib.hid hB
  have HR2 := Lib.hid (HR1.out.fr hb2)
  have HT2 := Lib.hid (HT1.out.fr hb2)
  clear hA hB hb2 HR1 HT1 hw1
  obtain ⟨ws, hws⟩ : ∃ ws, segs rp = ws := ⟨_, rfl⟩
  obtain ⟨hs, hhs⟩ : ∃ hs, segs p = hs := ⟨_, rfl⟩
  rw [hws] at HA l1 hc ⊢
  rw [hhs] at HB l2 hd ⊢
  have HWS := Lib.hid hws; have HHS := Lib.hid hhs; clear hws hhs
  have tc0 : w2.cell? ⟨w.heap.size + 1, 0, none⟩ = some (.int .i64 0) := HT2.out.cell 0
  have tf0 : w2.frozen? ⟨w.heap.size + 1, 0, none⟩ = false := HT2.out.frozen 0
  have tc1 : w2.cell? ⟨w.heap.size + 1, 1, none⟩ = some (.string ⟨#[]⟩) := HT2.out.cell 1
  have tf1 : w2.frozen? ⟨w.heap.size + 1, 1, none⟩ = false := HT2.out.frozen 1
  have tc2 : w2.cell? ⟨w.heap.size + 1, 2, none⟩ = some (.string ⟨#[]⟩) := HT2.out.cell 2
  have tf2 : w2.frozen? ⟨w.heap.size + 1, 2, none⟩ = false := HT2.out.frozen 2
  have tc3 : w2.cell? ⟨w.heap.size + 1, 3, none⟩ = some (.slice none 0 0) := HT2.out.cell 3
  have tf3 : w2.frozen? ⟨w.heap.size + 1, 3, none⟩ = false := HT2.out.frozen 3
  have tlt : w.heap.size + 1 < w2.heap.size := HT2.out.lt
  have hw3 := fr_alloc hw2 (.cells #[.int .i64 0, .string p, .string ⟨#[]⟩, .slice none 0 0] 29)
  by_cases hne : ws.length = hs.length
  · obtain ⟨zs, hzs⟩ : ∃ zs, ws.zip hs = zs := ⟨_, rfl⟩
    have hzl : zs.length = ws.length := by rw [← hzs]; simp; omega
    have hz1 : ∀ k (h : k < zs.length), ∃ h1 h2, zs[k] = (ws[k]'h1, hs[k]'h2) := fun k h => ⟨by omega, by omega, by subst hzs; simp⟩
    have HZS := Lib.hid hzs; have HZL := Lib.hid hzl; have HZ1 := Lib.hid hz1; have HNE := Lib.hid hne
    clear hzs hzl hz1
    have hne' : (ws.length : Int) = (hs.length : Int) := by omega
    clear hne
    obtain ⟨n, hn⟩ : ∃ n, ws.length = n := ⟨_, rfl⟩
    rw [hn] at hc l1 hne' ⊢
    have HN := Lib.hid hn; clear hn
    obtain ⟨w3, hw3e⟩ : ∃ w3, w3 = w2.alloc (.cells #[.int .i64 0, .string p, .string ⟨#[]⟩, .slice none 0 0] 29) := ⟨_, rfl⟩
    have HS3 := Lib.hid (Blk.new w2 29 #[.int .i64 0, .string p, .string ⟨#[]⟩, .slice none 0 0])
    go_wp2
    go_loopw [28] (fun i wr => ∃ (k : Nat) (v : Value), k ≤ n ∧ i = .int .i64 k ∧ okN zs k = true ∧ Below w2.heap.size w2 wr ∧ Blk wr w2.heap.size 29 #[.int .i64 0, .string p, .string ⟨#[]⟩, v] ∧ wr.ownsRow (w2.heap.size + 1) 40 2 v (nmN zs k).length (pcells (nmN zs k))) (fun i _ => n - (intOf i).toNat)
    case atStart => exact ⟨0, _, Nat.zero_le _, rfl, rfl, fr_alloc (fr_refl _) _, HS3.out, World.ownsRow_nil _ _ _ _⟩
    case round =>
      obtain ⟨k, v, hk, rfl, hok, hb, hbs, hown⟩ := hrel
      by_cases hlt : k < n
      · obtain ⟨ab, ao, rfl, halt, hac⟩ := HA.out.at_ (k := k) (by have := HN.out; omega)
        obtain ⟨bb, bo, rfl, hblt, hbc⟩ := HB.out.at_ (k := k) (by have := HN.out; have := HNE.out; omega)
        obtain ⟨g1, g2, hzk⟩ := HZ1.out k (by have := HN.out; have := HZL.out; omega)
        have hac' := fr_cell hb hac
        have hbc' := fr_cell hb hbc
        obtain ⟨x, hx⟩ : ∃ x, ws[k] = x := ⟨_, rfl⟩
        obtain ⟨y, hy⟩ : ∃ y, hs[k] = y := ⟨_, rfl⟩
        rw [hx] at hac' hzk
        rw [hy] at hbc' hzk
        have hkz : k < zs.length := by have := HN.out; have := HZL.out; omega
        have HO1 := Lib.hid (okN_succ hkz); have HM1 := Lib.hid (nmN_succ hkz)
        rw [hzk, hok] at HO1
        rw [hzk] at HM1
        have hlen := nmN_len zs k
        have HOK := Lib.hid hok; have HBS := Lib.hid hbs; have HOW := Lib.hid hown; have HB2 := Lib.hid hb
        clear hok hzk hx hy hac hbc hbs hown hb
        have hblr : ab < wr.heap.size := World.block_lt_of_cell? wr _ hac'
        have hblr2 : bb < wr.heap.size := World.block_lt_of_cell? wr _ hbc'
        cases hcx : hasC x
        · have HCX := Lib.hid hcx; clear hcx
          go_wp2_with fail
          refine (lib_CutPrefix x 58 _).mono ?_
          rintro e w4 ⟨rfl, rfl⟩
          rw [show Lib.hasPrefix (L x) [58] = false from HCX.out]
          cases hq : eqB x y
          all_goals
            have HQ := Lib.hid hq
            unfold eqB at hq
          · have hT3 := HT2.out.fr HB2.out
            have uc0 : wr.cell? ⟨w.heap.size + 1, 0, none⟩ = some (.int .i64 0) := hT3.cell 0
            have uf0 : wr.frozen? ⟨w.heap.size + 1, 0, none⟩ = false := hT3.frozen 0
            have uc1 : wr.cell? ⟨w.heap.size + 1, 1, none⟩ = some (.string ⟨#[]⟩) := hT3.cell 1
            have uf1 : wr.frozen? ⟨w.heap.size + 1, 1, none⟩ = false := hT3.frozen 1
            have uc2 : wr.cell? ⟨w.heap.size + 1, 2, none⟩ = some (.string ⟨#[]⟩) := hT3.cell 2
            have uf2 : wr.frozen? ⟨w.heap.size + 1, 2, none⟩ = false := hT3.frozen 2
            have uc3 : wr.cell? ⟨w.heap.size + 1, 3, none⟩ = some (.slice none 0 0) := hT3.cell 3
            have uf3 : wr.frozen? ⟨w.heap.size + 1, 3, none⟩ = false := hT3.frozen 3
            have ult : w.heap.size + 1 < wr.heap.size := hT3.lt
            have HT3 := Lib.hid hT3; clear hT3
            go_wp2_with fail
            refine bodyPost_ret (res_route (g := w.heap.size + 1) (v0 := .int .i64 0) (v1 := .string ⟨#[]⟩) (v2 := .string ⟨#[]⟩) (v3 := .slice none 0 0) Tryd.results21 rfl ((((HT3.out.set_ 0 _).set_ 1 _).set_ 2 _).set_ 3 _)) rfl (MatchEnd.none_ ?_ ?_)
            · rw [HWS.out, HHS.out, segsM_no (k := k + 1) (by rw [HZS.out]; exact hkz) (by rw [HZS.out, HO1.out]; unfold okP; rw [HCX.out, HQ.out]; rfl)]; rfl
            · have hwr := fr_trans hw2 HB2.out
              exact fr_set (fr_set (fr_set (fr_set hwr (by simp) _) (by simp) _) (by simp) _) (by simp) _
          · go_wp2_with fail
            go_roundw
            case measure => exact meas hlt .i64 .i64
            case rel =>
              refine ⟨k + 1, v, by omega, by go_num, ?_, HB2.out, HBS.out, ?_⟩
              · rw [HO1.out]; unfold okP; rw [HQ.out]; simp
              · have e : nmN zs (k + 1) = nmN zs k := by rw [HM1.out]; unfold nm1; simp [HCX.out]
                rw [e]; exact HOW.out
        · have HCX := Lib.hid hcx; clear hcx
          go_wp2_with fail
          refine (lib_CutPrefix x 58 _).mono ?_
          rintro e w4 ⟨rfl, rfl⟩
          rw [show Lib.hasPrefix (L x) [58] = true from HCX.out, show (⟨(Lib.trimPrefix (L x) [58]).toArray⟩ : ByteArray) = tailC x from rfl]
          obtain ⟨tx, htx⟩ : ∃ tx, tailC x = tx := ⟨_, rfl⟩
          rw [htx]
          have HTX := Lib.hid htx; clear htx
          have hne := own_ge HOW.out
          have c2 : wr.cell? ⟨w2.heap.size, 3, none⟩ = some v := HBS.out.cell 3
          have c3 : wr.frozen? ⟨w2.heap.size, 3, none⟩ = false := HBS.out.frozen 3
          have lt2 : w2.heap.size < wr.heap.size := HBS.out.lt
          have ne2 : v.ownBlock ≠ some w2.heap.size := fun e => by have := hne _ e; omega
          have hk0 : (0 : Int) ≤ (k : Int) := Int.natCast_nonneg _
          have hk1 : (k : Int) < (hs.length : Int) := by omega
          go_wp2_with fail
          go_region_law (refine step_append_lies _ (by rfl) _ _ _ (by rfl) (w2.heap.size + 1) 40 i0 _ 2 32 Tryd.underlying27 hi hz0 hz1 hz2 rfl (by omega) v _ _ (by rfl) ((HOW.out.alloc _).drew) ⟨wr.heap.size, 0, none⟩ 1 1 [.string tx, .string y] (by rfl) (by rfl) (World.news_of_block (cs := #[.string tx, .string y]) (t := 40) (fr := (0, 0)) (heap_alloc_new wr _)) (by simp [Value.oneCell']) (by omega) (by simp only [maxLen]; omega) (by omega) (by simp; omega) (wr.heap.size + 1) (by simp) ?_; intro gg cap w5 hown1 hgrow hat hlt2; have hbs2 := ((HBS.out.alloc (.cells #[.string tx, .string y] 40)).drew).grown hgrow (Ne.symm ne2); have d2 : w5.cell? ⟨w2.heap.size, 3, none⟩ = some v := hbs2.cell 3; have d3 : w5.frozen? ⟨w2.heap.size, 3, none⟩ = false := hbs2.frozen 3)
          all_goals
            go_wp2_with fail
            go_roundw
            case measure => exact meas hlt .i64 .i64
            case rel =>
              have e : nmN zs (k + 1) = nmN zs k ++ [(tx, y)] := by rw [HM1.out]; unfold nm1; simp [HCX.out, HTX.out]
              have hb5 : Below w2.heap.size w2 w5 := fr_grown (fr_alloc HB2.out _).drew hgrow (fun k hk => by have := hne k hk; omega)
              refine ⟨k + 1, .slice (some ⟨gg, 0, none⟩) ((nmN zs k).length + 1) cap, by omega, by go_num, ?_, fr_set hb5 (Nat.le_refl _) _, hbs2.set_ 3 _, ?_⟩
              · rw [HO1.out]; unfold okP; rw [HCX.out]; rfl
              · rw [e, List.length_append, pcells_snoc]
                exact ownsRow_setCell_below hown1 (a := ⟨w2.heap.size, 3, none⟩) (by simp) _
      · obtain rfl : k = n := by omega
        have hT3 := HT2.out.fr hb
        have uc0 : wr.cell? ⟨w.heap.size + 1, 0, none⟩ = some (.int .i64 0) := hT3.cell 0
        have uf0 : wr.frozen? ⟨w.heap.size + 1, 0, none⟩ = false := hT3.frozen 0
        have uc1 : wr.cell? ⟨w.heap.size + 1, 1, none⟩ = some (.string ⟨#[]⟩) := hT3.cell 1
        have uf1 : wr.frozen? ⟨w.heap.size + 1, 1, none⟩ = false := hT3.frozen 1
        have uc2 : wr.cell? ⟨w.heap.size + 1, 2, none⟩ = some (.string ⟨#[]⟩) := hT3.cell 2
        have uf2 : wr.frozen? ⟨w.heap.size + 1, 2, none⟩ = false := hT3.frozen 2
        have uc3 : wr.cell? ⟨w.heap.size + 1, 3, none⟩ = some (.slice none 0 0) := hT3.cell 3
        have uf3 : wr.frozen? ⟨w.heap.size + 1, 3, none⟩ = false := hT3.frozen 3
        have ult : w.heap.size + 1 < wr.heap.size := hT3.lt
        obtain ⟨A', c', rfl, hnl, _⟩ := Pairs.own hown
        have sc0 : wr.cell? ⟨w2.heap.size, 0, none⟩ = some (.int .i64 0) := hbs.cell 0
        have sf0 : wr.frozen? ⟨w2.heap.size, 0, none⟩ = false := hbs.frozen 0
        have sc1 : wr.cell? ⟨w2.heap.size, 1, none⟩ = some (.string p) := hbs.cell 1
        have sf1 : wr.frozen? ⟨w2.heap.size, 1, none⟩ = false := hbs.frozen 1
        have sc2 : wr.cell? ⟨w2.heap.size, 2, none⟩ = some (.string ⟨#[]⟩) := hbs.cell 2
        have sf2 : wr.frozen? ⟨w2.heap.size, 2, none⟩ = false := hbs.frozen 2
        have sc3 : wr.cell? ⟨w2.heap.size, 3, none⟩ = some (.slice A' (nmN zs k).length c') := hbs.cell 3
        have sf3 : wr.frozen? ⟨w2.heap.size, 3, none⟩ = false := hbs.frozen 3
        have slt : w2.heap.size < wr.heap.size := hbs.lt
        have HT3 := Lib.hid hT3; have HPR := Lib.hid hown; have HB2 := Lib.hid hb; have HOK := Lib.hid hok
        clear hT3 hb hok hown hbs hnl
        obtain ⟨nms, hnms⟩ : ∃ nms, nmN zs k = nms := ⟨_, rfl⟩
        rw [hnms] at HPR sc3
        have HNM := Lib.hid hnms; clear hnms
        go_wp2_with fail
        refine bodyPost_ret (res_route (g := w.heap.size + 1) (v0 := .int .i64 0) (v1 := .string p) (v2 := .string ⟨#[]⟩) (v3 := .slice A' nms.length c') Tryd.results21 rfl ((((HT3.out.set_ 0 _).set_ 1 _).set_ 2 _).set_ 3 _)) rfl (MatchEnd.some_ (l := nms) ?_ rfl ?_ ?_)
        · rw [HWS.out, HHS.out, segsM_all (k := k) (by have := HN.out; have := HNE.out; omega) (by have := HN.out; omega) (by rw [HZS.out]; exact HOK.out), HZS.out, HNM.out]; rfl
        · have hz := hw2.size
          have h4 := ownsRow_setCell_below (ownsRow_setCell_below (ownsRow_setCell_below (ownsRow_setCell_below HPR.out (a := ⟨w.heap.size + 1, 0, none⟩) (by show w.heap.size + 1 < w2.heap.size + 1; have := HT2.out.lt; omega) (.int .i64 0)) (a := ⟨w.heap.size + 1, 1, none⟩) (by show w.heap.size + 1 < w2.heap.size + 1; have := HT2.out.lt; omega) (.string p)) (a := ⟨w.heap.size + 1, 2, none⟩) (by show w.heap.size + 1 < w2.heap.size + 1; have := HT2.out.lt; omega) (.string ⟨#[]⟩)) (a := ⟨w.heap.size + 1, 3, none⟩) (by show w.heap.size + 1 < w2.heap.size + 1; have := HT2.out.lt; omega) (.slice A' nms.length c')
          obtain ⟨A2, c2, e2, _, hp2⟩ := FPairs.own h4
          injection e2 with e2 _ _
          subst e2
          exact hp2.more (by have := hw2.size; omega)
        · have hwr := fr_trans hw2 HB2.out
          exact fr_set (fr_set (fr_set (fr_set hwr (by simp) _) (by simp) _) (by simp) _) (by simp) _
  · have hne' : ¬ (ws.length : Int) = (hs.length : Int) := by omega
    go_wp2_with fail
    refine bodyPost_ret (res_route (g := w.heap.size + 1) (v0 := .int .i64 0) (v1 := .string ⟨#[]⟩) (v2 := .string ⟨#[]⟩) (v3 := .slice none 0 0) Tryd.results21 rfl (((((HT2.out.set_ 0 _).set_ 1 _).set_ 2 _).set_ 3 _).alloc _)) rfl (MatchEnd.none_ ?_ ?_)
    · rw [HWS.out, HHS.out]; unfold segsM; rw [if_neg hne]; rfl
    · exact fr_alloc (fr_set (fr_set (fr_set (fr_set hw2 (by simp) _) (by simp) _) (by simp) _) (by simp) _) _
end Go.Proofs.YthjnmcciejfpcaaDoor
