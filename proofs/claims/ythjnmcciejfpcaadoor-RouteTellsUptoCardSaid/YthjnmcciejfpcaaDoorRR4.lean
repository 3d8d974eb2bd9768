/- conduitref11.among: what route.among answers. -/
import Derived.Test.YthjnmcciejfpcaaDoorRR3
import Derived.Test.YthjnmcciejfpcaaDoorRoute4
namespace Go.Proofs.YthjnmcciejfpcaaDoor
set_option linter.unusedVariables false
set_option linter.unusedSimpArgs false
open Go.RowKit

/-- the rule that the reference holds for the best, beside ours -/
def Held (l : List RV) (b : Bst) (f : Int) : Prop := (b.kind = 0 ∧ f = -1) ∨ (0 < b.kind ∧ ∃ q, ∃ h : q < l.length, f = (q : Int) ∧ b.kind = l[q].kind ∧ b.most = (weightS l[q].kind l[q].path : Int))
theorem rule5 {w : World} {ab ao : Nat} {l : List RV} (hc : ∀ k (h : k < l.length) j v, l[k].cells[j]? = some v → w.cell? ⟨ab, ao + k * 5 + j, none⟩ = some v) {w' : World} (hb : Below w.heap.size w w') {k : Nat} (h : k < l.length) {r : RV} (hr : l[k] = r) :
    w'.cell? ⟨ab, ao + k * 5, none⟩ = some (.int .i64 r.kind) ∧ w'.cell? ⟨ab, ao + k * 5 + 1, none⟩ = some (.string r.host) ∧ w'.cell? ⟨ab, ao + k * 5 + 2, none⟩ = some (.string r.path) ∧ w'.cell? ⟨ab, ao + k * 5 + 3, none⟩ = some (.int .i64 r.backend) ∧ w'.cell? ⟨ab, ao + k * 5 + 4, none⟩ = some (.slice r.wA r.wn r.wc) := by
  have hcr := hc k h
  rw [hr] at hcr
  exact ⟨fr_cell hb (hcr 0 _ rfl), fr_cell hb (hcr 1 _ rfl), fr_cell hb (hcr 2 _ rfl), fr_cell hb (hcr 3 _ rfl), fr_cell hb (hcr 4 _ rfl)⟩
theorem Blk.off {w : World} {g : Nat} {t : TypeId} {cs : Array Value} (h : Blk w g t cs) {p : Addr} (hp : g ≠ p.block) (u : Value) : Blk (w.setCell p u) g t cs := (Below.heap_setCell w p u g hp).trans h
theorem ahead_none {b : Bst} {k n : Int} (h : b.kind = 0) : aheadB b k n = true := by unfold aheadB; simp [h]
theorem ahead_less {b : Bst} {k n : Int} (h : k < b.kind) : aheadB b k n = true := by unfold aheadB; simp [h]
theorem ahead_more {b : Bst} {k n : Int} (h0 : 0 < b.kind) (h : ¬ k < b.kind) (h1 : k ≠ b.kind) : aheadB b k n = false := by unfold aheadB; simp; omega
theorem ahead_like {b : Bst} {k n : Int} (h0 : 0 < b.kind) (h1 : k = b.kind) : aheadB b k n = decide (b.most < n) := by
  unfold aheadB
  have e1 : (b.kind == 0) = false := by simp; omega
  have e2 : decide (k < b.kind) = false := by simp; omega
  have e3 : (k == b.kind) = true := by simpa using h1
  rw [e1, e2, e3]; simp
set_option maxRecDepth 100000 in
set_option maxHeartbeats 16000000 in
theorem ref11_among (A : Option Addr) (c n : Nat) (l : List RV) (host p : ByteArray) (w : World) (hn : l.length = n) (hR : Rules w A l) (hf : ∀ r ∈ l, FitsR r.path p r.kind) (hk : ∀ r ∈ l, 0 < r.kind) (hl : n ≤ 1000000000) :
    Calls Tryd.prog 19 #[.slice A n c, .string host, .string p] w (ChooseEnd w (amS l host p)) := by
  have HR := Lib.hid hR; have HF := Lib.hid hf; have HKP := Lib.hid hk; have HNL := Lib.hid hn; clear hR hf hk hn
  have HT := Lib.hid (Blk.new w 29 #[.int .i64 0, .string ⟨#[]⟩, .string ⟨#[]⟩, .slice none 0 0])
  have HS := Lib.hid (Blk.newAt (w := w.alloc (.cells #[.int .i64 0, .string ⟨#[]⟩, .string ⟨#[]⟩, .slice none 0 0] 29)) (g := w.heap.size + 1) (by simp) 29 #[.int .i64 0, .string ⟨#[]⟩, .string ⟨#[]⟩, .slice none 0 0])
  have hw0 : Below w.heap.size w ((w.alloc (.cells #[.int .i64 0, .string ⟨#[]⟩, .string ⟨#[]⟩, .slice none 0 0] 29)).alloc (.cells #[.int .i64 0, .string ⟨#[]⟩, .string ⟨#[]⟩, .slice none 0 0] 29)) := fr_alloc (fr_alloc (fr_refl _) _) _
  have HW0 := Lib.hid hw0; clear hw0
  have hunf : amS l host p = amN host p l n := by rw [← HNL.out]; rfl
  have HU := Lib.hid hunf; clear hunf
  go_enter Tryd.func19, Tryd.ntmps19
  go_wp2
  go_loopw [9, 10] (fun fd i wr => ∃ (k : Nat) (b : Bst) (A' : Option Addr) (c' : Nat) (f : Int), k ≤ n ∧ i = .int .i64 k ∧ fd = .int .i64 f ∧ b = amN host p l k ∧ Held l b f ∧ Below w.heap.size w wr ∧
    Blk wr w.heap.size 29 #[.int .i64 0, .string ⟨#[]⟩, .string ⟨#[]⟩, .slice none 0 0] ∧ Blk wr (w.heap.size + 1) 29 #[.int .i64 b.rule, .string b.sc, .string b.inf, .slice A' b.nm.length c'] ∧ FPairs (w.heap.size + 2) wr A' b.nm) (fun _ i _ => n - (intOf i).toNat)
  case atStart => exact ⟨0, _, none, 0, -1, Nat.zero_le _, rfl, rfl, rfl, .inl ⟨rfl, rfl⟩, HW0.out, HT.out.alloc _, HS.out, FPairs.nil _ _ _⟩
  case round =>
    obtain ⟨k, b, A', c', f, hk, rfl, rfl, hbst, hheld, hb, hbt, hbs, hnm⟩ := hrel
    have HB := Lib.hid hb; have HBT := Lib.hid hbt; have HBS := Lib.hid hbs; have HNM := Lib.hid hnm; have HHD := Lib.hid hheld; have HBE := Lib.hid hbst
    clear hb hbt hbs hnm hheld hbst
    by_cases hlt : k < n
    · have kx : k < l.length := by have := HNL.out; omega
      obtain ⟨ab, ao, rfl, habl, hcell⟩ := HR.out (by omega)
      obtain ⟨r, hr⟩ : ∃ r, l[k] = r := ⟨_, rfl⟩
      have hmem : r ∈ l := by rw [← hr]; exact List.getElem_mem kx
      have HFR := Lib.hid (HF.out r hmem)
      have hrp := HFR.out.1
      have HRK := Lib.hid (HKP.out r hmem)
      have hsuc := amN_succ (host := host) (p := p) kx
      rw [hr, ← HBE.out] at hsuc
      have HSU := Lib.hid hsuc; have HC := Lib.hid hcell; have HRE := Lib.hid hr
      obtain ⟨q0, q1, q2, q3, q4⟩ := rule5 HC.out HB.out kx hr
      have habr : ab < wr.heap.size := World.block_lt_of_cell? wr _ q0
      have hkI : (k : Int) < (n : Int) := by omega
      have hk0 : (0 : Int) ≤ (k : Int) := by omega
      clear hsuc hcell hr hmem
      obtain ⟨o, ho⟩ : ∃ o, matchS r.kind r.path p = o := ⟨_, rfl⟩
      have hcm := fun W => ref11_Match r.kind r.host r.path r.backend r.wA r.wn r.wc p W HFR.out
      rw [ho] at hcm
      have HO := Lib.hid ho; have HCM := Lib.hid hcm; clear hcm ho
      go_wp2_with fail
      refine (HCM.out _).mono ?_
      rintro e w2 ⟨⟨sc, inf, nm, A2, c2, rfl, hsome, hpr⟩, hb2⟩
      have HB2 := Lib.hid (fr_trans HB.out hb2)
      have HT2 := Lib.hid (HBT.out.fr hb2)
      have HS2 := Lib.hid (HBS.out.fr hb2)
      have HN2 := Lib.hid (HNM.out.fr hb2)
      have HP := Lib.hid hpr; have HSM := Lib.hid hsome
      have hz2 : w.heap.size + 2 ≤ wr.heap.size := by have := HBS.out.lt; omega
      have HZ2 := Lib.hid hz2
      have HZ3 := Lib.hid hb2.size
      clear hb2 hpr hsome q0 q1 q2 q3 q4 hz2
      cases hos : o.isSome
      · have hon : o = none := by cases o with | none => rfl | some _ => simp at hos
        have HST := Lib.hid (amStep_none (host := host) (b := b) (i := k) (r := r) (HO.out.trans hon))
        clear hon
        go_wp2_with fail
        go_roundw
        case measure => exact meas hlt .i64 .i64
        case rel => exact ⟨k + 1, b, A', c', f, by omega, by go_num, rfl, by rw [HSU.out, HST.out], HHD.out, fr_alloc HB2.out _, HT2.out.alloc _, HS2.out.alloc _, HN2.out.fr (fr_alloc (fr_refl _) _)⟩
      · obtain ⟨t, ht⟩ := Option.isSome_iff_exists.1 hos
        have hte := HSM.out t ht
        have HMO := Lib.hid (HO.out.trans (ht.trans (congrArg some hte)))
        clear hos ht hte
        obtain ⟨q0, q1, q2, q3, q4⟩ := rule5 HC.out HB2.out kx HRE.out
        have habr2 : ab < w2.heap.size := World.block_lt_of_cell? w2 _ q0
        have HW2 := Lib.hid (fr_alloc HB2.out (.cells #[.int .i64 0, .string sc, .string inf, .slice A2 nm.length c2] 29))
        have HT3 := Lib.hid (HT2.out.alloc (.cells #[.int .i64 0, .string sc, .string inf, .slice A2 nm.length c2] 29))
        have HS3 := Lib.hid (HS2.out.alloc (.cells #[.int .i64 0, .string sc, .string inf, .slice A2 nm.length c2] 29))
        have HN3 := Lib.hid (HN2.out.fr (fr_alloc (fr_refl _) (.cells #[.int .i64 0, .string sc, .string inf, .slice A2 nm.length c2] 29)))
        have HP3 := Lib.hid ((HP.out.fr (fr_alloc (fr_refl _) (.cells #[.int .i64 0, .string sc, .string inf, .slice A2 nm.length c2] 29))).more HZ2.out)
        have HNR := Lib.hid (Blk.new w2 29 #[.int .i64 0, .string sc, .string inf, .slice A2 nm.length c2])
        cases hqh : eqB r.host host
        · have HST := Lib.hid (amStep_host (host := host) (p := p) (b := b) (i := k) (r := r) hqh)
          have hqn : (r.host.toList == host.toList) = false := hqh
          clear hqh
          go_wp2_with fail
          go_roundw
          case measure => exact meas hlt .i64 .i64
          case rel => exact ⟨k + 1, b, A', c', f, by omega, by go_num, rfl, by rw [HSU.out, HST.out], HHD.out, HW2.out, HT3.out, HS3.out, HN3.out⟩
        · have hst := amStep_some (host := host) (b := b) (i := k) (r := r) HMO.out hqh
          simp only at hst
          have hqn : (r.host.toList == host.toList) = true := hqh
          have HST := Lib.hid hst
          clear hqh hst
          obtain ⟨w3, hw3e⟩ : ∃ w3, w3 = w2.alloc (.cells #[.int .i64 0, .string sc, .string inf, .slice A2 nm.length c2] 29) := ⟨_, rfl⟩
          rw [← hw3e] at HW2 HT3 HS3 HN3 HP3 HNR
          have nc0 : w3.cell? ⟨w2.heap.size, 0, none⟩ = some (.int .i64 0) := HNR.out.cell 0
          have nf0 : w3.frozen? ⟨w2.heap.size, 0, none⟩ = false := HNR.out.frozen 0
          have nc1 : w3.cell? ⟨w2.heap.size, 1, none⟩ = some (.string sc) := HNR.out.cell 1
          have nf1 : w3.frozen? ⟨w2.heap.size, 1, none⟩ = false := HNR.out.frozen 1
          have nc2 : w3.cell? ⟨w2.heap.size, 2, none⟩ = some (.string inf) := HNR.out.cell 2
          have nf2 : w3.frozen? ⟨w2.heap.size, 2, none⟩ = false := HNR.out.frozen 2
          have nc3 : w3.cell? ⟨w2.heap.size, 3, none⟩ = some (.slice A2 nm.length c2) := HNR.out.cell 3
          have nf3 : w3.frozen? ⟨w2.heap.size, 3, none⟩ = false := HNR.out.frozen 3
          have nlt : w2.heap.size < w3.heap.size := HNR.out.lt
          have sc0 : w3.cell? ⟨w.heap.size + 1, 0, none⟩ = some (.int .i64 b.rule) := HS3.out.cell 0
          have sf0 : w3.frozen? ⟨w.heap.size + 1, 0, none⟩ = false := HS3.out.frozen 0
          have sc1 : w3.cell? ⟨w.heap.size + 1, 1, none⟩ = some (.string b.sc) := HS3.out.cell 1
          have sf1 : w3.frozen? ⟨w.heap.size + 1, 1, none⟩ = false := HS3.out.frozen 1
          have sc2 : w3.cell? ⟨w.heap.size + 1, 2, none⟩ = some (.string b.inf) := HS3.out.cell 2
          have sf2 : w3.frozen? ⟨w.heap.size + 1, 2, none⟩ = false := HS3.out.frozen 2
          have sc3 : w3.cell? ⟨w.heap.size + 1, 3, none⟩ = some (.slice A' b.nm.length c') := HS3.out.cell 3
          have sf3 : w3.frozen? ⟨w.heap.size + 1, 3, none⟩ = false := HS3.out.frozen 3
          have slt : w.heap.size + 1 < w3.heap.size := HS3.out.lt
          have HE3 := Lib.hid hw3e; clear hw3e
          have hne1 : w.heap.size + 1 ≠ w2.heap.size := by have := HZ2.out; have := HZ3.out; omega
          rcases HHD.out with ⟨hb0, rfl⟩ | ⟨hb0, q, hql, rfl, hbk, hbm⟩
          · have HAH := Lib.hid (ahead_none (k := r.kind) (n := (weightS r.kind r.path : Int)) hb0)
            clear hb0
            go_wp2_with fail
            rw [← HE3.out]
            clear q0 q1 q2 q3 q4
            go_quiet (fail)
            go_wp2_with fail
            go_roundw
            case measure => exact meas hlt .i64 .i64
            case rel =>
              refine ⟨k + 1, ⟨k, sc, inf, nm, r.kind, weightS r.kind r.path⟩, A2, c2, k, by omega, by go_num, rfl, by rw [HSU.out, HST.out, HAH.out]; rfl, .inr ⟨HRK.out, k, kx, rfl, by simp only [HRE.out], by simp only [HRE.out]⟩, ?_, ?_, ?_, ?_⟩
              · exact fr_set (fr_set (fr_set (fr_set (fr_set (fr_drewN HW2.out _) (by show w.heap.size ≤ w.heap.size + 1; omega) _) (by show w.heap.size ≤ w.heap.size + 1; omega) _) (by show w.heap.size ≤ w.heap.size + 1; omega) _) (by show w.heap.size ≤ w.heap.size + 1; omega) _) (by show w.heap.size ≤ w.heap.size + 1; omega) _
              · exact ((((((HT3.out.drewN _)).off (by show w.heap.size ≠ w.heap.size + 1; omega) _).off (by show w.heap.size ≠ w.heap.size + 1; omega) _).off (by show w.heap.size ≠ w.heap.size + 1; omega) _).off (by show w.heap.size ≠ w.heap.size + 1; omega) _).off (by show w.heap.size ≠ w.heap.size + 1; omega) _
              · exact (((((HS3.out.drewN _).set_ 0 _).set_ 1 _).set_ 2 _).set_ 3 _).set_ 0 _
              · exact ((((((HP3.out.fr (fr_drewN (fr_refl _) _))).set_ (by simp) _).set_ (by simp) _).set_ (by simp) _).set_ (by simp) _).set_ (by simp) _
          · have hfq : decide ((q : Int) < 0) = false := by simp
            have hqn2 : (q : Int) < (n : Int) := by have := HNL.out; omega
            have hq0 : (0 : Int) ≤ (q : Int) := by omega
            obtain ⟨r', hr'⟩ : ∃ r', l[q] = r' := ⟨_, rfl⟩
            rw [hr'] at hbk hbm
            have HRQ := Lib.hid hr'
            have hrp' := (HF.out r' (by rw [← hr']; exact List.getElem_mem hql)).1
            obtain ⟨d0, d1, d2, d3, d4⟩ := rule5 HC.out HW2.out kx HRE.out
            obtain ⟨e0, e1, e2, e3, e4⟩ := rule5 HC.out HW2.out hql hr'
            have habr3 : ab < w3.heap.size := World.block_lt_of_cell? w3 _ d0
            clear hr'
            by_cases hless : r.kind < r'.kind
            · have hd1 : decide (r.kind < r'.kind) = true := decide_eq_true hless
              have HAH := Lib.hid (ahead_less (b := b) (n := (weightS r.kind r.path : Int)) (by rw [hbk]; exact hless))
              clear hless hbk hbm
              go_wp2_with fail
              rw [← HE3.out]
              clear q0 q1 q2 q3 q4
              go_quiet (fail)
              go_wp2_with fail
              go_roundw
              case measure => exact meas hlt .i64 .i64
              case rel =>
                refine ⟨k + 1, ⟨k, sc, inf, nm, r.kind, weightS r.kind r.path⟩, A2, c2, k, by omega, by go_num, rfl, by rw [HSU.out, HST.out, HAH.out]; rfl, .inr ⟨HRK.out, k, kx, rfl, by simp only [HRE.out], by simp only [HRE.out]⟩, ?_, ?_, ?_, ?_⟩
                · exact fr_set (fr_set (fr_set (fr_set (fr_set (fr_drewN HW2.out _) (by show w.heap.size ≤ w.heap.size + 1; omega) _) (by show w.heap.size ≤ w.heap.size + 1; omega) _) (by show w.heap.size ≤ w.heap.size + 1; omega) _) (by show w.heap.size ≤ w.heap.size + 1; omega) _) (by show w.heap.size ≤ w.heap.size + 1; omega) _
                · exact ((((((HT3.out.drewN _)).off (by show w.heap.size ≠ w.heap.size + 1; omega) _).off (by show w.heap.size ≠ w.heap.size + 1; omega) _).off (by show w.heap.size ≠ w.heap.size + 1; omega) _).off (by show w.heap.size ≠ w.heap.size + 1; omega) _).off (by show w.heap.size ≠ w.heap.size + 1; omega) _
                · exact (((((HS3.out.drewN _).set_ 0 _).set_ 1 _).set_ 2 _).set_ 3 _).set_ 0 _
                · exact ((((((HP3.out.fr (fr_drewN (fr_refl _) _))).set_ (by simp) _).set_ (by simp) _).set_ (by simp) _).set_ (by simp) _).set_ (by simp) _
            · have hd1 : decide (r.kind < r'.kind) = false := decide_eq_false hless
              by_cases heq : r.kind = r'.kind
              · have he1 : (r.kind == r'.kind) = true := by simpa using heq
                have hah := ahead_like (b := b) (n := (weightS r.kind r.path : Int)) hb0 (heq.trans hbk.symm)
                rw [hbm] at hah
                have HWK := Lib.hid (fun W => ref11_weight r.kind r.host r.path r.backend r.wA r.wn r.wc W hrp)
                have HWQ := Lib.hid (fun W => ref11_weight r'.kind r'.host r'.path r'.backend r'.wA r'.wn r'.wc W hrp')
                obtain ⟨y, hy⟩ : ∃ y, weightS r'.kind r'.path = y := ⟨_, rfl⟩
                rw [hy] at HWQ hah
                obtain ⟨x, hx⟩ : ∃ x, weightS r.kind r.path = x := ⟨_, rfl⟩
                rw [hx] at HWK hah HST
                have HX := Lib.hid hx
                clear hless heq hbk hbm hy hx
                cases hgt : decide ((y : Int) < (x : Int))
                · have HAH := Lib.hid (hah.trans hgt)
                  have hgt2 : decide (y < x) = _ := (decide_eq_decide.2 (by omega)).trans hgt
                  clear hah
                  go_wp2_with fail
                  rw [← HE3.out]
                  clear q0 q1 q2 q3 q4
                  go_region_held3 (fun W' => (W'.cell? ⟨ab, ao + k * 5, none⟩ = some (.int .i64 r.kind) ∧ W'.cell? ⟨ab, ao + k * 5 + 1, none⟩ = some (.string r.host) ∧ W'.cell? ⟨ab, ao + k * 5 + 2, none⟩ = some (.string r.path) ∧ W'.cell? ⟨ab, ao + k * 5 + 3, none⟩ = some (.int .i64 r.backend) ∧ W'.cell? ⟨ab, ao + k * 5 + 4, none⟩ = some (.slice r.wA r.wn r.wc)) ∧
                      (W'.cell? ⟨ab, ao + q * 5, none⟩ = some (.int .i64 r'.kind) ∧ W'.cell? ⟨ab, ao + q * 5 + 1, none⟩ = some (.string r'.host) ∧ W'.cell? ⟨ab, ao + q * 5 + 2, none⟩ = some (.string r'.path) ∧ W'.cell? ⟨ab, ao + q * 5 + 3, none⟩ = some (.int .i64 r'.backend) ∧ W'.cell? ⟨ab, ao + q * 5 + 4, none⟩ = some (.slice r'.wA r'.wn r'.wc)))
                    (first | exact ⟨rule5 HC.out HW2.out kx HRE.out, rule5 HC.out HW2.out hql HRQ.out⟩ | exact ⟨rule5 HC.out (fr_drew HW2.out) kx HRE.out, rule5 HC.out (fr_drew HW2.out) hql HRQ.out⟩ | exact ⟨rule5 HC.out (fr_trans (fr_drew HW2.out) hbX) kx HRE.out, rule5 HC.out (fr_trans (fr_drew HW2.out) hbX) hql HRQ.out⟩ | exact ⟨rule5 HC.out (fr_trans (fr_trans (fr_drew HW2.out) hbX) hbY) kx HRE.out, rule5 HC.out (fr_trans (fr_trans (fr_drew HW2.out) hbX) hbY) hql HRQ.out⟩)
                    (first
                    | (go_at_call 37; with_reducible refine (HWK.out _).mono ?_; rintro e wX ⟨rfl, hbX⟩)
                    | (go_at_call 37; with_reducible refine (HWQ.out _).mono ?_; rintro e wY ⟨rfl, hbY⟩))
                  have hwY := fr_trans (fr_trans HW2.out (fr_drew (fr_refl _))) (fr_trans hbX hbY)
                  have hTY := (HT3.out.drew.fr hbX).fr hbY
                  have hSY := (HS3.out.drew.fr hbX).fr hbY
                  have hRY := (HNR.out.drew.fr hbX).fr hbY
                  have hNY := ((HN3.out.fr (fr_drew (fr_refl _))).fr hbX).fr hbY
                  have hPY := ((HP3.out.fr (fr_drew (fr_refl _))).fr hbX).fr hbY
                  have HWY := Lib.hid hwY; have HTY := Lib.hid hTY; have HSY := Lib.hid hSY; have HNY := Lib.hid hNY; have HPY := Lib.hid hPY
                  clear nc0 nc1 nc2 nc3 nf0 nf1 nf2 nf3 sc0 sc1 sc2 sc3 sf0 sf1 sf2 sf3 d0 d1 d2 d3 d4 e0 e1 e2 e3 e4
                  have nc0 : wY.cell? ⟨w2.heap.size, 0, none⟩ = some (.int .i64 0) := hRY.cell 0
                  have nf0 : wY.frozen? ⟨w2.heap.size, 0, none⟩ = false := hRY.frozen 0
                  have nc1 : wY.cell? ⟨w2.heap.size, 1, none⟩ = some (.string sc) := hRY.cell 1
                  have nf1 : wY.frozen? ⟨w2.heap.size, 1, none⟩ = false := hRY.frozen 1
                  have nc2 : wY.cell? ⟨w2.heap.size, 2, none⟩ = some (.string inf) := hRY.cell 2
                  have nf2 : wY.frozen? ⟨w2.heap.size, 2, none⟩ = false := hRY.frozen 2
                  have nc3 : wY.cell? ⟨w2.heap.size, 3, none⟩ = some (.slice A2 nm.length c2) := hRY.cell 3
                  have nf3 : wY.frozen? ⟨w2.heap.size, 3, none⟩ = false := hRY.frozen 3
                  have nlt : w2.heap.size < wY.heap.size := hRY.lt
                  have sc0 : wY.cell? ⟨w.heap.size + 1, 0, none⟩ = some (.int .i64 b.rule) := hSY.cell 0
                  have sf0 : wY.frozen? ⟨w.heap.size + 1, 0, none⟩ = false := hSY.frozen 0
                  have sc1 : wY.cell? ⟨w.heap.size + 1, 1, none⟩ = some (.string b.sc) := hSY.cell 1
                  have sf1 : wY.frozen? ⟨w.heap.size + 1, 1, none⟩ = false := hSY.frozen 1
                  have sc2 : wY.cell? ⟨w.heap.size + 1, 2, none⟩ = some (.string b.inf) := hSY.cell 2
                  have sf2 : wY.frozen? ⟨w.heap.size + 1, 2, none⟩ = false := hSY.frozen 2
                  have sc3 : wY.cell? ⟨w.heap.size + 1, 3, none⟩ = some (.slice A' b.nm.length c') := hSY.cell 3
                  have sf3 : wY.frozen? ⟨w.heap.size + 1, 3, none⟩ = false := hSY.frozen 3
                  have slt : w.heap.size + 1 < wY.heap.size := hSY.lt
                  clear hwY hTY hSY hRY hNY hPY hbX hbY
                  go_wp2_with fail
                  go_roundw
                  case measure => exact meas hlt .i64 .i64
                  case rel => exact ⟨k + 1, b, A', c', _, by omega, by go_num, rfl, by rw [HSU.out, HST.out, HAH.out]; rfl, HHD.out, HWY.out, HTY.out, HSY.out, HNY.out⟩
                · have HAH := Lib.hid (hah.trans hgt)
                  have hgt2 : decide (y < x) = _ := (decide_eq_decide.2 (by omega)).trans hgt
                  clear hah
                  go_wp2_with fail
                  rw [← HE3.out]
                  clear q0 q1 q2 q3 q4
                  go_region_held3 (fun W' => (W'.cell? ⟨ab, ao + k * 5, none⟩ = some (.int .i64 r.kind) ∧ W'.cell? ⟨ab, ao + k * 5 + 1, none⟩ = some (.string r.host) ∧ W'.cell? ⟨ab, ao + k * 5 + 2, none⟩ = some (.string r.path) ∧ W'.cell? ⟨ab, ao + k * 5 + 3, none⟩ = some (.int .i64 r.backend) ∧ W'.cell? ⟨ab, ao + k * 5 + 4, none⟩ = some (.slice r.wA r.wn r.wc)) ∧
                      (W'.cell? ⟨ab, ao + q * 5, none⟩ = some (.int .i64 r'.kind) ∧ W'.cell? ⟨ab, ao + q * 5 + 1, none⟩ = some (.string r'.host) ∧ W'.cell? ⟨ab, ao + q * 5 + 2, none⟩ = some (.string r'.path) ∧ W'.cell? ⟨ab, ao + q * 5 + 3, none⟩ = some (.int .i64 r'.backend) ∧ W'.cell? ⟨ab, ao + q * 5 + 4, none⟩ = some (.slice r'.wA r'.wn r'.wc)))
                    (first | exact ⟨rule5 HC.out HW2.out kx HRE.out, rule5 HC.out HW2.out hql HRQ.out⟩ | exact ⟨rule5 HC.out (fr_drew HW2.out) kx HRE.out, rule5 HC.out (fr_drew HW2.out) hql HRQ.out⟩ | exact ⟨rule5 HC.out (fr_trans (fr_drew HW2.out) hbX) kx HRE.out, rule5 HC.out (fr_trans (fr_drew HW2.out) hbX) hql HRQ.out⟩ | exact ⟨rule5 HC.out (fr_trans (fr_trans (fr_drew HW2.out) hbX) hbY) kx HRE.out, rule5 HC.out (fr_trans (fr_trans (fr_drew HW2.out) hbX) hbY) hql HRQ.out⟩)
                    (first
                    | (go_at_call 37; with_reducible refine (HWK.out _).mono ?_; rintro e wX ⟨rfl, hbX⟩)
                    | (go_at_call 37; with_reducible refine (HWQ.out _).mono ?_; rintro e wY ⟨rfl, hbY⟩))
                  have hwY := fr_trans (fr_trans HW2.out (fr_drew (fr_refl _))) (fr_trans hbX hbY)
                  have hTY := (HT3.out.drew.fr hbX).fr hbY
                  have hSY := (HS3.out.drew.fr hbX).fr hbY
                  have hRY := (HNR.out.drew.fr hbX).fr hbY
                  have hNY := ((HN3.out.fr (fr_drew (fr_refl _))).fr hbX).fr hbY
                  have hPY := ((HP3.out.fr (fr_drew (fr_refl _))).fr hbX).fr hbY
                  have HWY := Lib.hid hwY; have HTY := Lib.hid hTY; have HSY := Lib.hid hSY; have HNY := Lib.hid hNY; have HPY := Lib.hid hPY
                  clear nc0 nc1 nc2 nc3 nf0 nf1 nf2 nf3 sc0 sc1 sc2 sc3 sf0 sf1 sf2 sf3 d0 d1 d2 d3 d4 e0 e1 e2 e3 e4
                  have nc0 : wY.cell? ⟨w2.heap.size, 0, none⟩ = some (.int .i64 0) := hRY.cell 0
                  have nf0 : wY.frozen? ⟨w2.heap.size, 0, none⟩ = false := hRY.frozen 0
                  have nc1 : wY.cell? ⟨w2.heap.size, 1, none⟩ = some (.string sc) := hRY.cell 1
                  have nf1 : wY.frozen? ⟨w2.heap.size, 1, none⟩ = false := hRY.frozen 1
                  have nc2 : wY.cell? ⟨w2.heap.size, 2, none⟩ = some (.string inf) := hRY.cell 2
                  have nf2 : wY.frozen? ⟨w2.heap.size, 2, none⟩ = false := hRY.frozen 2
                  have nc3 : wY.cell? ⟨w2.heap.size, 3, none⟩ = some (.slice A2 nm.length c2) := hRY.cell 3
                  have nf3 : wY.frozen? ⟨w2.heap.size, 3, none⟩ = false := hRY.frozen 3
                  have nlt : w2.heap.size < wY.heap.size := hRY.lt
                  have sc0 : wY.cell? ⟨w.heap.size + 1, 0, none⟩ = some (.int .i64 b.rule) := hSY.cell 0
                  have sf0 : wY.frozen? ⟨w.heap.size + 1, 0, none⟩ = false := hSY.frozen 0
                  have sc1 : wY.cell? ⟨w.heap.size + 1, 1, none⟩ = some (.string b.sc) := hSY.cell 1
                  have sf1 : wY.frozen? ⟨w.heap.size + 1, 1, none⟩ = false := hSY.frozen 1
                  have sc2 : wY.cell? ⟨w.heap.size + 1, 2, none⟩ = some (.string b.inf) := hSY.cell 2
                  have sf2 : wY.frozen? ⟨w.heap.size + 1, 2, none⟩ = false := hSY.frozen 2
                  have sc3 : wY.cell? ⟨w.heap.size + 1, 3, none⟩ = some (.slice A' b.nm.length c') := hSY.cell 3
                  have sf3 : wY.frozen? ⟨w.heap.size + 1, 3, none⟩ = false := hSY.frozen 3
                  have slt : w.heap.size + 1 < wY.heap.size := hSY.lt
                  clear hwY hTY hSY hRY hNY hPY hbX hbY
                  go_wp2_with fail
                  go_roundw
                  case measure => exact meas hlt .i64 .i64
                  case rel =>
                    refine ⟨k + 1, ⟨k, sc, inf, nm, r.kind, x⟩, A2, c2, k, by omega, by go_num, rfl, by rw [HSU.out, HST.out, HAH.out]; rfl, .inr ⟨HRK.out, k, kx, rfl, by simp only [HRE.out], by simp only [HRE.out, HX.out]⟩, ?_, ?_, ?_, ?_⟩
                    · exact fr_set (fr_set (fr_set (fr_set (fr_set (HWY.out) (by show w.heap.size ≤ w.heap.size + 1; omega) _) (by show w.heap.size ≤ w.heap.size + 1; omega) _) (by show w.heap.size ≤ w.heap.size + 1; omega) _) (by show w.heap.size ≤ w.heap.size + 1; omega) _) (by show w.heap.size ≤ w.heap.size + 1; omega) _
                    · exact (((((HTY.out).off (by show w.heap.size ≠ w.heap.size + 1; omega) _).off (by show w.heap.size ≠ w.heap.size + 1; omega) _).off (by show w.heap.size ≠ w.heap.size + 1; omega) _).off (by show w.heap.size ≠ w.heap.size + 1; omega) _).off (by show w.heap.size ≠ w.heap.size + 1; omega) _
                    · exact ((((HSY.out.set_ 0 _).set_ 1 _).set_ 2 _).set_ 3 _).set_ 0 _
                    · exact (((((HPY.out).set_ (by simp) _).set_ (by simp) _).set_ (by simp) _).set_ (by simp) _).set_ (by simp) _
              · have he1 : (r.kind == r'.kind) = false := by simpa using heq
                have HAH := Lib.hid (ahead_more (n := (weightS r.kind r.path : Int)) hb0 (by rw [hbk]; exact hless) (by rw [hbk]; exact heq))
                clear hless heq hbk hbm
                go_wp2_with fail
                rw [← HE3.out]
                clear q0 q1 q2 q3 q4
                go_quiet (fail)
                go_wp2_with fail
                go_roundw
                case measure => exact meas hlt .i64 .i64
                case rel => exact ⟨k + 1, b, A', c', _, by omega, by go_num, rfl, by rw [HSU.out, HST.out, HAH.out]; rfl, HHD.out, fr_drewN HW2.out _, (HT3.out.drewN _), (HS3.out.drewN _), (HN3.out.fr (fr_drewN (fr_refl _) _))⟩
    · obtain rfl : k = n := by omega
      have uc0 : wr.cell? ⟨w.heap.size, 0, none⟩ = some (.int .i64 0) := HBT.out.cell 0
      have uf0 : wr.frozen? ⟨w.heap.size, 0, none⟩ = false := HBT.out.frozen 0
      have uc1 : wr.cell? ⟨w.heap.size, 1, none⟩ = some (.string ⟨#[]⟩) := HBT.out.cell 1
      have uf1 : wr.frozen? ⟨w.heap.size, 1, none⟩ = false := HBT.out.frozen 1
      have uc2 : wr.cell? ⟨w.heap.size, 2, none⟩ = some (.string ⟨#[]⟩) := HBT.out.cell 2
      have uf2 : wr.frozen? ⟨w.heap.size, 2, none⟩ = false := HBT.out.frozen 2
      have uc3 : wr.cell? ⟨w.heap.size, 3, none⟩ = some (.slice none 0 0) := HBT.out.cell 3
      have uf3 : wr.frozen? ⟨w.heap.size, 3, none⟩ = false := HBT.out.frozen 3
      have ult : w.heap.size < wr.heap.size := HBT.out.lt
      have sc0 : wr.cell? ⟨w.heap.size + 1, 0, none⟩ = some (.int .i64 b.rule) := HBS.out.cell 0
      have sf0 : wr.frozen? ⟨w.heap.size + 1, 0, none⟩ = false := HBS.out.frozen 0
      have sc1 : wr.cell? ⟨w.heap.size + 1, 1, none⟩ = some (.string b.sc) := HBS.out.cell 1
      have sf1 : wr.frozen? ⟨w.heap.size + 1, 1, none⟩ = false := HBS.out.frozen 1
      have sc2 : wr.cell? ⟨w.heap.size + 1, 2, none⟩ = some (.string b.inf) := HBS.out.cell 2
      have sf2 : wr.frozen? ⟨w.heap.size + 1, 2, none⟩ = false := HBS.out.frozen 2
      have sc3 : wr.cell? ⟨w.heap.size + 1, 3, none⟩ = some (.slice A' b.nm.length c') := HBS.out.cell 3
      have sf3 : wr.frozen? ⟨w.heap.size + 1, 3, none⟩ = false := HBS.out.frozen 3
      have slt : w.heap.size + 1 < wr.heap.size := HBS.out.lt
      rcases HHD.out with ⟨hb0, rfl⟩ | ⟨hb0, q, hql, rfl, hbk, hbm⟩
      · have HOK := Lib.hid (show b.ok = false by unfold Bst.ok; rw [hb0]; rfl)
        clear hb0
        go_wp2_with fail
        refine bodyPost_ret (res_route (g := w.heap.size) (v0 := .int .i64 b.rule) (v1 := .string b.sc) (v2 := .string b.inf) (v3 := .slice A' b.nm.length c') Tryd.results19 rfl ((((HBT.out.set_ 0 _).set_ 1 _).set_ 2 _).set_ 3 _)) rfl ?_
        rw [HU.out, ← HBE.out]
        refine ⟨⟨A', c', ?_, ?_⟩, ?_⟩
        · rw [HOK.out]; rfl
        · exact (((((HNM.out.set_ (by simp) _).set_ (by simp) _).set_ (by simp) _).set_ (by simp) _)).more (by omega)
        · exact fr_set (fr_set (fr_set (fr_set HB.out (by simp) _) (by simp) _) (by simp) _) (by simp) _
      · have HOK := Lib.hid (show b.ok = true by unfold Bst.ok; exact decide_eq_true hb0)
        have hq0 : decide ((0 : Int) ≤ (q : Int)) = true := by simp
        clear hb0 hbk hbm
        go_wp2_with fail
        refine bodyPost_ret (res_route (g := w.heap.size) (v0 := .int .i64 b.rule) (v1 := .string b.sc) (v2 := .string b.inf) (v3 := .slice A' b.nm.length c') Tryd.results19 rfl ((((HBT.out.set_ 0 _).set_ 1 _).set_ 2 _).set_ 3 _)) rfl ?_
        rw [HU.out, ← HBE.out]
        refine ⟨⟨A', c', ?_, ?_⟩, ?_⟩
        · rw [HOK.out]; rfl
        · exact (((((HNM.out.set_ (by simp) _).set_ (by simp) _).set_ (by simp) _).set_ (by simp) _)).more (by omega)
        · exact fr_set (fr_set (fr_set (fr_set HB.out (by simp) _) (by simp) _) (by simp) _) (by simp) _
end Go.Proofs.YthjnmcciejfpcaaDoor
