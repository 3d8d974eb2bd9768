/- conduitlaw6.FieldTells: true of every line, every fields, every name and word. -/
import Derived.Test.YtdagppbpeibdgaaDoorRF6
import Derived.Deep.RegionHeld3
namespace Go.Proofs.YtdagppbpeibdgaaDoor
set_option linter.unusedVariables false
set_option linter.unusedSimpArgs false
open Go.RowKit

theorem ref6_Parse_at (line : ByteArray) (r : Int × ByteArray × ByteArray) (w : World) (h : parseS line = r) (hs : line.size ≤ 1000000000) :
    Calls Tryd.prog 30 #[.string line] w fun e w' => e = .returned (parseQ r) ∧ Below w.heap.size w w' := h ▸ ref6_Parse line w hs
theorem ref6_IsField_at (a b : ByteArray) (v : Bool) (w : World) (h : fieldOk a b = v) (ha : a.size ≤ 9223372036854775807) (hb : b.size ≤ 9223372036854775807) :
    Calls Tryd.prog 29 #[.agg #[.string a, .string b]] w fun e w' => e = .returned (.bool v) ∧ Below w.heap.size w w' := h ▸ ref6_IsField a b w ha hb
theorem ref6_Has_at (A : Option Addr) (c n : Nat) (l : List Pr) (name word : ByteArray) (v : Bool) (w : World) (h : hasS l name word = v) (hn : l.length = n) (hl : n ≤ 4398046511103) (hp : Pairs w A l) (hz : name.size ≤ 9223372036854775807) (hw : word.size ≤ 9223372036854775807)
    (hs : ∀ p ∈ l, p.1.size ≤ 9223372036854775807) (hv : ∀ v ∈ getS l name, v.size ≤ 1000000000) :
    Calls Tryd.prog 34 #[.slice A n c, .string name, .string word] w fun e w' => e = .returned (.bool v) ∧ Below w.heap.size w w' := h ▸ ref6_Has A c n l name word w hn hl hp hz hw hs hv
theorem ref6_Get_at (A : Option Addr) (c n : Nat) (l : List Pr) (name : ByteArray) (vs : List ByteArray) (m : Nat) (w : World) (h : getS l name = vs) (hm : vs.length = m) (hn : l.length = n) (hl : n ≤ 4398046511103) (hp : Pairs w A l) (hz : name.size ≤ 9223372036854775807)
    (hs : ∀ p ∈ l, p.1.size ≤ 9223372036854775807) :
    Calls Tryd.prog 33 #[.slice A n c, .string name] w fun e w' => (∃ A' c', e = .returned (.slice A' m c') ∧ Strs w' A' vs) ∧ Below w.heap.size w w' := by
  subst h hm; exact ref6_Get A c n l name w hn hl hp hz hs
theorem drop_sl (A : Option Addr) (c n : Nat) (l : List Pr) (name : ByteArray) (ds : List Pr) (m : Nat) (w : World) (h : dropL l name = ds) (hm : ds.length = m) (hn : l.length = n) (hl : n ≤ 4398046511103) (hp : Pairs w A l) (hz : name.size ≤ 9223372036854775807)
    (hs : ∀ p ∈ l, p.1.size ≤ 9223372036854775807) :
    Calls Tryd.prog 17 #[.slice A n c, .string name] w fun e w' => (∃ A' c', e = .returned (.slice A' m c') ∧ Pairs w' A' ds) ∧ Below w.heap.size w w' := by
  refine (drop_at A c n l name ds m w h hm hn hl hp hz hs).mono ?_
  rintro e w1 ⟨⟨v, rfl, hown⟩, hb⟩
  obtain ⟨A', c', rfl, e2, hP⟩ := Pairs.own hown
  rw [hm]
  exact ⟨⟨A', c', rfl, hP⟩, hb⟩
theorem ref6_Drop_sl (A : Option Addr) (c n : Nat) (l : List Pr) (name : ByteArray) (ds : List Pr) (m : Nat) (w : World) (h : dropL l name = ds) (hm : ds.length = m) (hn : l.length = n) (hl : n ≤ 4398046511103) (hp : Pairs w A l) (hz : name.size ≤ 9223372036854775807)
    (hs : ∀ p ∈ l, p.1.size ≤ 9223372036854775807) :
    Calls Tryd.prog 36 #[.slice A n c, .string name] w fun e w' => (∃ A' c', e = .returned (.slice A' m c') ∧ Pairs w' A' ds) ∧ Below w.heap.size w w' := by
  subst h hm hn
  refine (ref6_Drop A c l name w hl hp hz hs).mono ?_
  rintro e w1 ⟨⟨v, rfl, hown⟩, hb⟩
  obtain ⟨A', c', rfl, e2, hP⟩ := Pairs.own hown
  exact ⟨⟨A', c', rfl, hP⟩, hb⟩
theorem law6_same_eq (A B : Option Addr) (n c d : Nat) (xs : List ByteArray) (w : World) (hn : xs.length = n) (hA : Strs w A xs) (hB : Strs w B xs) (h1 : n ≤ 9223372036854775807) :
    Calls Tryd.prog 32 #[.slice A n c, .slice B n d] w fun e w' => e = .returned (.bool true) ∧ Below w.heap.size w w' := by
  have := law6_same A B n n c d xs xs w hn hn hA hB h1 h1
  rw [show decide (xs = xs) = true by simp] at this
  exact this
set_option maxRecDepth 100000 in
set_option maxHeartbeats 8000000 in
theorem law6_tells (A : Option Addr) (c n : Nat) (l : List Pr) (line name word : ByteArray) (w : World) (hm : MaxL w) (hE : ErrT w) (hn : l.length = n) (hp : Pairs w A l) (hs : ∀ p ∈ l, p.1.size ≤ 9223372036854775807 ∧ p.2.size ≤ 9223372036854775807) :
    Calls Tryd.prog 12 #[.string line, .slice A n c, .string name, .string word] w fun e w' => e = .returned (.bool true) ∧ Below w.heap.size w w' := by
  have HM := Lib.hid hm; have HE := Lib.hid hE; have HN := Lib.hid hn; have HP := Lib.hid hp; have HS := Lib.hid hs
  clear hm hE hn hp hs
  by_cases h1 : line.size ≤ 1500
  · have h1I : ¬ (1500 : Int) < (line.size : Int) := by omega
    by_cases h2 : n ≤ 20
    · have h2I : ¬ (20 : Int) < (n : Int) := by omega
      by_cases h3 : name.size ≤ 100
      · have h3I : ¬ (100 : Int) < (name.size : Int) := by omega
        by_cases h4 : word.size ≤ 100
        · have h4I : ¬ (100 : Int) < (word.size : Int) := by omega
          have z1 : line.size ≤ 1000000000 := by omega
          have z2 : name.size ≤ 9223372036854775807 := by omega
          have z3 : word.size ≤ 9223372036854775807 := by omega
          have z4 : n ≤ 4398046511103 := by omega
          have Z1 := Lib.hid z1; have Z2 := Lib.hid z2; have Z3 := Lib.hid z3; have Z4 := Lib.hid z4; have ZN := Lib.hid h2
          clear z1 z2 z3 z4 h1 h3 h4
          go_enter Tryd.func12, Tryd.ntmps12
          go_wp2_with fail
          refine (law6_known _ HM.out).mono ?_
          rintro e w1 ⟨rfl, hb1⟩
          have H1 := Lib.hid hb1; clear hb1
          go_wp2
          go_loopw [9] (fun i wr => ∃ k : Nat, k ≤ n ∧ i = .int .i64 k ∧ Below w1.heap.size w1 wr ∧ ∀ p ∈ l.take k, p.1.size ≤ 200 ∧ p.2.size ≤ 800) (fun i _ => n - (intOf i).toNat)
          case atStart => exact ⟨0, Nat.zero_le _, rfl, fr_refl _, by simp⟩
          case round =>
            obtain ⟨k, hk, rfl, hb, hall⟩ := hrel
            have HB := Lib.hid hb; have HA := Lib.hid hall
            clear hb hall
            by_cases hlt : k < n
            · have kx : k < l.length := by have := HN.out; omega
              obtain ⟨b, off, rfl, hbl, hcell⟩ := (HP.out.fr (fr_trans H1.out HB.out)) (by omega)
              obtain ⟨p1, p2⟩ := hcell k kx
              have hsz := HS.out l[k] (List.getElem_mem kx)
              obtain ⟨⟨x, y⟩, hx⟩ : ∃ x, l[k] = x := ⟨_, rfl⟩
              rw [hx] at p1 p2 hsz
              simp only at p1 p2 hsz
              have hxy : ∀ p ∈ l.take (k + 1), p ∈ l.take k ∨ p = (x, y) := fun p hp => by
                rw [List.take_succ_eq_append_getElem kx, hx] at hp
                rcases List.mem_append.1 hp with h | h
                · exact .inl h
                · exact .inr (by simpa using h)
              have HXY := Lib.hid hxy; have HSZ := Lib.hid hsz
              have kI : (k : Int) < (n : Int) := by omega
              have k0 : (0 : Int) ≤ (k : Int) := by omega
              clear hcell hx hxy hsz
              by_cases s1 : x.size ≤ 200
              · by_cases s2 : y.size ≤ 800
                · have s1I : decide ((200 : Int) < (x.size : Int)) = false := by simp; omega
                  have s2I : decide ((800 : Int) < (y.size : Int)) = false := by simp; omega
                  have d1 : wr.drew.cell? ⟨b, off + k * 2, none⟩ = some (.string x) := p1
                  have d2 : wr.drew.cell? ⟨b, off + k * 2 + 1, none⟩ = some (.string y) := p2
                  obtain ⟨fo, hfo⟩ : ∃ fo, fieldOk x y = fo := ⟨_, rfl⟩
                  have HFO := Lib.hid hfo
                  have ebb : (fo == fo) = true := by simp
                  have ebn : (fo != fo) = false := by simp
                  clear hfo
                  go_wp2_with fail
                  go_region_held3 (fun w' => w'.cell? ⟨b, off + k * 2, none⟩ = some (.string x) ∧ w'.cell? ⟨b, off + k * 2 + 1, none⟩ = some (.string y)) (first | exact ⟨p1, p2⟩ | exact ⟨d1, d2⟩ | exact ⟨fr_cell hbI d1, fr_cell hbI d2⟩ | exact ⟨fr_cell hbF d1, fr_cell hbF d2⟩ | exact ⟨fr_cell hbF (fr_cell hbI d1), fr_cell hbF (fr_cell hbI d2)⟩ | exact ⟨fr_cell hbI (fr_cell hbF d1), fr_cell hbI (fr_cell hbF d2)⟩)
                    (first
                    | (go_at_call 14; refine (is_at6 x y fo _ HFO.out HSZ.out.1 HSZ.out.2).mono ?_; rintro e wI ⟨rfl, hbI⟩)
                    | (go_at_call 29; refine (ref6_IsField_at x y fo _ HFO.out HSZ.out.1 HSZ.out.2).mono ?_; rintro e wF ⟨rfl, hbF⟩))
                  all_goals
                    have hbw := HB.out
                    go_wp2
                    go_roundw
                    case measure => exact meas hlt .i64 .i64
                    case rel =>
                      refine ⟨k + 1, by omega, by go_num, by first | exact fr_trans (fr_drew hbw) (fr_trans hbI hbF) | exact fr_trans (fr_drew hbw) (fr_trans hbF hbI), ?_⟩
                      intro p hp
                      rcases HXY.out p hp with h | rfl
                      · exact HA.out p h
                      · exact ⟨s1, s2⟩
                · have s1I : decide ((200 : Int) < (x.size : Int)) = false := by simp; omega
                  have s2I : (800 : Int) < (y.size : Int) := by omega
                  go_wp2_with fail
                  go_quiet (fail)
                  have d1 : (wr.drewN nq).cell? ⟨b, off + k * 2, none⟩ = some (.string x) := p1
                  have d2 : (wr.drewN nq).cell? ⟨b, off + k * 2 + 1, none⟩ = some (.string y) := p2
                  go_wp2
                  go_ret
                  exact ⟨rfl, fr_drewN (fr_trans H1.out HB.out) _⟩
              · have s1I : (200 : Int) < (x.size : Int) := by omega
                go_wp2_with fail
                go_quiet (fail)
                have d1 : (wr.drewN nq).cell? ⟨b, off + k * 2, none⟩ = some (.string x) := p1
                have d2 : (wr.drewN nq).cell? ⟨b, off + k * 2 + 1, none⟩ = some (.string y) := p2
                go_wp2
                go_ret
                exact ⟨rfl, fr_drewN (fr_trans H1.out HB.out) _⟩
            · have e : l.take k = l := List.take_of_length_le (by have := HN.out; omega)
              have ha := HA.out
              rw [e] at ha
              have HA2 := Lib.hid ha
              clear e ha
              have hw1 := HP.out.fr (fr_trans H1.out HB.out)
              have htot := tot_1004 l HA2.out
              have hnn := HN.out
              have hzn := ZN.out
              have ht1 : tot l ≤ 4611686018427387904 := by rw [hnn] at htot; omega
              have hln : l.length ≤ 9223372036854775807 := by omega
              have hsz1 : ∀ p ∈ l, p.1.size ≤ 9223372036854775807 := fun p hp => by have := (HA2.out p hp).1; omega
              have hget : ∀ v ∈ getS l name, v.size ≤ 1000000000 := fun v hv => by
                obtain ⟨p, hp, rfl⟩ := getS_mem hv
                have := (HA2.out p hp).2; omega
              obtain ⟨⟨pe, pn, pv⟩, hps⟩ : ∃ r, parseS line = r := ⟨_, rfl⟩
              obtain ⟨vs, hvs⟩ : ∃ v, getS l name = v := ⟨_, rfl⟩
              obtain ⟨m, hm⟩ : ∃ m, vs.length = m := ⟨_, rfl⟩
              obtain ⟨hh, hhs⟩ : ∃ v, hasS l name word = v := ⟨_, rfl⟩
              obtain ⟨ds, hds⟩ : ∃ v, dropL l name = v := ⟨_, rfl⟩
              obtain ⟨q, hq⟩ : ∃ m, ds.length = m := ⟨_, rfl⟩
              have hm9 : m ≤ 9223372036854775807 := by have := getS_len l name; rw [hvs] at this; omega
              have hq9 : q ≤ 9223372036854775807 := by have := List.length_filter_le (keep name) l; rw [show l.filter (keep name) = ds from hds] at this; omega
              obtain ⟨lb, hlb⟩ : ∃ b, linesB l = b := ⟨_, rfl⟩
              have ee : (pe == pe) = true := by simp
              have en : (pn.toList == pn.toList) = true := by simp
              have ev : (pv.toList == pv.toList) = true := by simp
              have eh : (hh == hh) = true := by simp
              have el : (lb.toList == lb.toList) = true := by simp
              have HT1 := Lib.hid ht1; have HLN := Lib.hid hln; have HSZ1 := Lib.hid hsz1; have HGET := Lib.hid hget; have HPS := Lib.hid hps; have HVS := Lib.hid hvs; have HMV := Lib.hid hm; have HHS := Lib.hid hhs; have HDS := Lib.hid hds; have HQ := Lib.hid hq; have HM9 := Lib.hid hm9; have HQ9 := Lib.hid hq9; have HLB := Lib.hid hlb
              have HPW := Lib.hid hw1; have HW := Lib.hid (fr_trans H1.out HB.out)
              clear ht1 hln hsz1 hget hps hvs hm hhs hds hq hm9 hq9 hlb hw1 htot hnn hzn
              go_wp2_with fail
              refine (parse_at _ _ _ HPS.out Z1.out).mono ?_
              rintro e w2 ⟨rfl, hb2⟩
              unfold parseR
              have HA5 := Lib.hid (Box.new w2 [.string pn, .string pv] 23)
              have H2 := Lib.hid (fr_alloc (fr_trans HW.out hb2) (.cells #[.string pn, .string pv] 23))
              have HP2 := Lib.hid ((HPW.out.fr hb2).fr (fr_alloc (fr_refl w2) (.cells #[.string pn, .string pv] 23)))
              clear hb2
              go_wp2_with fail
              refine (ref6_Parse_at _ _ _ HPS.out Z1.out).mono ?_
              rintro e w3 ⟨rfl, hb3⟩
              unfold parseQ
              have hA := (HA5.out.fr hb3).fr (fr_alloc (fr_refl w3) (.cells #[.string pn, .string pv] 23))
              have hB := Box.new w3 [.string pn, .string pv] 23
              have H3 := Lib.hid (fr_alloc (fr_trans H2.out hb3) (.cells #[.string pn, .string pv] 23))
              have HP3 := Lib.hid ((HP2.out.fr hb3).fr (fr_alloc (fr_refl w3) (.cells #[.string pn, .string pv] 23)))
              have a0 : (w3.alloc (.cells #[.string pn, .string pv] 23)).cell? ⟨w2.heap.size, 0, none⟩ = some (.string pn) := hA.2 0 _ rfl
              have a1 : (w3.alloc (.cells #[.string pn, .string pv] 23)).cell? ⟨w2.heap.size, 1, none⟩ = some (.string pv) := hA.2 1 _ rfl
              have b0 : (w3.alloc (.cells #[.string pn, .string pv] 23)).cell? ⟨w3.heap.size, 0, none⟩ = some (.string pn) := hB.2 0 _ rfl
              have b1 : (w3.alloc (.cells #[.string pn, .string pv] 23)).cell? ⟨w3.heap.size, 1, none⟩ = some (.string pv) := hB.2 1 _ rfl
              clear hb3 hA hB HA5
              go_wp2_with fail
              refine (law6_code _ _ (HE.out.fr H3.out)).mono ?_
              rintro e w4 ⟨rfl, hb4⟩
              have HP4 := Lib.hid (HP3.out.fr hb4); have H4 := Lib.hid (fr_trans H3.out hb4); clear hb4 a0 a1 b0 b1
              go_wp2_with fail
              refine (get_at _ c n l name _ m _ HVS.out HMV.out HN.out Z4.out HP4.out Z2.out HSZ1.out).mono ?_
              rintro e w5 ⟨⟨A5, c5, rfl, hS5⟩, hb5⟩
              have HP5 := Lib.hid (HP4.out.fr hb5); have H5 := Lib.hid (fr_trans H4.out hb5); have HS5 := Lib.hid hS5; clear hb5 hS5
              go_wp2_with fail
              refine (ref6_Get_at _ c n l name _ m _ HVS.out HMV.out HN.out Z4.out HP5.out Z2.out HSZ1.out).mono ?_
              rintro e w6 ⟨⟨A6, c6, rfl, hS6⟩, hb6⟩
              have HP6 := Lib.hid (HP5.out.fr hb6); have H6 := Lib.hid (fr_trans H5.out hb6); have HS6 := Lib.hid hS6; have HS56 := Lib.hid (HS5.out.fr hb6); clear hb6 hS6
              go_wp2_with fail
              refine (law6_same_eq A5 A6 m c5 c6 vs _ HMV.out HS56.out HS6.out HM9.out).mono ?_
              rintro e w7 ⟨rfl, hb7⟩
              have HP7 := Lib.hid (HP6.out.fr hb7); have H7 := Lib.hid (fr_trans H6.out hb7); clear hb7
              go_wp2_with fail
              refine (has_at _ c n l name word hh _ HHS.out HN.out Z4.out HP7.out Z2.out Z3.out HSZ1.out HGET.out (HM.out.fr H7.out)).mono ?_
              rintro e w8 ⟨rfl, hb8⟩
              have HP8 := Lib.hid (HP7.out.fr hb8); have H8 := Lib.hid (fr_trans H7.out hb8); clear hb8
              go_wp2_with fail
              refine (ref6_Has_at _ c n l name word hh _ HHS.out HN.out Z4.out HP8.out Z2.out Z3.out HSZ1.out HGET.out).mono ?_
              rintro e w9 ⟨rfl, hb9⟩
              have HP9 := Lib.hid (HP8.out.fr hb9); have H9 := Lib.hid (fr_trans H8.out hb9); clear hb9
              go_wp2_with fail
              refine (drop_sl _ c n l name _ q _ HDS.out HQ.out HN.out Z4.out HP9.out Z2.out HSZ1.out).mono ?_
              rintro e w10 ⟨⟨A10, c10, rfl, hS10⟩, hb10⟩
              have HP10 := Lib.hid (HP9.out.fr hb10); have H10 := Lib.hid (fr_trans H9.out hb10); have HD10 := Lib.hid hS10; clear hb10 hS10
              go_wp2_with fail
              refine (ref6_Drop_sl _ c n l name _ q _ HDS.out HQ.out HN.out Z4.out HP10.out Z2.out HSZ1.out).mono ?_
              rintro e w11 ⟨⟨A11, c11, rfl, hS11⟩, hb11⟩
              have HP11 := Lib.hid (HP10.out.fr hb11); have H11 := Lib.hid (fr_trans H10.out hb11); have HD11 := Lib.hid hS11; have HD101 := Lib.hid (HD10.out.fr hb11); clear hb11 hS11
              go_wp2_with fail
              refine (ref1_SamePairs A10 A11 q c10 c11 ds _ HQ.out HD101.out HD11.out HQ9.out).mono ?_
              rintro e w12 ⟨rfl, hb12⟩
              have HP12 := Lib.hid (HP11.out.fr hb12); have H12 := Lib.hid (fr_trans H11.out hb12); clear hb12
              go_wp2_with fail
              refine (field_Lines_n _ c n l _ HN.out HLN.out HP12.out HT1.out).mono ?_
              rintro e w13 ⟨rfl, hb13⟩
              rw [HLB.out]
              have HP13 := Lib.hid (HP12.out.fr hb13); have H13 := Lib.hid (fr_trans H12.out hb13); clear hb13
              go_wp2_with fail
              refine (ref6_Lines_n _ c n l _ HN.out HLN.out HP13.out HT1.out).mono ?_
              rintro e w14 ⟨rfl, hb14⟩
              rw [HLB.out]
              have H14 := Lib.hid (fr_trans H13.out hb14); clear hb14
              go_wp2
              go_ret
              exact ⟨by first | rfl | simp, H14.out⟩
        · have h4I : (100 : Int) < (word.size : Int) := by omega
          clear h1 h2 h3 h4
          go_enter Tryd.func12, Tryd.ntmps12
          go_wp2_with fail
          refine (law6_known _ HM.out).mono ?_
          rintro e w1 ⟨rfl, hb1⟩
          have H1 := Lib.hid hb1; clear hb1
          go_wp2
          go_ret
          exact ⟨rfl, H1.out⟩
      · have h3I : (100 : Int) < (name.size : Int) := by omega
        clear h1 h2 h3
        go_enter Tryd.func12, Tryd.ntmps12
        go_wp2_with fail
        refine (law6_known _ HM.out).mono ?_
        rintro e w1 ⟨rfl, hb1⟩
        have H1 := Lib.hid hb1; clear hb1
        go_wp2
        go_ret
        exact ⟨rfl, H1.out⟩
    · have h2I : (20 : Int) < (n : Int) := by omega
      clear h1 h2
      go_enter Tryd.func12, Tryd.ntmps12
      go_wp2_with fail
      refine (law6_known _ HM.out).mono ?_
      rintro e w1 ⟨rfl, hb1⟩
      have H1 := Lib.hid hb1; clear hb1
      go_wp2
      go_ret
      exact ⟨rfl, H1.out⟩
  · have h1I : (1500 : Int) < (line.size : Int) := by omega
    clear h1
    go_enter Tryd.func12, Tryd.ntmps12
    go_wp2_with fail
    refine (law6_known _ HM.out).mono ?_
    rintro e w1 ⟨rfl, hb1⟩
    have H1 := Lib.hid hb1; clear hb1
    go_wp2
    go_ret
    exact ⟨rfl, H1.out⟩
end Go.Proofs.YtdagppbpeibdgaaDoor
