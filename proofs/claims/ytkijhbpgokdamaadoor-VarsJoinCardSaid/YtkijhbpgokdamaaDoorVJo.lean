/- conduitlaw15.VarsJoin. -/
import Derived.Test.YtkijhbpgokdamaaDoorVNe
namespace Go.Proofs.YtkijhbpgokdamaaDoor
set_option linter.unusedVariables false
set_option linter.unusedSimpArgs false
open Go.RowKit

def nmJ (ck : Bool) : ByteArray := if ck then ⟨#[67, 111, 111, 107, 105, 101]⟩ else ⟨#[88, 45, 83, 111, 109, 101]⟩
def byJ (ck : Bool) : ByteArray := if ck then ⟨#[59, 32]⟩ else ⟨#[44, 32]⟩
def ltr (j : Nat) : ByteArray := ⟨#[UInt8.ofNat (97 + j)]⟩
def odJ (ck sp : Bool) (k : Nat) : Bool := sp && !ck && Nat.beq (k % 2) 1
def fJ (ck sp : Bool) (k : Nat) : ByteArray := if odJ ck sp k then ⟨#[120, 95, 115, 79, 77, 69]⟩ else nmJ ck
def flJ (ck sp : Bool) : Nat → List Pr
  | 0 => []
  | k + 1 => flJ ck sp k ++ [(fJ ck sp k, ltr k)]
def wJ (ck : Bool) : Nat → ByteArray
  | 0 => ⟨#[]⟩
  | k + 1 => if k = 0 then wJ ck k ++ ltr k else wJ ck k ++ byJ ck ++ ltr k
def wE (ck : Bool) : Nat → ByteArray
  | 0 => ⟨#[]⟩
  | k + 1 => if Nat.beq k 0 then ap (wE ck k) (ltr k) else ap (ap (wE ck k) (byJ ck)) (ltr k)
theorem wJ_eq (ck : Bool) : ∀ k, wJ ck k = wE ck k
  | 0 => rfl
  | k + 1 => by
    unfold wJ wE
    rw [wJ_eq ck k, ap_eq, ap_eq (wE ck k) (byJ ck), ap_eq]
    cases k <;> rfl
theorem ltr_size (j : Nat) : (ltr j).size = 1 := rfl
theorem wJ_size (ck : Bool) : ∀ k, (wJ ck k).size ≤ k * 3
  | 0 => Nat.le_refl _
  | k + 1 => by
    have h := wJ_size ck k
    have h2 : (byJ ck).size = 2 := by cases ck <;> rfl
    unfold wJ
    split
    · rw [size_app, ltr_size]; omega
    · rw [size_app, size_app, ltr_size, h2]; omega
theorem flJ_len (ck sp : Bool) : ∀ k, (flJ ck sp k).length = k
  | 0 => rfl
  | k + 1 => by unfold flJ; rw [List.length_append, flJ_len ck sp k]; rfl
theorem flJ_sz (ck sp : Bool) : ∀ k, ∀ p ∈ flJ ck sp k, p.1.size ≤ 1000000 ∧ p.2.size ≤ 1000000
  | 0 => fun p hp => absurd hp (by unfold flJ; simp)
  | k + 1 => fun p hp => by
    unfold flJ at hp
    rcases List.mem_append.1 hp with h | h
    · exact flJ_sz ck sp k p h
    · rw [List.mem_singleton.1 h]
      refine ⟨?_, by show (ltr k).size ≤ _; rw [ltr_size]; decide⟩
      show (fJ ck sp k).size ≤ _
      unfold fJ nmJ
      split
      · decide
      · cases ck <;> decide
def jL (ck sp : Bool) (k : Nat) : List Pr := buildE ⟨#[108, 111, 99, 97, 108]⟩ ⟨#[]⟩ ⟨#[49]⟩ ⟨#[56, 48]⟩ ⟨#[49]⟩ (nvR (flJ ck sp k)) ⟨#[]⟩ ⟨#[]⟩ []
def jT (o : Option ByteArray) (v : ByteArray) : Bool := match o with | some x => eqE x v | none => false
theorem jT_eq {o : Option ByteArray} {v : ByteArray} (h : jT o v = true) : o = some v := by
  cases o with
  | none => cases h
  | some x => have : eqE x v = true := h
              rw [← eqE_eq] at this
              rw [eqB_iff.1 this]
theorem jAll : (List.range 6).all (fun k => [true, false].all fun ck => [true, false].all fun sp => Nat.blt (jL ck sp (k + 1)).length 20 && jT (getVE (jL ck sp (k + 1)) (nmE (nmJ ck))) (wE ck (k + 1))) = true := by kernel_rfl
theorem jOne (ck sp : Bool) (k : Nat) (hk : k < 6) : (jL ck sp (k + 1)).length < 20 ∧ getVE (jL ck sp (k + 1)) (nmE (nmJ ck)) = some (wJ ck (k + 1)) := by
  have h1 := List.all_eq_true.1 jAll k (List.mem_range.2 hk)
  have h2 := List.all_eq_true.1 h1 ck (by cases ck <;> simp)
  have h3 := List.all_eq_true.1 h2 sp (by cases sp <;> simp)
  rw [Bool.and_eq_true] at h3
  exact ⟨by have := Nat.blt_eq ▸ h3.1; simpa using this, by rw [wJ_eq]; exact jT_eq h3.2⟩
theorem jEq (ck sp : Bool) (k : Nat) : buildL ⟨#[108, 111, 99, 97, 108]⟩ 80 0 ⟨⟨#[71, 69, 84]⟩, ⟨#[47]⟩, 1, flJ ck sp k, ⟨#[]⟩⟩ ⟨#[]⟩ ⟨#[]⟩ [] = jL ck sp k := build_E _ _ _ _ _ _ _ (.inl (by rw [toList_L]; rfl)) itoa1 itoa80 itoa1
theorem mod2 (j : Nat) : (((j : Int) % 2) == 1) = Nat.beq (j % 2) 1 := by
  rw [Bool.eq_iff_iff, beq_iff_eq, Nat.beq_eq]; omega
set_option maxRecDepth 100000 in
set_option maxHeartbeats 8000000 in
theorem join_walk (x : Int) (ck sp : Bool) (k0 : Nat) (w : World) (hT : Tab w) (x0 : 0 ≤ x) (x1 : x ≤ 255) (hx : x % 6 = (k0 : Int)) (hk0 : k0 < 6) :
    Calls Tryd.prog 3 #[.int .u8 x, .bool ck, .bool sp] w fun e w' => e = .returned (.bool true) ∧ Below w.heap.size w w' := by
  obtain ⟨i0, hi, hz0, hz1, hz2⟩ := info_parts pair_info
  have HT := Lib.hid hT
  have hone := jOne ck sp k0 hk0
  obtain ⟨kk, hkk⟩ : ∃ kk : Nat, kk = k0 + 1 := ⟨_, rfl⟩
  have hkI : (k0 : Int) + 1 = (kk : Int) := by omega
  have hkk6 : kk ≤ 6 := by omega
  rw [← hkk] at hone
  have HONE := Lib.hid hone
  clear hT hone hkk
  obtain ⟨nm, hnm⟩ : ∃ x, nmJ ck = x := ⟨_, rfl⟩
  obtain ⟨by_, hby⟩ : ∃ x, byJ ck = x := ⟨_, rfl⟩
  have hnz : nm.size ≤ 10 := by rw [← hnm]; cases ck <;> decide
  have hbz : by_.size = 2 := by rw [← hby]; cases ck <;> rfl
  have HNM := Lib.hid hnm; have HBY := Lib.hid hby; have HNZ := Lib.hid hnz; have HBZ := Lib.hid hbz
  clear hnz hbz
  cases ck
  · cases sp
    · have hnm' := hnm.symm; have hby' := hby.symm
      simp only [nmJ, byJ, if_true, Bool.false_eq_true, if_false] at hnm' hby'
      subst hnm' hby'
      clear hnm hby
      go_enter Tryd.func3, Tryd.ntmps3
      go_wp2_with fail
      refine (law15_known _ HT.out).mono ?_
      rintro e w1 ⟨rfl, hb1⟩
      have H1 := Lib.hid hb1
      clear hb1
      go_wp2
      clear hx
      go_loopw [11, 12] (fun s i wr => ∃ (j : Nat) (fv : Value), j ≤ kk ∧ i = .int .i64 j ∧ s = .string (wJ false j) ∧ Below w1.heap.size w1 wr ∧ Blk wr w1.heap.size 25 #[.string ⟨#[71, 69, 84]⟩, .string ⟨#[47]⟩, .int .i64 1, fv, .string ⟨#[]⟩] ∧ wr.ownsRow (w1.heap.size + 1) 28 2 fv j (pcells (flJ false false j))) (fun _ i _ => kk - (intOf i).toNat)
      case atStart => exact ⟨0, .slice none 0 0, Nat.zero_le _, rfl, rfl, fr_alloc (fr_refl _) _, Blk.new _ _ _, World.ownsRow_nil _ _ _ _⟩
      case round =>
        obtain ⟨j, fv, hj, rfl, rfl, hb, hbk, hown⟩ := hrel
        have HB := Lib.hid hb; have HBK := Lib.hid hbk; have HO := Lib.hid hown
        clear hb hbk hown
        by_cases hlt : j < kk
        · have hne := own_ge HO.out
          have wz := wJ_size false j
          have hst : flJ false false (j + 1) = flJ false false j ++ [(fJ false false j, ltr j)] := rfl
          have hwj : wJ false (j + 1) = if j = 0 then wJ false j ++ ltr j else wJ false j ++ byJ false ++ ltr j := rfl
          have hzz : (⟨#[UInt8.ofNat ((97 + (j : Int)).toNat)]⟩ : ByteArray) = ltr j := by unfold ltr; rw [show ((97 : Int) + (j : Int)).toNat = 97 + j by omega]
          have hcv : ∀ (W : World) (g : Nat), W.cell? ⟨g, 0, none⟩ = some (.int .u8 (97 + (j : Int))) → (convert 26 9 (.slice (some ⟨g, 0, none⟩) 1 1)).run Tryd.prog W = .ok (.string (ltr j)) W := fun W g h => by
            rw [← hzz]; exact conv1 W g (97 + (j : Int)) _ _ _ 1 Tryd.underlying26 Tryd.underlying5 Tryd.underlying9 h
          have hcn : ∀ W : World, (convert 26 9 (.slice (some ⟨W.heap.size, 0, none⟩) 1 1)).run Tryd.prog (W.alloc (.cells #[.int .u8 (97 + (j : Int))] 5)) = .ok (.string (ltr j)) (W.alloc (.cells #[.int .u8 (97 + (j : Int))] 5)) := fun W => hcv _ _ (by rw [World.cell?_alloc_mark]; rfl)
          have lz := ltr_size j
          have hnc := fun (f y : ByteArray) => new_cells (wr.alloc (.cells #[.int .u8 (97 + (j : Int))] 5)) [.string f, .string y] 28
          simp only [World.size_alloc] at hnc
          have hm2 := mod2 j
          have hf : fJ false false j = if odJ false false j then ⟨#[120, 95, 115, 79, 77, 69]⟩ else nmJ false := rfl
          have hod : odJ false false j = (false && !false && Nat.beq (j % 2) 1) := rfl
          obtain ⟨lj, hlj⟩ : ∃ lj, ltr j = lj := ⟨_, rfl⟩
          obtain ⟨ss, hss⟩ : ∃ ss, wJ false j = ss := ⟨_, rfl⟩
          rw [hlj] at hst hwj hcv hcn lz
          rw [hss] at hwj wz
          rw [hss]
          have s1 : ¬ 9223372036854775807 < ss.size + 2 := by omega
          have s2 : ¬ 9223372036854775807 < ss.size + 2 + lj.size := by omega
          have s3 : ¬ 9223372036854775807 < ss.size + lj.size := by omega
          have dc3 : wr.cell? ⟨w1.heap.size, 3, none⟩ = some (fv) := HBK.out.cell 3
          have df3 : wr.frozen? ⟨w1.heap.size, 3, none⟩ = false := HBK.out.frozen 3
          have dlt : w1.heap.size < wr.heap.size := HBK.out.lt
          have HST := Lib.hid hst; have HWJ := Lib.hid hwj; have HNE := Lib.hid hne; have HF := Lib.hid hf; have HOD := Lib.hid hod
          clear hst hwj hlj hss hzz wz lz hcv hne hf hod
          cases hq : Nat.beq (j % 2) 1
          all_goals
            rw [hq] at hm2 HOD
            clear hq
            by_cases hj0 : j = 0
            · have hjz : decide ((0 : Int) < (j : Int)) = false := by simp; omega
              have hf2 := HF.out
              rw [HOD.out] at hf2
              simp only [Bool.not_true, Bool.not_false, Bool.and_true, Bool.and_false, Bool.true_and, Bool.false_and, if_true, if_false, Bool.false_eq_true, nmJ] at hf2
              have HF2 := Lib.hid hf2; have HJ0 := Lib.hid hj0
              clear hf2 hj0
              go_wp2_with (first
                | (at_builtin
                   refine wpList_append_own _ rfl (.tmp 48) (.tmp 52) _ rfl (w1.heap.size + 1) 28 i0 _ 2 32 Tryd.underlying23 hi hz0 hz1 hz2 rfl (by decide) _ _ _ rfl ((HO.out.alloc _).alloc _) ⟨wr.heap.size + 1, 0, none⟩ 1 1 [.string _, .string lj] rfl rfl (hnc _ _) (by intro u hu; simp at hu; rcases hu with rfl | rfl <;> rfl) (by simp only [maxLen]; omega) (by omega) (by simp; omega) ?_
                   intro v2 w3 hown2 hg2 _
                   obtain ⟨gb, cb, rfl, -, -⟩ := hown2.form (by omega)
                   have hB3 := ((HBK.out.alloc _).alloc _).grown hg2 (fun e => by have := HNE.out _ e.symm; omega)
                   have c3 := hB3.cell 3
                   have f3 := hB3.frozen 3))
              all_goals have hjq := HJ0.out
              all_goals first | (exfalso; omega) | skip
              clear hjq
              go_roundw
              case measure => exact meas hlt .i64 .i64
              case rel =>
                refine ⟨j + 1, _, by omega, by go_num, by rw [HWJ.out, if_pos HJ0.out], fr_set (fr_grown (fr_alloc (fr_alloc HB.out _) _) hg2 (fun x hx => by have := HNE.out x hx; omega)) (by simp) _, hB3.set_ 3 _, ?_⟩
                rw [HST.out, HF2.out, pcells_snoc]
                exact ownsRow_setCell_below hown2 (a := ⟨w1.heap.size, 3, none⟩) (by simp) _
            · have hjz : decide ((0 : Int) < (j : Int)) = true := by simp; omega
              have hf2 := HF.out
              rw [HOD.out] at hf2
              simp only [Bool.not_true, Bool.not_false, Bool.and_true, Bool.and_false, Bool.true_and, Bool.false_and, if_true, if_false, Bool.false_eq_true, nmJ] at hf2
              have HF2 := Lib.hid hf2; have HJ0 := Lib.hid hj0
              clear hf2 hj0
              go_wp2_with (first
                | (at_builtin
                   refine wpList_append_own _ rfl (.tmp 48) (.tmp 52) _ rfl (w1.heap.size + 1) 28 i0 _ 2 32 Tryd.underlying23 hi hz0 hz1 hz2 rfl (by decide) _ _ _ rfl ((HO.out.alloc _).alloc _) ⟨wr.heap.size + 1, 0, none⟩ 1 1 [.string _, .string lj] rfl rfl (hnc _ _) (by intro u hu; simp at hu; rcases hu with rfl | rfl <;> rfl) (by simp only [maxLen]; omega) (by omega) (by simp; omega) ?_
                   intro v2 w3 hown2 hg2 _
                   obtain ⟨gb, cb, rfl, -, -⟩ := hown2.form (by omega)
                   have hB3 := ((HBK.out.alloc _).alloc _).grown hg2 (fun e => by have := HNE.out _ e.symm; omega)
                   have c3 := hB3.cell 3
                   have f3 := hB3.frozen 3))
              all_goals have hjq := HJ0.out
              all_goals first | (exfalso; omega) | skip
              clear hjq
              go_roundw
              case measure => exact meas hlt .i64 .i64
              case rel =>
                refine ⟨j + 1, _, by omega, by go_num, by rw [HWJ.out, if_neg HJ0.out]; rfl, fr_set (fr_grown (fr_alloc (fr_alloc HB.out _) _) hg2 (fun x hx => by have := HNE.out x hx; omega)) (by simp) _, hB3.set_ 3 _, ?_⟩
                rw [HST.out, HF2.out, pcells_snoc]
                exact ownsRow_setCell_below hown2 (a := ⟨w1.heap.size, 3, none⟩) (by simp) _
        · have ej : j = kk := by omega
          subst ej
          obtain ⟨A5, c5, hv5, -, hP5⟩ := Pairs.own HO.out
          rw [flJ_len] at hv5
          subst hv5
          obtain ⟨N, hN⟩ : ∃ N, nmE (nmJ false) = N := ⟨_, rfl⟩
          obtain ⟨wv, hwv⟩ : ∃ x, wJ false j = x := ⟨_, rfl⟩
          rw [hN, hwv] at HONE
          rw [hwv]
          have HP5 := Lib.hid hP5; have HWj := Lib.hid (fr_trans H1.out HB.out); have HN := Lib.hid hN
          clear hP5 hN hwv HO
          go_wp2_with fail
          have hKj : ∀ W', Below wr.heap.size wr W' → (W'.cell? ⟨w1.heap.size, 0, none⟩ = some (.string ⟨#[71, 69, 84]⟩) ∧ W'.cell? ⟨w1.heap.size, 1, none⟩ = some (.string ⟨#[47]⟩) ∧ W'.cell? ⟨w1.heap.size, 2, none⟩ = some (.int .i64 1) ∧ W'.cell? ⟨w1.heap.size, 3, none⟩ = some (.slice A5 j c5) ∧ W'.cell? ⟨w1.heap.size, 4, none⟩ = some (.string ⟨#[]⟩)) := fun W' h => ⟨(HBK.out.fr h).cell 0, (HBK.out.fr h).cell 1, (HBK.out.fr h).cell 2, (HBK.out.fr h).cell 3, (HBK.out.fr h).cell 4⟩
          have HKj := Lib.hid hKj
          clear hKj
          go_region_held3 (fun W' => (W'.cell? ⟨w1.heap.size, 0, none⟩ = some (.string ⟨#[71, 69, 84]⟩) ∧ W'.cell? ⟨w1.heap.size, 1, none⟩ = some (.string ⟨#[47]⟩) ∧ W'.cell? ⟨w1.heap.size, 2, none⟩ = some (.int .i64 1) ∧ W'.cell? ⟨w1.heap.size, 3, none⟩ = some (.slice A5 j c5) ∧ W'.cell? ⟨w1.heap.size, 4, none⟩ = some (.string ⟨#[]⟩)))
            (first | (refine HKj.out _ ?_; first | exact fr_trans hbS hbB | exact hbS | exact fr_drew (fr_refl _) | exact fr_refl _))
            (first
            | (have hgg := hbS; go_at_call 6; refine (build_small _ _ 0 ⟨#[71, 69, 84]⟩ ⟨#[47]⟩ 1 (flJ false false j) ⟨#[]⟩ _ j c5 ⟨#[]⟩ ⟨#[]⟩ none 0 0 [] _ _ (jEq false false j) HONE.out.1 (HT.out.fr (fr_trans HWj.out hbS)) (flJ_len _ _ _) (by omega) (HP5.out.fr hbS) (flJ_sz _ _ _) rfl (by decide) (Pairs.nil _ _) (fun p hp => absurd hp (by simp)) (by decide) (by decide) (by decide) (by decide) (by decide) (by decide)).mono ?_; rintro e wB ⟨⟨A', n', c', l', rfl, hl', hP', hge', hp'⟩, hbB⟩)
            | (go_at_call 7; refine (ref11_Small _).mono ?_; rintro e wS ⟨⟨Ac, cc, rfl, hRS⟩, hbS0⟩; unfold confV; have hbS : Below wr.heap.size wr wS := fr_trans (fr_drew (fr_refl _)) hbS0))
          have hnb : n' ≤ 1000 := by rw [← hl', hp'.length_eq]; have := HONE.out.1; omega
          have HWc := Lib.hid (fr_trans HWj.out (fr_trans hbS hbB)); have HLB := Lib.hid hl'; have HPB := Lib.hid hP'
          have HGT := Lib.hid ((perm_get (jEq false false j) hp' N).trans HONE.out.2)
          clear hbS hbS0 hbB hP' hl' hp' hRS HKj HBK hge'
          go_wp2_with fail
          refine (vars_Name_at (nmJ false) N _ ((congrFun nmE_eq _).trans HN.out) (by decide)).mono ?_
          rintro e w4 ⟨rfl, hb4⟩
          have HPC := Lib.hid (HPB.out.fr hb4); have HWd := Lib.hid (fr_trans HWc.out hb4)
          clear hb4
          go_wp2_with fail
          refine (get_yes wv HLB.out HPC.out (by omega) HGT.out).mono ?_
          rintro e w5 ⟨rfl, rfl⟩
          go_wp2
          go_ret
          exact ⟨rfl, HWd.out⟩
    · have hnm' := hnm.symm; have hby' := hby.symm
      simp only [nmJ, byJ, if_true, Bool.false_eq_true, if_false] at hnm' hby'
      subst hnm' hby'
      clear hnm hby
      go_enter Tryd.func3, Tryd.ntmps3
      go_wp2_with fail
      refine (law15_known _ HT.out).mono ?_
      rintro e w1 ⟨rfl, hb1⟩
      have H1 := Lib.hid hb1
      clear hb1
      go_wp2
      clear hx
      go_loopw [11, 12] (fun s i wr => ∃ (j : Nat) (fv : Value), j ≤ kk ∧ i = .int .i64 j ∧ s = .string (wJ false j) ∧ Below w1.heap.size w1 wr ∧ Blk wr w1.heap.size 25 #[.string ⟨#[71, 69, 84]⟩, .string ⟨#[47]⟩, .int .i64 1, fv, .string ⟨#[]⟩] ∧ wr.ownsRow (w1.heap.size + 1) 28 2 fv j (pcells (flJ false true j))) (fun _ i _ => kk - (intOf i).toNat)
      case atStart => exact ⟨0, .slice none 0 0, Nat.zero_le _, rfl, rfl, fr_alloc (fr_refl _) _, Blk.new _ _ _, World.ownsRow_nil _ _ _ _⟩
      case round =>
        obtain ⟨j, fv, hj, rfl, rfl, hb, hbk, hown⟩ := hrel
        have HB := Lib.hid hb; have HBK := Lib.hid hbk; have HO := Lib.hid hown
        clear hb hbk hown
        by_cases hlt : j < kk
        · have hne := own_ge HO.out
          have wz := wJ_size false j
          have hst : flJ false true (j + 1) = flJ false true j ++ [(fJ false true j, ltr j)] := rfl
          have hwj : wJ false (j + 1) = if j = 0 then wJ false j ++ ltr j else wJ false j ++ byJ false ++ ltr j := rfl
          have hzz : (⟨#[UInt8.ofNat ((97 + (j : Int)).toNat)]⟩ : ByteArray) = ltr j := by unfold ltr; rw [show ((97 : Int) + (j : Int)).toNat = 97 + j by omega]
          have hcv : ∀ (W : World) (g : Nat), W.cell? ⟨g, 0, none⟩ = some (.int .u8 (97 + (j : Int))) → (convert 26 9 (.slice (some ⟨g, 0, none⟩) 1 1)).run Tryd.prog W = .ok (.string (ltr j)) W := fun W g h => by
            rw [← hzz]; exact conv1 W g (97 + (j : Int)) _ _ _ 1 Tryd.underlying26 Tryd.underlying5 Tryd.underlying9 h
          have hcn : ∀ W : World, (convert 26 9 (.slice (some ⟨W.heap.size, 0, none⟩) 1 1)).run Tryd.prog (W.alloc (.cells #[.int .u8 (97 + (j : Int))] 5)) = .ok (.string (ltr j)) (W.alloc (.cells #[.int .u8 (97 + (j : Int))] 5)) := fun W => hcv _ _ (by rw [World.cell?_alloc_mark]; rfl)
          have lz := ltr_size j
          have hnc := fun (f y : ByteArray) => new_cells (wr.alloc (.cells #[.int .u8 (97 + (j : Int))] 5)) [.string f, .string y] 28
          simp only [World.size_alloc] at hnc
          have hm2 := mod2 j
          have hf : fJ false true j = if odJ false true j then ⟨#[120, 95, 115, 79, 77, 69]⟩ else nmJ false := rfl
          have hod : odJ false true j = (true && !false && Nat.beq (j % 2) 1) := rfl
          obtain ⟨lj, hlj⟩ : ∃ lj, ltr j = lj := ⟨_, rfl⟩
          obtain ⟨ss, hss⟩ : ∃ ss, wJ false j = ss := ⟨_, rfl⟩
          rw [hlj] at hst hwj hcv hcn lz
          rw [hss] at hwj wz
          rw [hss]
          have s1 : ¬ 9223372036854775807 < ss.size + 2 := by omega
          have s2 : ¬ 9223372036854775807 < ss.size + 2 + lj.size := by omega
          have s3 : ¬ 9223372036854775807 < ss.size + lj.size := by omega
          have dc3 : wr.cell? ⟨w1.heap.size, 3, none⟩ = some (fv) := HBK.out.cell 3
          have df3 : wr.frozen? ⟨w1.heap.size, 3, none⟩ = false := HBK.out.frozen 3
          have dlt : w1.heap.size < wr.heap.size := HBK.out.lt
          have HST := Lib.hid hst; have HWJ := Lib.hid hwj; have HNE := Lib.hid hne; have HF := Lib.hid hf; have HOD := Lib.hid hod
          clear hst hwj hlj hss hzz wz lz hcv hne hf hod
          cases hq : Nat.beq (j % 2) 1
          all_goals
            rw [hq] at hm2 HOD
            clear hq
            by_cases hj0 : j = 0
            · have hjz : decide ((0 : Int) < (j : Int)) = false := by simp; omega
              have hf2 := HF.out
              rw [HOD.out] at hf2
              simp only [Bool.not_true, Bool.not_false, Bool.and_true, Bool.and_false, Bool.true_and, Bool.false_and, if_true, if_false, Bool.false_eq_true, nmJ] at hf2
              have HF2 := Lib.hid hf2; have HJ0 := Lib.hid hj0
              clear hf2 hj0
              go_wp2_with (first
                | (at_builtin
                   refine wpList_append_own _ rfl (.tmp 48) (.tmp 52) _ rfl (w1.heap.size + 1) 28 i0 _ 2 32 Tryd.underlying23 hi hz0 hz1 hz2 rfl (by decide) _ _ _ rfl ((HO.out.alloc _).alloc _) ⟨wr.heap.size + 1, 0, none⟩ 1 1 [.string _, .string lj] rfl rfl (hnc _ _) (by intro u hu; simp at hu; rcases hu with rfl | rfl <;> rfl) (by simp only [maxLen]; omega) (by omega) (by simp; omega) ?_
                   intro v2 w3 hown2 hg2 _
                   obtain ⟨gb, cb, rfl, -, -⟩ := hown2.form (by omega)
                   have hB3 := ((HBK.out.alloc _).alloc _).grown hg2 (fun e => by have := HNE.out _ e.symm; omega)
                   have c3 := hB3.cell 3
                   have f3 := hB3.frozen 3))
              all_goals have hjq := HJ0.out
              all_goals first | (exfalso; omega) | skip
              clear hjq
              go_roundw
              case measure => exact meas hlt .i64 .i64
              case rel =>
                refine ⟨j + 1, _, by omega, by go_num, by rw [HWJ.out, if_pos HJ0.out], fr_set (fr_grown (fr_alloc (fr_alloc HB.out _) _) hg2 (fun x hx => by have := HNE.out x hx; omega)) (by simp) _, hB3.set_ 3 _, ?_⟩
                rw [HST.out, HF2.out, pcells_snoc]
                exact ownsRow_setCell_below hown2 (a := ⟨w1.heap.size, 3, none⟩) (by simp) _
            · have hjz : decide ((0 : Int) < (j : Int)) = true := by simp; omega
              have hf2 := HF.out
              rw [HOD.out] at hf2
              simp only [Bool.not_true, Bool.not_false, Bool.and_true, Bool.and_false, Bool.true_and, Bool.false_and, if_true, if_false, Bool.false_eq_true, nmJ] at hf2
              have HF2 := Lib.hid hf2; have HJ0 := Lib.hid hj0
              clear hf2 hj0
              go_wp2_with (first
                | (at_builtin
                   refine wpList_append_own _ rfl (.tmp 48) (.tmp 52) _ rfl (w1.heap.size + 1) 28 i0 _ 2 32 Tryd.underlying23 hi hz0 hz1 hz2 rfl (by decide) _ _ _ rfl ((HO.out.alloc _).alloc _) ⟨wr.heap.size + 1, 0, none⟩ 1 1 [.string _, .string lj] rfl rfl (hnc _ _) (by intro u hu; simp at hu; rcases hu with rfl | rfl <;> rfl) (by simp only [maxLen]; omega) (by omega) (by simp; omega) ?_
                   intro v2 w3 hown2 hg2 _
                   obtain ⟨gb, cb, rfl, -, -⟩ := hown2.form (by omega)
                   have hB3 := ((HBK.out.alloc _).alloc _).grown hg2 (fun e => by have := HNE.out _ e.symm; omega)
                   have c3 := hB3.cell 3
                   have f3 := hB3.frozen 3))
              all_goals have hjq := HJ0.out
              all_goals first | (exfalso; omega) | skip
              clear hjq
              go_roundw
              case measure => exact meas hlt .i64 .i64
              case rel =>
                refine ⟨j + 1, _, by omega, by go_num, by rw [HWJ.out, if_neg HJ0.out]; rfl, fr_set (fr_grown (fr_alloc (fr_alloc HB.out _) _) hg2 (fun x hx => by have := HNE.out x hx; omega)) (by simp) _, hB3.set_ 3 _, ?_⟩
                rw [HST.out, HF2.out, pcells_snoc]
                exact ownsRow_setCell_below hown2 (a := ⟨w1.heap.size, 3, none⟩) (by simp) _
        · have ej : j = kk := by omega
          subst ej
          obtain ⟨A5, c5, hv5, -, hP5⟩ := Pairs.own HO.out
          rw [flJ_len] at hv5
          subst hv5
          obtain ⟨N, hN⟩ : ∃ N, nmE (nmJ false) = N := ⟨_, rfl⟩
          obtain ⟨wv, hwv⟩ : ∃ x, wJ false j = x := ⟨_, rfl⟩
          rw [hN, hwv] at HONE
          rw [hwv]
          have HP5 := Lib.hid hP5; have HWj := Lib.hid (fr_trans H1.out HB.out); have HN := Lib.hid hN
          clear hP5 hN hwv HO
          go_wp2_with fail
          have hKj : ∀ W', Below wr.heap.size wr W' → (W'.cell? ⟨w1.heap.size, 0, none⟩ = some (.string ⟨#[71, 69, 84]⟩) ∧ W'.cell? ⟨w1.heap.size, 1, none⟩ = some (.string ⟨#[47]⟩) ∧ W'.cell? ⟨w1.heap.size, 2, none⟩ = some (.int .i64 1) ∧ W'.cell? ⟨w1.heap.size, 3, none⟩ = some (.slice A5 j c5) ∧ W'.cell? ⟨w1.heap.size, 4, none⟩ = some (.string ⟨#[]⟩)) := fun W' h => ⟨(HBK.out.fr h).cell 0, (HBK.out.fr h).cell 1, (HBK.out.fr h).cell 2, (HBK.out.fr h).cell 3, (HBK.out.fr h).cell 4⟩
          have HKj := Lib.hid hKj
          clear hKj
          go_region_held3 (fun W' => (W'.cell? ⟨w1.heap.size, 0, none⟩ = some (.string ⟨#[71, 69, 84]⟩) ∧ W'.cell? ⟨w1.heap.size, 1, none⟩ = some (.string ⟨#[47]⟩) ∧ W'.cell? ⟨w1.heap.size, 2, none⟩ = some (.int .i64 1) ∧ W'.cell? ⟨w1.heap.size, 3, none⟩ = some (.slice A5 j c5) ∧ W'.cell? ⟨w1.heap.size, 4, none⟩ = some (.string ⟨#[]⟩)))
            (first | (refine HKj.out _ ?_; first | exact fr_trans hbS hbB | exact hbS | exact fr_drew (fr_refl _) | exact fr_refl _))
            (first
            | (have hgg := hbS; go_at_call 6; refine (build_small _ _ 0 ⟨#[71, 69, 84]⟩ ⟨#[47]⟩ 1 (flJ false true j) ⟨#[]⟩ _ j c5 ⟨#[]⟩ ⟨#[]⟩ none 0 0 [] _ _ (jEq false true j) HONE.out.1 (HT.out.fr (fr_trans HWj.out hbS)) (flJ_len _ _ _) (by omega) (HP5.out.fr hbS) (flJ_sz _ _ _) rfl (by decide) (Pairs.nil _ _) (fun p hp => absurd hp (by simp)) (by decide) (by decide) (by decide) (by decide) (by decide) (by decide)).mono ?_; rintro e wB ⟨⟨A', n', c', l', rfl, hl', hP', hge', hp'⟩, hbB⟩)
            | (go_at_call 7; refine (ref11_Small _).mono ?_; rintro e wS ⟨⟨Ac, cc, rfl, hRS⟩, hbS0⟩; unfold confV; have hbS : Below wr.heap.size wr wS := fr_trans (fr_drew (fr_refl _)) hbS0))
          have hnb : n' ≤ 1000 := by rw [← hl', hp'.length_eq]; have := HONE.out.1; omega
          have HWc := Lib.hid (fr_trans HWj.out (fr_trans hbS hbB)); have HLB := Lib.hid hl'; have HPB := Lib.hid hP'
          have HGT := Lib.hid ((perm_get (jEq false true j) hp' N).trans HONE.out.2)
          clear hbS hbS0 hbB hP' hl' hp' hRS HKj HBK hge'
          go_wp2_with fail
          refine (vars_Name_at (nmJ false) N _ ((congrFun nmE_eq _).trans HN.out) (by decide)).mono ?_
          rintro e w4 ⟨rfl, hb4⟩
          have HPC := Lib.hid (HPB.out.fr hb4); have HWd := Lib.hid (fr_trans HWc.out hb4)
          clear hb4
          go_wp2_with fail
          refine (get_yes wv HLB.out HPC.out (by omega) HGT.out).mono ?_
          rintro e w5 ⟨rfl, rfl⟩
          go_wp2
          go_ret
          exact ⟨rfl, HWd.out⟩
  · cases sp
    · have hnm' := hnm.symm; have hby' := hby.symm
      simp only [nmJ, byJ, if_true, Bool.false_eq_true, if_false] at hnm' hby'
      subst hnm' hby'
      clear hnm hby
      go_enter Tryd.func3, Tryd.ntmps3
      go_wp2_with fail
      refine (law15_known _ HT.out).mono ?_
      rintro e w1 ⟨rfl, hb1⟩
      have H1 := Lib.hid hb1
      clear hb1
      go_wp2
      clear hx
      go_loopw [11, 12] (fun s i wr => ∃ (j : Nat) (fv : Value), j ≤ kk ∧ i = .int .i64 j ∧ s = .string (wJ true j) ∧ Below w1.heap.size w1 wr ∧ Blk wr w1.heap.size 25 #[.string ⟨#[71, 69, 84]⟩, .string ⟨#[47]⟩, .int .i64 1, fv, .string ⟨#[]⟩] ∧ wr.ownsRow (w1.heap.size + 1) 28 2 fv j (pcells (flJ true false j))) (fun _ i _ => kk - (intOf i).toNat)
      case atStart => exact ⟨0, .slice none 0 0, Nat.zero_le _, rfl, rfl, fr_alloc (fr_refl _) _, Blk.new _ _ _, World.ownsRow_nil _ _ _ _⟩
      case round =>
        obtain ⟨j, fv, hj, rfl, rfl, hb, hbk, hown⟩ := hrel
        have HB := Lib.hid hb; have HBK := Lib.hid hbk; have HO := Lib.hid hown
        clear hb hbk hown
        by_cases hlt : j < kk
        · have hne := own_ge HO.out
          have wz := wJ_size true j
          have hst : flJ true false (j + 1) = flJ true false j ++ [(fJ true false j, ltr j)] := rfl
          have hwj : wJ true (j + 1) = if j = 0 then wJ true j ++ ltr j else wJ true j ++ byJ true ++ ltr j := rfl
          have hzz : (⟨#[UInt8.ofNat ((97 + (j : Int)).toNat)]⟩ : ByteArray) = ltr j := by unfold ltr; rw [show ((97 : Int) + (j : Int)).toNat = 97 + j by omega]
          have hcv : ∀ (W : World) (g : Nat), W.cell? ⟨g, 0, none⟩ = some (.int .u8 (97 + (j : Int))) → (convert 26 9 (.slice (some ⟨g, 0, none⟩) 1 1)).run Tryd.prog W = .ok (.string (ltr j)) W := fun W g h => by
            rw [← hzz]; exact conv1 W g (97 + (j : Int)) _ _ _ 1 Tryd.underlying26 Tryd.underlying5 Tryd.underlying9 h
          have hcn : ∀ W : World, (convert 26 9 (.slice (some ⟨W.heap.size, 0, none⟩) 1 1)).run Tryd.prog (W.alloc (.cells #[.int .u8 (97 + (j : Int))] 5)) = .ok (.string (ltr j)) (W.alloc (.cells #[.int .u8 (97 + (j : Int))] 5)) := fun W => hcv _ _ (by rw [World.cell?_alloc_mark]; rfl)
          have lz := ltr_size j
          have hnc := fun (f y : ByteArray) => new_cells (wr.alloc (.cells #[.int .u8 (97 + (j : Int))] 5)) [.string f, .string y] 28
          simp only [World.size_alloc] at hnc
          have hm2 := mod2 j
          have hf : fJ true false j = if odJ true false j then ⟨#[120, 95, 115, 79, 77, 69]⟩ else nmJ true := rfl
          have hod : odJ true false j = (false && !true && Nat.beq (j % 2) 1) := rfl
          obtain ⟨lj, hlj⟩ : ∃ lj, ltr j = lj := ⟨_, rfl⟩
          obtain ⟨ss, hss⟩ : ∃ ss, wJ true j = ss := ⟨_, rfl⟩
          rw [hlj] at hst hwj hcv hcn lz
          rw [hss] at hwj wz
          rw [hss]
          have s1 : ¬ 9223372036854775807 < ss.size + 2 := by omega
          have s2 : ¬ 9223372036854775807 < ss.size + 2 + lj.size := by omega
          have s3 : ¬ 9223372036854775807 < ss.size + lj.size := by omega
          have dc3 : wr.cell? ⟨w1.heap.size, 3, none⟩ = some (fv) := HBK.out.cell 3
          have df3 : wr.frozen? ⟨w1.heap.size, 3, none⟩ = false := HBK.out.frozen 3
          have dlt : w1.heap.size < wr.heap.size := HBK.out.lt
          have HST := Lib.hid hst; have HWJ := Lib.hid hwj; have HNE := Lib.hid hne; have HF := Lib.hid hf; have HOD := Lib.hid hod
          clear hst hwj hlj hss hzz wz lz hcv hne hf hod
          cases hq : Nat.beq (j % 2) 1
          all_goals
            rw [hq] at hm2 HOD
            clear hq
            by_cases hj0 : j = 0
            · have hjz : decide ((0 : Int) < (j : Int)) = false := by simp; omega
              have hf2 := HF.out
              rw [HOD.out] at hf2
              simp only [Bool.not_true, Bool.not_false, Bool.and_true, Bool.and_false, Bool.true_and, Bool.false_and, if_true, if_false, Bool.false_eq_true, nmJ] at hf2
              have HF2 := Lib.hid hf2; have HJ0 := Lib.hid hj0
              clear hf2 hj0
              go_wp2_with (first
                | (at_builtin
                   refine wpList_append_own _ rfl (.tmp 48) (.tmp 52) _ rfl (w1.heap.size + 1) 28 i0 _ 2 32 Tryd.underlying23 hi hz0 hz1 hz2 rfl (by decide) _ _ _ rfl ((HO.out.alloc _).alloc _) ⟨wr.heap.size + 1, 0, none⟩ 1 1 [.string _, .string lj] rfl rfl (hnc _ _) (by intro u hu; simp at hu; rcases hu with rfl | rfl <;> rfl) (by simp only [maxLen]; omega) (by omega) (by simp; omega) ?_
                   intro v2 w3 hown2 hg2 _
                   obtain ⟨gb, cb, rfl, -, -⟩ := hown2.form (by omega)
                   have hB3 := ((HBK.out.alloc _).alloc _).grown hg2 (fun e => by have := HNE.out _ e.symm; omega)
                   have c3 := hB3.cell 3
                   have f3 := hB3.frozen 3))
              all_goals have hjq := HJ0.out
              all_goals first | (exfalso; omega) | skip
              clear hjq
              go_roundw
              case measure => exact meas hlt .i64 .i64
              case rel =>
                refine ⟨j + 1, _, by omega, by go_num, by rw [HWJ.out, if_pos HJ0.out], fr_set (fr_grown (fr_alloc (fr_alloc HB.out _) _) hg2 (fun x hx => by have := HNE.out x hx; omega)) (by simp) _, hB3.set_ 3 _, ?_⟩
                rw [HST.out, HF2.out, pcells_snoc]
                exact ownsRow_setCell_below hown2 (a := ⟨w1.heap.size, 3, none⟩) (by simp) _
            · have hjz : decide ((0 : Int) < (j : Int)) = true := by simp; omega
              have hf2 := HF.out
              rw [HOD.out] at hf2
              simp only [Bool.not_true, Bool.not_false, Bool.and_true, Bool.and_false, Bool.true_and, Bool.false_and, if_true, if_false, Bool.false_eq_true, nmJ] at hf2
              have HF2 := Lib.hid hf2; have HJ0 := Lib.hid hj0
              clear hf2 hj0
              go_wp2_with (first
                | (at_builtin
                   refine wpList_append_own _ rfl (.tmp 48) (.tmp 52) _ rfl (w1.heap.size + 1) 28 i0 _ 2 32 Tryd.underlying23 hi hz0 hz1 hz2 rfl (by decide) _ _ _ rfl ((HO.out.alloc _).alloc _) ⟨wr.heap.size + 1, 0, none⟩ 1 1 [.string _, .string lj] rfl rfl (hnc _ _) (by intro u hu; simp at hu; rcases hu with rfl | rfl <;> rfl) (by simp only [maxLen]; omega) (by omega) (by simp; omega) ?_
                   intro v2 w3 hown2 hg2 _
                   obtain ⟨gb, cb, rfl, -, -⟩ := hown2.form (by omega)
                   have hB3 := ((HBK.out.alloc _).alloc _).grown hg2 (fun e => by have := HNE.out _ e.symm; omega)
                   have c3 := hB3.cell 3
                   have f3 := hB3.frozen 3))
              all_goals have hjq := HJ0.out
              all_goals first | (exfalso; omega) | skip
              clear hjq
              go_roundw
              case measure => exact meas hlt .i64 .i64
              case rel =>
                refine ⟨j + 1, _, by omega, by go_num, by rw [HWJ.out, if_neg HJ0.out]; rfl, fr_set (fr_grown (fr_alloc (fr_alloc HB.out _) _) hg2 (fun x hx => by have := HNE.out x hx; omega)) (by simp) _, hB3.set_ 3 _, ?_⟩
                rw [HST.out, HF2.out, pcells_snoc]
                exact ownsRow_setCell_below hown2 (a := ⟨w1.heap.size, 3, none⟩) (by simp) _
        · have ej : j = kk := by omega
          subst ej
          obtain ⟨A5, c5, hv5, -, hP5⟩ := Pairs.own HO.out
          rw [flJ_len] at hv5
          subst hv5
          obtain ⟨N, hN⟩ : ∃ N, nmE (nmJ true) = N := ⟨_, rfl⟩
          obtain ⟨wv, hwv⟩ : ∃ x, wJ true j = x := ⟨_, rfl⟩
          rw [hN, hwv] at HONE
          rw [hwv]
          have HP5 := Lib.hid hP5; have HWj := Lib.hid (fr_trans H1.out HB.out); have HN := Lib.hid hN
          clear hP5 hN hwv HO
          go_wp2_with fail
          have hKj : ∀ W', Below wr.heap.size wr W' → (W'.cell? ⟨w1.heap.size, 0, none⟩ = some (.string ⟨#[71, 69, 84]⟩) ∧ W'.cell? ⟨w1.heap.size, 1, none⟩ = some (.string ⟨#[47]⟩) ∧ W'.cell? ⟨w1.heap.size, 2, none⟩ = some (.int .i64 1) ∧ W'.cell? ⟨w1.heap.size, 3, none⟩ = some (.slice A5 j c5) ∧ W'.cell? ⟨w1.heap.size, 4, none⟩ = some (.string ⟨#[]⟩)) := fun W' h => ⟨(HBK.out.fr h).cell 0, (HBK.out.fr h).cell 1, (HBK.out.fr h).cell 2, (HBK.out.fr h).cell 3, (HBK.out.fr h).cell 4⟩
          have HKj := Lib.hid hKj
          clear hKj
          go_region_held3 (fun W' => (W'.cell? ⟨w1.heap.size, 0, none⟩ = some (.string ⟨#[71, 69, 84]⟩) ∧ W'.cell? ⟨w1.heap.size, 1, none⟩ = some (.string ⟨#[47]⟩) ∧ W'.cell? ⟨w1.heap.size, 2, none⟩ = some (.int .i64 1) ∧ W'.cell? ⟨w1.heap.size, 3, none⟩ = some (.slice A5 j c5) ∧ W'.cell? ⟨w1.heap.size, 4, none⟩ = some (.string ⟨#[]⟩)))
            (first | (refine HKj.out _ ?_; first | exact fr_trans hbS hbB | exact hbS | exact fr_drew (fr_refl _) | exact fr_refl _))
            (first
            | (have hgg := hbS; go_at_call 6; refine (build_small _ _ 0 ⟨#[71, 69, 84]⟩ ⟨#[47]⟩ 1 (flJ true false j) ⟨#[]⟩ _ j c5 ⟨#[]⟩ ⟨#[]⟩ none 0 0 [] _ _ (jEq true false j) HONE.out.1 (HT.out.fr (fr_trans HWj.out hbS)) (flJ_len _ _ _) (by omega) (HP5.out.fr hbS) (flJ_sz _ _ _) rfl (by decide) (Pairs.nil _ _) (fun p hp => absurd hp (by simp)) (by decide) (by decide) (by decide) (by decide) (by decide) (by decide)).mono ?_; rintro e wB ⟨⟨A', n', c', l', rfl, hl', hP', hge', hp'⟩, hbB⟩)
            | (go_at_call 7; refine (ref11_Small _).mono ?_; rintro e wS ⟨⟨Ac, cc, rfl, hRS⟩, hbS0⟩; unfold confV; have hbS : Below wr.heap.size wr wS := fr_trans (fr_drew (fr_refl _)) hbS0))
          have hnb : n' ≤ 1000 := by rw [← hl', hp'.length_eq]; have := HONE.out.1; omega
          have HWc := Lib.hid (fr_trans HWj.out (fr_trans hbS hbB)); have HLB := Lib.hid hl'; have HPB := Lib.hid hP'
          have HGT := Lib.hid ((perm_get (jEq true false j) hp' N).trans HONE.out.2)
          clear hbS hbS0 hbB hP' hl' hp' hRS HKj HBK hge'
          go_wp2_with fail
          refine (vars_Name_at (nmJ true) N _ ((congrFun nmE_eq _).trans HN.out) (by decide)).mono ?_
          rintro e w4 ⟨rfl, hb4⟩
          have HPC := Lib.hid (HPB.out.fr hb4); have HWd := Lib.hid (fr_trans HWc.out hb4)
          clear hb4
          go_wp2_with fail
          refine (get_yes wv HLB.out HPC.out (by omega) HGT.out).mono ?_
          rintro e w5 ⟨rfl, rfl⟩
          go_wp2
          go_ret
          exact ⟨rfl, HWd.out⟩
    · have hnm' := hnm.symm; have hby' := hby.symm
      simp only [nmJ, byJ, if_true, Bool.false_eq_true, if_false] at hnm' hby'
      subst hnm' hby'
      clear hnm hby
      go_enter Tryd.func3, Tryd.ntmps3
      go_wp2_with fail
      refine (law15_known _ HT.out).mono ?_
      rintro e w1 ⟨rfl, hb1⟩
      have H1 := Lib.hid hb1
      clear hb1
      go_wp2
      clear hx
      go_loopw [11, 12] (fun s i wr => ∃ (j : Nat) (fv : Value), j ≤ kk ∧ i = .int .i64 j ∧ s = .string (wJ true j) ∧ Below w1.heap.size w1 wr ∧ Blk wr w1.heap.size 25 #[.string ⟨#[71, 69, 84]⟩, .string ⟨#[47]⟩, .int .i64 1, fv, .string ⟨#[]⟩] ∧ wr.ownsRow (w1.heap.size + 1) 28 2 fv j (pcells (flJ true true j))) (fun _ i _ => kk - (intOf i).toNat)
      case atStart => exact ⟨0, .slice none 0 0, Nat.zero_le _, rfl, rfl, fr_alloc (fr_refl _) _, Blk.new _ _ _, World.ownsRow_nil _ _ _ _⟩
      case round =>
        obtain ⟨j, fv, hj, rfl, rfl, hb, hbk, hown⟩ := hrel
        have HB := Lib.hid hb; have HBK := Lib.hid hbk; have HO := Lib.hid hown
        clear hb hbk hown
        by_cases hlt : j < kk
        · have hne := own_ge HO.out
          have wz := wJ_size true j
          have hst : flJ true true (j + 1) = flJ true true j ++ [(fJ true true j, ltr j)] := rfl
          have hwj : wJ true (j + 1) = if j = 0 then wJ true j ++ ltr j else wJ true j ++ byJ true ++ ltr j := rfl
          have hzz : (⟨#[UInt8.ofNat ((97 + (j : Int)).toNat)]⟩ : ByteArray) = ltr j := by unfold ltr; rw [show ((97 : Int) + (j : Int)).toNat = 97 + j by omega]
          have hcv : ∀ (W : World) (g : Nat), W.cell? ⟨g, 0, none⟩ = some (.int .u8 (97 + (j : Int))) → (convert 26 9 (.slice (some ⟨g, 0, none⟩) 1 1)).run Tryd.prog W = .ok (.string (ltr j)) W := fun W g h => by
            rw [← hzz]; exact conv1 W g (97 + (j : Int)) _ _ _ 1 Tryd.underlying26 Tryd.underlying5 Tryd.underlying9 h
          have hcn : ∀ W : World, (convert 26 9 (.slice (some ⟨W.heap.size, 0, none⟩) 1 1)).run Tryd.prog (W.alloc (.cells #[.int .u8 (97 + (j : Int))] 5)) = .ok (.string (ltr j)) (W.alloc (.cells #[.int .u8 (97 + (j : Int))] 5)) := fun W => hcv _ _ (by rw [World.cell?_alloc_mark]; rfl)
          have lz := ltr_size j
          have hnc := fun (f y : ByteArray) => new_cells (wr.alloc (.cells #[.int .u8 (97 + (j : Int))] 5)) [.string f, .string y] 28
          simp only [World.size_alloc] at hnc
          have hm2 := mod2 j
          have hf : fJ true true j = if odJ true true j then ⟨#[120, 95, 115, 79, 77, 69]⟩ else nmJ true := rfl
          have hod : odJ true true j = (true && !true && Nat.beq (j % 2) 1) := rfl
          obtain ⟨lj, hlj⟩ : ∃ lj, ltr j = lj := ⟨_, rfl⟩
          obtain ⟨ss, hss⟩ : ∃ ss, wJ true j = ss := ⟨_, rfl⟩
          rw [hlj] at hst hwj hcv hcn lz
          rw [hss] at hwj wz
          rw [hss]
          have s1 : ¬ 9223372036854775807 < ss.size + 2 := by omega
          have s2 : ¬ 9223372036854775807 < ss.size + 2 + lj.size := by omega
          have s3 : ¬ 9223372036854775807 < ss.size + lj.size := by omega
          have dc3 : wr.cell? ⟨w1.heap.size, 3, none⟩ = some (fv) := HBK.out.cell 3
          have df3 : wr.frozen? ⟨w1.heap.size, 3, none⟩ = false := HBK.out.frozen 3
          have dlt : w1.heap.size < wr.heap.size := HBK.out.lt
          have HST := Lib.hid hst; have HWJ := Lib.hid hwj; have HNE := Lib.hid hne; have HF := Lib.hid hf; have HOD := Lib.hid hod
          clear hst hwj hlj hss hzz wz lz hcv hne hf hod
          cases hq : Nat.beq (j % 2) 1
          all_goals
            rw [hq] at hm2 HOD
            clear hq
            by_cases hj0 : j = 0
            · have hjz : decide ((0 : Int) < (j : Int)) = false := by simp; omega
              have hf2 := HF.out
              rw [HOD.out] at hf2
              simp only [Bool.not_true, Bool.not_false, Bool.and_true, Bool.and_false, Bool.true_and, Bool.false_and, if_true, if_false, Bool.false_eq_true, nmJ] at hf2
              have HF2 := Lib.hid hf2; have HJ0 := Lib.hid hj0
              clear hf2 hj0
              go_wp2_with (first
                | (at_builtin
                   refine wpList_append_own _ rfl (.tmp 48) (.tmp 52) _ rfl (w1.heap.size + 1) 28 i0 _ 2 32 Tryd.underlying23 hi hz0 hz1 hz2 rfl (by decide) _ _ _ rfl ((HO.out.alloc _).alloc _) ⟨wr.heap.size + 1, 0, none⟩ 1 1 [.string _, .string lj] rfl rfl (hnc _ _) (by intro u hu; simp at hu; rcases hu with rfl | rfl <;> rfl) (by simp only [maxLen]; omega) (by omega) (by simp; omega) ?_
                   intro v2 w3 hown2 hg2 _
                   obtain ⟨gb, cb, rfl, -, -⟩ := hown2.form (by omega)
                   have hB3 := ((HBK.out.alloc _).alloc _).grown hg2 (fun e => by have := HNE.out _ e.symm; omega)
                   have c3 := hB3.cell 3
                   have f3 := hB3.frozen 3))
              all_goals have hjq := HJ0.out
              all_goals first | (exfalso; omega) | skip
              clear hjq
              go_roundw
              case measure => exact meas hlt .i64 .i64
              case rel =>
                refine ⟨j + 1, _, by omega, by go_num, by rw [HWJ.out, if_pos HJ0.out], fr_set (fr_grown (fr_alloc (fr_alloc HB.out _) _) hg2 (fun x hx => by have := HNE.out x hx; omega)) (by simp) _, hB3.set_ 3 _, ?_⟩
                rw [HST.out, HF2.out, pcells_snoc]
                exact ownsRow_setCell_below hown2 (a := ⟨w1.heap.size, 3, none⟩) (by simp) _
            · have hjz : decide ((0 : Int) < (j : Int)) = true := by simp; omega
              have hf2 := HF.out
              rw [HOD.out] at hf2
              simp only [Bool.not_true, Bool.not_false, Bool.and_true, Bool.and_false, Bool.true_and, Bool.false_and, if_true, if_false, Bool.false_eq_true, nmJ] at hf2
              have HF2 := Lib.hid hf2; have HJ0 := Lib.hid hj0
              clear hf2 hj0
              go_wp2_with (first
                | (at_builtin
                   refine wpList_append_own _ rfl (.tmp 48) (.tmp 52) _ rfl (w1.heap.size + 1) 28 i0 _ 2 32 Tryd.underlying23 hi hz0 hz1 hz2 rfl (by decide) _ _ _ rfl ((HO.out.alloc _).alloc _) ⟨wr.heap.size + 1, 0, none⟩ 1 1 [.string _, .string lj] rfl rfl (hnc _ _) (by intro u hu; simp at hu; rcases hu with rfl | rfl <;> rfl) (by simp only [maxLen]; omega) (by omega) (by simp; omega) ?_
                   intro v2 w3 hown2 hg2 _
                   obtain ⟨gb, cb, rfl, -, -⟩ := hown2.form (by omega)
                   have hB3 := ((HBK.out.alloc _).alloc _).grown hg2 (fun e => by have := HNE.out _ e.symm; omega)
                   have c3 := hB3.cell 3
                   have f3 := hB3.frozen 3))
              all_goals have hjq := HJ0.out
              all_goals first | (exfalso; omega) | skip
              clear hjq
              go_roundw
              case measure => exact meas hlt .i64 .i64
              case rel =>
                refine ⟨j + 1, _, by omega, by go_num, by rw [HWJ.out, if_neg HJ0.out]; rfl, fr_set (fr_grown (fr_alloc (fr_alloc HB.out _) _) hg2 (fun x hx => by have := HNE.out x hx; omega)) (by simp) _, hB3.set_ 3 _, ?_⟩
                rw [HST.out, HF2.out, pcells_snoc]
                exact ownsRow_setCell_below hown2 (a := ⟨w1.heap.size, 3, none⟩) (by simp) _
        · have ej : j = kk := by omega
          subst ej
          obtain ⟨A5, c5, hv5, -, hP5⟩ := Pairs.own HO.out
          rw [flJ_len] at hv5
          subst hv5
          obtain ⟨N, hN⟩ : ∃ N, nmE (nmJ true) = N := ⟨_, rfl⟩
          obtain ⟨wv, hwv⟩ : ∃ x, wJ true j = x := ⟨_, rfl⟩
          rw [hN, hwv] at HONE
          rw [hwv]
          have HP5 := Lib.hid hP5; have HWj := Lib.hid (fr_trans H1.out HB.out); have HN := Lib.hid hN
          clear hP5 hN hwv HO
          go_wp2_with fail
          have hKj : ∀ W', Below wr.heap.size wr W' → (W'.cell? ⟨w1.heap.size, 0, none⟩ = some (.string ⟨#[71, 69, 84]⟩) ∧ W'.cell? ⟨w1.heap.size, 1, none⟩ = some (.string ⟨#[47]⟩) ∧ W'.cell? ⟨w1.heap.size, 2, none⟩ = some (.int .i64 1) ∧ W'.cell? ⟨w1.heap.size, 3, none⟩ = some (.slice A5 j c5) ∧ W'.cell? ⟨w1.heap.size, 4, none⟩ = some (.string ⟨#[]⟩)) := fun W' h => ⟨(HBK.out.fr h).cell 0, (HBK.out.fr h).cell 1, (HBK.out.fr h).cell 2, (HBK.out.fr h).cell 3, (HBK.out.fr h).cell 4⟩
          have HKj := Lib.hid hKj
          clear hKj
          go_region_held3 (fun W' => (W'.cell? ⟨w1.heap.size, 0, none⟩ = some (.string ⟨#[71, 69, 84]⟩) ∧ W'.cell? ⟨w1.heap.size, 1, none⟩ = some (.string ⟨#[47]⟩) ∧ W'.cell? ⟨w1.heap.size, 2, none⟩ = some (.int .i64 1) ∧ W'.cell? ⟨w1.heap.size, 3, none⟩ = some (.slice A5 j c5) ∧ W'.cell? ⟨w1.heap.size, 4, none⟩ = some (.string ⟨#[]⟩)))
            (first | (refine HKj.out _ ?_; first | exact fr_trans hbS hbB | exact hbS | exact fr_drew (fr_refl _) | exact fr_refl _))
            (first
            | (have hgg := hbS; go_at_call 6; refine (build_small _ _ 0 ⟨#[71, 69, 84]⟩ ⟨#[47]⟩ 1 (flJ true true j) ⟨#[]⟩ _ j c5 ⟨#[]⟩ ⟨#[]⟩ none 0 0 [] _ _ (jEq true true j) HONE.out.1 (HT.out.fr (fr_trans HWj.out hbS)) (flJ_len _ _ _) (by omega) (HP5.out.fr hbS) (flJ_sz _ _ _) rfl (by decide) (Pairs.nil _ _) (fun p hp => absurd hp (by simp)) (by decide) (by decide) (by decide) (by decide) (by decide) (by decide)).mono ?_; rintro e wB ⟨⟨A', n', c', l', rfl, hl', hP', hge', hp'⟩, hbB⟩)
            | (go_at_call 7; refine (ref11_Small _).mono ?_; rintro e wS ⟨⟨Ac, cc, rfl, hRS⟩, hbS0⟩; unfold confV; have hbS : Below wr.heap.size wr wS := fr_trans (fr_drew (fr_refl _)) hbS0))
          have hnb : n' ≤ 1000 := by rw [← hl', hp'.length_eq]; have := HONE.out.1; omega
          have HWc := Lib.hid (fr_trans HWj.out (fr_trans hbS hbB)); have HLB := Lib.hid hl'; have HPB := Lib.hid hP'
          have HGT := Lib.hid ((perm_get (jEq true true j) hp' N).trans HONE.out.2)
          clear hbS hbS0 hbB hP' hl' hp' hRS HKj HBK hge'
          go_wp2_with fail
          refine (vars_Name_at (nmJ true) N _ ((congrFun nmE_eq _).trans HN.out) (by decide)).mono ?_
          rintro e w4 ⟨rfl, hb4⟩
          have HPC := Lib.hid (HPB.out.fr hb4); have HWd := Lib.hid (fr_trans HWc.out hb4)
          clear hb4
          go_wp2_with fail
          refine (get_yes wv HLB.out HPC.out (by omega) HGT.out).mono ?_
          rintro e w5 ⟨rfl, rfl⟩
          go_wp2
          go_ret
          exact ⟨rfl, HWd.out⟩
theorem law15_join (x : Int) (ck sp : Bool) (w : World) (hT : Tab w) (x0 : 0 ≤ x) (x1 : x ≤ 255) :
    Calls Tryd.prog 3 #[.int .u8 x, .bool ck, .bool sp] w fun e w' => e = .returned (.bool true) ∧ Below w.heap.size w w' :=
  join_walk x ck sp (x % 6).toNat w hT x0 x1 (by omega) (by omega)
end Go.Proofs.YtkijhbpgokdamaaDoor
