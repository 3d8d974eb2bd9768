/- conduitref11.Segments, Begins. -/
import Derived.Test.YtoplnepbjjcbcaaGreatDoorRefS
namespace Go.Proofs.YtoplnepbjjcbcaaGreatDoor
set_option linter.unusedVariables false
set_option linter.unusedSimpArgs false
open Go.RowKit

theorem fil_yes (l : List ByteArray) (k : Nat) (h : k < l.length) (hf : full l[k] = true) : (l.take (k + 1)).filter full = (l.take k).filter full ++ [l[k]] := by
  rw [List.take_succ_eq_append_getElem h, List.filter_append]; simp [hf]
theorem fil_no (l : List ByteArray) (k : Nat) (h : k < l.length) (hf : full l[k] = false) : (l.take (k + 1)).filter full = (l.take k).filter full := by
  rw [List.take_succ_eq_append_getElem h, List.filter_append]; simp [hf]
theorem fil_len (l : List ByteArray) (k : Nat) : ((l.take k).filter full).length ≤ k := Nat.le_trans (List.length_filter_le _ _) (List.length_take_le _ _)
set_option maxRecDepth 100000 in
set_option maxHeartbeats 4000000 in
theorem ref11_Segments (s : ByteArray) (w : World) (hs : s.size ≤ 4398046511103) :
    Calls Tryz.prog 14 #[.string s] w fun e w' => (∃ A c, e = .returned (.slice A (segs s).length c) ∧ Strs w' A (segs s) ∧ (segs s).length ≤ c) ∧ Below w.heap.size w w' := by
  obtain ⟨i0, hi, hz0, hz1, hz2⟩ := info_parts str_info
  have hlen := cutB_len s 47
  have hse : segs s = (cutB s 47).filter full := rfl
  have HC := Lib.hid (split47 s w hs)
  obtain ⟨l, hl⟩ : ∃ l, cutB s 47 = l := ⟨_, rfl⟩
  rw [hl] at hlen hse HC
  have HSE := Lib.hid hse
  obtain ⟨n, hn⟩ : ∃ n, l.length = n := ⟨_, rfl⟩
  rw [hn] at hlen HC
  have HN := Lib.hid hn
  have hn9 : n ≤ 4398046511104 := by omega
  clear hl hse hn hlen
  go_enter Tryz.func14, Tryz.ntmps14
  go_wp2_with fail
  refine HC.out.mono ?_
  rintro e w1 ⟨⟨A, c, rfl, hS⟩, hb1⟩
  have HS := Lib.hid hS; have HB1 := Lib.hid hb1
  clear hS hb1 HC
  go_wp2
  go_loopw [3, 5] (fun v i wr => ∃ k : Nat, k ≤ n ∧ i = .int .i64 k ∧ Below w1.heap.size w1 wr ∧ wr.ownsRow w1.heap.size 9 1 v ((l.take k).filter full).length (scells ((l.take k).filter full))) (fun _ i _ => n - (intOf i).toNat)
  case atStart => exact ⟨0, Nat.zero_le _, rfl, Below.refl _ _, World.ownsRow_nil _ _ _ _⟩
  case round =>
    obtain ⟨k, hk, rfl, hb, hown⟩ := hrel
    have HB := Lib.hid hb; have HO := Lib.hid hown
    clear hb hown
    by_cases hlt : k < n
    · have hkl : k < l.length := by have := HN.out; omega
      obtain ⟨g, off, rfl, hgl, hc⟩ := (HS.out.fr HB.out).at_ hkl
      have hfl := fil_len l k
      have hy := fun h => fil_yes l k hkl h
      have hno := fun h => fil_no l k hkl h
      obtain ⟨x, hx⟩ : ∃ x, l[k] = x := ⟨_, rfl⟩
      rw [hx] at hc hy hno
      obtain ⟨o, ho⟩ : ∃ o, (l.take k).filter full = o := ⟨_, rfl⟩
      rw [ho] at hy hno hfl HO
      have HY := Lib.hid hy; have HNO := Lib.hid hno
      have kI : (k : Int) < (n : Int) := by omega
      have k0 : (0 : Int) ≤ (k : Int) := by omega
      clear hy hno hx ho
      cases hf : x.toList.isEmpty
      · have hfu : full x = true := by unfold full; rw [hf]; rfl
        have HFU := Lib.hid hfu; clear hfu
        go_wp2_with (first
          | (at_builtin
             refine wpList_append_own _ rfl (.tmp 19) (.tmp 24) _ rfl w1.heap.size 9 i0 _ 1 16 Tryz.underlying31 hi hz0 hz1 hz2 rfl (by decide) _ _ _ rfl (HO.out.alloc _) ⟨wr.heap.size, 0, none⟩ 1 1 [.string x] rfl rfl (new_cells _ _ _) (scell_one _) (by simp only [maxLen]; omega) (by omega) (Nat.le_trans HB.out.size (by simp)) ?_
             intro v2 w3 hown2 hg2 _))
        go_roundw
        case measure => exact meas hlt .i64 .i64
        case rel =>
          refine ⟨k + 1, by omega, by go_num, fr_grown (fr_alloc HB.out _) hg2 (own_ge HO.out), ?_⟩
          rw [HY.out HFU.out, List.length_append, scells_snoc]
          exact hown2
      · have hfu : full x = false := by unfold full; rw [hf]; rfl
        have HFU := Lib.hid hfu; clear hfu
        go_wp2
        go_roundw
        case measure => exact meas hlt .i64 .i64
        case rel => exact ⟨k + 1, by omega, by go_num, HB.out, by rw [HNO.out HFU.out]; exact HO.out⟩
    · have e : (l.take k).filter full = segs s := by rw [HSE.out, List.take_of_length_le (by have := HN.out; omega)]
      have hown := HO.out
      rw [e] at hown
      clear HO e
      have HO := Lib.hid hown; clear hown
      go_wp2
      go_ret
      obtain ⟨A2, c2, rfl, -, hS2, hc2⟩ := Strs.own HO.out
      exact ⟨⟨A2, c2, rfl, hS2, hc2⟩, fr_trans HB1.out HB.out⟩
theorem segs_ref (s : ByteArray) (n : Nat) (w : World) (hn : (segs s).length = n) (hs : s.size ≤ 4398046511103) :
    Calls Tryz.prog 14 #[.string s] w fun e w' => (∃ A c, e = .returned (.slice A n c) ∧ Strs w' A (segs s) ∧ n ≤ c) ∧ Below w.heap.size w w' := by subst hn; exact ref11_Segments s w hs
/-! ### Begins -/
theorem begS_no {p q : ByteArray} {k : Nat} (hq : k < (segs q).length) (h : (segs p).length ≤ k) : begS p q = false := by
  unfold begS
  rw [decide_eq_false (by omega), Bool.false_and]
theorem begS_ne {p q : ByteArray} {k : Nat} (hq : k < (segs q).length) (hp : k < (segs p).length) (h : (segs p)[k] ≠ (segs q)[k]) : begS p q = false := by
  unfold begS
  rw [decide_eq_false (p := (segs p).take (segs q).length = segs q), Bool.and_false]
  intro he
  apply h
  have : (segs q)[k]? = ((segs p).take (segs q).length)[k]? := by rw [he]
  rw [List.getElem?_take, if_pos hq, List.getElem?_eq_getElem hq, List.getElem?_eq_getElem hp] at this
  injection this with this
  exact this.symm
theorem begS_yes {p q : ByteArray} (h : (segs p).take (segs q).length = segs q) : begS p q = true := by
  unfold begS
  have h2 : (segs q).length ≤ (segs p).length := by
    have := congrArg List.length h
    rw [List.length_take] at this; omega
  rw [decide_eq_true h2, decide_eq_true h]; rfl
set_option maxRecDepth 100000 in
set_option maxHeartbeats 4000000 in
theorem ref11_Begins (p q : ByteArray) (w : World) (hp : p.size ≤ 4398046511103) (hq : q.size ≤ 4398046511103) :
    Calls Tryz.prog 16 #[.string p, .string q] w fun e w' => e = .returned (.bool (begS p q)) ∧ Below w.heap.size w w' := by
  have h1 : ∀ k, k < (segs q).length → (segs p).length ≤ k → begS p q = false := fun k a b => begS_no a b
  have h2 : ∀ k x y, (segs p)[k]? = some x → (segs q)[k]? = some y → x ≠ y → begS p q = false := fun k x y a b c => by
    obtain ⟨a1, a2⟩ := List.getElem?_eq_some_iff.1 a
    obtain ⟨b1, b2⟩ := List.getElem?_eq_some_iff.1 b
    exact begS_ne b1 a1 (by rw [a2, b2]; exact c)
  have h3 : (segs p).take (segs q).length = segs q → begS p q = true := fun h => begS_yes h
  have HP := fun (n : Nat) (W : World) (hn : (segs p).length = n) => segs_ref p n W hn hp
  have HQ := fun (n : Nat) (W : World) (hn : (segs q).length = n) => segs_ref q n W hn hq
  have hpl := segs_len p; have hql := segs_len q
  obtain ⟨b, hb⟩ : ∃ b, begS p q = b := ⟨_, rfl⟩
  obtain ⟨lp, hlp⟩ : ∃ l, segs p = l := ⟨_, rfl⟩
  obtain ⟨lq, hlq⟩ : ∃ l, segs q = l := ⟨_, rfl⟩
  rw [hb]
  rw [hb] at h1 h2 h3
  rw [hlp] at h1 h3 HP hpl
  rw [hlq] at h1 h3 HQ hql
  rw [hlp, hlq] at h2
  obtain ⟨n, hn⟩ : ∃ n, lp.length = n := ⟨_, rfl⟩
  obtain ⟨m, hm⟩ : ∃ n, lq.length = n := ⟨_, rfl⟩
  rw [hn] at hpl; rw [hm] at hql
  have hn9 : n ≤ 4398046511104 := by omega
  have hm9 : m ≤ 4398046511104 := by omega
  have H1 := Lib.hid h1; have H2 := Lib.hid h2; have H3 := Lib.hid h3; have HN := Lib.hid hn; have HM := Lib.hid hm
  have HP' := Lib.hid (fun W => HP n W hn); have HQ' := Lib.hid (fun W => HQ m W hm)
  clear h1 h2 h3 HP HQ hn hm hb hlp hlq hpl hql hp hq
  go_enter Tryz.func16, Tryz.ntmps16
  go_wp2_with fail
  refine (HP'.out _).mono ?_
  rintro e w1 ⟨⟨A, c, rfl, hS, hc⟩, hb1⟩
  have HS := Lib.hid hS; have HB1 := Lib.hid hb1
  clear hS hb1 hc
  go_wp2_with fail
  refine (HQ'.out _).mono ?_
  rintro e w2 ⟨⟨A2, c2, rfl, hS2, hc2⟩, hb2⟩
  have HS2 := Lib.hid hS2; have HS1 := Lib.hid (HS.out.fr hb2); have HB2 := Lib.hid (fr_trans HB1.out hb2)
  clear hS2 hb2 hc2 HP' HQ'
  go_wp2
  go_loopw [7] (fun i wr => ∃ k : Nat, k ≤ m ∧ i = .int .i64 k ∧ Below w2.heap.size w2 wr ∧ lp.take k = lq.take k) (fun i _ => m - (intOf i).toNat)
  case atStart => exact ⟨0, Nat.zero_le _, rfl, Below.refl _ _, rfl⟩
  case round =>
    obtain ⟨k, hk, rfl, hb, hall⟩ := hrel
    have HB := Lib.hid hb; have HA := Lib.hid hall
    clear hb hall
    by_cases hlt : k < m
    · have hkq : k < lq.length := by have := HM.out; omega
      have kI : (k : Int) < (m : Int) := by omega
      have k0 : (0 : Int) ≤ (k : Int) := by omega
      by_cases hkp : k < n
      · have hkp' : k < lp.length := by have := HN.out; omega
        have kn : decide ((n : Int) ≤ (k : Int)) = false := by simp; omega
        have knI : (k : Int) < (n : Int) := by omega
        obtain ⟨g, off, rfl, hgl, hc⟩ := (HS1.out.fr HB.out).at_ hkp'
        obtain ⟨g2, off2, rfl, hgl2, hc2⟩ := (HS2.out.fr HB.out).at_ hkq
        obtain ⟨x, hx⟩ : ∃ x, lp[k] = x := ⟨_, rfl⟩
        obtain ⟨y, hy⟩ : ∃ x, lq[k] = x := ⟨_, rfl⟩
        rw [hx] at hc; rw [hy] at hc2
        have HX := Lib.hid hx; have HY := Lib.hid hy
        clear hx hy
        cases hxy : eqB x y
        · have hne : lp[k] ≠ lq[k] := by rw [HX.out, HY.out]; exact eqB_no.1 hxy
          have hbf := H2.out k _ _ (List.getElem?_eq_getElem hkp') (List.getElem?_eq_getElem hkq) hne
          have HBF := Lib.hid hbf; clear hbf hne
          unfold eqB at hxy
          go_wp2_with fail
          go_quiet (fail)
          go_wp2
          go_ret
          exact ⟨by rw [HBF.out]; rfl, fr_drewN (fr_trans HB2.out HB.out) _⟩
        · have he : lp[k] = lq[k] := by rw [HX.out, HY.out]; exact eqB_iff.1 hxy
          have hall2 : lp.take (k + 1) = lq.take (k + 1) := by rw [List.take_succ_eq_append_getElem hkp', List.take_succ_eq_append_getElem hkq, HA.out, he]
          have HA2 := Lib.hid hall2; clear hall2 he
          unfold eqB at hxy
          go_wp2_with fail
          go_quiet (fail)
          go_wp2
          go_roundw
          case measure => exact meas hlt .i64 .i64
          case rel => exact ⟨k + 1, by omega, by go_num, fr_drewN HB.out _, HA2.out⟩
      · have kn : decide ((n : Int) ≤ (k : Int)) = true := by simp; omega
        have hbf := H1.out _ hkq (show lp.length ≤ k by have := HN.out; omega)
        have HBF := Lib.hid hbf; clear hbf
        go_wp2_with fail
        go_quiet (fail)
        go_wp2
        go_ret
        exact ⟨by rw [HBF.out]; rfl, fr_drewN (fr_trans HB2.out HB.out) _⟩
    · have e : lp.take lq.length = lq := by
        have h := HA.out
        have hkm : k = lq.length := by have := HM.out; omega
        rw [hkm, List.take_of_length_le (Nat.le_refl lq.length)] at h
        exact h
      have hbt := H3.out e
      have HBT := Lib.hid hbt; clear hbt e
      go_wp2
      go_ret
      exact ⟨by rw [HBT.out]; rfl, fr_trans HB2.out HB.out⟩
end Go.Proofs.YtoplnepbjjcbcaaGreatDoor
