/- conduitlaw13.RouteTells: true. -/
import Derived.Test.YthjnmcciejfpcaaDoorRP
import Derived.Test.YthjnmcciejfpcaaDoorRR5
namespace Go.Proofs.YthjnmcciejfpcaaDoor
set_option linter.unusedVariables false
set_option linter.unusedSimpArgs false
open Go.RowKit

theorem chooseR_at {ru : Int} {sc inf : ByteArray} {nm : List Pr} {kd ms : Int} (n' : Nat) (ok : Bool) (A : Option Addr) (c n : Nat) (l : List RV) (host p : ByteArray) (w : World) (h : chooseS l host p = ⟨ru, sc, inf, nm, kd, ms⟩) (hn' : nm.length = n') (hok : decide (0 < kd) = ok) (hn : l.length = n)
    (hR : Rules w A l) (hf : ∀ r ∈ l, FitsR r.path p r.kind) (hk : ∀ r ∈ l, 0 < r.kind) (hl : l.length ≤ 1000000000) (hh : host.size ≤ 9223372036854775807) :
    Calls Tryd.prog 9 #[.slice A n c, .string host, .string p] w fun e w' => (∃ A c, e = .returned (.tuple #[.agg #[.int .i64 ru, .string sc, .string inf, .slice A n' c], .bool ok]) ∧ FPairs w.heap.size w' A nm) ∧ Below w.heap.size w w' := by
  subst hn hn' hok
  have h1 := ref11_Choose A c l host p w hR hf hk hl hh
  rw [h] at h1
  exact h1
theorem matchS_len {k : Int} {rp p : ByteArray} {t : RT} (h : matchS k rp p = some t) : t.2.2.length ≤ rp.size + 1 := by
  unfold matchS at h
  split at h
  · split at h
    · injection h with h; subst h; simp
    · cases h
  · split at h
    · cases hs : segsM (segs rp) (segs p) with
      | none => rw [hs] at h; cases h
      | some nm =>
        rw [hs] at h
        injection h with h; subst h
        show nm.length ≤ _
        unfold segsM at hs
        split at hs
        · split at hs
          · injection hs with hs; subst hs
            refine Nat.le_trans (List.length_filterMap_le _ _) ?_
            rw [List.length_zip]
            have := segs_len rp
            omega
          · cases hs
        · cases hs
    · split at h
      · split at h
        · injection h with h; subst h; simp
        · cases h
      · split at h
        · cases hs : extS rp p with
          | none => rw [hs] at h; cases h
          | some e => rw [hs] at h; injection h with h; subst h; simp
        · cases h
theorem amN_len {host p : ByteArray} {l : List RV} (hz : ∀ r ∈ l, r.path.size ≤ 1000000000) : ∀ k, (amN host p l k).nm.length ≤ 1000000001
  | 0 => by show ([] : List Pr).length ≤ _; simp
  | k + 1 => by
    have ih := amN_len (host := host) (p := p) hz k
    show (match l[k]? with | some r => amStep host p (amN host p l k) k r | none => amN host p l k).nm.length ≤ _
    by_cases hl : k < l.length
    · rw [List.getElem?_eq_getElem hl]
      show (amStep host p (amN host p l k) k l[k]).nm.length ≤ _
      unfold amStep
      cases hm : matchS l[k].kind l[k].path p with
      | none => exact ih
      | some t =>
        have h1 := matchS_len hm
        have h2 := hz _ (List.getElem_mem hl)
        simp only []
        split
        · split
          · show t.2.2.length ≤ _; omega
          · exact ih
        · exact ih
    · rw [List.getElem?_eq_none (by omega)]; exact ih
theorem choose_len {host p : ByteArray} {l : List RV} (hz : ∀ r ∈ l, r.path.size ≤ 1000000000) : (chooseS l host p).nm.length ≤ 1000000001 := by
  unfold chooseS amS
  split
  · exact amN_len hz _
  · split
    · exact amN_len hz _
    · exact amN_len hz _
set_option maxRecDepth 100000 in
set_option maxHeartbeats 16000000 in
theorem law13_tells (A : Option Addr) (n c : Nat) (l : List RU) (host path : ByteArray) (w : World) (hm : MaxL w) (hn : l.length = n) (hR : Rules w A (l.map (·.v))) (hH : ∀ u ∈ l, u.Has w) (hF : ∀ u ∈ l, u.Fit 1048576) (hl : n ≤ 1048576) (hho : host.size ≤ 1048576) (hp : path.size ≤ 1048576) :
    Calls Tryd.prog 3 #[.slice A n c, .string host, .string path] w fun e w' => e = .returned (.bool true) ∧ Below w.heap.size w w' := by
  have HM := Lib.hid hm; have HR := Lib.hid hR; have HH := Lib.hid hH; have HF := Lib.hid hF; have HN := Lib.hid hn; have HL := Lib.hid hl
  have HP9 := Lib.hid (show path.size ≤ 1000000000 by omega); have HHZ := Lib.hid (show host.size ≤ 9223372036854775807 by omega)
  clear hm hR hH hF hn hl hp hho
  go_enter Tryd.func3, Tryd.ntmps3
  go_wp2_with fail
  refine (law13_known _ HM.out).mono ?_
  rintro e w1 ⟨rfl, hb1⟩
  have HB1 := Lib.hid hb1; clear hb1
  by_cases h300 : 300 < path.size
  · have hI : (300 : Int) < (path.size : Int) := by omega
    clear h300
    cases hc : cleanS path with
    | none =>
      have HC := Lib.hid (cleanR1_none hc); clear hc
      go_wp2_with fail
      refine (ref11_Clean path _ HP9.out).mono ?_
      rintro e w2 ⟨rfl, hb2⟩
      rw [HC.out]
      have HB2 := Lib.hid (fr_trans HB1.out hb2); clear hb2
      go_wp2
      go_ret
      exact ⟨rfl, HB2.out⟩
    | some p =>
      have HC := Lib.hid (cleanR1_some hc); clear hc
      go_wp2_with fail
      refine (ref11_Clean path _ HP9.out).mono ?_
      rintro e w2 ⟨rfl, hb2⟩
      rw [HC.out]
      have HB2 := Lib.hid (fr_trans HB1.out hb2); clear hb2
      go_wp2
      go_ret
      exact ⟨rfl, HB2.out⟩
  have hI : ¬ (300 : Int) < (path.size : Int) := by omega
  have H300 := Lib.hid (show path.size ≤ 300 by omega)
  clear h300
  cases hc : cleanS path with
  | none =>
    have HC := Lib.hid (cleanR1_none hc); clear hc
    go_wp2_with fail
    refine (ref11_Clean path _ HP9.out).mono ?_
    rintro e w2 ⟨rfl, hb2⟩
    rw [HC.out]
    have HB2 := Lib.hid (fr_trans HB1.out hb2); clear hb2
    go_wp2
    go_ret
    exact ⟨rfl, HB2.out⟩
  | some p =>
    have HCS := Lib.hid hc
    have HC := Lib.hid (cleanR1_some hc); clear hc
    go_wp2_with fail
    refine (ref11_Clean path _ HP9.out).mono ?_
    rintro e w2 ⟨rfl, hb2⟩
    rw [HC.out]
    have HB2 := Lib.hid (fr_trans HB1.out hb2); clear hb2
    cases hr : rightS l
    · have HRR := Lib.hid hr; clear hr
      go_wp2_with fail
      refine (law13_right_at A n c l _ _ HRR.out HN.out (HR.out.fr HB2.out) (fun u hu => (HH.out u hu).fr HB2.out) HF.out HL.out).mono ?_
      rintro e w3 ⟨rfl, hb3⟩
      have HB3 := Lib.hid (fr_trans HB2.out hb3); clear hb3
      go_wp2
      go_ret
      exact ⟨rfl, HB3.out⟩
    · have HG := Lib.hid (good_of hr HF.out HCS.out H300.out)
      have HRR := Lib.hid hr; clear hr
      go_wp2_with fail
      refine (law13_right_at A n c l _ _ HRR.out HN.out (HR.out.fr HB2.out) (fun u hu => (HH.out u hu).fr HB2.out) HF.out HL.out).mono ?_
      rintro e w3 ⟨rfl, hb3⟩
      have HB3 := Lib.hid (fr_trans HB2.out hb3); clear hb3
      by_cases h100 : 100 < host.size
      · have h100I : (100 : Int) < (host.size : Int) := by omega
        clear h100
        go_wp2
        go_ret
        exact ⟨rfl, HB3.out⟩
      have h100I : ¬ (100 : Int) < (host.size : Int) := by omega
      clear h100
      obtain ⟨rl, hrl⟩ : ∃ rl, l.map (·.v) = rl := ⟨_, rfl⟩
      have hrn : rl.length = n := by rw [← hrl, List.length_map]; exact HN.out
      have hfits : ∀ r ∈ rl, FitsR r.path p r.kind := by rw [← hrl]; exact HG.out.fits
      have hpos : ∀ r ∈ rl, 0 < r.kind := by rw [← hrl]; exact HG.out.pos
      have hzz := choose_len (host := host) (p := p) (l := rl) (fun r hr => (hfits r hr).1)
      have HRL := Lib.hid (hrl ▸ HR.out); have HRN := Lib.hid hrn; have HFI := Lib.hid hfits; have HPO := Lib.hid hpos
      clear hrl hrn hfits hpos HR HH HF HN HG HRR
      obtain ⟨b, hb⟩ : ∃ b, chooseS rl host p = b := ⟨_, rfl⟩
      rw [hb] at hzz
      obtain ⟨ru, sc, inf, nm, kd, ms⟩ := b
      obtain ⟨ok, hok⟩ : ∃ ok, decide (0 < kd) = ok := ⟨_, rfl⟩
      obtain ⟨m, hnm⟩ : ∃ m, nm.length = m := ⟨_, rfl⟩
      simp only [hnm] at hzz
      have HB := Lib.hid hb; have HOK := Lib.hid hok; have HNM := Lib.hid hnm; have HZZ := Lib.hid (show m ≤ 9223372036854775807 by omega)
      clear hb hok hnm hzz
      go_wp2_with fail
      refine (choose_at m ok A c n rl host p _ HB.out HNM.out HOK.out HRN.out (HM.out.fr HB3.out) (HRL.out.fr HB3.out) HFI.out (by have := HRN.out; have := HL.out; omega) HHZ.out).mono ?_
      rintro e w4 ⟨⟨A4, c4, rfl, hp4⟩, hb4⟩
      have HB4 := Lib.hid (fr_alloc (fr_trans HB3.out hb4) (.cells #[.int .i64 ru, .string sc, .string inf, .slice A4 m c4] 29))
      have HP4 := Lib.hid (hp4.pairs.fr (fr_alloc (fr_refl _) (.cells #[.int .i64 ru, .string sc, .string inf, .slice A4 m c4] 29)))
      have HK4 := Lib.hid (Blk.new w4 29 #[.int .i64 ru, .string sc, .string inf, .slice A4 m c4])
      clear hb4 hp4
      go_wp2_with fail
      refine (chooseR_at m ok A c n rl host p _ HB.out HNM.out HOK.out HRN.out (HRL.out.fr HB4.out) HFI.out HPO.out (by have := HRN.out; have := HL.out; omega) HHZ.out).mono ?_
      rintro e w5 ⟨⟨A5, c5, rfl, hp5⟩, hb5⟩
      have hk5 := HK4.out.fr hb5
      have tc0 : w5.cell? ⟨w4.heap.size, 0, none⟩ = some (.int .i64 ru) := hk5.cell 0
      have tf0 : w5.frozen? ⟨w4.heap.size, 0, none⟩ = false := hk5.frozen 0
      have tc1 : w5.cell? ⟨w4.heap.size, 1, none⟩ = some (.string sc) := hk5.cell 1
      have tf1 : w5.frozen? ⟨w4.heap.size, 1, none⟩ = false := hk5.frozen 1
      have tc2 : w5.cell? ⟨w4.heap.size, 2, none⟩ = some (.string inf) := hk5.cell 2
      have tf2 : w5.frozen? ⟨w4.heap.size, 2, none⟩ = false := hk5.frozen 2
      have tc3 : w5.cell? ⟨w4.heap.size, 3, none⟩ = some (.slice A4 m c4) := hk5.cell 3
      have tf3 : w5.frozen? ⟨w4.heap.size, 3, none⟩ = false := hk5.frozen 3
      have tlt : w4.heap.size < w5.heap.size := hk5.lt
      have hw5 := fr_alloc (fr_trans HB4.out hb5) (.cells #[.int .i64 ru, .string sc, .string inf, .slice A5 m c5] 29)
      have HB5 := Lib.hid hw5
      have HP45 := Lib.hid ((HP4.out.fr hb5).fr (fr_alloc (fr_refl _) (.cells #[.int .i64 ru, .string sc, .string inf, .slice A5 m c5] 29)))
      have HP5 := Lib.hid (hp5.pairs.fr (fr_alloc (fr_refl _) (.cells #[.int .i64 ru, .string sc, .string inf, .slice A5 m c5] 29)))
      have eok : (ok == ok) = true := by simp
      have nok : (ok != ok) = false := by simp
      clear hb5 hp5 hk5 hw5
      go_wp2_with fail
      refine (ref11_SameRoute ru sc inf A4 A5 m c4 c5 nm _ HNM.out HP45.out HP5.out HZZ.out).mono ?_
      rintro e w6 ⟨rfl, hb6⟩
      have HB6 := Lib.hid (fr_trans HB5.out hb6); clear hb6
      clear tc0 tc1 tc2 tc3 HP45 HP5 HP4 HK4
      go_wp2
      go_loopw [13] (fun i wr => ∃ k : Nat, k ≤ n ∧ i = .int .i64 k ∧ Below w.heap.size w wr) (fun i _ => n - (intOf i).toNat)
      case atStart => exact ⟨0, Nat.zero_le _, rfl, HB6.out⟩
      case round =>
        obtain ⟨k, hk, rfl, hb⟩ := hrel
        have HBW := Lib.hid hb; clear hb
        by_cases hlt : k < n
        · have kx : k < rl.length := by have := HRN.out; omega
          obtain ⟨ab, ao, rfl, habl, hcell⟩ := HRL.out (by omega)
          obtain ⟨r, hr⟩ : ∃ r, rl[k] = r := ⟨_, rfl⟩
          have hmem : r ∈ rl := by rw [← hr]; exact List.getElem_mem kx
          have HFR := Lib.hid (HFI.out r hmem)
          have HC := Lib.hid hcell; have HRE := Lib.hid hr
          obtain ⟨q0, q1, q2, q3, q4⟩ := rule5 HC.out HBW.out kx hr
          have habr : ab < wr.heap.size := World.block_lt_of_cell? wr _ q0
          have hkI : (k : Int) < (n : Int) := by omega
          have hk0 : (0 : Int) ≤ (k : Int) := by omega
          have HWR := Lib.hid (show wrap64 ((k : Int) + 1) = (k : Int) + 1 from IntWalk.wrap64_in _ (by have := HL.out; omega))
          clear hcell hr hmem
          obtain ⟨o, ho⟩ : ∃ o, matchS r.kind r.path p = o := ⟨_, rfl⟩
          have hm1 := fun W hM => route_Match r.kind r.host r.path r.backend r.wA r.wn r.wc p W hM HFR.out
          have hm2 := fun W => ref11_Match r.kind r.host r.path r.backend r.wA r.wn r.wc p W HFR.out
          rw [ho] at hm1 hm2
          have HO := Lib.hid ho; have H1 := Lib.hid hm1; have H2 := Lib.hid hm2
          clear ho hm1 hm2
          go_wp2_with fail
          refine (H1.out _ (HM.out.fr HBW.out)).mono ?_
          rintro e w7 ⟨⟨A7, c7, rfl, hp7⟩, hb7⟩
          have HB7 := Lib.hid (fr_trans HBW.out hb7)
          have HP7 := Lib.hid hp7.pairs
          clear hb7 hp7 q0 q1 q2 q3 q4
          obtain ⟨q0, q1, q2, q3, q4⟩ := rule5 HC.out HB7.out kx HRE.out
          have habr7 : ab < w7.heap.size := World.block_lt_of_cell? w7 _ q0
          cases hos : o.isSome
          · have hon : o = none := by cases o with | none => rfl | some _ => simp at hos
            subst hon
            have e0 : (none : Option RT).isSome = false := rfl
            go_wp2_with fail
            refine (H2.out _).mono ?_
            rintro e w8 ⟨⟨sc8, inf8, nm8, A8, c8, rfl, -, -⟩, hb8⟩
            have HB8 := Lib.hid (fr_trans (fr_alloc HB7.out _) hb8)
            clear hb8 q0 q1 q2 q3 q4
            go_wp2
            go_roundw
            case measure => rw [HWR.out]; exact meas hlt .i64 .i64
            case rel => exact ⟨k + 1, by omega, by rw [HWR.out]; go_num, fr_alloc HB8.out _⟩
          · obtain ⟨⟨tsc, tinf, tnm⟩, rfl⟩ := Option.isSome_iff_exists.1 hos
            have hlz := matchS_len HO.out
            have hrz := HFR.out.1
            simp only [rsc, rinf, rnm, Option.isSome_some] at HP7 H2 hlz ⊢
            have HTZ := Lib.hid (show tnm.length ≤ 9223372036854775807 by omega)
            have HK7 := Lib.hid (Blk.new w7 29 #[.int .i64 0, .string tsc, .string tinf, .slice A7 tnm.length c7])
            clear hlz hrz hos
            go_wp2_with fail
            refine (H2.out _).mono ?_
            rintro e w8 ⟨⟨sc8, inf8, nm8, A8, c8, rfl, hsm, hp8⟩, hb8⟩
            have h8 := hsm _ rfl
            injection h8 with h8a h8b
            injection h8b with h8b h8c
            subst h8a h8b h8c
            have hk8 := HK7.out.fr hb8
            have tc0 : w8.cell? ⟨w7.heap.size, 0, none⟩ = some (.int .i64 0) := hk8.cell 0
            have tf0 : w8.frozen? ⟨w7.heap.size, 0, none⟩ = false := hk8.frozen 0
            have tc1 : w8.cell? ⟨w7.heap.size, 1, none⟩ = some (.string tsc) := hk8.cell 1
            have tf1 : w8.frozen? ⟨w7.heap.size, 1, none⟩ = false := hk8.frozen 1
            have tc2 : w8.cell? ⟨w7.heap.size, 2, none⟩ = some (.string tinf) := hk8.cell 2
            have tf2 : w8.frozen? ⟨w7.heap.size, 2, none⟩ = false := hk8.frozen 2
            have tc3 : w8.cell? ⟨w7.heap.size, 3, none⟩ = some (.slice A7 tnm.length c7) := hk8.cell 3
            have tf3 : w8.frozen? ⟨w7.heap.size, 3, none⟩ = false := hk8.frozen 3
            have tlt : w7.heap.size < w8.heap.size := hk8.lt
            have HB8 := Lib.hid (fr_alloc (fr_trans (fr_alloc HB7.out (.cells #[.int .i64 0, .string tsc, .string tinf, .slice A7 tnm.length c7] 29)) hb8) (.cells #[.int .i64 0, .string tsc, .string tinf, .slice A8 tnm.length c8] 29))
            have HP78 := Lib.hid (((HP7.out.fr (fr_alloc (fr_refl _) (.cells #[.int .i64 0, .string tsc, .string tinf, .slice A7 tnm.length c7] 29))).fr hb8).fr (fr_alloc (fr_refl _) (.cells #[.int .i64 0, .string tsc, .string tinf, .slice A8 tnm.length c8] 29)))
            have HP8 := Lib.hid (hp8.pairs.fr (fr_alloc (fr_refl _) (.cells #[.int .i64 0, .string tsc, .string tinf, .slice A8 tnm.length c8] 29)))
            clear hsm hp8 hb8 hk8 q0 q1 q2 q3 q4
            go_wp2_with fail
            refine (ref11_SameRoute 0 tsc tinf A7 A8 tnm.length c7 c8 tnm _ rfl HP78.out HP8.out HTZ.out).mono ?_
            rintro e w9 ⟨rfl, hb9⟩
            have HB9 := Lib.hid (fr_trans HB8.out hb9); clear hb9
            clear tc0 tc1 tc2 tc3
            go_wp2
            go_roundw
            case measure => rw [HWR.out]; exact meas hlt .i64 .i64
            case rel => exact ⟨k + 1, by omega, by rw [HWR.out]; go_num, HB9.out⟩
        · go_wp2
          go_ret
          exact ⟨rfl, HBW.out⟩
end Go.Proofs.YthjnmcciejfpcaaDoor
