/- conduitlaw6.FieldBack: no fields at all, behind an address. -/
import Derived.Test.YtdagppbpeibdgaaDoorFK2
namespace Go.Proofs.YtdagppbpeibdgaaDoor
set_option linter.unusedVariables false
set_option linter.unusedSimpArgs false
open Go.RowKit

set_option maxRecDepth 100000 in
set_option maxHeartbeats 8000000 in
theorem back_nil_some (ad : Addr) (c k : Nat) (l : List Pr) (n v : ByteArray) (x y : Int) (i j : Nat) (w : World) (hm : MaxL w) (hk : l.length = k) (hp : Pairs w (some ad) l) (hs : ∀ p ∈ l, p.1.size ≤ 9223372036854775807) (hok : fieldOk n v = true) (hk20 : k ≤ 20) (hkz : k = 0)
    (hx : x % 5 = (i : Int)) (hy : y % 5 = (j : Int)) (hi : i < 5) (hj : j < 5) (x0 : 0 ≤ x) (x1 : x ≤ 255) (y0 : 0 ≤ y) (y1 : y ≤ 255) :
    Calls Tryd.prog 3 #[.agg #[.string n, .string v], .slice (some ad) k c, .int .u8 x, .int .u8 y] w fun e w' => e = .returned (.bool true) ∧ Below w.heap.size w w' := by
  obtain ⟨h1, h2, h3, h4⟩ := fieldOk_parts hok
  have hn64 : n.size ≤ 64 := by
    unfold nameE at h1; rw [h4] at h1
    rcases Nat.lt_or_ge 64 n.size with h | h
    · rw [if_neg (by decide), if_pos h] at h1; cases h1
    · exact h
  have hv512 : v.size ≤ 512 := by
    unfold valE at h2
    rcases Nat.lt_or_ge 512 v.size with h | h
    · rw [if_pos h] at h2
      split at h2 <;> cases h2
    · exact h
  have hb1 := back_one hok i j
  have hb2 := back_two hok
  have hsz := oneLine_size n v
  obtain ⟨ls, hls⟩ : ∃ ls, oneLine n v = ls := ⟨_, rfl⟩
  have hlines := fun g c W hp => lines_one g c n v W hp (by omega) (by omega)
  rw [hls] at hb2 hsz hlines
  have hdrop : dropL (l ++ [(n, v)]) n = dropL l n := drop_snoc_same l n v
  have hgd := get_drop l n
  have hdl := drop_len n l
  obtain ⟨ds, hds⟩ : ∃ d, dropL l n = d := ⟨_, rfl⟩
  obtain ⟨vs, hvs⟩ : ∃ d, getS l n = d := ⟨_, rfl⟩
  rw [hds] at hdrop hgd hdl
  rw [hvs] at hdl
  obtain ⟨q, hq⟩ : ∃ q, ds.length = q := ⟨_, rfl⟩
  obtain ⟨m, hmm⟩ : ∃ m, vs.length = m := ⟨_, rfl⟩
  rw [hq, hmm, hk] at hdl
  have HM := Lib.hid hm; have HK := Lib.hid hk; have HP := Lib.hid hp; have HS := Lib.hid hs; have HOK := Lib.hid hok; have HB1 := Lib.hid hb1; have HB2 := Lib.hid hb2; have HLI := Lib.hid hlines
  have HDR := Lib.hid hdrop; have HGD := Lib.hid hgd; have HDL := Lib.hid hdl; have HDS := Lib.hid hds; have HVS := Lib.hid hvs; have HQ := Lib.hid hq; have HMM := Lib.hid hmm
  have HZN := Lib.hid hn64; have HZV := Lib.hid hv512; have HZL := Lib.hid hsz; have HK20 := Lib.hid hk20
  have z1 : n.size ≤ 9223372036854775807 := by omega
  have z2 : v.size ≤ 9223372036854775807 := by omega
  have HZ1 := Lib.hid z1; have HZ2 := Lib.hid z2
  have k20 : ¬ (20 : Int) < (k : Int) := by omega
  have hf0 := fr_alloc (fr_refl w) (.cells #[.string n, .string v] 23)
  have HX0 := Lib.hid (Box.new w [.string n, .string v] 23)
  have H0 := Lib.hid hf0
  clear hm hk hp hs hok hb1 hb2 hlines hdrop hgd hdl hds hvs hq hmm hn64 hv512 hsz hls h1 h2 h3 h4 hf0 z1 z2 hk20
  go_enter Tryd.func3, Tryd.ntmps3
  go_wp2_with fail
  refine (law6_known _ (HM.out.fr H0.out)).mono ?_
  rintro e w1 ⟨rfl, hb1⟩
  have hx1 := HX0.out.fr hb1
  have ac0 : w1.cell? ⟨w.heap.size, 0, none⟩ = some (.string n) := hx1.2 0 _ rfl
  have ac1 : w1.cell? ⟨w.heap.size, 1, none⟩ = some (.string v) := hx1.2 1 _ rfl
  have alt : w.heap.size < w1.heap.size := hx1.1
  have HX1 := Lib.hid hx1; have H1 := Lib.hid (fr_trans H0.out hb1)
  clear hb1 hx1
  go_wp2_with fail
  refine (is_at6 n v true _ HOK.out HZ1.out HZ2.out).mono ?_
  rintro e w2 ⟨rfl, hb2⟩
  have hx2 := HX1.out.fr hb2
  have ac0 : w2.cell? ⟨w.heap.size, 0, none⟩ = some (.string n) := hx2.2 0 _ rfl
  have ac1 : w2.cell? ⟨w.heap.size, 1, none⟩ = some (.string v) := hx2.2 1 _ rfl
  have alt : w.heap.size < w2.heap.size := hx2.1
  have HX2 := Lib.hid hx2; have H2 := Lib.hid (fr_trans H1.out hb2)
  have HPP := Lib.hid (Pairs.new w2 [(n, v)] 23)
  have HX2a := Lib.hid (hx2.fr (fr_alloc (fr_refl w2) (.cells #[.string n, .string v] 23)))
  have H2a := Lib.hid (fr_alloc H2.out (.cells #[.string n, .string v] 23))
  clear hb2 hx2
  go_wp2_with fail
  refine (HLI.out w2.heap.size 1 _ HPP.out).mono ?_
  rintro e w3 ⟨rfl, hb3⟩
  have HX3 := Lib.hid (HX2a.out.fr hb3); have H3 := Lib.hid (fr_trans H2a.out hb3)
  clear hb3
  go_wp2
  go_loop [10, 12] (fun s q => ∃ k2 : Nat, k2 ≤ i ∧ q = .int .i64 k2 ∧ s = .string (padB 32 k2)) (fun _ q => i - (intOf q).toNat)
  case atStart => exact ⟨0, Nat.zero_le _, rfl, rfl⟩
  case round =>
    obtain ⟨k2, hk2, rfl, rfl⟩ := hrel
    by_cases hlt : k2 < i
    · have hz := padB_size 32 k2
      have hs := padB_sp k2
      obtain ⟨u, hu⟩ : ∃ u, padB 32 k2 = u := ⟨_, rfl⟩
      rw [hu] at hz hs ⊢
      have hzz : ¬ 9223372036854775807 < u.size + 1 := by omega
      have HSS := Lib.hid hs; clear hs hu hz
      go_wp2
      go_round
      case measure => exact meas hlt .i64 .i64
      case rel => exact ⟨k2 + 1, by omega, by go_num, by rw [HSS.out]⟩
    · obtain rfl : k2 = i := by omega
      go_wp2
      go_loop [11, 13] (fun s q => ∃ k3 : Nat, k3 ≤ j ∧ q = .int .i64 k3 ∧ s = .string (padB 9 k3)) (fun _ q => j - (intOf q).toNat)
      case atStart => exact ⟨0, Nat.zero_le _, rfl, rfl⟩
      case round =>
        obtain ⟨k3, hk3, rfl, rfl⟩ := hrel
        by_cases hlt2 : k3 < j
        · have hz := padB_size 9 k3
          have hs := padB_tab k3
          obtain ⟨u, hu⟩ : ∃ u, padB 9 k3 = u := ⟨_, rfl⟩
          rw [hu] at hz hs ⊢
          have hzz : ¬ 9223372036854775807 < u.size + 1 := by omega
          have HSS := Lib.hid hs; clear hs hu hz
          go_wp2
          go_round
          case measure => exact meas hlt2 .i64 .i64
          case rel => exact ⟨k3 + 1, by omega, by go_num, by rw [HSS.out]⟩
        · obtain rfl : k3 = j := by omega
          have hz1 := padB_size 32 k2
          have hz2 := padB_size 9 k3
          have hz3 := HZN.out
          have hz4 := HZV.out
          have HB1' := Lib.hid HB1.out
          obtain ⟨u1, hu1⟩ : ∃ u, padB 32 k2 = u := ⟨_, rfl⟩
          obtain ⟨u2, hu2⟩ : ∃ u, padB 9 k3 = u := ⟨_, rfl⟩
          rw [hu1] at hz1 HB1'; rw [hu2] at hz2 HB1'
          rw [hu1, hu2]
          have s1 : ¬ 9223372036854775807 < n.size + 1 := by omega
          have s2 : ¬ 9223372036854775807 < n.size + 1 + u1.size := by omega
          have s3 : ¬ 9223372036854775807 < n.size + 1 + u1.size + v.size := by omega
          have s4 : ¬ 9223372036854775807 < n.size + 1 + u1.size + v.size + u2.size := by omega
          have hlz : (n ++ ⟨#[58]⟩ ++ u1 ++ v ++ u2).size ≤ 1000000000 := by simp only [size_app]; show n.size + 1 + u1.size + v.size + u2.size ≤ _; omega
          have HLZ := Lib.hid hlz
          have hx3 := HX3.out
          have ac0 : w3.cell? ⟨w.heap.size, 0, none⟩ = some (.string n) := hx3.2 0 _ rfl
          have ac1 : w3.cell? ⟨w.heap.size, 1, none⟩ = some (.string v) := hx3.2 1 _ rfl
          have alt : w.heap.size < w3.heap.size := hx3.1
          clear hz1 hz2 hz3 hz4 hlz hu1 hu2 hx3
          go_wp2_with fail
          refine (parse_at _ _ _ HB1'.out HLZ.out).mono ?_
          rintro e w4 ⟨rfl, hb4⟩
          unfold parseR
          rw [show errV 0 = .nilIface from rfl]
          have HXA4 := Lib.hid ((HX3.out.fr hb4).fr (fr_alloc (fr_refl w4) (.cells #[.string n, .string v] 23)))
          have HXB4 := Lib.hid (Box.new w4 [.string n, .string v] 23)
          have H4 := Lib.hid (fr_alloc (fr_trans H3.out hb4) (.cells #[.string n, .string v] 23))
          clear hb4 ac0 ac1 alt s1 s2 s3 s4
          have hzl := HZL.out
          have t1 : ¬ (ls.size : Int) < 2 := by omega
          have t2 : ((ls.size : Int) - 2).toNat = ls.size - 2 := by omega
          have t3 : 0 ≤ (ls.size : Int) - 2 := by omega
          have t4 : (ls.size : Int) - 2 ≤ (ls.size : Int) := by omega
          have t5 : IntKind.i64.wrap ((ls.size : Int) - 2) = (ls.size : Int) - 2 := IntWalk.i64_in _ (by have := HZN.out; have := HZV.out; omega)
          have hl2 : (ls.extract 0 (ls.size - 2)).size ≤ 1000000000 := by rw [ByteArray.size_extract]; have := HZN.out; have := HZV.out; omega
          have HL2 := Lib.hid hl2
          clear hzl hl2
          go_wp2_with fail
          refine (parse_at _ _ _ HB2.out HL2.out).mono ?_
          rintro e w5 ⟨rfl, hb5⟩
          unfold parseR
          rw [show errV 0 = .nilIface from rfl]
          have hXA := (HXA4.out.fr hb5).fr (fr_alloc (fr_refl w5) (.cells #[.string n, .string v] 23))
          have hXB := (HXB4.out.fr hb5).fr (fr_alloc (fr_refl w5) (.cells #[.string n, .string v] 23))
          have hXC := Box.new w5 [.string n, .string v] 23
          have h5 := fr_alloc (fr_trans H4.out hb5) (.cells #[.string n, .string v] 23)
          have hwp := HP.out.fr h5
          clear hb5 t1 t2 t3 t4 t5
          obtain ⟨W, hW⟩ : ∃ W, w5.alloc (.cells #[.string n, .string v] 23) = W := ⟨_, rfl⟩
          rw [hW] at hXA hXB hXC h5 hwp
          obtain ⟨g5, hg5⟩ : ∃ g, w5.heap.size = g := ⟨_, rfl⟩
          rw [hg5] at hXC
          obtain ⟨g4, hg4⟩ : ∃ g, w4.heap.size = g := ⟨_, rfl⟩
          rw [hg4] at hXB
          have HXA := Lib.hid hXA; have HXB := Lib.hid hXB; have HXC := Lib.hid hXC; have H5 := Lib.hid h5; have HPW := Lib.hid hwp
          have ac0 : W.cell? ⟨w.heap.size, 0, none⟩ = some (.string n) := hXA.2 0 _ rfl
          have ac1 : W.cell? ⟨w.heap.size, 1, none⟩ = some (.string v) := hXA.2 1 _ rfl
          have alt : w.heap.size < W.heap.size := hXA.1
          clear hXA hXB hXC h5 hwp
          obtain ⟨i0, hi0, hz0, hz1, hz2⟩ := info_parts pair_info
          have hwg : w.heap.size < W.heap.size := alt
          have ad0 : W.drew.cell? ⟨w.heap.size, 0, none⟩ = some (.string n) := ac0
          have ad1 : W.drew.cell? ⟨w.heap.size, 1, none⟩ = some (.string v) := ac1
          have hk20 := HK20.out
          · have hk00 := hkz
            subst hk00
            have hl0 : l = [] := List.eq_nil_of_length_eq_zero HK.out
            subst hl0
            have hqm := HDL.out
            obtain rfl : q = 0 := by omega
            obtain rfl : m = 0 := by omega
            clear hqm
            have hss : ∀ p ∈ ([] : List Pr) ++ [(n, v)], p.1.size ≤ 9223372036854775807 := fun p hp => by
              rw [List.mem_singleton.1 hp]; exact HZ1.out
            have HSS := Lib.hid hss
            clear hss
            have bd0 : (W.alloc (.cells #[.string n, .string v] 23)).drew.cell? ⟨w.heap.size, 0, none⟩ = some (.string n) := fr_cell (fr_drew (fr_alloc (fr_refl W) _)) ac0
            have bd1 : (W.alloc (.cells #[.string n, .string v] 23)).drew.cell? ⟨w.heap.size, 1, none⟩ = some (.string v) := fr_cell (fr_drew (fr_alloc (fr_refl W) _)) ac1
            have hnw : (W.alloc (.cells #[.string n, .string v] 23)).drew.cell? ⟨W.heap.size, 0, none⟩ = some (.string n) ∧ (W.alloc (.cells #[.string n, .string v] 23)).drew.cell? ⟨W.heap.size, 1, none⟩ = some (.string v) := ⟨(Box.new W [.string n, .string v] 23).2 0 _ rfl, (Box.new W [.string n, .string v] 23).2 1 _ rfl⟩
            all_goals
             go_wp2_with fail
             go_region_law (first
               | (refine step_append_lies _ (by rfl) _ _ _ (by rfl) W.heap.size 23 i0 _ 2 32 Tryd.underlying24 hi0 hz0 hz1 hz2 rfl (by omega) (.slice none 0 0) 0 [] (by rfl) (World.ownsRow_nil _ _ _ _) ⟨W.heap.size, 0, none⟩ 1 1 [.string n, .string v] (by rfl) (by rfl) (pair_news hnw.1 hnw.2) (by simp [Value.oneCell']) (by omega) (by simp only [maxLen]; omega) (by omega) (by simp) _ rfl ?_; intro gb cb wB hownB hgB hatB hltB; have hbB : Below W.heap.size W wB := fr_grown (fr_drew (fr_alloc (fr_refl W) (.cells #[.string n, .string v] 23))) hgB (fun k hk => by cases hk); have q0 := fr_cell hbB ac0; have q1 := fr_cell hbB ac1; have hPB : Pairs wB (some ⟨gb, 0, none⟩) (([] : List Pr) ++ [(n, v)]) := own_pairs hownB)
               | (go_simp; go_at_call 17; refine (drop_sl6 (some ⟨gb, 0, none⟩) cb 1 (([] : List Pr) ++ [(n, v)]) n ds 0 _ HDR.out HQ.out rfl (by decide) hPB HZ1.out HSS.out).mono ?_; rintro e wD ⟨⟨AD, cD, rfl, hPD⟩, hbD⟩))
             all_goals
               have H6 := Lib.hid (fr_trans (fr_trans H5.out hbB) hbD)
               have HP6 := Lib.hid (HPW.out.fr (fr_trans hbB hbD))
               have hDP := Lib.hid hPD
               have xa := (HXA.out.fr hbB).fr hbD
               have xb := (HXB.out.fr hbB).fr hbD
               have xc := (HXC.out.fr hbB).fr hbD
               have a60 := xa.2 0 _ rfl
               have a61 := xa.2 1 _ rfl
               have b60 := xb.2 0 _ rfl
               have b61 := xb.2 1 _ rfl
               have c60 := xc.2 0 _ rfl
               have c61 := xc.2 1 _ rfl
               have en : (n.toList == n.toList) = true := by simp
               have ev : (v.toList == v.toList) = true := by simp
               have ew : IntKind.i64.wrap (((0 : Nat) : Int) - ((0 : Nat) : Int)) = ((0 : Nat) : Int) := by rw [show ((0 : Nat) : Int) - ((0 : Nat) : Int) = ((0 : Nat) : Int) by omega]; exact IntWalk.i64_in _ (by omega)
               have eq1 : (((0 : Nat) : Int) == ((0 : Nat) : Int)) = true := by simp
               have HQ9 := Lib.hid (show 0 ≤ 4398046511103 by omega)
               clear xa xb xc
               go_wp2_with fail
               refine (get_at AD cD 0 ds n [] 0 _ HGD.out rfl HQ.out HQ9.out hDP.out HZ1.out (fun p hp => by rw [← HDS.out] at hp; exact HS.out p (List.mem_filter.1 (show p ∈ ([] : List Pr).filter (keep n) from hp)).1)).mono ?_
               rintro e w7 ⟨⟨A7, c7, rfl, hS7⟩, hb7⟩
               have H7 := Lib.hid (fr_trans H6.out hb7); have HP7 := Lib.hid (HP6.out.fr hb7)
               have a70 := fr_cell hb7 a60
               clear hb7 hS7
               go_wp2_with fail
               refine (get_at _ c 0 [] n vs 0 _ HVS.out HMM.out HK.out (by omega) HP7.out HZ1.out HS.out).mono ?_
               rintro e w8 ⟨⟨A8, c8, rfl, hS8⟩, hb8⟩
               have H8 := Lib.hid (fr_trans H7.out hb8)
               clear hb8 hS8
               go_wp2
               go_ret
               exact ⟨by first | rfl | simp, H8.out⟩
end Go.Proofs.YtdagppbpeibdgaaDoor
