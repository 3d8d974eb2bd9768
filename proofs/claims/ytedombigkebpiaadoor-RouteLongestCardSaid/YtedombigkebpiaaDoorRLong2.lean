/- conduitlaw13.RouteLongest: the walk. -/
import Derived.Test.YtedombigkebpiaaDoorRLong
import Derived.Lib.SmallJoins
namespace Go.Proofs.YtedombigkebpiaaDoor
set_option linter.unusedVariables false
set_option linter.unusedSimpArgs false
open Go.RowKit

theorem rule_info : (Tryd.prog.info? 36).map (fun i => (i.zero, i.size, i.bytes)) = some (some (.agg #[.int .i64 0, .string ⟨#[]⟩, .string ⟨#[]⟩, .int .i64 0, .slice none 0 0]), 5, 72) := by kernel_rfl
theorem Rules.own {w : World} {base e : Nat} {v : Value} {l : List RV} {n : Nat} (h : w.ownsRow base e 5 v n (rcells l)) (hn : n = l.length) : ∃ A c, v = .slice A n c ∧ Rules w A l := by
  subst hn
  rcases h.2 with ⟨rfl, h0⟩ | ⟨g, cap, cur, rfl, hb, hg, hnc, hcm, hcs, htake⟩
  · exact ⟨none, 0, by rw [h0], fun h1 => by omega⟩
  · refine ⟨_, _, rfl, fun _ => ⟨g, 0, rfl, (h.lt g rfl).2, fun k hk j v hv => ?_⟩⟩
    have := h.cells rfl _ _ (rcells_at l k hk j v hv)
    rw [add0] at this
    simpa using this
theorem rule_one (n : Nat) : ∀ u ∈ (rD n).cells, u.oneCell' = true := by
  intro u hu
  simp only [RV.cells, List.mem_cons, List.not_mem_nil, or_false] at hu
  rcases hu with rfl | rfl | rfl | rfl | rfl <;> rfl
theorem rcells_one (l : List Nat) : ∀ u ∈ rcells (l.map rD), u.oneCell' = true := by
  intro u hu
  simp only [rcells, List.mem_flatMap, List.mem_map] at hu
  obtain ⟨_, ⟨n, _, rfl⟩, hu⟩ := hu
  exact rule_one n u hu
theorem rcells_snoc (l : List Nat) (n : Nat) : rcells ((l ++ [n]).map rD) = rcells (l.map rD) ++ (rD n).cells := by simp [rcells]
theorem rcells_cons (l : List Nat) (n : Nat) : rcells ((n :: l).map rD) = (rD n).cells ++ rcells (l.map rD) := by simp [rcells]

set_option maxRecDepth 100000 in
set_option maxHeartbeats 8000000 in
theorem long_walk (x y z : Int) (k0 q : Nat) (w : World) (hm : MaxL w) (hx : x % 6 = (k0 : Int)) (hz : z % 8 = (q : Int)) (hk0 : k0 < 6) (hq : q < 8) (x0 : 0 ≤ x) (x1 : x ≤ 255) (y0 : 0 ≤ y) (y1 : y ≤ 255) (z0 : 0 ≤ z) (z1 : z ≤ 255) :
    Calls Tryd.prog 7 #[.int .u8 x, .int .u8 y, .int .u8 z] w fun e w' => e = .returned (.bool true) ∧ Below w.heap.size w w' := by
  obtain ⟨b, hbE⟩ : ∃ b : Nat → Bool, ∀ k : Nat, (bits BinOp.and IntKind.u8 (y / 2 ^ k) 1 == 1) = b k := ⟨fun k => (bits BinOp.and IntKind.u8 (y / 2 ^ k) 1 == 1), fun k => rfl⟩
  have HBE := Lib.hid hbE; clear hbE
  obtain ⟨i0, hi, hz0, hz1, hz2⟩ := info_parts rule_info
  have HM := Lib.hid hm; clear hm
  obtain ⟨kk, hkk⟩ : ∃ kk : Nat, kk = k0 + 1 := ⟨_, rfl⟩
  have hkI : (k0 : Int) + 1 = (kk : Int) := by omega
  have hkk6 : kk ≤ 6 := by omega
  have hkk1 : 1 ≤ kk := by omega
  have HLO := Lib.hid (longD b kk q hkk6 hq)
  have HFI := Lib.hid (fitsD b kk q hkk6 hq)
  clear hkk
  go_enter Tryd.func7, Tryd.ntmps7
  go_wp2_with fail
  refine (law13_known _ HM.out).mono ?_
  rintro e w1 ⟨rfl, hb1⟩
  go_wp2
  clear hx hz
  go_loopw [9, 10, 11] (fun v s i wr => ∃ j : Nat, j ≤ kk ∧ i = .int .i64 j ∧ s = .string (dS j) ∧ Below w1.heap.size w1 wr ∧ wr.ownsRow w1.heap.size 36 5 v j (rcells ((nsD b j).map rD))) (fun _ _ i _ => kk - (intOf i).toNat)
  case atStart => exact ⟨0, Nat.zero_le _, rfl, rfl, Below.refl _ _, World.ownsRow_nil _ _ _ _⟩
  case round =>
    obtain ⟨j, hj, rfl, rfl, hb, hown⟩ := hrel
    by_cases hlt : j < kk
    · have hsz := dS_size j
      have hbj := HBE.out j
      have e1 : dS (j + 1) = dS j ++ ⟨#[47, 100]⟩ := rfl
      have e3 : nsD b (j + 1) = if b j then (j + 1) :: nsD b j else nsD b j ++ [j + 1] := rfl
      have ec : (rD (j + 1)).cells = [.int .i64 3, .string ⟨#[]⟩, .string (dS (j + 1)), .int .i64 0, .slice none 0 0] := rfl
      have h1c := rule_one (j + 1)
      have h1l := rcells_one (nsD b j)
      have hln : (rcells ((nsD b j).map rD)).length = j * 5 := hown.1
      obtain ⟨sn, hsn⟩ : ∃ sn, dS (j + 1) = sn := ⟨_, rfl⟩
      rw [hsn] at ec e1
      obtain ⟨ss, hss⟩ : ∃ ss, dS j = ss := ⟨_, rfl⟩
      rw [hss] at e1 hsz
      rw [hss]
      subst e1
      rw [ec] at h1c
      have s1 : ¬ 9223372036854775807 < ss.size + 2 := by omega
      have E3 := Lib.hid e3; have HO := Lib.hid hown; have HB := Lib.hid hb; have EC := Lib.hid ec; have ES := Lib.hid hsn
      have H1 := Lib.hid h1c; have HL1 := Lib.hid h1l; have HLN := Lib.hid hln
      clear e3 hown hb ec hsn hss h1c h1l hln hsz
      cases hbv : b j
      all_goals
        rw [hbv] at hbj E3
        clear hbv
      · simp only [Bool.false_eq_true, if_false] at E3
        go_wp2_with (first
          | (at_builtin
             refine wpList_append_own _ rfl (.tmp 45) (.tmp 47) _ rfl w1.heap.size 36 i0 _ 5 72 Tryd.underlying22 hi hz0 hz1 hz2 rfl (by decide) _ _ _ rfl ((HO.out.alloc _).alloc _) ⟨wr.heap.size + 1, 0, none⟩ 1 1 [.int .i64 3, .string ⟨#[]⟩, .string (ss ++ ⟨#[47, 100]⟩), .int .i64 0, .slice none 0 0] rfl rfl ?cc H1.out (by simp only [maxLen]; omega) (by omega) (Nat.le_trans HB.out.size (by simp; omega)) ?_
             rotate_left 1
             intro v2 w3 hown2 hg2 _))
        case cc => exact fun jj u h => by have := new_cells (wr.alloc (.cells #[.int .i64 3, .string ⟨#[]⟩, .string (ss ++ ⟨#[47, 100]⟩), .int .i64 0, .slice none 0 0] 36)) [.int .i64 3, .string ⟨#[]⟩, .string (ss ++ ⟨#[47, 100]⟩), .int .i64 0, .slice none 0 0] 36 jj u h; simpa using this
        go_roundw
        case measure => exact meas hlt .i64 .i64
        case rel =>
          refine ⟨j + 1, by omega, by go_num, by rw [ES.out], fr_grown (fr_alloc (fr_alloc HB.out _) _) hg2 (own_ge HO.out), ?_⟩
          rw [E3.out, rcells_snoc, EC.out]
          exact hown2
      · simp only [if_true] at E3
        have hlit : ((wr.alloc (.cells #[.int .i64 3, .string ⟨#[]⟩, .string (ss ++ ⟨#[47, 100]⟩), .int .i64 0, .slice none 0 0] 36)).alloc (.cells #[.int .i64 3, .string ⟨#[]⟩, .string (ss ++ ⟨#[47, 100]⟩), .int .i64 0, .slice none 0 0] 36)).ownsRow w1.heap.size 36 5 (.slice (some ⟨wr.heap.size + 1, 0, none⟩) 1 1) 1 [.int .i64 3, .string ⟨#[]⟩, .string (ss ++ ⟨#[47, 100]⟩), .int .i64 0, .slice none 0 0] := by
          have := World.ownsRow_lit (base := w1.heap.size) (e := 36) (size := 5) (wr.alloc (.cells #[.int .i64 3, .string ⟨#[]⟩, .string (ss ++ ⟨#[47, 100]⟩), .int .i64 0, .slice none 0 0] 36)) #[.int .i64 3, .string ⟨#[]⟩, .string (ss ++ ⟨#[47, 100]⟩), .int .i64 0, .slice none 0 0] 1 (Nat.le_trans HB.out.size (by simp)) (by decide) rfl
          simpa using this
        have HLIT := Lib.hid hlit
        clear hlit
        rcases HO.out.2 with ⟨rfl, hj0⟩ | ⟨g, cap, cur, rfl, -⟩
        · have HJ0 := Lib.hid hj0
          clear hj0
          go_wp2_with (first
            | (at_builtin
               refine wpList_append_own_none rfl (.tmp 42) (.tmp 43) _ rfl w1.heap.size 36 i0 5 Tryd.underlying22 hi _ _ _ rfl HLIT.out rfl ?_))
          go_roundw
          case measure => exact meas hlt .i64 .i64
          case rel =>
            refine ⟨j + 1, by omega, by go_num, by rw [ES.out], fr_alloc (fr_alloc HB.out _) _, ?_⟩
            rw [E3.out, rcells_cons, EC.out]
            have hj0 := HJ0.out
            subst hj0
            exact HLIT.out
        · have hnews := ((HO.out.alloc (.cells #[.int .i64 3, .string ⟨#[]⟩, .string (ss ++ ⟨#[47, 100]⟩), .int .i64 0, .slice none 0 0] 36)).alloc (.cells #[.int .i64 3, .string ⟨#[]⟩, .string (ss ++ ⟨#[47, 100]⟩), .int .i64 0, .slice none 0 0] 36)).cells (g := g) rfl
          have HNE := Lib.hid hnews
          clear hnews
          go_wp2_with (first
            | (at_builtin
               refine wpList_append_own _ rfl (.tmp 42) (.tmp 43) _ rfl w1.heap.size 36 i0 _ 5 72 Tryd.underlying22 hi hz0 hz1 hz2 rfl (by decide) _ _ _ rfl HLIT.out ⟨g, 0, none⟩ j cap _ rfl HLN.out HNE.out HL1.out (by simp only [maxLen]; omega) (by omega) (Nat.le_trans HB.out.size (by simp; omega)) ?_
               intro v2 w3 hown2 hg2 _))
          go_roundw
          case measure => exact meas hlt .i64 .i64
          case rel =>
            refine ⟨j + 1, by omega, by go_num, by rw [ES.out], fr_grown (fr_alloc (fr_alloc HB.out _) _) hg2 (own_ge HLIT.out), ?_⟩
            rw [E3.out, rcells_cons, EC.out, Nat.add_comm j 1]
            exact hown2
    · obtain rfl : j = kk := by omega
      obtain ⟨A, cw, rfl, hR⟩ := Rules.own hown (by rw [List.length_map, nsD_len])
      have hln : ((nsD b j).map rD).length = j := by rw [List.length_map, nsD_len]
      obtain ⟨rl, hrl⟩ : ∃ rl, (nsD b j).map rD = rl := ⟨_, rfl⟩
      rw [hrl] at HLO HFI hR hln
      obtain ⟨wa, hwa⟩ : ∃ wa, wa = wr := ⟨_, rfl⟩
      subst hwa
      have HW := Lib.hid (fr_trans hb1 hb); have HR := Lib.hid hR; have HLN := Lib.hid hln
      have hdz := dS_size j
      obtain ⟨sj, hsj⟩ : ∃ sj, dS j = sj := ⟨_, rfl⟩
      rw [hsj]
      clear hown hrl hb hR hb1 HBE hkI hj hlt hln hdz hsj
      go_wp2
      go_loopw [13, 14] (fun p i w2 => ∃ k : Nat, k ≤ q ∧ i = .int .i64 k ∧ p = .string (dS k) ∧ wa = w2) (fun _ i _ => q - (intOf i).toNat)
      case atStart => exact ⟨0, Nat.zero_le _, rfl, rfl, rfl⟩
      case round =>
        obtain ⟨k, hk, rfl, rfl, rfl⟩ := hrel
        have zs := dS_size k
        by_cases hlt2 : k < q
        · have e4 : dS (k + 1) = dS k ++ ⟨#[47, 100]⟩ := rfl
          have s1 : ¬ 9223372036854775807 < (dS k).size + 2 := by omega
          obtain ⟨zz, hzz⟩ : ∃ zz, dS k = zz := ⟨_, rfl⟩
          rw [hzz] at e4 s1
          rw [hzz]
          have E4 := Lib.hid e4
          clear e4 hzz zs
          go_wp2_with fail
          go_roundw
          case measure => exact meas hlt2 .i64 .i64
          case rel => exact ⟨k + 1, by omega, by go_num, by rw [E4.out], trivial⟩
        · obtain rfl : k = q := by omega
          have hlo := HLO.out
          have hps := pD_size k
          by_cases hk0 : k = 0
          · subst hk0
            have hmin : min j 0 = 0 := by omega
            have hcs : chooseS rl ⟨#[97, 110, 121]⟩ ⟨#[47]⟩ = ⟨0, ⟨#[]⟩, ⟨#[]⟩, [], 0, 0⟩ := by rw [hmin] at hlo; exact hlo.1 rfl
            have HCS := Lib.hid hcs
            clear hcs hlo hps hmin zs HLO hlt2 hk
            rw [show dS 0 = ⟨#[]⟩ from rfl]
            go_wp2_with fail
            refine (choose_at 0 false _ _ j rl ⟨#[97, 110, 121]⟩ ⟨#[47]⟩ _ HCS.out rfl rfl HLN.out (HM.out.fr HW.out) HR.out HFI.out (by rw [HLN.out]; omega) (by decide)).mono ?_
            rintro e w3 ⟨⟨A3, c3, rfl, -⟩, hb3⟩
            have HB3 := Lib.hid (fr_trans HW.out hb3)
            clear hb3
            go_wp2
            go_ret
            exact ⟨rfl, fr_alloc HB3.out _⟩
          · have hp : pD k = dS k := by unfold pD; rw [if_neg hk0]
            rw [hp] at hlo HFI
            obtain ⟨M, hM⟩ : ∃ M, min j k = M := ⟨_, rfl⟩
            rw [hM] at hlo
            obtain ⟨hd, hmo, hsc, hif, hnm⟩ := hlo.2 (by omega)
            obtain ⟨bb, hbb⟩ : ∃ bb, chooseS rl ⟨#[97, 110, 121]⟩ (dS k) = bb := ⟨_, rfl⟩
            rw [hbb] at hd hmo hsc hif hnm
            obtain ⟨ru, sc, inf, nm, kd, ms⟩ := bb
            simp only at hd hmo hsc hif hnm
            have hss : sc.size = 2 * M := by rw [hsc, dS_size]; omega
            obtain ⟨zz, hzz⟩ : ∃ zz, dS k = zz := ⟨_, rfl⟩
            rw [hzz] at hbb HFI zs
            rw [hzz]
            have hze : (zz.toList == ([] : List UInt8)) = false := by
              cases hh : (zz.toList == ([] : List UInt8)) with
              | false => rfl
              | true =>
                have h0 : zz.toList = [] := beq_iff_eq.1 hh
                rw [toList_L] at h0
                have h1 : (L zz).length = 0 := by rw [h0]; rfl
                rw [L_len] at h1
                omega
            have hk0' : ((k : Int) == 0) = false := by simp; omega
            have HCS := Lib.hid hbb; have HZ := Lib.hid zs; have HS := Lib.hid hss; have HI := Lib.hid hif
            clear hbb hlo hps zs HLO hlt2 hk hp hzz hss hif hsc hmo
            subst hd hnm
            go_wp2_with fail
            refine (choose_at 0 true _ _ j rl ⟨#[97, 110, 121]⟩ zz _ HCS.out rfl rfl HLN.out (HM.out.fr HW.out) HR.out HFI.out (by rw [HLN.out]; omega) (by decide)).mono ?_
            rintro e w3 ⟨⟨A3, c3, rfl, -⟩, hb3⟩
            have HB3 := Lib.hid (fr_trans HW.out hb3)
            clear hb3
            have hmn : min (j : Int) (k : Int) = (M : Int) := by omega
            have hss : (sc.size : Int) = 2 * (M : Int) := by have := HS.out; omega
            have hii : (zz.size : Int) - 2 * (M : Int) = (inf.size : Int) := by have := HS.out; have := HI.out; have := HZ.out; omega
            have hM6 : M ≤ 6 := by omega
            have hz9 : zz.size ≤ 14 := by have := HZ.out; omega
            clear hM
            go_wp2
            go_ret
            exact ⟨by simp, fr_alloc HB3.out _⟩
theorem law13_longest (x y z : Int) (w : World) (hm : MaxL w) (x0 : 0 ≤ x) (x1 : x ≤ 255) (y0 : 0 ≤ y) (y1 : y ≤ 255) (z0 : 0 ≤ z) (z1 : z ≤ 255) :
    Calls Tryd.prog 7 #[.int .u8 x, .int .u8 y, .int .u8 z] w fun e w' => e = .returned (.bool true) ∧ Below w.heap.size w w' :=
  long_walk x y z (x % 6).toNat (z % 8).toNat w hm (by omega) (by omega) (by omega) (by omega) x0 x1 y0 y1 z0 z1
end Go.Proofs.YtedombigkebpiaaDoor
