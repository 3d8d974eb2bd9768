/- conduitlaw13.RouteNames: the walk. -/
import Derived.Test.YtedombigkebpiaaDoorRNames
namespace Go.Proofs.YtedombigkebpiaaDoor
set_option linter.unusedVariables false
set_option linter.unusedSimpArgs false
open Go.RowKit

theorem str_info : (Tryd.prog.info? 9).map (fun i => (i.zero, i.size, i.bytes)) = some (some (.string ⟨#[]⟩), 1, 16) := by kernel_rfl
theorem ltr_size (j : Nat) : (ltr j).size = 1 := rfl
theorem nW_size (b : Nat → Bool) : ∀ k, ∀ x ∈ nW b k, x.size = 1
  | 0, x, h => by simp [nW] at h
  | k + 1, x, h => by
    have ih := nW_size b k
    unfold nW at h
    split at h
    · rcases List.mem_append.1 h with h | h
      · exact ih x h
      · rw [List.mem_singleton.1 h]; exact ltr_size k
    · exact ih x h
theorem match_no (k : Int) (h0 rp : ByteArray) (b0 : Int) (wA : Option Addr) (wn wc : Nat) (p : ByteArray) (w : World) (h : matchS k rp p = none) (hm : MaxL w) (hf : FitsR rp p k) :
    Calls Tryd.prog 15 #[.agg #[.int .i64 k, .string h0, .string rp, .int .i64 b0, .slice wA wn wc], .string p] w fun e w' => (∃ A c, e = .returned (.tuple #[.agg #[.int .i64 0, .string ⟨#[]⟩, .string ⟨#[]⟩, .slice A 0 c], .bool false])) ∧ Below w.heap.size w w' := by
  have h1 := route_Match k h0 rp b0 wA wn wc p w hm hf
  rw [h] at h1
  exact h1.mono fun e w' ⟨⟨A, c, he, _⟩, hb⟩ => ⟨⟨A, c, he⟩, hb⟩
set_option maxRecDepth 100000 in
set_option maxHeartbeats 8000000 in
theorem names_walk (x y z : Int) (k0 q : Nat) (w : World) (hm : MaxL w) (hx : x % 6 = (k0 : Int)) (hz : z % 3 = (q : Int)) (hk0 : k0 < 6) (hq : q < 3) (x0 : 0 ≤ x) (x1 : x ≤ 255) (y0 : 0 ≤ y) (y1 : y ≤ 65535) (z0 : 0 ≤ z) (z1 : z ≤ 255) :
    Calls Tryd.prog 6 #[.int .u8 x, .int .u16 y, .int .u8 z] w fun e w' => e = .returned (.bool true) ∧ Below w.heap.size w w' := by
  obtain ⟨b, hbE⟩ : ∃ b : Nat → Bool, ∀ k : Nat, (bits BinOp.and IntKind.u16 (y / 2 ^ k) 1 == 1) = b k := ⟨fun k => (bits BinOp.and IntKind.u16 (y / 2 ^ k) 1 == 1), fun k => rfl⟩
  have HBE := Lib.hid hbE; clear hbE
  obtain ⟨i0, hi, hz0, hz1, hz2⟩ := info_parts str_info
  have HM := Lib.hid hm; clear hm
  have HONE := Lib.hid (nOne b k0 q hk0 hq)
  obtain ⟨kk, hkk⟩ : ∃ kk : Nat, kk = k0 + 1 := ⟨_, rfl⟩
  have hkI : (k0 : Int) + 1 = (kk : Int) := by omega
  rw [← hkk] at HONE
  have hkk6 : kk ≤ 6 := by omega
  clear hkk
  go_enter Tryd.func6, Tryd.ntmps6
  go_wp2_with fail
  refine (law13_known _ HM.out).mono ?_
  rintro e w1 ⟨rfl, hb1⟩
  go_wp2
  clear hx
  go_loopw [8, 9, 10, 11] (fun s p v i wr => ∃ j : Nat, j ≤ kk ∧ i = .int .i64 j ∧ s = .string (nS b j) ∧ p = .string (nP b j) ∧ Below w1.heap.size w1 wr ∧ wr.ownsRow w1.heap.size 9 1 v (nW b j).length (scells (nW b j))) (fun _ _ _ i _ => kk - (intOf i).toNat)
  case atStart => exact ⟨0, Nat.zero_le _, rfl, rfl, rfl, Below.refl _ _, World.ownsRow_nil _ _ _ _⟩
  case round =>
    obtain ⟨j, hj, rfl, rfl, rfl, hb, hown⟩ := hrel
    by_cases hlt : j < kk
    · have hsz := nS_size b j
      have hpz := nP_size b j
      have hwl := nW_len b j
      have hbj := HBE.out j
      have e1 : nS b (j + 1) = if b j then nS b j ++ ⟨#[47, 58]⟩ ++ ltr j else nS b j ++ ⟨#[47]⟩ ++ ltr j := rfl
      have e2 : nP b (j + 1) = if b j then nP b j ++ ⟨#[47, 118]⟩ ++ ltr j else nP b j ++ ⟨#[47]⟩ ++ ltr j := rfl
      have e3 : nW b (j + 1) = if b j then nW b j ++ [ltr j] else nW b j := rfl
      have hzz : (⟨#[UInt8.ofNat ((97 + (j : Int)).toNat)]⟩ : ByteArray) = ltr j := by unfold ltr; rw [show ((97 : Int) + (j : Int)).toNat = 97 + j by omega]
      have hcv : ∀ (W : World) (g : Nat), W.cell? ⟨g, 0, none⟩ = some (.int .u8 (97 + (j : Int))) → (convert 43 9 (.slice (some ⟨g, 0, none⟩) 1 1)).run Tryd.prog W = .ok (.string (ltr j)) W := fun W g h => by
        rw [← hzz]; exact conv1 W g (97 + (j : Int)) _ _ _ 1 Tryd.underlying43 Tryd.underlying5 Tryd.underlying9 h
      have hcn : ∀ W : World, (convert 43 9 (.slice (some ⟨W.heap.size, 0, none⟩) 1 1)).run Tryd.prog (W.alloc (.cells #[.int .u8 (97 + (j : Int))] 5)) = .ok (.string (ltr j)) (W.alloc (.cells #[.int .u8 (97 + (j : Int))] 5)) := fun W => hcv _ _ (by rw [World.cell?_alloc_mark]; rfl)
      have lz := ltr_size j
      obtain ⟨lj, hlj⟩ : ∃ lj, ltr j = lj := ⟨_, rfl⟩
      obtain ⟨ss, hss⟩ : ∃ ss, nS b j = ss := ⟨_, rfl⟩
      obtain ⟨pp, hpp⟩ : ∃ pp, nP b j = pp := ⟨_, rfl⟩
      obtain ⟨ww, hww⟩ : ∃ ww, nW b j = ww := ⟨_, rfl⟩
      rw [hlj] at e1 e2 e3 hcv hcn lz
      rw [hss] at e1 hsz
      rw [hpp] at e2 hpz
      rw [hww] at e3 hwl hown
      rw [hss, hpp]
      have s1 : ¬ 9223372036854775807 < ss.size + 2 := by omega
      have s2 : ¬ 9223372036854775807 < ss.size + 2 + lj.size := by omega
      have s3 : ¬ 9223372036854775807 < pp.size + 2 := by omega
      have s4 : ¬ 9223372036854775807 < pp.size + 2 + lj.size := by omega
      have s5 : ¬ 9223372036854775807 < ss.size + 1 := by omega
      have s6 : ¬ 9223372036854775807 < ss.size + 1 + lj.size := by omega
      have s7 : ¬ 9223372036854775807 < pp.size + 1 := by omega
      have s8 : ¬ 9223372036854775807 < pp.size + 1 + lj.size := by omega
      have E1 := Lib.hid e1; have E2 := Lib.hid e2; have E3 := Lib.hid e3; have HO := Lib.hid hown; have HB := Lib.hid hb
      clear e1 e2 e3 hown hb hlj hss hpp hww hzz hsz hpz lz hcv
      cases hbv : b j
      all_goals
        rw [hbv] at hbj E1 E2 E3
        clear hbv
      · simp only [Bool.false_eq_true, if_false] at E1 E2 E3
        go_wp2_with fail
        go_roundw
        case measure => exact meas hlt .i64 .i64
        case rel => exact ⟨j + 1, by omega, by go_num, by rw [E1.out], by rw [E2.out], fr_alloc HB.out _, by rw [E3.out]; exact HO.out.alloc _⟩
      · simp only [if_true] at E1 E2 E3
        go_wp2_with (first
          | (at_builtin
             refine wpList_append_own _ rfl (.tmp 47) (.tmp 49) _ rfl w1.heap.size 9 i0 _ 1 16 Tryd.underlying42 hi hz0 hz1 hz2 rfl (by decide) _ _ _ rfl ((HO.out.alloc _).alloc _) ⟨wr.heap.size + 1, 0, none⟩ 1 1 [.string lj] rfl rfl ?cc (scell_one _) (by simp only [maxLen]; omega) (by omega) (Nat.le_trans HB.out.size (by simp; omega)) ?_
             rotate_left 1
             intro v2 w3 hown2 hg2 _))
        case cc => exact fun jj u h => by have := new_cells (wr.alloc (.cells #[.int .u8 (97 + (j : Int))] 5)) [.string lj] 9 jj u h; simpa using this
        go_roundw
        case measure => exact meas hlt .i64 .i64
        case rel =>
          refine ⟨j + 1, by omega, by go_num, by rw [E1.out], by rw [E2.out], fr_grown (fr_alloc (fr_alloc HB.out _) _) hg2 (own_ge HO.out), ?_⟩
          rw [E3.out, List.length_append, scells_snoc]
          exact hown2
    · obtain rfl : j = kk := by omega
      have hsz := nS_size b j
      have hpz := nP_size b j
      have hone := HONE.out
      obtain ⟨A, cw, rfl, -, hS, hlc⟩ := Strs.own hown
      obtain ⟨ss, hss⟩ : ∃ ss, nS b j = ss := ⟨_, rfl⟩
      obtain ⟨pp, hpp⟩ : ∃ pp, nP b j = pp := ⟨_, rfl⟩
      obtain ⟨ww, hww⟩ : ∃ ww, nW b j = ww := ⟨_, rfl⟩
      have hwl := nW_len b j
      have hws := nW_size b j
      rw [hss, hpp, hww] at hone
      rw [hss] at hsz
      rw [hpp] at hpz
      rw [hww] at hwl hS hws
      have HWS := Lib.hid hws
      clear hws
      rw [hss, hpp, hww]
      obtain ⟨n, hn⟩ : ∃ n, ww.length = n := ⟨_, rfl⟩
      rw [hn] at hwl ⊢
      obtain ⟨wa, hwa⟩ : ∃ wa, wa = wr := ⟨_, rfl⟩
      subst hwa
      have hss18 : ss.size ≤ 18 := by omega
      have hpp18 : pp.size ≤ 18 := by omega
      have hn6 : n ≤ 6 := by omega
      have hwa1 := fr_trans hb1 hb
      have HW := Lib.hid hwa1
      have HS := Lib.hid hS
      have HN := Lib.hid hn
      have HO := Lib.hid hone
      clear HONE hown hss hpp hww hb hS hn hone hsz hpz hwa1 HBE hlc hb1 hkk6 hkI hj hlt
      go_wp2
      go_loopw [9, 13] (fun p i w2 => ∃ k : Nat, k ≤ q ∧ i = .int .i64 k ∧ p = .string (nZ pp k) ∧ wa = w2) (fun _ i _ => q - (intOf i).toNat)
      case atStart => exact ⟨0, Nat.zero_le _, rfl, rfl, rfl⟩
      case round =>
        obtain ⟨k, hk, rfl, rfl, rfl⟩ := hrel
        have zs := nZ_size pp k
        by_cases hlt2 : k < q
        · have e4 : nZ pp (k + 1) = nZ pp k ++ ⟨#[47, 122]⟩ := rfl
          have s1 : ¬ 9223372036854775807 < (nZ pp k).size + 2 := by omega
          obtain ⟨zz, hzz⟩ : ∃ zz, nZ pp k = zz := ⟨_, rfl⟩
          rw [hzz] at e4 s1
          rw [hzz]
          have E4 := Lib.hid e4
          clear e4 hzz zs hpp18 hss18
          go_wp2_with fail
          go_roundw
          case measure => exact meas hlt2 .i64 .i64
          case rel => exact ⟨k + 1, by omega, by go_num, by rw [E4.out], trivial⟩
        · obtain rfl : k = q := by omega
          rcases HO.out with ⟨ho, hk0⟩ | ⟨inf, ho, hk0⟩
          · obtain ⟨zz, hzz⟩ : ∃ zz, nZ pp k = zz := ⟨_, rfl⟩
            rw [hzz] at ho zs
            rw [hzz]
            have hf : FitsR ss zz 2 := ⟨by omega, by omega, fun h => by cases h⟩
            have HOO := Lib.hid ho; have HF := Lib.hid hf
            have hk0' : (0 : Int) < (k : Int) := by omega
            clear ho hf hzz zs hpp18 hss18 HO hk0
            go_wp2_with fail
            refine (match_no 2 ⟨#[]⟩ ss 0 none 0 0 zz _ HOO.out (HM.out.fr HW.out) HF.out).mono ?_
            rintro e w3 ⟨⟨A3, c3, rfl⟩, hb3⟩
            have HB3 := Lib.hid (fr_trans HW.out hb3)
            clear hb3
            go_wp2
            go_ret
            exact ⟨rfl, fr_alloc HB3.out _⟩
          · subst hk0
            have hf : FitsR ss pp 2 := ⟨by omega, by omega, fun h => by cases h⟩
            have ho' : matchS 2 ss pp = some (pp, inf, ww.map vOf) := ho
            have HOO := Lib.hid ho'; have HF := Lib.hid hf
            clear ho ho' hf zs hss18 HO hlt2 hk
            go_wp2_with fail
            refine (match_at n 2 ⟨#[]⟩ ss 0 none 0 0 pp _ HOO.out (by rw [List.length_map]; exact HN.out) (HM.out.fr HW.out) HF.out).mono ?_
            rintro e w3 ⟨⟨A3, c3, rfl, hp3⟩, hb3⟩
            have hwb := fr_alloc (fr_refl w3) (.cells #[.int .i64 0, .string pp, .string inf, .slice A3 n c3] 29)
            have HB3 := Lib.hid (fr_alloc (fr_trans HW.out hb3) (.cells #[.int .i64 0, .string pp, .string inf, .slice A3 n c3] 29))
            have HS3 := Lib.hid ((HS.out.fr hb3).fr hwb)
            have HP3 := Lib.hid (hp3.pairs.fr hwb)
            have HX3 := Lib.hid (Box.new w3 [.int .i64 0, .string pp, .string inf, .slice A3 n c3] 29)
            clear hb3 hp3 hwb
            go_wp2
            go_loopw [16] (fun i w4 => ∃ k : Nat, k ≤ n ∧ i = .int .i64 k ∧ Below (w3.alloc (.cells #[.int .i64 0, .string pp, .string inf, .slice A3 n c3] 29)).heap.size (w3.alloc (.cells #[.int .i64 0, .string pp, .string inf, .slice A3 n c3] 29)) w4) (fun i _ => n - (intOf i).toNat)
            case atStart => exact ⟨0, Nat.zero_le _, rfl, fr_refl _⟩
            case round =>
              obtain ⟨k, hk, rfl, hb4⟩ := hrel
              by_cases hlt3 : k < n
              · have kx : k < ww.length := by have := HN.out; omega
                obtain ⟨b1, o1, hA1, l1, c1⟩ := (HS3.out.fr hb4).at_ kx
                obtain ⟨nb, no, hA2, nlt, hnc⟩ := (HP3.out.fr hb4) (by rw [List.length_map]; omega)
                subst hA1 hA2
                have h2 := hnc k (by rw [List.length_map]; exact kx)
                have e5 : (ww.map vOf)[k]'(by rw [List.length_map]; exact kx) = (ww[k], ⟨#[118]⟩ ++ ww[k]) := by simp [vOf]
                rw [e5] at h2
                obtain ⟨x, hx⟩ : ∃ x, ww[k] = x := ⟨_, rfl⟩
                rw [hx] at h2 c1
                have hxs : x.size = 1 := by rw [← hx]; exact HWS.out _ (List.getElem_mem kx)
                have s1 : ¬ 9223372036854775807 < 1 + x.size := by omega
                obtain ⟨h2, h3⟩ := h2
                have b4 := HX3.out.fr hb4
                have qc3 : wr.cell? ⟨w3.heap.size, 3, none⟩ = some (.slice (some ⟨nb, no, none⟩) n c3) := b4.2 3 _ rfl
                have qlt : w3.heap.size < wr.heap.size := b4.1
                have hkI : (k : Int) < (n : Int) := by omega
                have hk0 : (0 : Int) ≤ (k : Int) := by omega
                have HB4 := Lib.hid hb4
                clear e5 hx hnc b4 hb4 hk hxs
                go_wp2_with fail
                go_quiet (fail)
                go_wp2
                go_roundw
                case measure => exact meas hlt3 .i64 .i64
                case rel => exact ⟨k + 1, by omega, by go_num, fr_drewN HB4.out _⟩
              · have HB4 := Lib.hid hb4
                clear hb4
                go_wp2
                go_ret
                exact ⟨rfl, fr_trans HB3.out HB4.out⟩
theorem law13_names (x y z : Int) (w : World) (hm : MaxL w) (x0 : 0 ≤ x) (x1 : x ≤ 255) (y0 : 0 ≤ y) (y1 : y ≤ 65535) (z0 : 0 ≤ z) (z1 : z ≤ 255) :
    Calls Tryd.prog 6 #[.int .u8 x, .int .u16 y, .int .u8 z] w fun e w' => e = .returned (.bool true) ∧ Below w.heap.size w w' :=
  names_walk x y z (x % 6).toNat (z % 3).toNat w hm (by omega) (by omega) (by omega) (by omega) x0 x1 y0 y1 z0 z1
end Go.Proofs.YtedombigkebpiaaDoor
