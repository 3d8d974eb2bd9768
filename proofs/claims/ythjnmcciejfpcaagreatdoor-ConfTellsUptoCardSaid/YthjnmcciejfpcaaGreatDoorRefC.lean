/- conduitref11.Clean: what path.Clean answers. -/
import Derived.Test.YthjnmcciejfpcaaGreatDoorMF
import Derived.Test.YthjnmcciejfpcaaGreatDoorMC
import Derived.Laws.AppendOwnNone
namespace Go.Proofs.YthjnmcciejfpcaaGreatDoor
set_option linter.unusedVariables false
set_option linter.unusedSimpArgs false
open Go.RowKit

def cleanR1 : Option ByteArray → Value
  | some p => .tuple #[.string p, .int .i64 0]
  | none => .tuple #[.string ⟨#[]⟩, .int .i64 10]
/-- the segments, each behind a line -/
def jT (st : List ByteArray) : ByteArray := mk (T (st.map L))
theorem jT_succ (st : List ByteArray) (k : Nat) (h : k < st.length) : jT (st.take (k + 1)) = jT (st.take k) ++ ⟨#[47]⟩ ++ st[k] := by
  unfold jT
  rw [List.take_succ_eq_append_getElem h, List.map_append, List.map_cons, List.map_nil, T_snoc]
  apply L_inj
  rw [L_mk, L_app, L_app, L_mk]
  simp
  rfl
theorem jT_size (M : Nat) (st : List ByteArray) (h : ∀ x ∈ st, x.size ≤ M) (k : Nat) (hk : k ≤ st.length) : (jT (st.take k)).size ≤ k * (M + 1) := by
  unfold jT
  rw [mk_size]
  refine Nat.le_trans (joinTail_len M ((st.take k).map L) (fun x hx => ?_)) ?_
  · obtain ⟨y, hy, rfl⟩ := List.mem_map.1 hx
    rw [L_len]; exact h y (List.mem_of_mem_take hy)
  · rw [List.length_map, List.length_take, Nat.min_eq_left hk]; exact Nat.le_refl _
theorem cleanOut_T (st : List ByteArray) (last : ByteArray) : cleanOut (st, last) = if dotB last || (jT st).toList.isEmpty then jT st ++ ⟨#[47]⟩ else jT st := by
  unfold cleanOut jT
  cases st with
  | nil =>
    have : (mk (T (([] : List ByteArray).map L))).toList.isEmpty = true := by rw [toList_L, L_mk]; rfl
    rw [this, Bool.or_true, if_pos rfl]
    rfl
  | cons x r =>
    have hj : ⟨#[47]⟩ ++ joinB (x :: r) = mk (T ((x :: r).map L)) := by
      apply L_inj
      rw [L_app, L_joinB, L_mk, List.map_cons]
      exact slashJ (L x) (r.map L)
    have he : (mk (T ((x :: r).map L))).toList.isEmpty = false := by rw [toList_L, L_mk, List.map_cons, T_cons]; rfl
    rw [hj, he, Bool.or_false]
    rfl
theorem own_split {w : World} {base e size n : Nat} {v : Value} {xs : List Value} (h : w.ownsRow base e size v n xs) : (v = .slice none 0 0 ∧ n = 0) ∨ ∃ g cap, v = .slice (some ⟨g, 0, none⟩) n cap :=
  h.2.imp id fun ⟨g, cap, cur, hv, _⟩ => ⟨g, cap, hv⟩
set_option maxRecDepth 100000 in
set_option maxHeartbeats 8000000 in
theorem ref11_Clean (s : ByteArray) (w : World) (hs : s.size ≤ 1000000000) :
    Calls Tryz.prog 59 #[.string s] w fun e w' => e = .returned (cleanR1 (cleanS s)) ∧ Below w.heap.size w w' := by
  obtain ⟨i0, hi, hz0, hz1, hz2⟩ := info_parts str_info
  by_cases hz : s.size = 0
  · have he : cleanS s = none := by
      unfold cleanS
      have : L s = [] := List.eq_nil_of_length_eq_zero (by rw [L_len]; exact hz)
      rw [this]; rfl
    rw [he]
    have hzI : ((s.size : Int) == 0) = true := by rw [hz]; rfl
    clear he hs hz
    go_enter Tryz.func59, Tryz.ntmps59
    go_wp2
    go_ret2
    exact ⟨rfl, fr_refl _⟩
  have hzI : ((s.size : Int) == 0) = false := beq_eq_false_iff_ne.2 (by omega)
  have hzp : 0 < s.size := by omega
  obtain ⟨c0, hc0⟩ : ∃ c, s[0] = c := ⟨_, rfl⟩
  have hcI : (s[0].toNat : Int) = (c0.toNat : Int) := by rw [hc0]
  have hL0 : L s = c0 :: (L s).drop 1 := by
    have := List.drop_eq_getElem_cons (l := L s) (i := 0) hzp
    rw [List.drop_zero, L_at s 0 hzp, hc0] at this
    exact this
  by_cases h47 : c0 = 47
  · have hp : Lib.hasPrefix (L s) [47] = true := by rw [hL0, h47]; simp [Lib.hasPrefix]
    have hq : ((c0.toNat : Int) != 47) = false := by rw [h47]; rfl
    have he : cleanS s = (cleanGo (cutB (s.extract 1 s.size) 47) [] ⟨#[]⟩).map cleanOut := by unfold cleanS; rw [hp]; rfl
    have hxz : (s.extract 1 s.size).size ≤ s.size := by rw [ByteArray.size_extract]; omega
    have hlen := cutB_len (s.extract 1 s.size) 47
    have hpos := cutB_pos (s.extract 1 s.size) 47
    have hmem : ∀ x ∈ cutB (s.extract 1 s.size) 47, x.size ≤ 1000000000 := fun x hx => Nat.le_trans (cutB_size hx) (by omega)
    have hspl := fun w => split47 (s.extract 1 s.size) w (by omega)
    obtain ⟨xs, hxs⟩ : ∃ xs, cutB (s.extract 1 s.size) 47 = xs := ⟨_, rfl⟩
    rw [hxs] at he hmem hspl hlen hpos
    obtain ⟨n, hn⟩ : ∃ n, xs.length = n := ⟨_, rfl⟩
    rw [hn] at hspl hlen hpos
    have hn9 : n ≤ 1000000001 := by omega
    have HS := Lib.hid hspl; have HE := Lib.hid he; have HMEM := Lib.hid hmem; have HN := Lib.hid hn; have HN9 := Lib.hid hn9
    have hn63 : n ≤ 9223372036854775807 := by omega
    have hz1I : (1 : Int) ≤ (s.size : Int) := by omega
    clear hspl he hmem hn hn9 hp hxs hlen hxz hs h47 hc0 hL0 hz
    go_enter Tryz.func59, Tryz.ntmps59
    go_wp2_with fail
    refine (HS.out _).mono ?_
    rintro e w1 ⟨⟨A, c, rfl, hst⟩, hb1⟩
    have HST := Lib.hid hst
    clear hst
    go_wp2
    go_loopw [5, 6, 7] (fun v bh i wr => ∃ (k : Nat) (st : List ByteArray) (last : ByteArray) (b : Bool), k ≤ n ∧ i = .int .i64 k ∧ bh = .bool b ∧ (0 < k → b = dotB last) ∧ Below w1.heap.size w1 wr ∧ wr.ownsRow w1.heap.size 9 1 v st.length (scells st) ∧
      cleanGo xs [] ⟨#[]⟩ = cleanGo (xs.drop k) st last ∧ (∀ x ∈ st, x.size ≤ 1000000000) ∧ st.length ≤ k) (fun _ _ i _ => n - (intOf i).toNat)
    case atStart => exact ⟨0, [], ⟨#[]⟩, false, Nat.zero_le _, rfl, rfl, fun h => absurd h (by omega), Below.refl _ _, World.ownsRow_nil _ _ _ _, by simp, by simp, Nat.zero_le _⟩
    case round =>
      obtain ⟨k, st, last, b, hk, rfl, rfl, hbl0, hb, hown, hinv, hsz, hsl⟩ := hrel
      by_cases hlt : k < n
      · have hkx : k < xs.length := by have := HN.out; omega
        obtain ⟨b0, o0, rfl, hbl, hcell⟩ := HST.out.at_ hkx
        have hdr : xs.drop k = xs[k] :: xs.drop (k + 1) := List.drop_eq_getElem_cons hkx
        have hxm := HMEM.out xs[k] (List.getElem_mem hkx)
        obtain ⟨x, hx⟩ : ∃ x, xs[k] = x := ⟨_, rfl⟩
        rw [hx] at hdr hxm hcell
        rw [hdr] at hinv
        have hcell2 := fr_cell hb hcell
        have hblr := World.block_lt_of_cell? wr _ hcell2
        simp only at hblr
        have HC := Lib.hid (fun W => ref11_part x W (by omega))
        obtain ⟨o, ho⟩ : ∃ o, partS x = o := ⟨_, rfl⟩
        rw [ho] at HC
        have kI : (k : Int) < (n : Int) := by omega
        have k0 : (0 : Int) ≤ (k : Int) := by omega
        have HO := Lib.hid ho; have HI := Lib.hid hinv; have HB := Lib.hid hb; have HOW := Lib.hid hown; have HSZ := Lib.hid hsz; have HXM := Lib.hid hxm
        clear ho hinv hb hown hsz hxm hdr hx hcell hbl hbl0
        go_wp2_with fail
        refine (HC.out _).mono ?_
        rintro e w2 ⟨rfl, hb2⟩
        have hw2 := fr_trans HB.out hb2
        have HOW2 := Lib.hid (own_fr HOW.out hb2)
        have HW2 := Lib.hid hw2
        clear hb2 hw2 hcell2 hblr
        cases o with
        | none =>
          have hnone : cleanS s = none := by rw [HE.out, HI.out, cleanGo_bad HO.out]; rfl
          have HNO := Lib.hid hnone; clear hnone
          unfold partR1
          go_wp2_with fail
          go_ret2
          exact ⟨by rw [HNO.out]; rfl, fr_trans hb1 HW2.out⟩
        | some p =>
          have hps := partS_size HO.out
          have hcs : cleanStep st p = if p.toList.isEmpty || p.toList == [46] then some st else if p.toList == [46, 46] then (if st.length = 0 then none else some (st.take (st.length - 1))) else some (st ++ [p]) := by
            unfold cleanStep; rw [eq_dot, eq_dots]
          have hdb : dotB p = (p.toList.isEmpty || (p.toList == [46]) || (p.toList == [46, 46])) := by unfold dotB; rw [eq_dot, eq_dots]
          have HCS := Lib.hid hcs; have HPS := Lib.hid hps; have HDB := Lib.hid hdb
          clear hcs hps hdb
          unfold partR1
          cases h1 : p.toList.isEmpty
          · cases h2 : (p.toList == [46])
            · cases h3 : (p.toList == [46, 46])
              · have hst : cleanStep st p = some (st ++ [p]) := by rw [HCS.out, h1, h2, h3]; rfl
                have HNX := Lib.hid (HI.out.trans (cleanGo_yes HO.out hst))
                have HD := Lib.hid (show false = dotB p by rw [HDB.out, h1, h2, h3]; rfl)
                clear hst
                rcases own_split HOW2.out with ⟨rfl, h0⟩ | ⟨g, cap, rfl⟩
                · have hst0 : st = [] := List.eq_nil_of_length_eq_zero h0
                  subst hst0
                  go_wp2_with (first
                    | (at_builtin
                       refine wpList_append_own_none rfl (.const (.slice none 0 0)) (.tmp 68) _ rfl w1.heap.size 9 i0 1 Tryz.underlying78 hi _ 0 [] rfl (World.ownsRow_nil _ _ _ _) rfl ?_)
                    | (at_builtin
                       refine wpList_append_own _ rfl (.tmp 69) (.tmp 71) _ rfl w1.heap.size 9 i0 _ 1 16 Tryz.underlying78 hi hz0 hz1 hz2 rfl (by decide) _ 0 [] rfl (World.ownsRow_nil _ _ _ _) ⟨w2.heap.size, 0, none⟩ 1 1 [.string p] rfl rfl (new_cells _ _ _) (scell_one _) (by simp only [maxLen]; omega) (by omega) (Nat.le_trans HW2.out.size (by simp)) ?_
                       intro v2 w3 hown2 hg2 _))
                  go_roundw
                  case measure => exact meas hlt .i64 .i64
                  case rel =>
                    refine ⟨k + 1, [p], p, false, by omega, by go_num, rfl, fun _ => HD.out, fr_grown (fr_alloc HW2.out _) hg2 (by intro k hk; cases hk), hown2, HNX.out, ?_, by simp⟩
                    intro y hy
                    rw [List.mem_singleton.1 hy]; exact Nat.le_trans HPS.out HXM.out
                · go_wp2_with (first
                    | (at_builtin
                       refine wpList_append_own _ rfl (.const (.slice none 0 0)) (.tmp 68) _ rfl w1.heap.size 9 i0 _ 1 16 Tryz.underlying78 hi hz0 hz1 hz2 rfl (by decide) _ 0 [] rfl (World.ownsRow_nil _ _ _ _) ⟨g, 0, none⟩ st.length cap (scells st) rfl (by rw [scells_len, Nat.mul_one]) (HOW2.out.cells (g := g) rfl) (scells_one _) (by simp only [maxLen]; have := HN9.out; omega) (by have := HN9.out; omega) HW2.out.size ?_
                       intro v2 w3 hown2 hg2 _
                       rw [Nat.zero_add, List.nil_append] at hown2
                       have HW3 := Lib.hid (fr_grown HW2.out hg2 (by intro k hk; cases hk))
                       have HO2 := Lib.hid hown2
                       clear hown2 hg2)
                    | (at_builtin
                       refine wpList_append_own _ rfl (.tmp 69) (.tmp 71) _ rfl w1.heap.size 9 i0 _ 1 16 Tryz.underlying78 hi hz0 hz1 hz2 rfl (by decide) _ st.length (scells st) rfl (HO2.out.alloc _) ⟨w3.heap.size, 0, none⟩ 1 1 [.string p] rfl rfl (new_cells _ _ _) (scell_one _) (by simp only [maxLen]; have := HN9.out; omega) (by have := HN9.out; omega) (Nat.le_trans HW3.out.size (by simp)) ?_
                       intro v4 w4 hown4 hg4 _))
                  go_roundw
                  case measure => exact meas hlt .i64 .i64
                  case rel =>
                    refine ⟨k + 1, st ++ [p], p, false, by omega, by go_num, rfl, fun _ => HD.out, fr_grown (fr_alloc HW3.out _) hg4 (own_ge HO2.out), ?_, HNX.out, ?_, by simp; omega⟩
                    · rw [List.length_append, scells_snoc]; exact hown4
                    · intro y hy
                      rcases List.mem_append.1 hy with hy | hy
                      · exact HSZ.out y hy
                      · rw [List.mem_singleton.1 hy]; exact Nat.le_trans HPS.out HXM.out
              · by_cases h0 : st.length = 0
                · have hst : cleanStep st p = none := by rw [HCS.out, h1, h2, h3, if_pos h0]; rfl
                  have hnone : cleanS s = none := by rw [HE.out, HI.out, cleanGo_no HO.out hst]; rfl
                  have HNO := Lib.hid hnone; clear hnone hst
                  obtain ⟨A4, c4, rfl, hn4, _, hc4⟩ := Strs.own HOW2.out
                  have h0' : ((st.length : Nat) : Int) = 0 := by omega
                  have HBB := Lib.hid (fr_trans hb1 HW2.out)
                  clear HOW2 h0 hn4
                  go_wp2_with fail
                  go_ret2
                  exact ⟨by rw [HNO.out]; rfl, HBB.out⟩
                · have hst : cleanStep st p = some (st.take (st.length - 1)) := by rw [HCS.out, h1, h2, h3, if_neg h0]; rfl
                  have HNX := Lib.hid (HI.out.trans (cleanGo_yes HO.out hst))
                  have HD := Lib.hid (show true = dotB p by rw [HDB.out, h1, h2, h3]; rfl)
                  clear hst
                  obtain ⟨A4, c4, rfl, hn4, _, hc4⟩ := Strs.own HOW2.out
                  have hcut := own_cut HOW2.out (m := st.length - 1) (by omega) (by omega)
                  obtain ⟨m, hm⟩ : ∃ m, st.length = m + 1 := ⟨st.length - 1, by omega⟩
                  have HCUT := Lib.hid hcut
                  have HNL := Lib.hid hm
                  clear hcut HOW2 h0 hn4
                  rw [hm] at hc4 ⊢
                  have hsl' : m + 1 ≤ k := by omega
                  have hmB : ((m : Int) + 1 == 0) = false := by simp; omega
                  clear hm hsl
                  go_wp2_with fail
                  go_roundw
                  case measure => exact meas hlt .i64 .i64
                  case rel =>
                    refine ⟨k + 1, st.take (st.length - 1), p, true, by omega, by go_num, rfl, fun _ => HD.out, HW2.out, ?_, HNX.out, fun y hy => HSZ.out y (List.mem_of_mem_take hy), by rw [List.length_take]; have := HNL.out; omega⟩
                    have h := HCUT.out
                    rw [HNL.out] at h
                    rw [List.length_take, HNL.out, show min (m + 1 - 1) (m + 1) = m by omega]
                    rw [show m + 1 - 1 = m by omega] at h
                    exact h
            · have hst : cleanStep st p = some st := by rw [HCS.out, h1, h2]; rfl
              have h3 : (p.toList == [46, 46]) = false := by rw [beq_iff_eq.1 h2]; rfl
              have HNX := Lib.hid (HI.out.trans (cleanGo_yes HO.out hst))
              have HD := Lib.hid (show true = dotB p by rw [HDB.out, h1, h2]; rfl)
              clear hst
              go_wp2_with fail
              go_roundw
              case measure => exact meas hlt .i64 .i64
              case rel => exact ⟨k + 1, st, p, true, by omega, by go_num, rfl, fun _ => HD.out, HW2.out, HOW2.out, HNX.out, HSZ.out, by omega⟩
          · have hst : cleanStep st p = some st := by rw [HCS.out, h1]; rfl
            have h3 : (p.toList == [46, 46]) = false := by
              cases hq : p.toList with
              | nil => rfl
              | cons a r => rw [hq] at h1; cases h1
            have HNX := Lib.hid (HI.out.trans (cleanGo_yes HO.out hst))
            have HD := Lib.hid (show true = dotB p by rw [HDB.out, h1]; rfl)
            clear hst
            go_wp2_with fail
            go_roundw
            case measure => exact meas hlt .i64 .i64
            case rel => exact ⟨k + 1, st, p, true, by omega, by go_num, rfl, fun _ => HD.out, HW2.out, HOW2.out, HNX.out, HSZ.out, by omega⟩
      · obtain rfl : k = n := by omega
        have hdn : xs.drop k = [] := List.drop_of_length_le (by have := HN.out; omega)
        rw [hdn] at hinv
        have hend : cleanS s = some (cleanOut (st, last)) := by rw [HE.out, hinv]; rfl
        have hbd := hbl0 hpos
        obtain ⟨A4, c4, rfl, hn4, hstr, hc4⟩ := Strs.own hown
        have hco := cleanOut_T st last
        rw [← hbd] at hco
        obtain ⟨m, hm⟩ : ∃ m, st.length = m := ⟨_, rfl⟩
        have hjs := fun j (hj : j ≤ m) => jT_size 1000000000 st hsz j (by omega)
        have hjc := fun j (hj : j < st.length) => jT_succ st j hj
        have hm9 : m ≤ 1000000001 := by have := HN9.out; omega
        have hall : jT (st.take m) = jT st := by rw [List.take_of_length_le (by omega)]
        rw [hm]
        have HSTR := Lib.hid hstr; have HM := Lib.hid hm; have HCO := Lib.hid hco; have HEND := Lib.hid hend; have HJS := Lib.hid hjs; have HJC := Lib.hid hjc; have HALL := Lib.hid hall; have HSZ := Lib.hid hsz
        have HBB := Lib.hid (fr_trans hb1 hb)
        clear hstr hm hco hend hjs hjc hall hsz hb hown hn4 hinv hdn hbl0 hbd hc4
        go_wp2
        go_loopw [10, 11] (fun sv i w2 => ∃ j : Nat, j ≤ m ∧ i = .int .i64 j ∧ sv = .string (jT (st.take j)) ∧ Below wr.heap.size wr w2) (fun _ i _ => m - (intOf i).toNat)
        case atStart => exact ⟨0, Nat.zero_le _, rfl, rfl, fr_refl _⟩
        case round =>
          obtain ⟨j, hj, rfl, rfl, hb3⟩ := hrel
          have HB3 := Lib.hid hb3
          have hzj := HJS.out j hj
          by_cases hjm : j < m
          · have hjl : j < st.length := by have := HM.out; omega
            obtain ⟨b2, o2, rfl, hbl2, hcell2⟩ := (HSTR.out.fr hb3).at_ hjl
            have hsu := HJC.out j hjl
            have hxz2 := HSZ.out _ (List.getElem_mem hjl)
            obtain ⟨x, hx⟩ : ∃ x, st[j] = x := ⟨_, rfl⟩
            rw [hx] at hcell2 hsu hxz2
            obtain ⟨u, hu⟩ : ∃ u, jT (st.take j) = u := ⟨_, rfl⟩
            rw [hu] at hsu hzj
            rw [hu]
            have jI : (j : Int) < (m : Int) := by omega
            have j0 : (0 : Int) ≤ (j : Int) := by omega
            have s1 : ¬ 9223372036854775807 < u.size + 1 := by omega
            have s2 : ¬ 9223372036854775807 < u.size + 1 + x.size := by omega
            have HSU := Lib.hid hsu
            clear hsu hx hu hb3 hzj hxz2
            go_wp2_with fail
            go_roundw
            case measure => exact meas hjm .i64 .i64
            case rel => exact ⟨j + 1, by omega, by go_num, by rw [HSU.out], HB3.out⟩
          · obtain rfl : j = m := by omega
            have hco := HCO.out
            rw [HALL.out] at hzj
            rw [HALL.out]
            obtain ⟨u, hu⟩ : ∃ u, jT st = u := ⟨_, rfl⟩
            rw [hu] at hco hzj
            rw [hu]
            have s1 : ¬ 9223372036854775807 < u.size + 1 := by omega
            have HF := Lib.hid (fr_trans HBB.out hb3)
            clear hb3 hzj hu
            cases b
            · cases he : u.toList.isEmpty
              all_goals
                rw [he] at hco
                have HC2 := Lib.hid hco
                clear hco HCO
                go_wp2
                go_ret2
                exact ⟨by rw [HEND.out]; show _ = Ending.returned (.tuple #[.string (cleanOut (st, last)), .int .i64 0]); rw [HC2.out]; rfl, HF.out⟩
            · have HC2 := Lib.hid hco
              clear hco HCO
              go_wp2
              go_ret2
              exact ⟨by rw [HEND.out]; show _ = Ending.returned (.tuple #[.string (cleanOut (st, last)), .int .i64 0]); rw [HC2.out]; rfl, HF.out⟩
  · have hp : Lib.hasPrefix (L s) [47] = false := by
      cases hh : Lib.hasPrefix (L s) [47] with
      | false => rfl
      | true => rw [hL0] at hh; simp [Lib.hasPrefix] at hh; first | exact absurd hh h47 | exact absurd hh.symm h47
    have he : cleanS s = none := by unfold cleanS; rw [hp]; rfl
    have hq : ((c0.toNat : Int) != 47) = true := by
      have : ¬ (c0.toNat : Int) = 47 := fun h => h47 (UInt8.toNat_inj.1 (show c0.toNat = (47 : UInt8).toNat by show c0.toNat = 47; omega))
      simpa using this
    rw [he]
    clear he hs hp hL0 h47 hc0
    go_enter Tryz.func59, Tryz.ntmps59
    go_wp2
    go_ret2
    exact ⟨rfl, fr_refl _⟩
end Go.Proofs.YthjnmcciejfpcaaGreatDoor
