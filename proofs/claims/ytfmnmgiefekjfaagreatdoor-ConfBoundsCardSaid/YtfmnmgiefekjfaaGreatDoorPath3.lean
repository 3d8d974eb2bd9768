/- path.Clean: the walk. -/
import Derived.Test.YtfmnmgiefekjfaaGreatDoorPath2
import Derived.OwnWalk
namespace Go.Proofs.YtfmnmgiefekjfaaGreatDoor
set_option linter.unusedVariables false
set_option linter.unusedSimpArgs false
open Go.RowKit

theorem eq_dot (p : ByteArray) : eqB p ⟨#[46]⟩ = (p.toList == [46]) := by unfold eqB; rw [show (⟨#[46]⟩ : ByteArray).toList = [46] by rw [toList_L]]
theorem eq_dots (p : ByteArray) : eqB p ⟨#[46, 46]⟩ = (p.toList == [46, 46]) := by unfold eqB; rw [show (⟨#[46, 46]⟩ : ByteArray).toList = [46, 46] by rw [toList_L]]
theorem cleanGo_bad {s : ByteArray} {r st : List ByteArray} {last : ByteArray} (h : partS s = none) : cleanGo (s :: r) st last = none := by unfold cleanGo; rw [h]
theorem cleanGo_no {s p : ByteArray} {r st : List ByteArray} {last : ByteArray} (h : partS s = some p) (h2 : cleanStep st p = none) : cleanGo (s :: r) st last = none := by unfold cleanGo; rw [h]; simp only [h2]
theorem cleanGo_yes {s p : ByteArray} {r st st' : List ByteArray} {last : ByteArray} (h : partS s = some p) (h2 : cleanStep st p = some st') : cleanGo (s :: r) st last = cleanGo r st' p := by
  conv => lhs; unfold cleanGo
  rw [h]; simp only [h2]

set_option maxRecDepth 100000 in
set_option maxHeartbeats 4000000 in
theorem path_Clean (s : ByteArray) (w : World) (hm : MaxL w) (hs : s.size ≤ 8388608) :
    Calls Tryz.prog 52 #[.string s] w fun e w' => e = .returned (cleanR (cleanS s)) ∧ Below w.heap.size w w' := by
  obtain ⟨i0, hi, hz0, hz1, hz2⟩ := info_parts str_info
  have HM := Lib.hid hm; clear hm
  cases hp : Lib.hasPrefix (L s) [47]
  · have he : cleanS s = none := by unfold cleanS; rw [hp]; rfl
    rw [he]
    have HP := Lib.hid hp
    clear he hs hp
    go_enter Tryz.func52, Tryz.ntmps52
    go_wp2_with fail
    refine (lib_HasPrefix s ⟨#[47]⟩ _).mono ?_
    rintro e w1 ⟨rfl, rfl⟩
    rw [show Lib.hasPrefix (L s) (L ⟨#[47]⟩) = false from HP.out]
    go_wp2
    go_ret2
    exact ⟨rfl, fr_refl _⟩
  · have he : cleanS s = (cleanGo (cutB (s.extract 1 s.size) 47) [] ⟨#[]⟩).map cleanOut := by unfold cleanS; rw [hp]; rfl
    have hs1 : 1 ≤ s.size := by
      have hl : (L s).length = s.size := rfl
      cases hq : L s with
      | nil => rw [hq] at hp; simp [Lib.hasPrefix] at hp
      | cons a b => rw [hq] at hl; simp at hl; omega
    have hxz : (s.extract 1 s.size).size ≤ s.size := by rw [ByteArray.size_extract]; omega
    have hlen := cutB_len (s.extract 1 s.size) 47
    have hmem : ∀ x ∈ cutB (s.extract 1 s.size) 47, x.size ≤ 8388608 := fun x hx => Nat.le_trans (cutB_size hx) (by omega)
    have hspl := fun w hm => lib_Split (s.extract 1 s.size) 47 w hm (by omega)
    obtain ⟨xs, hxs⟩ : ∃ xs, cutB (s.extract 1 s.size) 47 = xs := ⟨_, rfl⟩
    rw [hxs] at he hmem hspl hlen
    obtain ⟨n, hn⟩ : ∃ n, xs.length = n := ⟨_, rfl⟩
    have hspl2 : ∀ (w : World) (_ : MaxL w), Calls Tryz.prog 74 #[.string (s.extract 1 s.size), .string ⟨#[47]⟩] w fun e w' => e = .returned (.slice (some ⟨w.heap.size, 0, none⟩) n n) ∧ w' = w.alloc (.cells (xs.map Value.string).toArray 9) := by rw [← hn]; exact hspl
    have hn9 : n ≤ 8388609 := by omega
    have HS := Lib.hid hspl2; have HE := Lib.hid he; have HMEM := Lib.hid hmem; have HN := Lib.hid hn; have HN9 := Lib.hid hn9; have HP := Lib.hid hp
    have hn63 : n ≤ 9223372036854775807 := by omega
    clear hspl hspl2 he hmem hn hn9 hp hxs hlen hxz hs
    go_enter Tryz.func52, Tryz.ntmps52
    go_wp2_with fail
    refine (lib_HasPrefix s ⟨#[47]⟩ _).mono ?_
    rintro e w1 ⟨rfl, rfl⟩
    rw [show Lib.hasPrefix (L s) (L ⟨#[47]⟩) = true from HP.out]
    go_wp2_with fail
    refine (HS.out _ HM.out).mono ?_
    rintro e w1 ⟨rfl, hw1⟩
    have hb1 : Below w.heap.size w w1 := by rw [hw1]; exact fr_alloc (fr_refl _) _
    have hst : Strs w1 (some ⟨w.heap.size, 0, none⟩) xs := by rw [hw1]; exact Strs.new w xs 9
    have HST := Lib.hid hst
    clear hw1 hst
    go_wp2
    go_loopw [4, 5, 19] (fun v lt i wr => ∃ (k : Nat) (st : List ByteArray) (last : ByteArray), k ≤ n ∧ i = .int .i64 k ∧ lt = .string last ∧ Below w1.heap.size w1 wr ∧ wr.ownsRow w1.heap.size 9 1 v st.length (scells st) ∧
      cleanGo xs [] ⟨#[]⟩ = cleanGo (xs.drop k) st last ∧ (∀ x ∈ st, x.size ≤ 8388608) ∧ st.length ≤ k) (fun _ _ i _ => n - (intOf i).toNat)
    case atStart => exact ⟨0, [], ⟨#[]⟩, Nat.zero_le _, rfl, rfl, Below.refl _ _, World.ownsRow_nil _ _ _ _, by simp, by simp, Nat.zero_le _⟩
    case round =>
      obtain ⟨k, st, last, hk, rfl, rfl, hb, hown, hinv, hsz, hsl⟩ := hrel
      by_cases hlt : k < n
      · have hkx : k < xs.length := by have := HN.out; omega
        obtain ⟨b0, o0, e0, hbl, hcell⟩ := HST.out.at_ hkx
        simp only [Option.some.injEq, Addr.mk.injEq, and_true] at e0
        obtain ⟨rfl, rfl⟩ := e0
        have hdr : xs.drop k = xs[k] :: xs.drop (k + 1) := List.drop_eq_getElem_cons hkx
        have hxm := HMEM.out xs[k] (List.getElem_mem hkx)
        obtain ⟨x, hx⟩ : ∃ x, xs[k] = x := ⟨_, rfl⟩
        rw [hx] at hdr hxm hcell
        rw [hdr] at hinv
        have hcell2 := fr_cell hb hcell
        rw [Nat.zero_add] at hcell2
        have hblr := World.block_lt_of_cell? wr _ hcell2
        simp only at hblr
        have HC := Lib.hid (fun W => path_part x W (by omega))
        obtain ⟨o, ho⟩ : ∃ o, partS x = o := ⟨_, rfl⟩
        rw [ho] at HC
        have HO := Lib.hid ho; have HI := Lib.hid hinv; have HB := Lib.hid hb; have HOW := Lib.hid hown; have HSZ := Lib.hid hsz; have HXM := Lib.hid hxm
        clear ho hinv hb hown hsz hxm hdr hx hcell hbl
        go_wp2_with fail
        refine (HC.out _).mono ?_
        rintro e w2 ⟨rfl, hb2⟩
        have hw2 := fr_trans HB.out hb2
        have HOW2 := Lib.hid (own_fr HOW.out hb2)
        have HW2 := Lib.hid hw2
        clear hb2 hw2 hcell2 hblr
        cases o with
        | none =>
          have hnone : cleanS s = none := by rw [HE.out, HI.out, cleanGo_bad HO.out]; rfl
          have HNO := Lib.hid hnone; clear hnone
          unfold partR
          go_wp2_with fail
          go_ret2
          exact ⟨by rw [HNO.out]; rfl, fr_trans hb1 HW2.out⟩
        | some p =>
          have hps := partS_size HO.out
          have hcs : cleanStep st p = if p.toList.isEmpty || p.toList == [46] then some st else if p.toList == [46, 46] then (if st.length = 0 then none else some (st.take (st.length - 1))) else some (st ++ [p]) := by
            unfold cleanStep; rw [eq_dot, eq_dots]
          have HCS := Lib.hid hcs; have HPS := Lib.hid hps
          clear hcs hps
          unfold partR
          cases h1 : p.toList.isEmpty
          · cases h2 : (p.toList == [46])
            · cases h3 : (p.toList == [46, 46])
              · have hst : cleanStep st p = some (st ++ [p]) := by rw [HCS.out, h1, h2, h3]; rfl
                have HNX := Lib.hid (HI.out.trans (cleanGo_yes HO.out hst)); clear hst
                go_wp2_with (first
                  | (at_builtin
                     refine wpList_append_own _ rfl (.tmp 33) (.tmp 35) _ rfl w1.heap.size 9 i0 _ 1 16 Tryz.underlying80 hi hz0 hz1 hz2 rfl (by decide) _ _ _ rfl (HOW2.out.alloc _) ⟨w2.heap.size, 0, none⟩ 1 1 [.string p] rfl rfl (new_cells _ _ _) (scell_one _) (by simp only [maxLen]; have := HN9.out; omega) (by have := HN9.out; omega) (Nat.le_trans HW2.out.size (by simp)) ?_
                     intro v2 w3 hown2 hg2 _))
                go_roundw
                case measure => exact meas hlt .i64 .i64
                case rel =>
                  refine ⟨k + 1, st ++ [p], p, by omega, by go_num, rfl, fr_grown (fr_alloc HW2.out _) hg2 (own_ge HOW2.out), ?_, HNX.out, ?_, by simp; omega⟩
                  · rw [List.length_append, scells_snoc]; exact hown2
                  · intro y hy
                    rcases List.mem_append.1 hy with hy | hy
                    · exact HSZ.out y hy
                    · simp at hy; subst hy; exact Nat.le_trans HPS.out HXM.out
              · by_cases h0 : st.length = 0
                · have hst : cleanStep st p = none := by rw [HCS.out, h1, h2, h3, if_pos h0]; rfl
                  have hnone : cleanS s = none := by rw [HE.out, HI.out, cleanGo_no HO.out hst]; rfl
                  have HNO := Lib.hid hnone; clear hnone hst
                  obtain ⟨A4, c4, rfl, hn4, _, hc4⟩ := Strs.own HOW2.out
                  have h0' : ((st.length : Nat) : Int) = 0 := by omega
                  have HBB := Lib.hid (fr_trans hb1 HW2.out)
                  clear HOW2 h0 hn4
                  go_wp2_with fail
                  go_ret2
                  exact ⟨by rw [HNO.out]; rfl, HBB.out⟩
                · have hst : cleanStep st p = some (st.take (st.length - 1)) := by rw [HCS.out, h1, h2, h3, if_neg h0]; rfl
                  have HNX := Lib.hid (HI.out.trans (cleanGo_yes HO.out hst)); clear hst
                  obtain ⟨A4, c4, rfl, hn4, _, hc4⟩ := Strs.own HOW2.out
                  have hcut := own_cut HOW2.out (m := st.length - 1) (by omega) (by omega)
                  obtain ⟨m, hm⟩ : ∃ m, st.length = m + 1 := ⟨st.length - 1, by omega⟩
                  have HCUT := Lib.hid hcut
                  have HNL := Lib.hid hm
                  clear hcut HOW2 h0 hn4
                  rw [hm] at hc4 ⊢
                  have hsl' : m + 1 ≤ k := by omega
                  clear hm hsl
                  go_wp2_with fail
                  go_roundw
                  case measure => exact meas hlt .i64 .i64
                  case rel =>
                    refine ⟨k + 1, st.take (st.length - 1), p, by omega, by go_num, rfl, HW2.out, ?_, HNX.out, fun y hy => HSZ.out y (List.mem_of_mem_take hy), by rw [List.length_take]; have := HNL.out; omega⟩
                    have h := HCUT.out
                    rw [HNL.out] at h
                    rw [List.length_take, HNL.out, show min (m + 1 - 1) (m + 1) = m by omega]
                    rw [show m + 1 - 1 = m by omega] at h
                    exact h
            · have hst : cleanStep st p = some st := by rw [HCS.out, h1, h2]; rfl
              have HNX := Lib.hid (HI.out.trans (cleanGo_yes HO.out hst)); clear hst
              go_wp2_with fail
              go_roundw
              case measure => exact meas hlt .i64 .i64
              case rel => exact ⟨k + 1, st, p, by omega, by go_num, rfl, HW2.out, HOW2.out, HNX.out, HSZ.out, by omega⟩
          · have hst : cleanStep st p = some st := by rw [HCS.out, h1]; rfl
            have HNX := Lib.hid (HI.out.trans (cleanGo_yes HO.out hst)); clear hst
            go_wp2_with fail
            go_roundw
            case measure => exact meas hlt .i64 .i64
            case rel => exact ⟨k + 1, st, p, by omega, by go_num, rfl, HW2.out, HOW2.out, HNX.out, HSZ.out, by omega⟩
      · obtain rfl : k = n := by omega
        have hdn : xs.drop k = [] := List.drop_of_length_le (by have := HN.out; omega)
        rw [hdn] at hinv
        have hend : cleanS s = some (cleanOut (st, last)) := by rw [HE.out, hinv]; rfl
        obtain ⟨A4, c4, rfl, hn4, hstr, hc4⟩ := Strs.own hown
        have hj := joinB_size 8388608 8388609 st hsz (by have := HN9.out; omega) (by decide)
        have HJ := Lib.hid (fun (W : World) (h : Strs W A4 st) => lib_Join A4 c4 st.length st W rfl h (by omega) (by have := HN9.out; omega) hj)
        obtain ⟨jn, hjn⟩ : ∃ jn, joinB st = jn := ⟨_, rfl⟩
        have hjz : jn.size ≤ 140737488355328 := by rw [← hjn]; unfold joinB; show (List.toArray _).size ≤ _; simpa using hj
        rw [hjn] at HJ
        have hco : cleanOut (st, last) = if decide (0 < st.length) && dotB last then ⟨#[47]⟩ ++ jn ++ ⟨#[47]⟩ else ⟨#[47]⟩ ++ jn := by unfold cleanOut; rw [hjn]
        have hdb : dotB last = (last.toList.isEmpty || (last.toList == [46]) || (last.toList == [46, 46])) := by unfold dotB; rw [eq_dot, eq_dots]
        have HEND := Lib.hid hend; have HCO := Lib.hid hco; have HDB := Lib.hid hdb; have HSTR := Lib.hid hstr; have HBB := Lib.hid (fr_trans hb1 hb)
        have hjz9 : ¬ 9223372036854775807 < 1 + jn.size := by omega
        have hjz8 : ¬ 9223372036854775807 < 1 + jn.size + 1 := by omega
        have hl63 : st.length ≤ 9223372036854775807 := by have := HN9.out; omega
        clear hend hco hdb hstr hb hown hn4 hinv hdn hj hjn hjz hsz
        cases h0 : decide (0 < st.length)
        · have h0' : ¬ (0 : Int) < (st.length : Int) := by have := of_decide_eq_false h0; omega
          have HCO2 : RowKit.Hid (cleanOut (st, last) = ⟨#[47]⟩ ++ jn) := by have := HCO.out; rw [h0] at this; exact this
          clear h0 HCO
          go_wp2_with fail
          refine (HJ.out _ HSTR.out).mono ?_
          rintro e w3 ⟨rfl, hb3⟩
          go_wp2_with fail
          go_ret2
          exact ⟨by rw [HEND.out, HCO2.out]; rfl, fr_trans HBB.out hb3⟩
        · have h0' : (0 : Int) < (st.length : Int) := by have := of_decide_eq_true h0; omega
          cases h1 : last.toList.isEmpty <;> cases h2 : (last.toList == [46]) <;> cases h3 : (last.toList == [46, 46])
          all_goals
            have hco2 := HCO.out
            rw [h0, HDB.out, h1, h2, h3] at hco2
            simp only [Bool.true_and, Bool.or_true, Bool.true_or, Bool.or_false, Bool.false_or, Bool.false_eq_true, if_true, if_false] at hco2
            have HCO2 := Lib.hid hco2
            clear h0 HCO hco2
            go_wp2_with fail
            refine (HJ.out _ HSTR.out).mono ?_
            rintro e w3 ⟨rfl, hb3⟩
            go_wp2_with fail
            go_ret2
            exact ⟨by rw [HEND.out]; show _ = Ending.returned (.tuple #[.string (cleanOut (st, last)), .nilIface]); rw [HCO2.out]; rfl, fr_trans HBB.out hb3⟩
end Go.Proofs.YtfmnmgiefekjfaaGreatDoor
