/- conduitref1.List. -/
import Derived.Test.YthjnmcciejfpcaaGreatDoorMH
import Derived.Test.YthjnmcciejfpcaaGreatDoorMD
import Derived.Deep.RegionWith
namespace Go.Proofs.YthjnmcciejfpcaaGreatDoor
set_option linter.unusedVariables false
set_option linter.unusedSimpArgs false
open Go.RowKit

def tfull (l : List ByteArray) : List ByteArray := (l.map octTrim).filter full
theorem tfull_snoc (l : List ByteArray) (x : ByteArray) : tfull (l ++ [x]) = tfull l ++ (if full (octTrim x) then [octTrim x] else []) := by
  unfold tfull
  rw [List.map_append, List.filter_append]
  congr 1
  show List.filter full [octTrim x] = _
  rw [List.filter_cons]; rfl
theorem tfull_len (l : List ByteArray) : (tfull l).length ≤ l.length := by
  unfold tfull
  refine Nat.le_trans (List.length_filter_le _ _) ?_
  rw [List.length_map]; exact Nat.le_refl _
theorem listS_tfull (s : ByteArray) : listS s = tfull (splitL s 44) := by
  unfold listS lN tfull
  rw [List.take_length, splitL_cutB]
set_option maxRecDepth 100000 in
set_option maxHeartbeats 2000000 in
theorem ref1_List (s : ByteArray) (w : World) (hs : s.size ≤ 1000000000) :
    Calls Tryz.prog 44 #[.string s] w fun e w' => (∃ A c, e = .returned (.slice A (listS s).length c) ∧ Strs w' A (listS s)) ∧ Below w.heap.size w w' := by
  obtain ⟨i0, hi, hz0, hz1, hz2⟩ := info_parts str_info
  rw [listS_tfull]
  go_enter Tryz.func44, Tryz.ntmps44
  go_wp2
  go_loopw [3, 4, 5] (fun v fr i wr => ∃ k : Nat, k ≤ s.size + 1 ∧ i = .int .i64 k ∧ fr = .int .i64 ((spN s 44 k).2 : Nat) ∧ Below w.heap.size w wr ∧ wr.ownsRow w.heap.size 9 1 v (tfull (spN s 44 k).1).length (scells (tfull (spN s 44 k).1))) (fun _ _ i _ => s.size + 1 - (intOf i).toNat)
  case atStart => exact ⟨0, Nat.zero_le _, rfl, rfl, Below.refl _ _, World.ownsRow_nil _ _ _ _⟩
  case round =>
    obtain ⟨k, hk, rfl, rfl, hb, hown⟩ := hrel
    by_cases hlt : k < s.size + 1
    · have hfr := spN_from s 44 k
      have hln := Nat.le_trans (tfull_len _) (spN_len s 44 k)
      have hno := fun h => spN_no (s := s) (c := 44) (i := k) h
      have hyes := fun h => spN_yes (s := s) (c := 44) (i := k) h
      obtain ⟨f, hf⟩ : ∃ f, f = (spN s 44 k).2 := ⟨_, rfl⟩
      obtain ⟨L, hL⟩ : ∃ L, L = (spN s 44 k).1 := ⟨_, rfl⟩
      rw [← hf] at hfr
      rw [← hL] at hln hown
      rw [← hf]
      have hpair : spN s 44 k = (L, f) := by rw [hL, hf]
      have htf := tfull_snoc L (s.extract f k)
      have hxz : (s.extract f k).size ≤ 9223372036854775807 := by rw [ByteArray.size_extract]; omega
      obtain ⟨TL, hTL⟩ : ∃ TL, TL = tfull L := ⟨_, rfl⟩
      rw [← hTL] at hln hown htf
      have htr := fun W => ref1_Trim (s.extract f k) W hxz
      obtain ⟨x, hx⟩ : ∃ x, octTrim (s.extract f k) = x := ⟨_, rfl⟩
      rw [hx] at htf htr
      have HNO := Lib.hid hno; have HYES := Lib.hid hyes; have HPR := Lib.hid hpair; have HO := Lib.hid hown
      have HTF := Lib.hid htf; have HTL := Lib.hid hTL; have HTR := Lib.hid htr
      clear hno hyes hpair hf hL hown htf hTL htr hx hxz
      cases hq : spAt s 44 k
      · have hks : k < s.size := by
          rcases Nat.lt_or_ge k s.size with h | h
          · exact h
          · exfalso
            have : k = s.size := by omega
            rw [this, spAt_end] at hq; cases hq
        have hkn : ((k : Int) == (s.size : Int)) = false := by simp; omega
        have hsc : ((s[k].toNat : Int) == 44) = false := by
          unfold spAt at hq; rw [dif_pos hks] at hq
          rw [beq_eq_false_iff_ne] at hq ⊢
          intro h
          exact hq (UInt8.toNat_inj.1 (by show s[k].toNat = 44; omega))
        have HQ := Lib.hid hq; clear hq
        go_wp2_with fail
        go_roundw
        case measure => exact meas hlt .i64 .i64
        case rel => exact ⟨k + 1, by omega, by go_num, by rw [HNO.out HQ.out, HPR.out], hb, by rw [HNO.out HQ.out, HPR.out, ← HTL.out]; exact HO.out⟩
      · have hds : (((k : Int) == (s.size : Int)) = true) ∨ (((k : Int) == (s.size : Int)) = false ∧ ∃ h : k < s.size, ((s[k].toNat : Int) == 44) = true) := by
          rcases Nat.lt_or_ge k s.size with h | h
          · refine .inr ⟨by simp; omega, h, ?_⟩
            unfold spAt at hq; rw [dif_pos h] at hq
            rw [beq_iff_eq] at hq ⊢
            rw [hq]; rfl
          · exact .inl (by simp; omega)
        have HT2 := Lib.hid (show tfull (spN s 44 (k + 1)).1 = TL ++ (if full x then [x] else []) by rw [HYES.out hq, HPR.out]; exact HTF.out)
        have HF2 := Lib.hid (show (spN s 44 (k + 1)).2 = k + 1 by rw [HYES.out hq])
        clear hq HNO HYES HPR HTF
        cases hxe : x.toList.isEmpty
        · have HXE := Lib.hid (show full x = true by unfold full; rw [hxe]; rfl)
          rcases hds with hkn | ⟨hkn, hks, hsc⟩
          all_goals
            go_wp2_with fail
            refine (HTR.out _).mono ?_
            rintro e w1 ⟨rfl, rfl⟩
            go_wp2_with (first
              | (at_builtin
                 refine wpList_append_own _ rfl (.tmp 30) (.tmp 32) _ rfl w.heap.size 9 i0 _ 1 16 Tryz.underlying78 hi hz0 hz1 hz2 rfl (by decide) _ _ _ rfl (HO.out.alloc _) ⟨wr.heap.size, 0, none⟩ 1 1 [.string x] rfl rfl (new_cells _ _ _) (scell_one _) (by simp only [maxLen]; omega) (by omega) (Nat.le_trans hb.size (by simp)) ?_
                 intro v2 w2 hown2 hg2 _))
            go_roundw
            case measure => exact meas hlt .i64 .i64
            case rel =>
              refine ⟨k + 1, by omega, by go_num, by rw [HF2.out]; go_num, fr_grown (fr_alloc hb _) hg2 (own_ge HO.out), ?_⟩
              rw [HT2.out, HXE.out, if_pos rfl, List.length_append, scells_snoc]
              exact hown2
        · have HXE := Lib.hid (show full x = false by unfold full; rw [hxe]; rfl)
          rcases hds with hkn | ⟨hkn, hks, hsc⟩
          all_goals
            go_wp2_with fail
            refine (HTR.out _).mono ?_
            rintro e w1 ⟨rfl, rfl⟩
            go_wp2_with fail
            go_roundw
            case measure => exact meas hlt .i64 .i64
            case rel => exact ⟨k + 1, by omega, by go_num, by rw [HF2.out]; go_num, hb, by rw [HT2.out, HXE.out, if_neg (by decide), List.append_nil]; exact HO.out⟩
    · obtain rfl : k = s.size + 1 := by omega
      obtain ⟨A2, c2, rfl, -, hS2, -⟩ := Strs.own hown
      have HS2 := Lib.hid hS2; clear hown hS2
      go_wp2
      go_ret
      exact ⟨⟨A2, c2, rfl, HS2.out⟩, hb⟩
end Go.Proofs.YthjnmcciejfpcaaGreatDoor
