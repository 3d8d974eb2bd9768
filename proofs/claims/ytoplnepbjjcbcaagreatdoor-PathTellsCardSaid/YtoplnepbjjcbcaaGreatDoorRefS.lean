/- conduitref11.part, split, Segments, Begins. -/
import Derived.Test.YtoplnepbjjcbcaaGreatDoorRefU
namespace Go.Proofs.YtoplnepbjjcbcaaGreatDoor
set_option linter.unusedVariables false
set_option linter.unusedSimpArgs false
open Go.RowKit

def partR1 : Option ByteArray → Value
  | some p => .tuple #[.string p, .bool true]
  | none => .tuple #[.string ⟨#[]⟩, .bool false]
set_option maxRecDepth 100000 in
set_option maxHeartbeats 2000000 in
theorem ref11_part (s : ByteArray) (w : World) (hs : s.size ≤ 70000000000000) :
    Calls Tryz.prog 26 #[.string s] w fun e w' => e = .returned (partR1 (partS s)) ∧ Below w.heap.size w w' := by
  have HC := Lib.hid (ref1_Unescape s w hs)
  cases hu : unescS s with
  | none =>
    have he : partS s = none := by unfold partS; rw [hu]
    rw [he]
    rw [hu] at HC
    clear he hu
    go_enter Tryz.func26, Tryz.ntmps26
    go_wp2_with fail
    refine HC.out.mono ?_
    rintro e w1 ⟨rfl, hb1⟩
    unfold unescR1
    go_wp2
    go_ret2
    exact ⟨rfl, hb1⟩
  | some p =>
    have he : partS s = if p.all okB then some (mk p) else none := by unfold partS; rw [hu]
    have hpl := unescS_len hu
    rw [hu] at HC
    obtain ⟨x, hx⟩ : ∃ x, mk p = x := ⟨_, rfl⟩
    have hxl : L x = p := by rw [← hx, L_mk]
    have hxs : p.length = x.size := by rw [← hx, mk_size]
    have hx9 : x.size ≤ 9223372036854775807 := by omega
    rw [hx] at he
    have hur : unescR1 (some p) = .tuple #[.string x, .int .i64 0] := by unfold unescR1; simp only [hx]
    rw [hur] at HC
    have HE := Lib.hid he; have HX := Lib.hid hxl; have HS := Lib.hid hxs
    clear he hu hx hxl hxs hur hpl hs
    go_enter Tryz.func26, Tryz.ntmps26
    go_wp2_with fail
    refine HC.out.mono ?_
    rintro e w1 ⟨rfl, hb1⟩
    go_wp2
    go_loop [6] (fun i => ∃ k : Nat, k ≤ x.size ∧ i = .int .i64 k ∧ (p.take k).all okB = true) (fun i => x.size - (intOf i).toNat)
    case atStart => exact ⟨0, Nat.zero_le _, rfl, rfl⟩
    case round =>
      obtain ⟨k, hk, rfl, hall⟩ := hrel
      by_cases hlt : k < x.size
      · have hkl : k < p.length := by have := HS.out; omega
        have hat : p[k] = x[k] := by have := HX.out; subst this; rfl
        obtain ⟨c, hc⟩ : ∃ c, x[k] = c := ⟨_, rfl⟩
        rw [hc] at hat
        have hcI : (x[k].toNat : Int) = (c.toNat : Int) := by rw [hc]
        have HA := Lib.hid hall; have HAT := Lib.hid hat
        clear hall hat hc
        by_cases b1 : c.toNat = 47
        · have g1 : ((c.toNat : Int) == 47) = true := by simp; omega
          have hno : p.all okB = false := all_drop hkl HA.out (by rw [HAT.out]; unfold okB; simp [b1])
          have HNO := Lib.hid hno; clear hno b1
          go_wp2
          go_ret2
          exact ⟨by rw [HE.out, HNO.out]; rfl, hb1⟩
        · have g1 : ((c.toNat : Int) == 47) = false := by simp; omega
          by_cases b3 : c.toNat < 32
          · have g3 : decide ((c.toNat : Int) < 32) = true := by simp; omega
            have hno : p.all okB = false := all_drop hkl HA.out (by rw [HAT.out]; unfold okB; simp; omega)
            have HNO := Lib.hid hno; clear hno b1 b3
            go_wp2
            go_ret2
            exact ⟨by rw [HE.out, HNO.out]; rfl, hb1⟩
          · have g3 : decide ((c.toNat : Int) < 32) = false := by simp; omega
            by_cases b2 : c.toNat = 127
            · have g2 : ((c.toNat : Int) == 127) = true := by simp; omega
              have hno : p.all okB = false := all_drop hkl HA.out (by rw [HAT.out]; unfold okB; simp [b2])
              have HNO := Lib.hid hno; clear hno b1 b2 b3
              go_wp2
              go_ret2
              exact ⟨by rw [HE.out, HNO.out]; rfl, hb1⟩
            · have g2 : ((c.toNat : Int) == 127) = false := by simp; omega
              have hok : okB c = true := by unfold okB; simp; omega
              have HOK := Lib.hid hok; clear hok b1 b2 b3
              go_wp2
              go_round
              case measure => exact meas hlt .i64 .i64
              case rel => exact ⟨k + 1, by omega, by go_num, all_succ hkl HA.out (by rw [HAT.out]; exact HOK.out)⟩
      · have e : p.take k = p := List.take_of_length_le (by have := HS.out; omega)
        rw [e] at hall
        have HA := Lib.hid hall; clear hall e
        go_wp2
        go_ret2
        exact ⟨by rw [HE.out, HA.out]; rfl, hb1⟩

set_option maxRecDepth 100000 in
set_option maxHeartbeats 2000000 in
theorem ref11_split (s : ByteArray) (w : World) (hs : s.size ≤ 4398046511103) :
    Calls Tryz.prog 25 #[.string s] w fun e w' => (∃ v, e = .returned v ∧ w'.ownsRow w.heap.size 9 1 v (splitL s 47).length (scells (splitL s 47))) ∧ Below w.heap.size w w' := by
  obtain ⟨i0, hi, hz0, hz1, hz2⟩ := info_parts str_info
  go_enter Tryz.func25, Tryz.ntmps25
  go_wp2
  go_loopw [3, 4, 5] (fun v fr i wr => ∃ k : Nat, k ≤ s.size + 1 ∧ i = .int .i64 k ∧ fr = .int .i64 ((spN s 47 k).2 : Nat) ∧ Below w.heap.size w wr ∧ wr.ownsRow w.heap.size 9 1 v (spN s 47 k).1.length (scells (spN s 47 k).1)) (fun _ _ i _ => s.size + 1 - (intOf i).toNat)
  case atStart => exact ⟨0, Nat.zero_le _, rfl, rfl, Below.refl _ _, World.ownsRow_nil _ _ _ _⟩
  case round =>
    obtain ⟨k, hk, rfl, rfl, hb, hown⟩ := hrel
    by_cases hlt : k < s.size + 1
    · have hfr := spN_from s 47 k
      have hln := spN_len s 47 k
      have hno := fun h => spN_no (s := s) (c := 47) (i := k) h
      have hyes := fun h => spN_yes (s := s) (c := 47) (i := k) h
      obtain ⟨f, hf⟩ : ∃ f, f = (spN s 47 k).2 := ⟨_, rfl⟩
      obtain ⟨L, hL⟩ : ∃ L, L = (spN s 47 k).1 := ⟨_, rfl⟩
      rw [← hf] at hfr
      rw [← hL] at hln hown
      rw [← hf]
      have hpair : spN s 47 k = (L, f) := by rw [hL, hf]
      have HNO := Lib.hid hno; have HYES := Lib.hid hyes; have HPR := Lib.hid hpair; have HO := Lib.hid hown
      clear hno hyes hpair hf hL hown
      by_cases hks : k < s.size
      · have hkn : ((k : Int) == (s.size : Int)) = false := by simp; omega
        have hsc : ((s[k].toNat : Int) == 47) = spAt s 47 k := by
          unfold spAt; rw [dif_pos hks]
          by_cases e : s[k] = 47
          · simp [e]
          · have : ¬ s[k].toNat = 47 := fun h => e (UInt8.toNat_inj.1 h)
            rw [beq_eq_false_iff_ne.2 e, beq_eq_false_iff_ne.2 (by omega)]
        cases hq : spAt s 47 k
        · rw [hq] at hsc
          have HQ := Lib.hid hq; clear hq
          go_wp2_with fail
          go_roundw
          case measure => exact meas hlt .i64 .i64
          case rel => exact ⟨k + 1, by omega, by go_num, by rw [HNO.out HQ.out, HPR.out], hb, by rw [HNO.out HQ.out, HPR.out]; exact HO.out⟩
        · rw [hq] at hsc
          have HQ := Lib.hid hq; clear hq
          go_wp2_with (first
            | (at_builtin
               refine wpList_append_own _ rfl (.tmp 22) (.tmp 27) _ rfl w.heap.size 9 i0 _ 1 16 Tryz.underlying31 hi hz0 hz1 hz2 rfl (by decide) _ _ _ rfl (HO.out.alloc _) ⟨wr.heap.size, 0, none⟩ 1 1 [.string (s.extract f k)] rfl rfl (new_cells _ _ _) (scell_one _) (by simp only [maxLen]; omega) (by omega) (Nat.le_trans hb.size (by simp)) ?_
               intro v2 w2 hown2 hg2 _))
          go_roundw
          case measure => exact meas hlt .i64 .i64
          case rel =>
            refine ⟨k + 1, by omega, by go_num, by rw [HYES.out HQ.out]; go_num, fr_grown (fr_alloc hb _) hg2 (own_ge HO.out), ?_⟩
            rw [HYES.out HQ.out, HPR.out]
            simp only []
            rw [List.length_append, scells_snoc]
            exact hown2
      · have hks2 : k = s.size := by omega
        have hq : spAt s 47 k = true := by rw [hks2]; exact spAt_end s 47
        have HQ := Lib.hid hq; clear hq
        have hkn : ((k : Int) == (s.size : Int)) = true := by rw [hks2]; simp
        have HK := Lib.hid hks2; clear hks2
        go_wp2_with (first
          | (at_builtin
             refine wpList_append_own _ rfl (.tmp 22) (.tmp 27) _ rfl w.heap.size 9 i0 _ 1 16 Tryz.underlying31 hi hz0 hz1 hz2 rfl (by decide) _ _ _ rfl (HO.out.alloc _) ⟨wr.heap.size, 0, none⟩ 1 1 [.string (s.extract f k)] rfl rfl (new_cells _ _ _) (scell_one _) (by simp only [maxLen]; omega) (by omega) (Nat.le_trans hb.size (by simp)) ?_
             intro v2 w2 hown2 hg2 _))
        go_roundw
        case measure => exact meas hlt .i64 .i64
        case rel =>
          refine ⟨k + 1, by omega, by go_num, by rw [HYES.out HQ.out]; go_num, fr_grown (fr_alloc hb _) hg2 (own_ge HO.out), ?_⟩
          rw [HYES.out HQ.out, HPR.out]
          simp only []
          rw [List.length_append, scells_snoc]
          exact hown2
    · obtain rfl : k = s.size + 1 := by omega
      have HO := Lib.hid hown; clear hown
      go_wp2
      go_ret
      exact ⟨⟨_, rfl, HO.out⟩, hb⟩

theorem split47 (s : ByteArray) (w : World) (hs : s.size ≤ 4398046511103) :
    Calls Tryz.prog 25 #[.string s] w fun e w' => (∃ A c, e = .returned (.slice A (cutB s 47).length c) ∧ Strs w' A (cutB s 47)) ∧ Below w.heap.size w w' := by
  refine (ref11_split s w hs).mono ?_
  rintro e w' ⟨⟨v, rfl, hown⟩, hb⟩
  rw [splitL_cutB] at hown
  obtain ⟨A, c, rfl, -, hS, -⟩ := Strs.own hown
  exact ⟨⟨A, c, rfl, hS⟩, hb⟩
end Go.Proofs.YtoplnepbjjcbcaaGreatDoor
