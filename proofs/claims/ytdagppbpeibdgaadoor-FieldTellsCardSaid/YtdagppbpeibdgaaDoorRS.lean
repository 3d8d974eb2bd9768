/- conduitref6.split, target, Split, SameRequest; conduitlaw7.code. -/
import Derived.Test.YtdagppbpeibdgaaDoorRT
import Derived.Test.YtdagppbpeibdgaaDoorSt3
namespace Go.Proofs.YtdagppbpeibdgaaDoor
set_option linter.unusedVariables false
set_option linter.unusedSimpArgs false
open Go.RowKit

set_option maxRecDepth 100000 in
set_option maxHeartbeats 2000000 in
theorem ref6_split (s : ByteArray) (c : UInt8) (w : World) (hs : s.size ≤ 1000000000) :
    Calls Tryd.prog 53 #[.string s, .int .u8 (c.toNat : Int)] w fun e w' => (∃ v, e = .returned v ∧ w'.ownsRow w.heap.size 9 1 v (splitL s c).length (scells (splitL s c))) ∧ Below w.heap.size w w' := by
  obtain ⟨i0, hi, hz0, hz1, hz2⟩ := info_parts str_info
  go_enter Tryd.func53, Tryd.ntmps53
  go_wp2
  go_loopw [5, 6, 7] (fun v fr i wr => ∃ k : Nat, k ≤ s.size + 1 ∧ i = .int .i64 k ∧ fr = .int .i64 ((spN s c k).2 : Nat) ∧ Below w.heap.size w wr ∧ wr.ownsRow w.heap.size 9 1 v (spN s c k).1.length (scells (spN s c k).1)) (fun _ _ i _ => s.size + 1 - (intOf i).toNat)
  case atStart => exact ⟨0, Nat.zero_le _, rfl, rfl, Below.refl _ _, World.ownsRow_nil _ _ _ _⟩
  case round =>
    obtain ⟨k, hk, rfl, rfl, hb, hown⟩ := hrel
    by_cases hlt : k < s.size + 1
    · have hfr := spN_from s c k
      have hln := spN_len s c k
      have hno := fun h => spN_no (s := s) (c := c) (i := k) h
      have hyes := fun h => spN_yes (s := s) (c := c) (i := k) h
      obtain ⟨f, hf⟩ : ∃ f, f = (spN s c k).2 := ⟨_, rfl⟩
      obtain ⟨L, hL⟩ : ∃ L, L = (spN s c k).1 := ⟨_, rfl⟩
      rw [← hf] at hfr
      rw [← hL] at hln hown
      rw [← hf]
      have hpair : spN s c k = (L, f) := by rw [hL, hf]
      have HNO := Lib.hid hno; have HYES := Lib.hid hyes; have HPR := Lib.hid hpair; have HO := Lib.hid hown
      clear hno hyes hpair hf hL hown
      by_cases hks : k < s.size
      · have hkn : ((k : Int) == (s.size : Int)) = false := by simp; omega
        have hsc : ((s[k].toNat : Int) == (c.toNat : Int)) = spAt s c k := by
          unfold spAt; rw [dif_pos hks]
          by_cases e : s[k] = c
          · simp [e]
          · have : ¬ s[k].toNat = c.toNat := fun h => e (UInt8.toNat_inj.1 h)
            rw [beq_eq_false_iff_ne.2 e, beq_eq_false_iff_ne.2 (by omega)]
        cases hq : spAt s c k
        · rw [hq] at hsc
          have HQ := Lib.hid hq; clear hq
          go_wp2_with fail
          go_roundw
          case measure => exact meas hlt .i64 .i64
          case rel => exact ⟨k + 1, by omega, by go_num, by rw [HNO.out HQ.out, HPR.out], hb, by rw [HNO.out HQ.out, HPR.out]; exact HO.out⟩
        · rw [hq] at hsc
          have HQ := Lib.hid hq; clear hq
          go_wp2_with (first
            | (at_builtin
               refine wpList_append_own _ rfl (.tmp 25) (.tmp 30) _ rfl w.heap.size 9 i0 _ 1 16 Tryd.underlying33 hi hz0 hz1 hz2 rfl (by decide) _ _ _ rfl (HO.out.alloc _) ⟨wr.heap.size, 0, none⟩ 1 1 [.string (s.extract f k)] rfl rfl (new_cells _ _ _) (scell_one _) (by simp only [maxLen]; omega) (by omega) (Nat.le_trans hb.size (by simp)) ?_
               intro v2 w2 hown2 hg2 _))
          go_roundw
          case measure => exact meas hlt .i64 .i64
          case rel =>
            refine ⟨k + 1, by omega, by go_num, by rw [HYES.out HQ.out]; go_num, fr_grown (fr_alloc hb _) hg2 (own_ge HO.out), ?_⟩
            rw [HYES.out HQ.out, HPR.out]
            simp only []
            rw [List.length_append, scells_snoc]
            exact hown2
      · have hks2 : k = s.size := by omega
        have hq : spAt s c k = true := by rw [hks2]; exact spAt_end s c
        have HQ := Lib.hid hq; clear hq
        have hkn : ((k : Int) == (s.size : Int)) = true := by rw [hks2]; simp
        have HK := Lib.hid hks2; clear hks2
        go_wp2_with (first
          | (at_builtin
             refine wpList_append_own _ rfl (.tmp 25) (.tmp 30) _ rfl w.heap.size 9 i0 _ 1 16 Tryd.underlying33 hi hz0 hz1 hz2 rfl (by decide) _ _ _ rfl (HO.out.alloc _) ⟨wr.heap.size, 0, none⟩ 1 1 [.string (s.extract f k)] rfl rfl (new_cells _ _ _) (scell_one _) (by simp only [maxLen]; omega) (by omega) (Nat.le_trans hb.size (by simp)) ?_
             intro v2 w2 hown2 hg2 _))
        go_roundw
        case measure => exact meas hlt .i64 .i64
        case rel =>
          refine ⟨k + 1, by omega, by go_num, by rw [HYES.out HQ.out]; go_num, fr_grown (fr_alloc hb _) hg2 (own_ge HO.out), ?_⟩
          rw [HYES.out HQ.out, HPR.out]
          simp only []
          rw [List.length_append, scells_snoc]
          exact hown2
    · obtain rfl : k = s.size + 1 := by omega
      have HO := Lib.hid hown; clear hown
      go_wp2
      go_ret
      exact ⟨⟨_, rfl, HO.out⟩, hb⟩
theorem ref1_SamePairs_nil (w : World) : Calls Tryd.prog 35 #[.slice none 0 0, .slice none 0 0] w fun e w' => e = .returned (.bool true) ∧ w = w' := by
  go_enter Tryd.func35, Tryd.ntmps35
  go_wp2
  go_loop [5] (fun i => i = .int .i64 0) (fun _ => 0)
  case atStart => rfl
  case round =>
    subst hrel
    go_wp2
    go_ret
    exact ⟨rfl, rfl⟩
set_option maxHeartbeats 2000000 in
theorem ref6_Same (m t : ByteArray) (k : Int) (w : World) :
    Calls Tryd.prog 26 #[.agg #[.string m, .string t, .int .i64 k, .slice none 0 0, .string ⟨#[]⟩], .agg #[.string m, .string t, .int .i64 k, .slice none 0 0, .string ⟨#[]⟩]] w fun e w' => e = .returned (.bool true) ∧ Below w.heap.size w w' := by
  obtain ⟨W1, hW1⟩ : ∃ W1, w.alloc (.cells #[.string m, .string t, .int .i64 k, .slice none 0 0, .string ⟨#[]⟩] 46) = W1 := ⟨_, rfl⟩
  have hf1 : Below w.heap.size w W1 := hW1 ▸ fr_alloc (fr_refl w) (.cells #[.string m, .string t, .int .i64 k, .slice none 0 0, .string ⟨#[]⟩] 46)
  have hB1 : Blk W1 w.heap.size 46 #[.string m, .string t, .int .i64 k, .slice none 0 0, .string ⟨#[]⟩] := hW1 ▸ Blk.new w 46 #[.string m, .string t, .int .i64 k, .slice none 0 0, .string ⟨#[]⟩]
  have hB3 := hB1.alloc (.cells #[.string m, .string t, .int .i64 k, .slice none 0 0, .string ⟨#[]⟩] 46)
  have hB2 := Blk.new W1 46 #[.string m, .string t, .int .i64 k, .slice none 0 0, .string ⟨#[]⟩]
  have c0 : (W1.alloc (.cells #[.string m, .string t, .int .i64 k, .slice none 0 0, .string ⟨#[]⟩] 46)).cell? ⟨w.heap.size, 0, none⟩ = some (.string m) := hB3.cell 0
  have d0 : (W1.alloc (.cells #[.string m, .string t, .int .i64 k, .slice none 0 0, .string ⟨#[]⟩] 46)).cell? ⟨W1.heap.size, 0, none⟩ = some (.string m) := hB2.cell 0
  have c1 : (W1.alloc (.cells #[.string m, .string t, .int .i64 k, .slice none 0 0, .string ⟨#[]⟩] 46)).cell? ⟨w.heap.size, 1, none⟩ = some (.string t) := hB3.cell 1
  have d1 : (W1.alloc (.cells #[.string m, .string t, .int .i64 k, .slice none 0 0, .string ⟨#[]⟩] 46)).cell? ⟨W1.heap.size, 1, none⟩ = some (.string t) := hB2.cell 1
  have c2 : (W1.alloc (.cells #[.string m, .string t, .int .i64 k, .slice none 0 0, .string ⟨#[]⟩] 46)).cell? ⟨w.heap.size, 2, none⟩ = some (.int .i64 k) := hB3.cell 2
  have d2 : (W1.alloc (.cells #[.string m, .string t, .int .i64 k, .slice none 0 0, .string ⟨#[]⟩] 46)).cell? ⟨W1.heap.size, 2, none⟩ = some (.int .i64 k) := hB2.cell 2
  have c3 : (W1.alloc (.cells #[.string m, .string t, .int .i64 k, .slice none 0 0, .string ⟨#[]⟩] 46)).cell? ⟨w.heap.size, 3, none⟩ = some (.slice none 0 0) := hB3.cell 3
  have d3 : (W1.alloc (.cells #[.string m, .string t, .int .i64 k, .slice none 0 0, .string ⟨#[]⟩] 46)).cell? ⟨W1.heap.size, 3, none⟩ = some (.slice none 0 0) := hB2.cell 3
  have c4 : (W1.alloc (.cells #[.string m, .string t, .int .i64 k, .slice none 0 0, .string ⟨#[]⟩] 46)).cell? ⟨w.heap.size, 4, none⟩ = some (.string ⟨#[]⟩) := hB3.cell 4
  have d4 : (W1.alloc (.cells #[.string m, .string t, .int .i64 k, .slice none 0 0, .string ⟨#[]⟩] 46)).cell? ⟨W1.heap.size, 4, none⟩ = some (.string ⟨#[]⟩) := hB2.cell 4
  have e1 : (m.toList == m.toList) = true := by simp
  have e2 : (t.toList == t.toList) = true := by simp
  have e3 : ((k : Int) == k) = true := by simp
  go_enter Tryd.func26, Tryd.ntmps26
  go_wp2_with fail
  refine (ref1_SamePairs_nil _).mono ?_
  rintro e w1 ⟨rfl, rfl⟩
  go_wp2
  go_ret
  exact ⟨rfl, fr_alloc hf1 _⟩
theorem law7_code_nil (w : World) : Calls Tryd.prog 27 #[.nilIface] w fun e w' => e = .returned (.int .i64 0) ∧ Below w.heap.size w w' := by
  go_enter Tryd.func27, Tryd.ntmps27
  go_wp2
  go_ret
  exact ⟨rfl, fr_alloc (fr_refl _) _⟩
theorem law7_code_n (n : Int) (w : World) (hE : ErrT w) : Calls Tryd.prog 27 #[.iface 38 (.int .i64 n)] w fun e w' => e = .returned (.int .i64 n) ∧ Below w.heap.size w w' := by
  have hf := fr_alloc (fr_refl w) (.cells #[.int .i64 0] 38)
  have hB := Blk.new w 38 #[.int .i64 0]
  have HE := Lib.hid (hE.fr hf); have HB := Lib.hid hB; have HF := Lib.hid hf
  clear hE hf hB
  go_enter Tryd.func27, Tryd.ntmps27
  go_wp2_with fail
  refine (as_set n _ _ _ HE.out HB.out).mono ?_
  rintro e w1 ⟨rfl, hg, hc⟩
  have HG := Lib.hid (fr_only HF.out hg (Nat.le_refl _)); clear hg
  go_wp2
  go_ret
  exact ⟨rfl, HG.out⟩
theorem law7_code (n : Int) (w : World) (hE : ErrT w) : Calls Tryd.prog 27 #[errV n] w fun e w' => e = .returned (.int .i64 n) ∧ Below w.heap.size w w' := by
  unfold errV
  by_cases h : n = 0
  · rw [if_pos h, h]; exact law7_code_nil w
  · rw [if_neg h]; exact law7_code_n n w hE
set_option maxHeartbeats 2000000 in
theorem ref6_Split (t : ByteArray) (w : World) (hs : t.size ≤ 1000000000) : Calls Tryd.prog 25 #[.string t] w fun e w' => e = .returned (.tuple #[.string (cutS t 63).1, .string (cutS t 63).2.1]) ∧ Below w.heap.size w w' := by
  have hlen : (L t).length = t.size := rfl
  have hyes : ∀ k (hk : k < t.size), (63 : UInt8) ∉ (L t).take k → t[k] = 63 → cutS t 63 = (t.extract 0 k, t.extract (k + 1) t.size, true) := fun k hk hn hc => by
    have e : L t = (L t).take k ++ 63 :: (L t).drop (k + 1) := by
      rw [← hc, ← L_at t k hk, ← List.drop_eq_getElem_cons (by exact hk), List.take_append_drop]
    rw [cutS_yes hn e]
    congr 1
    · apply L_inj; rw [L_mk, L_ext]; simp
    · congr 1; apply L_inj; rw [L_mk, L_end]
  have hno : (63 : UInt8) ∉ (L t).take t.size → cutS t 63 = (t, ⟨#[]⟩, false) := fun hn => cutS_no (by rwa [List.take_of_length_le (Nat.le_of_eq hlen)] at hn)
  have hnext : ∀ k (hk : k < t.size), (63 : UInt8) ∉ (L t).take k → t[k] ≠ 63 → (63 : UInt8) ∉ (L t).take (k + 1) := fun k hk hn hc => by
    rw [List.take_succ_eq_append_getElem (show k < (L t).length from hk), L_at t k hk]
    simp only [List.mem_append, List.mem_singleton, not_or]
    exact ⟨hn, fun h => hc h.symm⟩
  have h0 : (63 : UInt8) ∉ (L t).take 0 := by simp
  obtain ⟨P, hP⟩ : ∃ P : Nat → Prop, ∀ k, P k = ((63 : UInt8) ∉ (L t).take k) := ⟨_, fun _ => rfl⟩
  simp only [← hP] at hyes hno hnext h0
  obtain ⟨z, hz⟩ : ∃ z, cutS t 63 = z := ⟨_, rfl⟩
  rw [hz] at hyes hno ⊢
  have HY := Lib.hid hyes; have HNO := Lib.hid hno; have HX := Lib.hid hnext; have H0 := Lib.hid h0
  clear hyes hno hnext h0 hlen hP hz
  go_enter Tryd.func25, Tryd.ntmps25
  go_wp2
  go_loop [4] (fun i => ∃ k : Nat, k ≤ t.size ∧ i = .int .i64 k ∧ P k) (fun i => t.size - (intOf i).toNat)
  case atStart => exact ⟨0, Nat.zero_le _, rfl, H0.out⟩
  case round =>
    obtain ⟨k, hk, rfl, hall⟩ := hrel
    by_cases hlt : k < t.size
    · have hxk := HX.out k hlt hall
      have hyk := HY.out k hlt hall
      have ht : ((k : Int) + 1).toNat = k + 1 := by omega
      have h1 : 0 ≤ (k : Int) + 1 := by omega
      have h2 : (k : Int) + 1 ≤ (t.size : Int) := by omega
      have ew : IntKind.i64.wrap ((k : Int) + 1) = (k : Int) + 1 := IntWalk.i64_in _ (by omega)
      by_cases hc : t[k] = 63
      · have hq : ((t[k].toNat : Int) == 63) = true := by rw [hc]; rfl
        have HE := Lib.hid (hyk hc)
        clear hxk hyk hc hall
        go_wp2_with fail
        go_quiet (fail)
        go_wp2
        go_ret2
        exact ⟨by rw [HE.out]; rfl, fr_drewN (fr_refl _) _⟩
      · have hq : ((t[k].toNat : Int) == 63) = false := by
          simp; intro h; exact hc (UInt8.toNat_inj.1 (by show t[k].toNat = 63; omega))
        have HE := Lib.hid (hxk hc)
        clear hxk hyk hc hall ht h1 h2 ew
        go_wp2
        go_round
        case measure => exact meas hlt .i64 .i64
        case rel => exact ⟨k + 1, by omega, by go_num, HE.out⟩
    · obtain rfl : k = t.size := by omega
      have HE := Lib.hid (HNO.out hall); clear hall
      go_wp2
      go_ret2
      exact ⟨by rw [HE.out]; rfl, fr_refl _⟩
end Go.Proofs.YtdagppbpeibdgaaDoor
