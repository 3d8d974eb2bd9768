/- conduitref1.nibble, Unescape; conduitref11.part. -/
import Derived.Test.YthjnmcciejfpcaaGreatDoorPBack
import Derived.Test.YthjnmcciejfpcaaGreatDoorME
import Derived.Deep.QuietTactic
import Derived.BigQuiet
import Derived.Deep.RegionHeld3
namespace Go.Proofs.YthjnmcciejfpcaaGreatDoor
set_option linter.unusedVariables false
set_option linter.unusedSimpArgs false
open Go.RowKit

set_option maxHeartbeats 400000 in
theorem ref1_nibble (c : UInt8) (w : World) : Calls Tryz.prog 98 #[.int .u8 (c.toNat : Int)] w fun e w' => e = .returned (.int .i64 (nib c)) ∧ w = w' := by
  by_cases hd : 48 ≤ (c.toNat : Int) ∧ (c.toNat : Int) ≤ 57
  · have hdb : digN c = true := by unfold digN; simp [hd]
    have h1 := hd.1
    have h2 := hd.2
    have hn : nib c = (c.toNat : Int) - 48 := by unfold nib; rw [if_pos hd]
    have HN := Lib.hid hn; clear hn hd
    go_enter Tryz.func98, Tryz.ntmps98
    go_wp2_with (go_at_call 63; refine (ref1_digit c _).mono ?_; rintro e w1 ⟨rfl, rfl⟩)
    go_ret
    exact ⟨by rw [HN.out]; rfl, rfl⟩
  · have hdb : digN c = false := by unfold digN; simp; omega
    by_cases ha : 97 ≤ (c.toNat : Int) ∧ (c.toNat : Int) ≤ 102
    · have h1 := ha.1
      have h2 := ha.2
      have hn : nib c = (c.toNat : Int) - 97 + 10 := by unfold nib; rw [if_neg hd, if_pos ha]
      have HN := Lib.hid hn; clear hn hd ha
      go_enter Tryz.func98, Tryz.ntmps98
      go_wp2_with (go_at_call 63; refine (ref1_digit c _).mono ?_; rintro e w1 ⟨rfl, rfl⟩)
      go_ret
      exact ⟨by rw [HN.out]; rfl, rfl⟩
    · by_cases hA : 65 ≤ (c.toNat : Int) ∧ (c.toNat : Int) ≤ 70
      · have h1 := hA.1
        have h2 := hA.2
        have h3 : (c.toNat : Int) < 97 := by omega
        have hn : nib c = (c.toNat : Int) - 65 + 10 := by unfold nib; rw [if_neg hd, if_neg ha, if_pos hA]
        have HN := Lib.hid hn; clear hn hd hA ha
        go_enter Tryz.func98, Tryz.ntmps98
        go_wp2_with (go_at_call 63; refine (ref1_digit c _).mono ?_; rintro e w1 ⟨rfl, rfl⟩)
        all_goals (go_ret; exact ⟨by rw [HN.out]; rfl, rfl⟩)
      · have hn : nib c = -1 := by unfold nib; rw [if_neg hd, if_neg ha, if_neg hA]
        have HN := Lib.hid hn; clear hn
        go_enter Tryz.func98, Tryz.ntmps98
        go_wp2_with (go_at_call 63; refine (ref1_digit c _).mono ?_; rintro e w1 ⟨rfl, rfl⟩)
        all_goals first | (go_ret; exact ⟨by rw [HN.out]; rfl, rfl⟩) | (exfalso; omega)

/-! ### the machine of Unescape: at which byte, what is out -/
theorem code2_no {a b : UInt8} (h : nib a < 0 ∨ nib b < 0 ∨ nib a + nib b = 0) : code2 [a, b] = none := by
  have e : hexN [a, b] = (nib a).toNat * 16 + (nib b).toNat := by simp [hexN]
  have e2 : code2 [a, b] = if (decide (0 ≤ nib a) && decide (0 ≤ nib b) && !(hexN [a, b] == 0)) = true then some (UInt8.ofNat (hexN [a, b])) else none := rfl
  rw [e2, e]
  rcases h with h | h | h
  · rw [decide_eq_false (by omega)]; simp
  · rw [decide_eq_false (p := 0 ≤ nib b) (by omega)]; simp
  · by_cases ha : 0 ≤ nib a
    · by_cases hb : 0 ≤ nib b
      · have : nib a = 0 := by omega
        have : nib b = 0 := by omega
        simp [*]
      · rw [decide_eq_false (p := 0 ≤ nib b) hb]; simp
    · rw [decide_eq_false ha]; simp
theorem code2_yes {a b : UInt8} (h1 : 0 ≤ nib a) (h2 : 0 ≤ nib b) (h3 : nib a + nib b ≠ 0) : code2 [a, b] = some (UInt8.ofNat (16 * nib a + nib b).toNat) := by
  have e : hexN [a, b] = (nib a).toNat * 16 + (nib b).toNat := by simp [hexN]
  have ha := nib_le a
  have hb := nib_le b
  have e2 : code2 [a, b] = if (decide (0 ≤ nib a) && decide (0 ≤ nib b) && !(hexN [a, b] == 0)) = true then some (UInt8.ofNat (hexN [a, b])) else none := rfl
  rw [e2, e, decide_eq_true h1, decide_eq_true h2]
  have : ((nib a).toNat * 16 + (nib b).toNat == 0) = false := by simp; omega
  rw [this]
  simp only [Bool.not_false, Bool.and_self, if_true, Option.some.injEq]
  congr 1
  omega
theorem own_drewN {w : World} {base e size n : Nat} {v : Value} {xs : List Value} (h : w.ownsRow base e size v n xs) (m : Nat) : (w.drewN m).ownsRow base e size v n xs := h
theorem run_idx (W : World) (s : ByteArray) (k : Nat) (h : k < s.size) (i : Int) (hi : i = (k : Int)) (c : UInt8) (hc : s[k] = c) : (Instr.index 9 (.string s) (.int .i64 i)).run Tryz.prog W = .ok (.int .u8 (c.toNat : Int)) W := by
  subst hi
  rw [run_index_string W 9 s .i64 (k : Int) Tryz.underlying9]
  subst hc
  simp [h]
def unescR1 : Option (List UInt8) → Value
  | some p => .tuple #[.string (mk p), .int .i64 0]
  | none => .tuple #[.string ⟨#[]⟩, .int .i64 10]
theorem drop_two (l : List UInt8) (k : Nat) (h : k + 2 < l.length) : l.drop k = l[k] :: l[k+1] :: l[k+2] :: l.drop (k + 3) := by
  rw [List.drop_eq_getElem_cons (by omega), List.drop_eq_getElem_cons (i := k + 1) (by omega), List.drop_eq_getElem_cons (i := k + 1 + 1) (by omega)]
theorem unesc_done {s : ByteArray} {k : Nat} {o : List UInt8} {U : Option (List UInt8)} (h : unescA ((L s).drop k) o = U) (hk : k = s.size) : U = some o := by
  rw [← h, List.drop_of_length_le (by rw [L_len]; omega)]; rfl
theorem unesc_plain {s : ByteArray} {k : Nat} {o : List UInt8} {U : Option (List UInt8)} (h : unescA ((L s).drop k) o = U) (hk : k < s.size) (hc : s[k] ≠ 37) : unescA ((L s).drop (k + 1)) (o ++ [s[k]]) = U := by
  rw [List.drop_eq_getElem_cons (by rw [L_len]; exact hk), L_at s k hk, unescA_plain hc] at h
  exact h
theorem unesc_short {s : ByteArray} {k : Nat} {o : List UInt8} {U : Option (List UInt8)} (h : unescA ((L s).drop k) o = U) (hk : k < s.size) (hc : s[k] = 37) (hs : s.size ≤ k + 2) : U = none := by
  rw [List.drop_eq_getElem_cons (by rw [L_len]; exact hk), L_at s k hk, hc, unescA_pct] at h
  have hl : ((L s).drop (k + 1)).length ≤ 1 := by rw [List.length_drop, L_len]; omega
  rw [← h]
  match hd : (L s).drop (k + 1) with
  | [] => rfl
  | [a] => rfl
  | a :: b :: r => rw [hd] at hl; simp at hl
theorem unesc_code {s : ByteArray} {k : Nat} {o : List UInt8} {U : Option (List UInt8)} (h : unescA ((L s).drop k) o = U) (hk : k + 2 < s.size) (hc : s[k] = 37) :
    (match code2 [s[k + 1], s[k + 2]] with
    | some z => unescA ((L s).drop (k + 3)) (o ++ [z])
    | none => none) = U := by
  rw [drop_two (L s) k (by rw [L_len]; exact hk), L_at s k (by omega), L_at s (k + 1) (by omega), L_at s (k + 2) hk, hc, unescA_pct] at h
  exact h
theorem unesc_no {s : ByteArray} {k : Nat} {o : List UInt8} {U : Option (List UInt8)} (h : unescA ((L s).drop k) o = U) (hk : k + 2 < s.size) (hc : s[k] = 37) (h2 : nib s[k + 1] < 0 ∨ nib s[k + 2] < 0 ∨ nib s[k + 1] + nib s[k + 2] = 0) : U = none := by
  have := unesc_code h hk hc
  rw [code2_no h2] at this
  exact this.symm
theorem unesc_yes {s : ByteArray} {k : Nat} {o : List UInt8} {U : Option (List UInt8)} (h : unescA ((L s).drop k) o = U) (hk : k + 2 < s.size) (hc : s[k] = 37) (h1 : 0 ≤ nib s[k + 1]) (h2 : 0 ≤ nib s[k + 2]) (h3 : nib s[k + 1] + nib s[k + 2] ≠ 0) :
    unescA ((L s).drop (k + 3)) (o ++ [UInt8.ofNat (16 * nib s[k + 1] + nib s[k + 2]).toNat]) = U := by
  have := unesc_code h hk hc
  rw [code2_yes h1 h2 h3] at this
  exact this
set_option maxRecDepth 100000 in
set_option maxHeartbeats 4000000 in
theorem ref1_Unescape (s : ByteArray) (w : World) (hs : s.size ≤ 70000000000000) :
    Calls Tryz.prog 90 #[.string s] w fun e w' => e = .returned (unescR1 (unescS s)) ∧ Below w.heap.size w w' := by
  obtain ⟨i0, hi, hz0', hz1, hz2⟩ := info_parts u8_info
  obtain ⟨U, hU⟩ : ∃ U, unescS s = U := ⟨_, rfl⟩
  rw [hU]
  have hU0 : unescA ((L s).drop 0) [] = U := hU
  have HU0 := Lib.hid hU0; clear hU0 hU
  go_enter Tryz.func90, Tryz.ntmps90
  go_wp2
  go_loopw [4, 5] (fun v i wr => ∃ (k : Nat) (o : List UInt8), k ≤ s.size ∧ i = .int .i64 k ∧ o.length ≤ k ∧ Below w.heap.size w wr ∧ unescA ((L s).drop k) o = U ∧ wr.ownsRow w.heap.size 5 1 v o.length (ucells o)) (fun _ i _ => s.size - (intOf i).toNat)
  case atStart => exact ⟨0, [], Nat.zero_le _, rfl, Nat.le_refl _, Below.refl _ _, HU0.out, World.ownsRow_nil _ _ _ _⟩
  case round =>
    obtain ⟨k, o, hk, rfl, hol, hb, hun, hown⟩ := hrel
    have HB := Lib.hid hb; have HO := Lib.hid hown; have HUN := Lib.hid hun
    clear hb hown hun HU0
    by_cases hlt : k < s.size
    · obtain ⟨c, hc⟩ : ∃ c, s[k] = c := ⟨_, rfl⟩
      have HC := Lib.hid hc
      by_cases h37 : c = 37
      · have h37I : ((c.toNat : Int) != 37) = false := by rw [h37]; rfl
        by_cases hk2 : k + 2 < s.size
        · have k2I : (k : Int) + 2 < (s.size : Int) := by omega
          have k1I : (k : Int) + 1 < (s.size : Int) := by omega
          have k0I : (0 : Int) ≤ (k : Int) := by omega
          obtain ⟨a, ha⟩ : ∃ a, s[k + 1] = a := ⟨_, rfl⟩
          obtain ⟨b, hb⟩ : ∃ b, s[k + 2] = b := ⟨_, rfl⟩
          have haI : (s[k + 1].toNat : Int) = (a.toNat : Int) := by rw [ha]
          have hbI : (s[k + 2].toNat : Int) = (b.toNat : Int) := by rw [hb]
          have hcI : (s[k].toNat : Int) = (c.toNat : Int) := by rw [hc]
          have HA := Lib.hid ha; have HBB := Lib.hid hb; have H37 := Lib.hid h37
          have ix1 : ∀ W : World, (Instr.index 9 (.string s) (.int .i64 ((k : Int) + 1))).run Tryz.prog W = .ok (.int .u8 (a.toNat : Int)) W := fun W => run_idx W s (k + 1) (by omega) _ (by omega) a ha
          have ix2 : ∀ W : World, (Instr.index 9 (.string s) (.int .i64 ((k : Int) + 2))).run Tryz.prog W = .ok (.int .u8 (b.toNat : Int)) W := fun W => run_idx W s (k + 2) (by omega) _ (by omega) b hb
          clear ha hb hc h37
          have w1 : IntKind.i64.wrap ((k : Int) + 1) = (k : Int) + 1 := IntWalk.i64_in _ (by omega)
          have w2 : IntKind.i64.wrap ((k : Int) + 2) = (k : Int) + 2 := IntWalk.i64_in _ (by omega)
          obtain ⟨x, hx⟩ : ∃ x, nib a = x := ⟨_, rfl⟩
          obtain ⟨y, hy⟩ : ∃ y, nib b = y := ⟨_, rfl⟩
          have hxl := nib_le a; have hyl := nib_le b
          rw [hx] at hxl; rw [hy] at hyl
          have HXX := Lib.hid hx; have HYY := Lib.hid hy
          clear hx hy
          go_wp2_with fail
          go_quiet (first | (go_at_call 98; refine Calls.quiet_of_same (same_sym (ref1_nibble _ _))))
          rw [HXX.out, HYY.out]
          clear w1 w2 ix1 ix2
          by_cases hx0 : x < 0
          · have hn := unesc_no HUN.out hk2 (HC.out.trans H37.out) (.inl (by rw [HA.out, HXX.out]; exact hx0))
            have HN := Lib.hid hn; clear hn
            go_wp2
            go_ret2
            exact ⟨by rw [HN.out]; rfl, fr_drewN HB.out _⟩
          · by_cases hy0 : y < 0
            · have hn := unesc_no HUN.out hk2 (HC.out.trans H37.out) (.inr (.inl (by rw [HBB.out, HYY.out]; exact hy0)))
              have HN := Lib.hid hn; clear hn
              go_wp2
              go_ret2
              exact ⟨by rw [HN.out]; rfl, fr_drewN HB.out _⟩
            · by_cases hs0 : x + y = 0
              · have hn := unesc_no HUN.out hk2 (HC.out.trans H37.out) (.inr (.inr (by rw [HBB.out, HYY.out, HA.out, HXX.out]; exact hs0)))
                have HN := Lib.hid hn; clear hn
                have hsB : (x + y == 0) = true := by simp; exact hs0
                go_wp2
                go_ret2
                exact ⟨by rw [HN.out]; rfl, fr_drewN HB.out _⟩
              · have hn := unesc_yes HUN.out hk2 (HC.out.trans H37.out) (by rw [HA.out, HXX.out]; omega) (by rw [HBB.out, HYY.out]; omega) (by rw [HBB.out, HYY.out, HA.out, HXX.out]; exact hs0)
                rw [HBB.out, HYY.out, HA.out, HXX.out] at hn
                have hsB : (x + y == 0) = false := by simp; exact hs0
                obtain ⟨z, hz⟩ : ∃ z, UInt8.ofNat (16 * x + y).toNat = z := ⟨_, rfl⟩
                have hzI : (z.toNat : Int) = 16 * x + y := by
                  rw [← hz]
                  have h1 : (16 * x + y).toNat < 256 := by omega
                  rw [UInt8.toNat_ofNat_of_lt' h1]; omega
                rw [hz] at hn
                have hz0 : 0 ≤ 16 * x + y := by omega
                have hz255 : 16 * x + y ≤ 255 := by omega
                have HN := Lib.hid hn; have HZI := Lib.hid hzI
                clear hn hz hzI
                go_wp2_with (first
                  | (at_builtin
                     refine wpList_append_own _ rfl (.tmp 51) (.tmp 57) _ rfl w.heap.size 5 i0 _ 1 1 Tryz.underlying104 hi hz0' hz1 hz2 rfl (by decide) _ _ _ rfl ((own_drewN HO.out _).alloc _) ⟨wr.heap.size, 0, none⟩ 1 1 [.int .u8 (16 * x + y)] rfl rfl (new_cells _ _ _) (ucell_one _) (by simp only [maxLen]; omega) (by omega) (Nat.le_trans HB.out.size (by simp)) ?_
                     intro v2 w3 hown2 hg2 _))
                go_roundw
                case measure => show s.size - ((k : Int) + 2 + 1).toNat < s.size - ((k : Int)).toNat; omega
                case rel =>
                  refine ⟨k + 3, o ++ [z], by omega, by go_num, by simp; omega, fr_grown (fr_alloc (fr_drewN HB.out _) _) hg2 (own_ge HO.out), HN.out, ?_⟩
                  rw [List.length_append, ucells_snoc, HZI.out]
                  exact hown2
        · have k2I : (s.size : Int) ≤ (k : Int) + 2 := by omega
          have hn := unesc_short HUN.out hlt (HC.out.trans h37) (by omega)
          have hcI : (s[k].toNat : Int) = (c.toNat : Int) := by rw [hc]
          have HN := Lib.hid hn; clear hn hc h37
          go_wp2
          go_ret2
          exact ⟨by rw [HN.out]; rfl, HB.out⟩
      · have h37I : ((c.toNat : Int) != 37) = true := by
          have : ¬ (c.toNat : Int) = 37 := fun h => h37 (UInt8.toNat_inj.1 (show c.toNat = (37 : UInt8).toNat by show c.toNat = 37; omega))
          simpa using this
        have hn := unesc_plain HUN.out hlt (by rw [hc]; exact h37)
        rw [hc] at hn
        have hcI : (s[k].toNat : Int) = (c.toNat : Int) := by rw [hc]
        have HN := Lib.hid hn; clear hn hc h37
        go_wp2_with (first
          | (at_builtin
             refine wpList_append_own _ rfl (.tmp 18) (.tmp 22) _ rfl w.heap.size 5 i0 _ 1 1 Tryz.underlying104 hi hz0' hz1 hz2 rfl (by decide) _ _ _ rfl (HO.out.alloc _) ⟨wr.heap.size, 0, none⟩ 1 1 [.int .u8 (c.toNat : Int)] rfl rfl (new_cells _ _ _) (ucell_one _) (by simp only [maxLen]; omega) (by omega) (Nat.le_trans HB.out.size (by simp)) ?_
             intro v2 w3 hown2 hg2 _))
        go_roundw
        case measure => exact meas hlt .i64 .i64
        case rel =>
          refine ⟨k + 1, o ++ [c], by omega, by go_num, by simp; omega, fr_grown (fr_alloc HB.out _) hg2 (own_ge HO.out), HN.out, ?_⟩
          rw [List.length_append, ucells_snoc]
          exact hown2
    · have hn := unesc_done HUN.out (by omega)
      have hcv := own_back HO.out
      have HN := Lib.hid hn; clear hn
      go_wp2
      go_ret2
      exact ⟨by rw [HN.out]; rfl, HB.out⟩
end Go.Proofs.YthjnmcciejfpcaaGreatDoor
