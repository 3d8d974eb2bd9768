/- octet.Escape. -/
import Derived.Test.YtfmnmgiefekjfaaGreatDoorRuA
import Derived.Test.YtfmnmgiefekjfaaGreatDoorPBack
import Derived.Deep.RegionLaw
import Derived.Deep.AppendLies
namespace Go.Proofs.YtfmnmgiefekjfaaGreatDoor
set_option linter.unusedVariables false
set_option linter.unusedSimpArgs false
open Go.RowKit

theorem plainIAll : (List.range 256).all (fun n => plainB (UInt8.ofNat n) == (decide (0 ≤ Lib.indexByte [45, 46, 95, 126, 47] (UInt8.ofNat n)) || isPlainB (UInt8.ofNat n))) = true := by kernel_rfl
theorem plainI (c : UInt8) : plainB c = (decide (0 ≤ Lib.indexByte (L ⟨#[45, 46, 95, 126, 47]⟩) c) || isPlainB c) := by
  have h := List.all_eq_true.1 plainIAll c.toNat (List.mem_range.2 c.toNat_lt)
  rw [show UInt8.ofNat c.toNat = c by simp] at h
  exact beq_iff_eq.1 h
theorem and15All : (List.range 256).all (fun n => bits BinOp.and IntKind.u8 (n : Int) 15 == (n : Int) % 16) = true := by kernel_rfl
theorem and15 (n : Nat) (h : n < 256) : bits BinOp.and IntKind.u8 (n : Int) 15 = (n : Int) % 16 := beq_iff_eq.1 (List.all_eq_true.1 and15All n (List.mem_range.2 h))
theorem up_get (q : Nat) (h : q < (⟨#[48, 49, 50, 51, 52, 53, 54, 55, 56, 57, 65, 66, 67, 68, 69, 70]⟩ : ByteArray).size) : ((⟨#[48, 49, 50, 51, 52, 53, 54, 55, 56, 57, 65, 66, 67, 68, 69, 70]⟩ : ByteArray)[q]'h).toNat = (upD q).toNat := by
  have h1 : (L ⟨#[48, 49, 50, 51, 52, 53, 54, 55, 56, 57, 65, 66, 67, 68, 69, 70]⟩)[q]'h = (⟨#[48, 49, 50, 51, 52, 53, 54, 55, 56, 57, 65, 66, 67, 68, 69, 70]⟩ : ByteArray)[q]'h := rfl
  unfold upD
  have h2 : (L ⟨#[48, 49, 50, 51, 52, 53, 54, 55, 56, 57, 65, 66, 67, 68, 69, 70]⟩)[q]? = some ((L ⟨#[48, 49, 50, 51, 52, 53, 54, 55, 56, 57, 65, 66, 67, 68, 69, 70]⟩)[q]'h) := List.getElem?_eq_getElem h
  rw [List.getD, h2]
  rfl
def escB (s : ByteArray) : ByteArray := mk (E (L s))
theorem escB_size (s : ByteArray) : (escB s).size ≤ 3 * s.size := by unfold escB; rw [mk_size]; exact E_len (L s)
theorem E_next (s : ByteArray) (k : Nat) (h : k < s.size) : E ((L s).take (k + 1)) = E ((L s).take k) ++ esc1 s[k] := by
  have hat : (L s)[k]'h = s[k] := rfl
  rw [List.take_succ_eq_append_getElem (show k < (L s).length from h), E_app, hat]
  congr 1
  simp [E]
set_option maxRecDepth 100000 in
set_option maxHeartbeats 4000000 in
theorem oct_Escape (s : ByteArray) (w : World) (hs : s.size ≤ 100000000) :
    Calls Tryz.prog 53 #[.string s] w fun e w' => e = .returned (.string (escB s)) ∧ Below w.heap.size w w' := by
  obtain ⟨i0, hi, hz0, hz1, hz2⟩ := info_parts u8_info
  go_enter Tryz.func53, Tryz.ntmps53
  go_wp2
  go_loopw [3, 8] (fun v i wr => ∃ k : Nat, k ≤ s.size ∧ i = .int .i64 k ∧ Below w.heap.size w wr ∧ wr.ownsRow w.heap.size 5 1 v (E ((L s).take k)).length (ucells (E ((L s).take k)))) (fun _ i _ => s.size - (intOf i).toNat)
  case atStart => exact ⟨0, Nat.zero_le _, rfl, Below.refl _ _, World.ownsRow_nil _ _ _ _⟩
  case round =>
    obtain ⟨k, hk, rfl, hb, hown⟩ := hrel
    by_cases hlt : k < s.size
    · have hpl := plainI s[k]
      have hnx := E_next s k hlt
      have hoz : (E ((L s).take k)).length ≤ 300000000 := by
        have := E_len ((L s).take k)
        rw [List.length_take, L_len] at this
        omega
      obtain ⟨o, ho⟩ : ∃ o, E ((L s).take k) = o := ⟨_, rfl⟩
      rw [ho] at hnx hoz hown
      obtain ⟨c, hc⟩ : ∃ c, s[k] = c := ⟨_, rfl⟩
      rw [hc] at hpl hnx
      have hcI : (s[k].toNat : Int) = (c.toNat : Int) := by rw [hc]
      have HNX := Lib.hid hnx; have HB := Lib.hid hb; have HO := Lib.hid hown
      clear hnx hb ho hown
      obtain ⟨ix, hix⟩ : ∃ ix, Lib.indexByte (L ⟨#[45, 46, 95, 126, 47]⟩) c = ix := ⟨_, rfl⟩
      rw [hix] at hpl
      have HIX := Lib.hid hix; clear hix
      by_cases hp : plainB c = true
      · have he1 : esc1 c = [c] := by unfold esc1; rw [if_pos hp]
        have HE := Lib.hid he1; clear he1
        by_cases h0 : 0 ≤ ix
        · have h0' : (0 : Int) ≤ ix := h0
          clear hp hpl
          go_wp2_with fail
          refine (lib_IndexByte ⟨#[45, 46, 95, 126, 47]⟩ c _).mono ?_
          rintro e w1 ⟨rfl, rfl⟩
          rw [HIX.out]
          go_wp2_with (first
            | (at_builtin
               refine wpList_append_own _ rfl (.tmp 29) (.tmp 31) _ rfl w.heap.size 5 i0 _ 1 1 Tryz.underlying106 hi hz0 hz1 hz2 rfl (by decide) _ _ _ rfl (HO.out.alloc _) ⟨wr.heap.size, 0, none⟩ 1 1 [.int .u8 (c.toNat : Int)] rfl rfl (new_cells _ _ _) (ucell_one _) (by simp only [maxLen]; omega) (by omega) (Nat.le_trans HB.out.size (by simp)) ?_
               intro v2 w3 hown2 hg2 _))
          go_roundw
          case measure => exact meas hlt .i64 .i64
          case rel =>
            refine ⟨k + 1, by omega, by go_num, fr_grown (fr_alloc HB.out _) hg2 (own_ge HO.out), ?_⟩
            rw [HNX.out, HE.out, List.length_append, ucells_snoc]
            exact hown2
        · have h0' : ix < 0 := by omega
          have hip : isPlainB c = true := by rw [hp, decide_eq_false h0, Bool.false_or] at hpl; exact hpl.symm
          have HIP := Lib.hid hip
          clear hp hpl hip h0
          go_wp2_with fail
          refine (lib_IndexByte ⟨#[45, 46, 95, 126, 47]⟩ c _).mono ?_
          rintro e w1 ⟨rfl, rfl⟩
          rw [HIX.out]
          go_wp2_with fail
          refine (oct_isPlain c _).mono ?_
          rintro e w1 ⟨rfl, rfl⟩
          rw [HIP.out]
          go_wp2_with (first
            | (at_builtin
               refine wpList_append_own _ rfl (.tmp 29) (.tmp 31) _ rfl w.heap.size 5 i0 _ 1 1 Tryz.underlying106 hi hz0 hz1 hz2 rfl (by decide) _ _ _ rfl (HO.out.alloc _) ⟨wr.heap.size, 0, none⟩ 1 1 [.int .u8 (c.toNat : Int)] rfl rfl (new_cells _ _ _) (ucell_one _) (by simp only [maxLen]; omega) (by omega) (Nat.le_trans HB.out.size (by simp)) ?_
               intro v2 w3 hown2 hg2 _))
          go_roundw
          case measure => exact meas hlt .i64 .i64
          case rel =>
            refine ⟨k + 1, by omega, by go_num, fr_grown (fr_alloc HB.out _) hg2 (own_ge HO.out), ?_⟩
            rw [HNX.out, HE.out, List.length_append, ucells_snoc]
            exact hown2
      · have hp0 : plainB c = false := by simpa using hp
        have h0' : ix < 0 := by
          rw [hp0] at hpl
          cases hd : decide (0 ≤ ix) with
          | false => have := of_decide_eq_false hd; omega
          | true => rw [hd] at hpl; cases hpl
        have hip : isPlainB c = false := by
          rw [hp0] at hpl
          cases hd : isPlainB c with
          | false => rfl
          | true => rw [hd, Bool.or_true] at hpl; cases hpl
        have hlt256 := c.toNat_lt
        obtain ⟨u, hu⟩ : ∃ u, c.toNat / 16 = u := ⟨_, rfl⟩
        obtain ⟨q, hq⟩ : ∃ q, c.toNat % 16 = q := ⟨_, rfl⟩
        have huI : (c.toNat : Int) / 16 = (u : Int) := by omega
        have hqI : bits BinOp.and IntKind.u8 (c.toNat : Int) 15 = (q : Int) := by rw [and15 _ hlt256]; omega
        have hu16 : (u : Int) < 16 := by omega
        have hq16 : (q : Int) < 16 := by omega
        have q1 : u < (⟨#[48, 49, 50, 51, 52, 53, 54, 55, 56, 57, 65, 66, 67, 68, 69, 70]⟩ : ByteArray).size := by show u < 16; omega
        have q2 : q < (⟨#[48, 49, 50, 51, 52, 53, 54, 55, 56, 57, 65, 66, 67, 68, 69, 70]⟩ : ByteArray).size := by show q < 16; omega
        obtain ⟨c1, hc1⟩ : ∃ c : UInt8, upD u = c := ⟨_, rfl⟩
        obtain ⟨c2, hc2⟩ : ∃ c : UInt8, upD q = c := ⟨_, rfl⟩
        have g1 := congrArg (fun k : Nat => (k : Int)) (up_get u q1)
        have g2 := congrArg (fun k : Nat => (k : Int)) (up_get q q2)
        simp only [hc1, hc2] at g1 g2
        have he1 : esc1 c = [37, c1, c2] := by unfold esc1; rw [hp0, if_neg (by decide), hu, hq, hc1, hc2]
        have HE := Lib.hid he1; have HIP := Lib.hid hip
        clear he1 hip hp hp0 hpl hc1 hc2 hu hq
        go_wp2_with fail
        refine (lib_IndexByte ⟨#[45, 46, 95, 126, 47]⟩ c _).mono ?_
        rintro e w1 ⟨rfl, rfl⟩
        rw [HIX.out]
        go_wp2_with fail
        refine (oct_isPlain c _).mono ?_
        rintro e w1 ⟨rfl, rfl⟩
        rw [HIP.out]
        go_wp2_with fail
        go_region_law (refine step_append_lies _ (by rfl) _ _ _ (by rfl) w.heap.size 5 i0 _ 1 1 Tryz.underlying106 hi hz0 hz1 hz2 rfl (by omega) _ _ _ (by rfl) ((HO.out.alloc _).drew) ⟨wr.heap.size, 0, none⟩ 3 3 [.int .u8 37, .int .u8 (c1.toNat : Int), .int .u8 (c2.toNat : Int)] (by rfl) (by rfl) (World.news_of_block (cs := #[.int .u8 37, .int .u8 (c1.toNat : Int), .int .u8 (c2.toNat : Int)]) (t := 5) (fr := (0, 0)) (heap_alloc_new wr _)) (by simp [Value.oneCell']) (by omega) (by simp only [maxLen]; omega) (by omega) (by simp; exact Nat.le_succ_of_le HB.out.size) (wr.heap.size + 1) (by simp) ?_; intro gg cap w5 hown1 hgrow hat hlt2)
        all_goals
          go_wp2_with fail
          go_roundw
          case measure => exact meas hlt .i64 .i64
          case rel =>
            refine ⟨k + 1, by omega, by go_num, fr_grown (fr_alloc HB.out _).drew hgrow (own_ge HO.out), ?_⟩
            rw [HNX.out, HE.out, List.length_append]
            have hcs : ucells (o ++ [37, c1, c2]) = ucells o ++ [.int .u8 37, .int .u8 (c1.toNat : Int), .int .u8 (c2.toNat : Int)] := by simp [ucells]
            rw [hcs]
            exact hown1
    · have hk2 : (L s).take k = L s := List.take_of_length_le (by rw [L_len]; omega)
      rw [hk2] at hown
      have hcv := own_back hown
      have hE : mk (E (L s)) = escB s := rfl
      rw [hE] at hcv
      clear hown
      go_wp2
      go_ret
      exact ⟨rfl, hb⟩
end Go.Proofs.YtfmnmgiefekjfaaGreatDoor
