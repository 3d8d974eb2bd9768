/- conduitlaw11.same, known: true. -/
import Derived.Test.YtoplnepbjjcbcaaGreatDoorPathV
import Derived.Deep.QuietTactic
import Derived.BigQuiet
namespace Go.Proofs.YtoplnepbjjcbcaaGreatDoor
set_option linter.unusedVariables false
set_option linter.unusedSimpArgs false
open Go.RowKit

set_option maxHeartbeats 1000000 in
theorem law11_same (A B : Option Addr) (n m c d : Nat) (xs ys : List ByteArray) (w : World) (hn : xs.length = n) (hm : ys.length = m) (hA : Strs w A xs) (hB : Strs w B ys) (h1 : n ≤ 9223372036854775807) (h2 : m ≤ 9223372036854775807) :
    Calls Tryz.prog 12 #[.slice A n c, .slice B m d] w fun e w' => e = .returned (.bool (decide (xs = ys))) ∧ Below w.heap.size w w' := by
  have HA := Lib.hid hA; have HB := Lib.hid hB; have HN := Lib.hid hn; have HM := Lib.hid hm
  clear hA hB hn hm
  by_cases hnm : n = m
  · subst hnm
    go_enter Tryz.func12, Tryz.ntmps12
    go_wp2
    go_loopw [5] (fun i wr => ∃ k : Nat, k ≤ n ∧ i = .int .i64 k ∧ Below w.heap.size w wr ∧ xs.take k = ys.take k) (fun i _ => n - (intOf i).toNat)
    case atStart => exact ⟨0, Nat.zero_le _, rfl, Below.refl _ _, rfl⟩
    case round =>
      obtain ⟨k, hk, rfl, hb, he⟩ := hrel
      by_cases hlt : k < n
      · have kx : k < xs.length := by have := HN.out; omega
        have ky : k < ys.length := by have := HM.out; omega
        obtain ⟨b1, o1, rfl, l1, c1⟩ := HA.out.at_ kx
        obtain ⟨b2, o2, rfl, l2, c2⟩ := HB.out.at_ ky
        obtain ⟨x, hx⟩ : ∃ x, xs[k] = x := ⟨_, rfl⟩
        obtain ⟨y, hy⟩ : ∃ y, ys[k] = y := ⟨_, rfl⟩
        rw [hx] at c1; rw [hy] at c2
        have c1' := fr_cell hb c1
        have c2' := fr_cell hb c2
        have q1 := World.block_lt_of_cell? wr _ c1'
        have q2 := World.block_lt_of_cell? wr _ c2'
        have hkI : (k : Int) < (n : Int) := by omega
        have hk0 : (0 : Int) ≤ (k : Int) := by omega
        have HX := Lib.hid hx; have HY := Lib.hid hy; have HE := Lib.hid he; have HBW := Lib.hid hb
        clear c1 c2 hx hy he hb l1 l2
        cases hq : eqB x y
        all_goals
          have HQ := Lib.hid hq
          unfold eqB at hq
          go_wp2_with fail
          go_quiet (fail)
          go_wp2
        · go_ret
          refine ⟨?_, fr_drewN HBW.out _⟩
          have : xs ≠ ys := fun h => by
            have h1 : x = y := by rw [← HX.out, ← HY.out]; subst h; rfl
            exact eqB_no.1 HQ.out h1
          simp [this]
        · go_roundw
          case measure => exact meas hlt .i64 .i64
          case rel => exact ⟨k + 1, by omega, by go_num, fr_drewN HBW.out _, by rw [List.take_succ_eq_append_getElem kx, List.take_succ_eq_append_getElem ky, HE.out, HX.out, HY.out, eqB_iff.1 HQ.out]⟩
      · have hxy : xs = ys := by
          rw [List.take_of_length_le (by have := HN.out; omega), List.take_of_length_le (by have := HM.out; omega)] at he
          exact he
        have HXY := Lib.hid hxy; clear hxy he
        go_wp2
        go_ret
        exact ⟨by simp [HXY.out], hb⟩
  · have hne : ¬ (n : Int) = (m : Int) := by omega
    have hxy : ¬ xs = ys := fun h => hnm (by rw [← HN.out, ← HM.out, h])
    have HXY := Lib.hid hxy; clear hxy hnm
    go_enter Tryz.func12, Tryz.ntmps12
    go_wp2
    go_ret
    exact ⟨by simp [HXY.out], fr_refl _⟩

theorem clean_at (s : ByteArray) (v : Value) (w : World) (h : cleanR (cleanS s) = v) (hm : MaxL w) (hs : s.size ≤ 8388608) :
    Calls Tryz.prog 9 #[.string s] w fun e w' => e = .returned v ∧ Below w.heap.size w w' := by subst h; exact path_Clean s w hm hs
theorem cleanR_some {s p : ByteArray} (h : cleanS s = some p) : cleanR (cleanS s) = .tuple #[.string p, .nilIface] := by rw [h]; rfl
theorem cleanR_none {s : ByteArray} (h : cleanS s = none) : cleanR (cleanS s) = .tuple #[.string ⟨#[]⟩, .iface 42 (.int .i64 10)] := by rw [h]; rfl
theorem begins_at (p q : ByteArray) (b : Bool) (w : World) (h : begS p q = b) (hm : MaxL w) (hp : p.size < 4294967281) (hq : q.size < 4294967281) :
    Calls Tryz.prog 15 #[.string p, .string q] w fun e w' => e = .returned (.bool b) ∧ Below w.heap.size w w' := by subst h; exact path_Begins p q w hm hp hq
theorem segs_at (s : ByteArray) (l : List ByteArray) (n : Nat) (w : World) (h : segs s = l) (hn : l.length = n) (hm : MaxL w) (hs : s.size < 4294967281) :
    Calls Tryz.prog 13 #[.string s] w fun e w' => (∃ A c, e = .returned (.slice A n c) ∧ n ≤ c ∧ Strs w' A l) ∧ Below w.heap.size w w' := by subst h hn; exact path_Segments s w hm hs

set_option maxRecDepth 100000 in
set_option maxHeartbeats 4000000 in
theorem law11_known (w : World) (hm : MaxL w) : Calls Tryz.prog 8 #[] w fun e w' => e = .returned (.bool true) ∧ Below w.heap.size w w' := by
  have HM := Lib.hid hm; clear hm
  go_enter Tryz.func8, Tryz.ntmps8
  go_wp2_with fail
  refine (clean_at ⟨#[47, 97, 47, 46, 46, 47, 98, 47, 46, 47]⟩ _ _ (cleanR_some pk1) HM.out (by decide)).mono ?_
  rintro e w1 ⟨rfl, hw1⟩
  go_wp2_with fail
  refine (clean_at ⟨#[47, 47, 120, 47, 47, 37, 52, 49]⟩ _ _ (cleanR_some pk2) (HM.out.fr hw1) (by decide)).mono ?_
  rintro e w2 ⟨rfl, hb2⟩
  have hw2 := fr_trans hw1 hb2
  go_wp2_with fail
  refine (clean_at ⟨#[47, 46, 46]⟩ _ _ (cleanR_none pk3) (HM.out.fr hw2) (by decide)).mono ?_
  rintro e w3 ⟨rfl, hb3⟩
  have hw3 := fr_trans hw2 hb3
  go_wp2_with fail
  refine (clean_at ⟨#[47, 97, 37, 50, 102, 98]⟩ _ _ (cleanR_none pk4) (HM.out.fr hw3) (by decide)).mono ?_
  rintro e w4 ⟨rfl, hb4⟩
  have hw4 := fr_trans hw3 hb4
  go_wp2_with fail
  refine (clean_at ⟨#[47]⟩ _ _ (cleanR_some pk5) (HM.out.fr hw4) (by decide)).mono ?_
  rintro e w5 ⟨rfl, hb5⟩
  have hw5 := fr_trans hw4 hb5
  clear hb2 hb3 hb4 hb5 hw1 hw2 hw3 hw4
  go_wp2_with fail
  refine (is_errno 10 10 _).mono ?_
  rintro e w6 ⟨rfl, rfl⟩
  go_wp2_with fail
  refine (is_errno 10 10 _).mono ?_
  rintro e w6 ⟨rfl, rfl⟩
  go_wp2_with fail
  refine (segs_at ⟨#[47, 97, 47, 47, 98, 47]⟩ [⟨#[97]⟩, ⟨#[98]⟩] 2 _ pk6 rfl (HM.out.fr hw5) (by decide)).mono ?_
  rintro e w6 ⟨⟨A, c, rfl, hc, hA⟩, hb6⟩
  have hw6 := fr_alloc (fr_trans hw5 hb6) (.cells #[.string ⟨#[97]⟩, .string ⟨#[98]⟩] 9)
  have hA2 := hA.fr (fr_alloc (fr_refl _) (.cells #[.string ⟨#[97]⟩, .string ⟨#[98]⟩] 9))
  have hB2 : Strs (w6.alloc (.cells #[.string ⟨#[97]⟩, .string ⟨#[98]⟩] 9)) (some ⟨w6.heap.size, 0, none⟩) [⟨#[97]⟩, ⟨#[98]⟩] := Strs.new w6 [⟨#[97]⟩, ⟨#[98]⟩] 9
  have HA := Lib.hid hA2; have HB := Lib.hid hB2
  clear hA hA2 hB2 hb6 hc
  go_wp2_with fail
  refine (law11_same A (some ⟨w6.heap.size, 0, none⟩) 2 2 c 2 _ _ _ rfl rfl HA.out HB.out (by decide) (by decide)).mono ?_
  rintro e w7 ⟨rfl, hb7⟩
  have hw7 := fr_trans hw6 hb7
  rw [show decide ([(⟨#[97]⟩ : ByteArray), ⟨#[98]⟩] = [⟨#[97]⟩, ⟨#[98]⟩]) = true by simp]
  go_wp2_with fail
  refine (begins_at ⟨#[47, 97, 47, 98]⟩ ⟨#[47, 97, 47]⟩ true _ pk7 (HM.out.fr hw7) (by decide) (by decide)).mono ?_
  rintro e w8 ⟨rfl, hb8⟩
  have hw8 := fr_trans hw7 hb8
  go_wp2_with fail
  refine (begins_at ⟨#[47, 97, 98]⟩ ⟨#[47, 97]⟩ false _ pk8 (HM.out.fr hw8) (by decide) (by decide)).mono ?_
  rintro e w9 ⟨rfl, hb9⟩
  go_wp2_with fail
  go_ret
  exact ⟨rfl, fr_trans hw8 hb9⟩
end Go.Proofs.YtoplnepbjjcbcaaGreatDoor
