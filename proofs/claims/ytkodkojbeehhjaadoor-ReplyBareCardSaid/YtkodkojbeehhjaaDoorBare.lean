/- conduitlaw10.ReplyBare: the walk. -/
import Derived.Test.YtkodkojbeehhjaaDoorKnown
namespace Go.Proofs.YtkodkojbeehhjaaDoor
open Go.RowKit

def nB (r : Nat) : Int := if r = 1 then 204 else if r = 2 then 304 else 200
def mB (r : Nat) : ByteArray := if r = 0 then ⟨#[72, 69, 65, 68]⟩ else ⟨#[71, 69, 84]⟩
theorem run_i49 (W : World) (r : Nat) (hr : r < 4) : (Instr.index 49 (.agg #[.string ⟨#[72, 69, 65, 68]⟩, .string ⟨#[71, 69, 84]⟩, .string ⟨#[71, 69, 84]⟩, .string ⟨#[71, 69, 84]⟩]) (.int .u8 (r : Int))).run Tryd.prog W = .ok (.string (mB r)) W := by
  have h : r = 0 ∨ r = 1 ∨ r = 2 ∨ r = 3 := by omega
  rcases h with rfl | rfl | rfl | rfl <;> rfl
theorem run_i50 (W : World) (r : Nat) (hr : r < 4) : (Instr.index 50 (.agg #[.int .i64 200, .int .i64 204, .int .i64 304, .int .i64 200]) (.int .u8 (r : Int))).run Tryd.prog W = .ok (.int .i64 (nB r)) W := by
  have h : r = 0 ∨ r = 1 ∨ r = 2 ∨ r = 3 := by omega
  rcases h with rfl | rfl | rfl | rfl <;> rfl
theorem nB_range (r : Nat) : 0 ≤ nB r ∧ nB r ≤ 1000 := by
  unfold nB
  constructor <;> (repeat' split) <;> omega
theorem bare_r (r : Nat) (hr : r < 4) : bareB (mB r) (nB r) = decide ((r : Int) < 3) := by
  have h : r = 0 ∨ r = 1 ∨ r = 2 ∨ r = 3 := by omega
  rcases h with rfl | rfl | rfl | rfl <;> decide +kernel
theorem plain_len (m : ByteArray) (n : Int) (h0 : 0 ≤ n) (h1 : n ≤ 1000) : (itoaB n).size + 1 + (reason n).size + 1 ≤ (plainB m n true).size ∧ (plainB m n true).size ≤ 1000 := by
  have hi := itoaB_size n (by omega) (by omega)
  have hr := reason_size n
  have hb : (bodyB n).size = (itoaB n).size + 1 + (reason n).size + 1 := by unfold bodyB; simp only [size_app]; rfl
  have hl : (lineB n (reason n)).size = 9 + (itoaB n).size + 1 + (reason n).size + 2 := by unfold lineB; simp only [size_app]; rfl
  have hc := conn_size true
  have hcl := cl_size n (by omega) (by omega)
  have hct := ctconn_size true
  have hz : (linesB (if isEmptyB n then [ctP, connP true] else [clP n, ctP, connP true])).size ≤ 150 := by
    rw [linesB_size]
    split
    · omega
    · rw [tot_cons] at hcl ⊢; rw [tot_nil] at hcl; omega
  unfold plainB
  simp only []
  split
  · simp only [size_app]
    rw [hl]
    have : (⟨#[13, 10]⟩ : ByteArray).size = 2 := rfl
    omega
  · simp only [size_app]
    rw [hl, hb]
    have : (⟨#[13, 10]⟩ : ByteArray).size = 2 := rfl
    omega
theorem end_line (a : ByteArray) : ∃ b, a ++ ⟨#[13, 10]⟩ = b ++ ⟨#[10]⟩ := ⟨a ++ ⟨#[13]⟩, by rw [app_assoc]; rfl⟩
theorem i204 : itoaB 204 = ⟨#[50, 48, 52]⟩ := itoa3 2 0 4 (by decide) (by decide) (by decide) (by decide)
theorem i304 : itoaB 304 = ⟨#[51, 48, 52]⟩ := itoa3 3 0 4 (by decide) (by decide) (by decide) (by decide)
theorem i7 : itoaB 7 = ⟨#[55]⟩ := by rw [show (7 : Int) = ((7 : Nat) : Int) from rfl, itoaB_nat, decB_small 7 (by decide)]; rfl
theorem body200 : bodyB 200 = ⟨#[50, 48, 48, 32, 79, 75, 10]⟩ := by unfold bodyB; rw [i200]; apply ByteArray.ext; decide +kernel
def endsB (m : ByteArray) (n : Int) : Bool :=
  ((plainB m n true).extract ((plainB m n true).size - ((itoaB n).size + 1 + (reason n).size + 1)) (plainB m n true).size).toList == (itoaB n ++ ⟨#[32]⟩ ++ reason n ++ ⟨#[10]⟩).toList
theorem ends200 (m : ByteArray) (b : Bool) (hm : bareB m 200 = b) : endsB m 200 = !b := by
  have hp : plainB m 200 true = if b then ⟨#[72, 84, 84, 80, 47, 49, 46, 49, 32, 50, 48, 48, 32, 79, 75, 13, 10, 67, 111, 110, 116, 101, 110, 116, 45, 76, 101, 110, 103, 116, 104, 58, 32, 55, 13, 10, 67, 111, 110, 116, 101, 110, 116, 45, 84, 121, 112, 101, 58, 32, 116, 101, 120, 116, 47, 112, 108, 97, 105, 110, 13, 10, 67, 111, 110, 110, 101, 99, 116, 105, 111, 110, 58, 32, 107, 101, 101, 112, 45, 97, 108, 105, 118, 101, 13, 10, 13, 10]⟩ else ⟨#[72, 84, 84, 80, 47, 49, 46, 49, 32, 50, 48, 48, 32, 79, 75, 13, 10, 67, 111, 110, 116, 101, 110, 116, 45, 76, 101, 110, 103, 116, 104, 58, 32, 55, 13, 10, 67, 111, 110, 116, 101, 110, 116, 45, 84, 121, 112, 101, 58, 32, 116, 101, 120, 116, 47, 112, 108, 97, 105, 110, 13, 10, 67, 111, 110, 110, 101, 99, 116, 105, 111, 110, 58, 32, 107, 101, 101, 112, 45, 97, 108, 105, 118, 101, 13, 10, 13, 10, 50, 48, 48, 32, 79, 75, 10]⟩ := by
    have he : isEmptyB 200 = false := by decide +kernel
    unfold plainB
    rw [hm, he]
    unfold clP lineB
    rw [body200, i200, show (((⟨#[50, 48, 48, 32, 79, 75, 10]⟩ : ByteArray).size : Nat) : Int) = 7 from rfl, i7]
    cases b <;> (apply ByteArray.ext; decide +kernel)
  unfold endsB
  rw [hp, i200]
  simp only [ByteArray.toList_eq]
  cases b <;> decide +kernel
theorem endsE (m : ByteArray) (n : Int) (hn : (n = 204 ∨ n = 304)) : endsB m n = false := by
  rcases hn with rfl | rfl
  · have hp : plainB m 204 true = ⟨#[72, 84, 84, 80, 47, 49, 46, 49, 32, 50, 48, 52, 32, 78, 111, 32, 67, 111, 110, 116, 101, 110, 116, 13, 10, 67, 111, 110, 116, 101, 110, 116, 45, 84, 121, 112, 101, 58, 32, 116, 101, 120, 116, 47, 112, 108, 97, 105, 110, 13, 10, 67, 111, 110, 110, 101, 99, 116, 105, 111, 110, 58, 32, 107, 101, 101, 112, 45, 97, 108, 105, 118, 101, 13, 10, 13, 10]⟩ := by
      have he : isEmptyB 204 = true := by decide +kernel
      have hb : bareB m 204 = true := by unfold bareB; rw [he, Bool.or_true]
      unfold plainB lineB
      rw [hb, he, i204]
      apply ByteArray.ext; decide +kernel
    unfold endsB
    rw [hp, i204]
    simp only [ByteArray.toList_eq]
    decide +kernel
  · have hp : plainB m 304 true = ⟨#[72, 84, 84, 80, 47, 49, 46, 49, 32, 51, 48, 52, 32, 78, 111, 116, 32, 77, 111, 100, 105, 102, 105, 101, 100, 13, 10, 67, 111, 110, 116, 101, 110, 116, 45, 84, 121, 112, 101, 58, 32, 116, 101, 120, 116, 47, 112, 108, 97, 105, 110, 13, 10, 67, 111, 110, 110, 101, 99, 116, 105, 111, 110, 58, 32, 107, 101, 101, 112, 45, 97, 108, 105, 118, 101, 13, 10, 13, 10]⟩ := by
      have he : isEmptyB 304 = true := by decide +kernel
      have hb : bareB m 304 = true := by unfold bareB; rw [he, Bool.or_true]
      unfold plainB lineB
      rw [hb, he, i304]
      apply ByteArray.ext; decide +kernel
    unfold endsB
    rw [hp, i304]
    simp only [ByteArray.toList_eq]
    decide +kernel
theorem ends_r (r : Nat) (hr : r < 4) : endsB (mB r) (nB r) = !decide ((r : Int) < 3) := by
  have h : r = 0 ∨ r = 1 ∨ r = 2 ∨ r = 3 := by omega
  rcases h with rfl | rfl | rfl | rfl
  · exact ends200 _ true (by decide +kernel)
  · exact endsE _ _ (.inl rfl)
  · exact endsE _ _ (.inr rfl)
  · exact ends200 _ false (by decide +kernel)
theorem ch_r (r : Nat) (hr : r < 4) : chunkedB (mB r) 1 (nB r) = !decide ((r : Int) < 3) := by
  unfold chunkedB; rw [bare_r r hr]; rfl
theorem part_r (r : Nat) (hr : r < 4) (s : ByteArray) (hs : s.toList.isEmpty = false) : (partB (mB r) 1 (nB r) s).toList.isEmpty = decide ((r : Int) < 3) := by
  unfold partB
  rw [ch_r r hr, bare_r r hr]
  by_cases h : (r : Int) < 3
  · simp [h]
  · simp only [h, decide_false, Bool.not_false, if_true]
    unfold wrapB
    rw [hs]
    simp [ByteArray.toList_eq]
theorem end_r (r : Nat) : (endB (!decide ((r : Int) < 3))).toList.isEmpty = decide ((r : Int) < 3) := by
  by_cases h : (r : Int) < 3
  · simp [h, endB]
  · simp [h, endB]

set_option maxHeartbeats 4000000 in
theorem bare_walk (x : Int) (r : Nat) (s : ByteArray) (w : World) (hx : x % 4 = (r : Int)) (hx0 : 0 ≤ x) (hx1 : x ≤ 255) (hr : r < 4) (ht : Tab w) (hz : TabZ w) (hs1 : s.size ≤ 100) (hs2 : s.toList.isEmpty = false) :
    Calls Tryd.prog 6 #[.int .u8 x, .string s] w fun e w' => e = .returned (.bool true) ∧ Below w.heap.size w w' := by
  have q1 := fun W : World => run_i49 W r hr
  have q2 := fun W : World => run_i50 W r hr
  have g0 := (nB_range r).1
  have g1 := (nB_range r).2
  have hzi := itoaB_size (nB r) (by omega) (by omega)
  have hzr := reason_size (nB r)
  have hE : ((((plainB (mB r) (nB r) true).extract ((plainB (mB r) (nB r) true).size - ((itoaB (nB r)).size + 1 + (reason (nB r)).size + 1)) (plainB (mB r) (nB r) true).size).toList == (itoaB (nB r) ++ ⟨#[32]⟩ ++ reason (nB r) ++ ⟨#[10]⟩).toList)) = !decide ((r : Int) < 3) := ends_r r hr
  have hbr := bare_r r hr
  have hpart := part_r r hr s hs2
  have hend := end_r r
  have hch := ch_r r hr
  have hpz := plain_len (mB r) (nB r) g0 g1
  go_enter Tryd.func6, Tryd.ntmps6
  go_wp2_with fail
  refine (law10_known _ ht hz).mono ?_
  rintro e w1 ⟨rfl, hb1⟩
  have hw1 : Below w.heap.size w w1 := fr_trans (fr_refl _) hb1
  have HA1 := Lib.hid ((Box.new w1 [.string (mB r), .string ⟨#[]⟩, .int .i64 1, .slice none 0 0, .string ⟨#[]⟩] 24).fr (fr_alloc (fr_refl _) (.cells #[.int .i64 (nB r), .string ⟨#[120]⟩, .slice none 0 0] 26)))
  have HB1 := Lib.hid (Box.newAt (w := w1.alloc (.cells #[.string (mB r), .string ⟨#[]⟩, .int .i64 1, .slice none 0 0, .string ⟨#[]⟩] 24)) (g := w1.heap.size + 1) (by simp) [.int .i64 (nB r), .string ⟨#[120]⟩, .slice none 0 0] 26)
  clear hb1
  go_wp2_with fail
  refine (reply_Plain (mB r) ⟨#[]⟩ 1 none 0 0 ⟨#[]⟩ (nB r) true _ (by omega) (by omega) (ht.fr (fr_alloc (fr_alloc hw1 _) _))).mono ?_
  rintro e w2 ⟨rfl, hb2⟩
  have hw2 : Below w.heap.size w w2 := fr_trans (fr_alloc (fr_alloc hw1 _) _) hb2
  have HA2 := Lib.hid (HA1.out.fr hb2)
  have HB2 := Lib.hid (HB1.out.fr hb2)
  clear hb2
  have hba2 := HA2.out
  have hbb2 := HB2.out
  have a0 := hba2.at_ 0 (.string (mB r))
  have a1 := hba2.at_ 1 (.string ⟨#[]⟩)
  have a2 := hba2.at_ 2 (.int .i64 1)
  have a3 := hba2.at_ 3 (.slice none 0 0)
  have a4 := hba2.at_ 4 (.string ⟨#[]⟩)
  have b0 := hbb2.at_ 0 (.int .i64 (nB r))
  have b1 := hbb2.at_ 1 (.string ⟨#[120]⟩)
  have b2 := hbb2.at_ 2 (.slice none 0 0)
  clear hba2 hbb2
  clear q1 q2
  go_wp2_with fail
  refine (ref6_Dec (nB r) _ (by omega) (by omega)).mono ?_
  rintro e w3 ⟨rfl, hb3⟩
  have hw3 : Below w.heap.size w w3 := fr_trans hw2 hb3
  have HA3 := Lib.hid (HA2.out.fr hb3)
  have HB3 := Lib.hid (HB2.out.fr hb3)
  clear a0 a1 a2 a3 a4 b0 b1 b2
  clear hb3
  have hba3 := HA3.out
  have hbb3 := HB3.out
  have a0 := hba3.at_ 0 (.string (mB r))
  have a1 := hba3.at_ 1 (.string ⟨#[]⟩)
  have a2 := hba3.at_ 2 (.int .i64 1)
  have a3 := hba3.at_ 3 (.slice none 0 0)
  have a4 := hba3.at_ 4 (.string ⟨#[]⟩)
  have b0 := hbb3.at_ 0 (.int .i64 (nB r))
  have b1 := hbb3.at_ 1 (.string ⟨#[120]⟩)
  have b2 := hbb3.at_ 2 (.slice none 0 0)
  clear hba3 hbb3
  go_wp2_with fail
  refine (reply_Reason (nB r) _).mono ?_
  rintro e wq ⟨rfl, rfl⟩
  go_wp2_with fail
  refine (reply_Bare (mB r) (nB r) _).mono ?_
  rintro e wq ⟨rfl, rfl⟩
  go_wp2_with fail
  refine (reply_Part (mB r) ⟨#[]⟩ 1 none 0 0 ⟨#[]⟩ (nB r) ⟨#[120]⟩ none 0 0 s _ (hz.fr hw3) (by omega)).mono ?_
  rintro e w4 ⟨rfl, hb4⟩
  have hw4 : Below w.heap.size w w4 := fr_trans hw3 hb4
  have HA4 := Lib.hid (HA3.out.fr hb4)
  have HB4 := Lib.hid (HB3.out.fr hb4)
  clear a0 a1 a2 a3 a4 b0 b1 b2
  clear hb4
  have hba4 := HA4.out
  have hbb4 := HB4.out
  have a0 := hba4.at_ 0 (.string (mB r))
  have a1 := hba4.at_ 1 (.string ⟨#[]⟩)
  have a2 := hba4.at_ 2 (.int .i64 1)
  have a3 := hba4.at_ 3 (.slice none 0 0)
  have a4 := hba4.at_ 4 (.string ⟨#[]⟩)
  have b0 := hbb4.at_ 0 (.int .i64 (nB r))
  have b1 := hbb4.at_ 1 (.string ⟨#[120]⟩)
  have b2 := hbb4.at_ 2 (.slice none 0 0)
  clear hba4 hbb4
  go_wp2_with fail
  refine (reply_End (mB r) ⟨#[]⟩ 1 none 0 0 ⟨#[]⟩ (nB r) ⟨#[120]⟩ none 0 0 _).mono ?_
  rintro e w5 ⟨rfl, hb5⟩
  have hw5 : Below w.heap.size w w5 := fr_trans hw4 hb5
  have HA5 := Lib.hid (HA4.out.fr hb5)
  have HB5 := Lib.hid (HB4.out.fr hb5)
  clear a0 a1 a2 a3 a4 b0 b1 b2
  clear hb5
  have hba5 := HA5.out
  have hbb5 := HB5.out
  have a0 := hba5.at_ 0 (.string (mB r))
  have a1 := hba5.at_ 1 (.string ⟨#[]⟩)
  have a2 := hba5.at_ 2 (.int .i64 1)
  have a3 := hba5.at_ 3 (.slice none 0 0)
  have a4 := hba5.at_ 4 (.string ⟨#[]⟩)
  have b0 := hbb5.at_ 0 (.int .i64 (nB r))
  have b1 := hbb5.at_ 1 (.string ⟨#[120]⟩)
  have b2 := hbb5.at_ 2 (.slice none 0 0)
  clear hba5 hbb5
  go_wp2_with fail
  refine (reply_Chunked (mB r) ⟨#[]⟩ 1 none 0 0 ⟨#[]⟩ (nB r) ⟨#[120]⟩ none 0 0 _).mono ?_
  rintro e w6 ⟨rfl, hb6⟩
  have hw6 : Below w.heap.size w w6 := fr_trans hw5 hb6
  have HA6 := Lib.hid (HA5.out.fr hb6)
  have HB6 := Lib.hid (HB5.out.fr hb6)
  clear a0 a1 a2 a3 a4 b0 b1 b2
  clear hb6
  have hba6 := HA6.out
  have hbb6 := HB6.out
  have a0 := hba6.at_ 0 (.string (mB r))
  have a1 := hba6.at_ 1 (.string ⟨#[]⟩)
  have a2 := hba6.at_ 2 (.int .i64 1)
  have a3 := hba6.at_ 3 (.slice none 0 0)
  have a4 := hba6.at_ 4 (.string ⟨#[]⟩)
  have b0 := hbb6.at_ 0 (.int .i64 (nB r))
  have b1 := hbb6.at_ 1 (.string ⟨#[120]⟩)
  have b2 := hbb6.at_ 2 (.slice none 0 0)
  clear hba6 hbb6
  go_wp2_with fail
  all_goals (go_ret; exact ⟨by simp, hw6⟩)

theorem bare_big (x : Int) (s : ByteArray) (w : World) (hx0 : 0 ≤ x) (hx1 : x ≤ 255) (ht : Tab w) (hz : TabZ w) (hbig : 100 < s.size ∨ s.toList.isEmpty = true) :
    Calls Tryd.prog 6 #[.int .u8 x, .string s] w fun e w' => e = .returned (.bool true) ∧ Below w.heap.size w w' := by
  rcases hbig with h | h
  all_goals
    go_enter Tryd.func6, Tryd.ntmps6
    go_wp2_with fail
    refine (law10_known _ ht hz).mono ?_
    rintro e w1 ⟨rfl, hb1⟩
    go_wp2_with fail
    all_goals (go_ret; exact ⟨rfl, hb1⟩)
end Go.Proofs.YtkodkojbeehhjaaDoor
