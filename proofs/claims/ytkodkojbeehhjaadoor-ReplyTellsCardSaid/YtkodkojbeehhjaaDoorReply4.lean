/- conduitref6.Plain. -/
import Derived.Test.YtkodkojbeehhjaaDoorReply3
namespace Go.Proofs.YtkodkojbeehhjaaDoor
open Go.RowKit

set_option maxHeartbeats 1000000 in
theorem ref6_Plain_204 (m tg : ByteArray) (minor : Int) (A : Option Addr) (fl c : Nat) (body : ByteArray) (n : Int) (k : Bool) (w : World) (h0 : -9223372036854775808 ≤ n) (h1 : n ≤ 9223372036854775807) (e204 : (n == 204) = true) :
    Calls Tryd.prog 13 #[.agg #[.string m, .string tg, .int .i64 minor, .slice A fl c, .string body], .int .i64 n, .bool k] w fun e w' => e = .returned (.string (plainB m n k)) ∧ Below w.heap.size w w' := by
  have hz1 := itoaB_size n h0 h1
  have hz2 := reason_size n
  have hz3 := bodyB_size n h0 h1
  have hz4 := lineB_size n (reason n) h0 h1
  have hcl := cl_size n h0 h1
  have hct := ctconn_size k
  have htt : tot [ctP, connP k] ≤ 200 := by omega
  have hfin : plainB m n k = if bareB m n then lineB n (reason n) ++ linesB [ctP, connP k] ++ ⟨#[13, 10]⟩ else lineB n (reason n) ++ linesB [ctP, connP k] ++ ⟨#[13, 10]⟩ ++ bodyB n := by
    unfold plainB isEmptyB; simp [e204]
  have HF := Lib.hid hfin; clear hfin
  have hz6 : (linesB [ctP, connP k]).size ≤ 200 := by rw [linesB_size]; exact htt
  have hbz : (itoaB n ++ ⟨#[32]⟩ ++ reason n ++ ⟨#[10]⟩).size = (bodyB n).size := rfl
  go_enter Tryd.func13, Tryd.ntmps13
  go_wp2_with fail
  refine (ref6_Dec n _ h0 h1).mono ?_
  rintro e w1 ⟨rfl, hb1⟩
  have hw1 : Below w.heap.size w w1 := by first | exact fr_trans (fr_refl _) hb1 | exact fr_trans (fr_alloc (fr_refl _) _) hb1 | exact fr_trans (fr_alloc (fr_alloc (fr_refl _) _) _) hb1 | exact fr_trans (fr_alloc (fr_alloc (fr_alloc (fr_refl _) _) _) _) hb1 | exact fr_trans (fr_drew (fr_refl _)) hb1
  have hc1 : w1.cell? ⟨w.heap.size, 0, none⟩ = some (.string m) := fr_cell hb1 (by rw [World.cell?_alloc_mark]; rfl)
  have H1 := Lib.hid hb1; clear hb1
  go_wp2_with fail
  refine (ref6_Reason n _).mono ?_
  rintro e w2 ⟨rfl, rfl⟩
  go_wp2_with fail
  refine (ref6_Dec _ _ (by omega) (by omega)).mono ?_
  rintro e w2 ⟨rfl, hb2⟩
  have hw2 : Below w.heap.size w w2 := by first | exact fr_trans hw1 hb2 | exact fr_trans (fr_alloc hw1 _) hb2 | exact fr_trans (fr_alloc (fr_alloc hw1 _) _) hb2 | exact fr_trans (fr_alloc (fr_alloc (fr_alloc hw1 _) _) _) hb2 | exact fr_trans (fr_drew hw1) hb2
  have hc2 := fr_cell hb2 hc1
  have H2 := Lib.hid hb2; clear hb2 hc1
  have HBZ := Lib.hid hbz; clear hbz
  go_wp2_with fail
  refine (ref6_connection k _).mono ?_
  rintro e w3 ⟨rfl, hb3⟩
  have hw3 : Below w.heap.size w w3 := by first | exact fr_trans hw2 hb3 | exact fr_trans (fr_alloc hw2 _) hb3 | exact fr_trans (fr_alloc (fr_alloc hw2 _) _) hb3 | exact fr_trans (fr_alloc (fr_alloc (fr_alloc hw2 _) _) _) hb3 | exact fr_trans (fr_drew hw2) hb3
  have hc3 := fr_cell hb3 hc2
  have H3 := Lib.hid hb3; clear hb3 hc2
  unfold pairV
  have hPn := Pairs.new w3 [clP n, ctP, connP k] 47
  have HP := Lib.hid hPn; clear hPn
  go_wp2_with fail
  refine (ref6_Dec n _ h0 h1).mono ?_
  rintro e w4 ⟨rfl, hb4⟩
  have hw4 : Below w.heap.size w w4 := by first | exact fr_trans hw3 hb4 | exact fr_trans (fr_alloc hw3 _) hb4 | exact fr_trans (fr_alloc (fr_alloc hw3 _) _) hb4 | exact fr_trans (fr_alloc (fr_alloc (fr_alloc hw3 _) _) _) hb4 | exact fr_trans (fr_drew hw3) hb4
  have hc4 := fr_cell (fr_trans (fr_alloc (fr_refl _) _) hb4) hc3
  have hP4 := HP.out.fr hb4
  have HP4 := Lib.hid hP4; clear hP4
  have H4 := Lib.hid hb4; clear hb4 hc3
  go_wp2_with fail
  refine (ref6_Reason n _).mono ?_
  rintro e w5 ⟨rfl, rfl⟩
  go_wp2_with fail
  refine (ref6_Lines _ _ [ctP, connP k] _ (by simp) HP4.out.tail (by omega)).mono ?_
  rintro e w6 ⟨rfl, hb6⟩
  have hw6 : Below w.heap.size w w6 := by first | exact fr_trans hw4 hb6 | exact fr_trans (fr_alloc hw4 _) hb6 | exact fr_trans (fr_alloc (fr_alloc hw4 _) _) hb6 | exact fr_trans (fr_alloc (fr_alloc (fr_alloc hw4 _) _) _) hb6 | exact fr_trans (fr_drew hw4) hb6
  have hc6 := fr_cell hb6 hc4
  have H6 := Lib.hid hb6; clear hb6 hc4
  go_wp2_with fail
  refine (ref6_Bare m n _).mono ?_
  rintro e w7 ⟨rfl, rfl⟩
  cases hbr : bareB m n
  all_goals
    have HBR := Lib.hid hbr
    go_wp2
    go_ret
    refine ⟨?_, hw6⟩
    rw [HF.out, HBR.out]; rfl

set_option maxHeartbeats 1000000 in
theorem ref6_Plain_304 (m tg : ByteArray) (minor : Int) (A : Option Addr) (fl c : Nat) (body : ByteArray) (n : Int) (k : Bool) (w : World) (h0 : -9223372036854775808 ≤ n) (h1 : n ≤ 9223372036854775807) (e204 : (n == 204) = false) (e304 : (n == 304) = true) :
    Calls Tryd.prog 13 #[.agg #[.string m, .string tg, .int .i64 minor, .slice A fl c, .string body], .int .i64 n, .bool k] w fun e w' => e = .returned (.string (plainB m n k)) ∧ Below w.heap.size w w' := by
  have hz1 := itoaB_size n h0 h1
  have hz2 := reason_size n
  have hz3 := bodyB_size n h0 h1
  have hz4 := lineB_size n (reason n) h0 h1
  have hcl := cl_size n h0 h1
  have hct := ctconn_size k
  have htt : tot [ctP, connP k] ≤ 200 := by omega
  have hfin : plainB m n k = if bareB m n then lineB n (reason n) ++ linesB [ctP, connP k] ++ ⟨#[13, 10]⟩ else lineB n (reason n) ++ linesB [ctP, connP k] ++ ⟨#[13, 10]⟩ ++ bodyB n := by
    unfold plainB isEmptyB; simp [e204, e304]
  have HF := Lib.hid hfin; clear hfin
  have hz6 : (linesB [ctP, connP k]).size ≤ 200 := by rw [linesB_size]; exact htt
  have hbz : (itoaB n ++ ⟨#[32]⟩ ++ reason n ++ ⟨#[10]⟩).size = (bodyB n).size := rfl
  go_enter Tryd.func13, Tryd.ntmps13
  go_wp2_with fail
  refine (ref6_Dec n _ h0 h1).mono ?_
  rintro e w1 ⟨rfl, hb1⟩
  have hw1 : Below w.heap.size w w1 := by first | exact fr_trans (fr_refl _) hb1 | exact fr_trans (fr_alloc (fr_refl _) _) hb1 | exact fr_trans (fr_alloc (fr_alloc (fr_refl _) _) _) hb1 | exact fr_trans (fr_alloc (fr_alloc (fr_alloc (fr_refl _) _) _) _) hb1 | exact fr_trans (fr_drew (fr_refl _)) hb1
  have hc1 : w1.cell? ⟨w.heap.size, 0, none⟩ = some (.string m) := fr_cell hb1 (by rw [World.cell?_alloc_mark]; rfl)
  have H1 := Lib.hid hb1; clear hb1
  go_wp2_with fail
  refine (ref6_Reason n _).mono ?_
  rintro e w2 ⟨rfl, rfl⟩
  go_wp2_with fail
  refine (ref6_Dec _ _ (by omega) (by omega)).mono ?_
  rintro e w2 ⟨rfl, hb2⟩
  have hw2 : Below w.heap.size w w2 := by first | exact fr_trans hw1 hb2 | exact fr_trans (fr_alloc hw1 _) hb2 | exact fr_trans (fr_alloc (fr_alloc hw1 _) _) hb2 | exact fr_trans (fr_alloc (fr_alloc (fr_alloc hw1 _) _) _) hb2 | exact fr_trans (fr_drew hw1) hb2
  have hc2 := fr_cell hb2 hc1
  have H2 := Lib.hid hb2; clear hb2 hc1
  have HBZ := Lib.hid hbz; clear hbz
  go_wp2_with fail
  refine (ref6_connection k _).mono ?_
  rintro e w3 ⟨rfl, hb3⟩
  have hw3 : Below w.heap.size w w3 := by first | exact fr_trans hw2 hb3 | exact fr_trans (fr_alloc hw2 _) hb3 | exact fr_trans (fr_alloc (fr_alloc hw2 _) _) hb3 | exact fr_trans (fr_alloc (fr_alloc (fr_alloc hw2 _) _) _) hb3 | exact fr_trans (fr_drew hw2) hb3
  have hc3 := fr_cell hb3 hc2
  have H3 := Lib.hid hb3; clear hb3 hc2
  unfold pairV
  have hPn := Pairs.new w3 [clP n, ctP, connP k] 47
  have HP := Lib.hid hPn; clear hPn
  go_wp2_with fail
  refine (ref6_Dec n _ h0 h1).mono ?_
  rintro e w4 ⟨rfl, hb4⟩
  have hw4 : Below w.heap.size w w4 := by first | exact fr_trans hw3 hb4 | exact fr_trans (fr_alloc hw3 _) hb4 | exact fr_trans (fr_alloc (fr_alloc hw3 _) _) hb4 | exact fr_trans (fr_alloc (fr_alloc (fr_alloc hw3 _) _) _) hb4 | exact fr_trans (fr_drew hw3) hb4
  have hc4 := fr_cell (fr_trans (fr_alloc (fr_refl _) _) hb4) hc3
  have hP4 := HP.out.fr hb4
  have HP4 := Lib.hid hP4; clear hP4
  have H4 := Lib.hid hb4; clear hb4 hc3
  go_wp2_with fail
  refine (ref6_Reason n _).mono ?_
  rintro e w5 ⟨rfl, rfl⟩
  go_wp2_with fail
  refine (ref6_Lines _ _ [ctP, connP k] _ (by simp) HP4.out.tail (by omega)).mono ?_
  rintro e w6 ⟨rfl, hb6⟩
  have hw6 : Below w.heap.size w w6 := by first | exact fr_trans hw4 hb6 | exact fr_trans (fr_alloc hw4 _) hb6 | exact fr_trans (fr_alloc (fr_alloc hw4 _) _) hb6 | exact fr_trans (fr_alloc (fr_alloc (fr_alloc hw4 _) _) _) hb6 | exact fr_trans (fr_drew hw4) hb6
  have hc6 := fr_cell hb6 hc4
  have H6 := Lib.hid hb6; clear hb6 hc4
  go_wp2_with fail
  refine (ref6_Bare m n _).mono ?_
  rintro e w7 ⟨rfl, rfl⟩
  cases hbr : bareB m n
  all_goals
    have HBR := Lib.hid hbr
    go_wp2
    go_ret
    refine ⟨?_, hw6⟩
    rw [HF.out, HBR.out]; rfl

set_option maxHeartbeats 1000000 in
theorem ref6_Plain_other (m tg : ByteArray) (minor : Int) (A : Option Addr) (fl c : Nat) (body : ByteArray) (n : Int) (k : Bool) (w : World) (h0 : -9223372036854775808 ≤ n) (h1 : n ≤ 9223372036854775807) (e204 : (n == 204) = false) (e304 : (n == 304) = false) :
    Calls Tryd.prog 13 #[.agg #[.string m, .string tg, .int .i64 minor, .slice A fl c, .string body], .int .i64 n, .bool k] w fun e w' => e = .returned (.string (plainB m n k)) ∧ Below w.heap.size w w' := by
  have hz1 := itoaB_size n h0 h1
  have hz2 := reason_size n
  have hz3 := bodyB_size n h0 h1
  have hz4 := lineB_size n (reason n) h0 h1
  have hcl := cl_size n h0 h1
  have hct := ctconn_size k
  have htt : tot [clP n, ctP, connP k] ≤ 200 := by rw [tot_cons] at hcl ⊢; rw [tot_nil] at hcl; omega
  have hfin : plainB m n k = if bareB m n then lineB n (reason n) ++ linesB [clP n, ctP, connP k] ++ ⟨#[13, 10]⟩ else lineB n (reason n) ++ linesB [clP n, ctP, connP k] ++ ⟨#[13, 10]⟩ ++ bodyB n := by
    unfold plainB isEmptyB; simp [e204, e304]
  have HF := Lib.hid hfin; clear hfin
  have hz6 : (linesB [clP n, ctP, connP k]).size ≤ 200 := by rw [linesB_size]; exact htt
  have hbz : (itoaB n ++ ⟨#[32]⟩ ++ reason n ++ ⟨#[10]⟩).size = (bodyB n).size := rfl
  go_enter Tryd.func13, Tryd.ntmps13
  go_wp2_with fail
  refine (ref6_Dec n _ h0 h1).mono ?_
  rintro e w1 ⟨rfl, hb1⟩
  have hw1 : Below w.heap.size w w1 := by first | exact fr_trans (fr_refl _) hb1 | exact fr_trans (fr_alloc (fr_refl _) _) hb1 | exact fr_trans (fr_alloc (fr_alloc (fr_refl _) _) _) hb1 | exact fr_trans (fr_alloc (fr_alloc (fr_alloc (fr_refl _) _) _) _) hb1 | exact fr_trans (fr_drew (fr_refl _)) hb1
  have hc1 : w1.cell? ⟨w.heap.size, 0, none⟩ = some (.string m) := fr_cell hb1 (by rw [World.cell?_alloc_mark]; rfl)
  have H1 := Lib.hid hb1; clear hb1
  go_wp2_with fail
  refine (ref6_Reason n _).mono ?_
  rintro e w2 ⟨rfl, rfl⟩
  go_wp2_with fail
  refine (ref6_Dec _ _ (by omega) (by omega)).mono ?_
  rintro e w2 ⟨rfl, hb2⟩
  have hw2 : Below w.heap.size w w2 := by first | exact fr_trans hw1 hb2 | exact fr_trans (fr_alloc hw1 _) hb2 | exact fr_trans (fr_alloc (fr_alloc hw1 _) _) hb2 | exact fr_trans (fr_alloc (fr_alloc (fr_alloc hw1 _) _) _) hb2 | exact fr_trans (fr_drew hw1) hb2
  have hc2 := fr_cell hb2 hc1
  have H2 := Lib.hid hb2; clear hb2 hc1
  have HBZ := Lib.hid hbz; clear hbz
  go_wp2_with fail
  refine (ref6_connection k _).mono ?_
  rintro e w3 ⟨rfl, hb3⟩
  have hw3 : Below w.heap.size w w3 := by first | exact fr_trans hw2 hb3 | exact fr_trans (fr_alloc hw2 _) hb3 | exact fr_trans (fr_alloc (fr_alloc hw2 _) _) hb3 | exact fr_trans (fr_alloc (fr_alloc (fr_alloc hw2 _) _) _) hb3 | exact fr_trans (fr_drew hw2) hb3
  have hc3 := fr_cell hb3 hc2
  have H3 := Lib.hid hb3; clear hb3 hc2
  unfold pairV
  have hPn := Pairs.new w3 [clP n, ctP, connP k] 47
  have HP := Lib.hid hPn; clear hPn
  go_wp2_with fail
  refine (ref6_Dec n _ h0 h1).mono ?_
  rintro e w4 ⟨rfl, hb4⟩
  have hw4 : Below w.heap.size w w4 := by first | exact fr_trans hw3 hb4 | exact fr_trans (fr_alloc hw3 _) hb4 | exact fr_trans (fr_alloc (fr_alloc hw3 _) _) hb4 | exact fr_trans (fr_alloc (fr_alloc (fr_alloc hw3 _) _) _) hb4 | exact fr_trans (fr_drew hw3) hb4
  have hc4 := fr_cell (fr_trans (fr_alloc (fr_refl _) _) hb4) hc3
  have hP4 := HP.out.fr hb4
  have HP4 := Lib.hid hP4; clear hP4
  have H4 := Lib.hid hb4; clear hb4 hc3
  go_wp2_with fail
  refine (ref6_Reason n _).mono ?_
  rintro e w5 ⟨rfl, rfl⟩
  go_wp2_with fail
  refine (ref6_Lines _ _ [clP n, ctP, connP k] _ (by simp) HP4.out (by omega)).mono ?_
  rintro e w6 ⟨rfl, hb6⟩
  have hw6 : Below w.heap.size w w6 := by first | exact fr_trans hw4 hb6 | exact fr_trans (fr_alloc hw4 _) hb6 | exact fr_trans (fr_alloc (fr_alloc hw4 _) _) hb6 | exact fr_trans (fr_alloc (fr_alloc (fr_alloc hw4 _) _) _) hb6 | exact fr_trans (fr_drew hw4) hb6
  have hc6 := fr_cell hb6 hc4
  have H6 := Lib.hid hb6; clear hb6 hc4
  go_wp2_with fail
  refine (ref6_Bare m n _).mono ?_
  rintro e w7 ⟨rfl, rfl⟩
  cases hbr : bareB m n
  all_goals
    have HBR := Lib.hid hbr
    go_wp2
    go_ret
    refine ⟨?_, hw6⟩
    rw [HF.out, HBR.out]; rfl

theorem ref6_Plain (m tg : ByteArray) (minor : Int) (A : Option Addr) (fl c : Nat) (body : ByteArray) (n : Int) (k : Bool) (w : World) (h0 : -9223372036854775808 ≤ n) (h1 : n ≤ 9223372036854775807) :
    Calls Tryd.prog 13 #[.agg #[.string m, .string tg, .int .i64 minor, .slice A fl c, .string body], .int .i64 n, .bool k] w fun e w' => e = .returned (.string (plainB m n k)) ∧ Below w.heap.size w w' := by
  cases e204 : (n == 204)
  · cases e304 : (n == 304)
    · exact ref6_Plain_other m tg minor A fl c body n k w h0 h1 e204 e304
    · exact ref6_Plain_304 m tg minor A fl c body n k w h0 h1 e204 e304
  · exact ref6_Plain_204 m tg minor A fl c body n k w h0 h1 e204
end Go.Proofs.YtkodkojbeehhjaaDoor
