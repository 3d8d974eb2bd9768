/- reply.line, reply.Plain, conduitref6.Plain. -/
import Derived.Test.YtkodkojbeehhjaaDoorReply2
import Derived.Test.YtkodkojbeehhjaaDoorNum
namespace Go.Proofs.YtkodkojbeehhjaaDoor
open Go.RowKit

def lineB (n : Int) (rs : ByteArray) : ByteArray := ⟨#[72, 84, 84, 80, 47, 49, 46, 49, 32]⟩ ++ itoaB n ++ ⟨#[32]⟩ ++ rs ++ ⟨#[13, 10]⟩
theorem lineB_size (n : Int) (rs : ByteArray) (h0 : -9223372036854775808 ≤ n) (h1 : n ≤ 9223372036854775807) : (lineB n rs).size ≤ rs.size + 50 := by
  have := itoaB_size n h0 h1
  unfold lineB; simp only [size_app]; show 9 + _ + 1 + _ + 2 ≤ _; omega
set_option maxHeartbeats 400000 in
theorem reply_line (n : Int) (rs : ByteArray) (w : World) (h0 : -9223372036854775808 ≤ n) (h1 : n ≤ 9223372036854775807) (ht : Tab w) (hr : rs.size ≤ 4611686018427387904) :
    Calls Tryd.prog 27 #[.int .i64 n, .string rs] w fun e w' => e = .returned (.string (lineB n rs)) ∧ Below w.heap.size w w' := by
  have hz := itoaB_size n h0 h1
  go_enter Tryd.func27, Tryd.ntmps27
  go_wp2_with fail
  refine (strconv_Itoa n h0 h1 _ ht).mono ?_
  rintro e w1 ⟨rfl, hb1⟩
  go_wp2
  go_ret
  exact ⟨rfl, hb1⟩

def bodyB (n : Int) : ByteArray := itoaB n ++ ⟨#[32]⟩ ++ reason n ++ ⟨#[10]⟩
theorem bodyB_size (n : Int) (h0 : -9223372036854775808 ≤ n) (h1 : n ≤ 9223372036854775807) : (bodyB n).size ≤ 70 := by
  have := itoaB_size n h0 h1
  have := reason_size n
  unfold bodyB; simp only [size_app]; show _ + 1 + _ + 1 ≤ _; omega
def clP (n : Int) : Pr := (⟨#[67, 111, 110, 116, 101, 110, 116, 45, 76, 101, 110, 103, 116, 104]⟩, itoaB ((bodyB n).size : Int))
def ctP : Pr := (⟨#[67, 111, 110, 116, 101, 110, 116, 45, 84, 121, 112, 101]⟩, ⟨#[116, 101, 120, 116, 47, 112, 108, 97, 105, 110]⟩)
def plainB (m : ByteArray) (n : Int) (keep : Bool) : ByteArray :=
  let out := lineB n (reason n) ++ linesB (if isEmptyB n then [ctP, connP keep] else [clP n, ctP, connP keep]) ++ ⟨#[13, 10]⟩
  if bareB m n then out else out ++ bodyB n

theorem linesB_app (a b : List Pr) : linesB (a ++ b) = linesB a ++ linesB b := by
  refine list_snoc_ind (p := fun b => linesB (a ++ b) = linesB a ++ linesB b) ?_ (fun b p ih => ?_) b
  · rw [List.append_nil]; show _ = linesB a ++ ⟨#[]⟩; apply ByteArray.ext; simp
  · rw [← List.append_assoc, linesB_snoc, linesB_snoc, ih, app_assoc]

theorem tot_cons (p : Pr) (l : List Pr) : tot (p :: l) = p.1.size + p.2.size + 4 + tot l := by simp [tot]
theorem conn_size (k : Bool) : tot [connP k] ≤ 30 := by cases k <;> decide
theorem ctconn_size (k : Bool) : tot [ctP, connP k] ≤ 60 := by cases k <;> decide
theorem cl_size (n : Int) (h0 : -9223372036854775808 ≤ n) (h1 : n ≤ 9223372036854775807) : tot [clP n] ≤ 50 := by
  have := bodyB_size n h0 h1
  have := itoaB_size ((bodyB n).size : Int) (by omega) (by omega)
  rw [tot_cons, tot_nil]; show 14 + _ + 4 + 0 ≤ _; exact (by omega : 14 + (itoaB ((bodyB n).size : Int)).size + 4 + 0 ≤ 50)

set_option maxHeartbeats 1000000 in
theorem reply_Plain (m tg : ByteArray) (minor : Int) (A : Option Addr) (fl c : Nat) (body : ByteArray) (n : Int) (k : Bool) (w : World) (h0 : -9223372036854775808 ≤ n) (h1 : n ≤ 9223372036854775807) (ht : Tab w) :
    Calls Tryd.prog 12 #[.agg #[.string m, .string tg, .int .i64 minor, .slice A fl c, .string body], .int .i64 n, .bool k] w fun e w' => e = .returned (.string (plainB m n k)) ∧ Below w.heap.size w w' := by
  have hz1 := itoaB_size n h0 h1
  have hz2 := reason_size n
  have hz3 := bodyB_size n h0 h1
  have hz4 := lineB_size n (reason n) h0 h1
  have hcl := cl_size n h0 h1
  have hct := ctconn_size k
  have hls1 := linesB_size [clP n]
  have hls2 := linesB_size [ctP, connP k]
  have hfin : plainB m n k = if bareB m n then (if isEmptyB n then lineB n (reason n) ++ (linesB [ctP, connP k] ++ ⟨#[13, 10]⟩) else lineB n (reason n) ++ linesB [clP n] ++ (linesB [ctP, connP k] ++ ⟨#[13, 10]⟩))
      else (if isEmptyB n then lineB n (reason n) ++ (linesB [ctP, connP k] ++ ⟨#[13, 10]⟩) else lineB n (reason n) ++ linesB [clP n] ++ (linesB [ctP, connP k] ++ ⟨#[13, 10]⟩)) ++ bodyB n := by
    have e : linesB [clP n, ctP, connP k] = linesB [clP n] ++ linesB [ctP, connP k] := linesB_app [clP n] [ctP, connP k]
    unfold plainB; cases bareB m n <;> cases isEmptyB n <;> simp [e, app_assoc]
  have HF := Lib.hid hfin; clear hfin
  have hz5 : (linesB [clP n]).size ≤ 50 := by rw [hls1]; exact hcl
  have hz6 : (linesB [ctP, connP k]).size ≤ 60 := by rw [hls2]; exact hct
  clear hls1 hls2
  go_enter Tryd.func12, Tryd.ntmps12
  go_wp2_with fail
  refine (strconv_Itoa n h0 h1 _ (ht.fr (fr_alloc (fr_refl _) _))).mono ?_
  rintro e w1 ⟨rfl, hb1⟩
  have hw1 : Below w.heap.size w w1 := by first | exact fr_trans (fr_refl _) hb1 | exact fr_trans (fr_alloc (fr_refl _) _) hb1 | exact fr_trans (fr_alloc (fr_alloc (fr_refl _) _) _) hb1 | exact fr_trans (fr_alloc (fr_alloc (fr_alloc (fr_refl _) _) _) _) hb1 | exact fr_trans (fr_drew (fr_refl _)) hb1
  have hc1 : w1.cell? ⟨w.heap.size, 0, none⟩ = some (.string m) := fr_cell hb1 (by rw [World.cell?_alloc_mark]; rfl)
  have H1 := Lib.hid hb1; clear hb1
  go_wp2_with fail
  refine (reply_Reason n _).mono ?_
  rintro e w2 ⟨rfl, rfl⟩
  go_wp2_with fail
  refine (reply_Reason n _).mono ?_
  rintro e w2 ⟨rfl, rfl⟩
  go_wp2_with fail
  refine (reply_line n _ _ h0 h1 (ht.fr hw1) (by omega)).mono ?_
  rintro e w2 ⟨rfl, hb2⟩
  have hw2 : Below w.heap.size w w2 := by first | exact fr_trans hw1 hb2 | exact fr_trans (fr_alloc hw1 _) hb2 | exact fr_trans (fr_alloc (fr_alloc hw1 _) _) hb2 | exact fr_trans (fr_alloc (fr_alloc (fr_alloc hw1 _) _) _) hb2 | exact fr_trans (fr_drew hw1) hb2
  have hc2 := fr_cell hb2 hc1
  go_wp2_with fail
  refine (reply_isEmpty n _).mono ?_
  rintro e w3 ⟨rfl, rfl⟩
  clear hc1
  have H2 := Lib.hid hb2; clear hb2
  cases he : isEmptyB n
  · have HE := Lib.hid he
    have hbz : (itoaB n ++ ⟨#[32]⟩ ++ reason n ++ ⟨#[10]⟩).size = (bodyB n).size := rfl
    go_wp2_with fail
    refine (strconv_Itoa _ (by omega) (by omega) _ (ht.fr hw2)).mono ?_
    rintro e w4 ⟨rfl, hb4⟩
    have hw4 : Below w.heap.size w w4 := by first | exact fr_trans hw2 hb4 | exact fr_trans (fr_alloc hw2 _) hb4 | exact fr_trans (fr_alloc (fr_alloc hw2 _) _) hb4 | exact fr_trans (fr_alloc (fr_alloc (fr_alloc hw2 _) _) _) hb4 | exact fr_trans (fr_drew hw2) hb4
    have hc4 := fr_cell hb4 hc2
    have HBZ := Lib.hid hbz; clear hbz
    clear hc2
    have H4 := Lib.hid hb4; clear hb4
    go_wp2_with fail
    refine (field_Lines _ _ [clP n] _ (by simp) (Pairs.new _ [clP n] _) (by omega)).mono ?_
    rintro e w5 ⟨rfl, hb5⟩
    have hw5 : Below w.heap.size w w5 := by first | exact fr_trans hw4 hb5 | exact fr_trans (fr_alloc hw4 _) hb5 | exact fr_trans (fr_alloc (fr_alloc hw4 _) _) hb5 | exact fr_trans (fr_alloc (fr_alloc (fr_alloc hw4 _) _) _) hb5 | exact fr_trans (fr_drew hw4) hb5
    have hc5 := fr_cell (fr_trans (fr_alloc (fr_refl _) _) hb5) hc4
    clear hc4
    have H5 := Lib.hid hb5; clear hb5
    go_wp2_with fail
    refine (reply_connection k _).mono ?_
    rintro e w6 ⟨rfl, hb6⟩
    have hw6 : Below w.heap.size w w6 := by first | exact fr_trans hw5 hb6 | exact fr_trans (fr_alloc hw5 _) hb6 | exact fr_trans (fr_alloc (fr_alloc hw5 _) _) hb6 | exact fr_trans (fr_alloc (fr_alloc (fr_alloc hw5 _) _) _) hb6 | exact fr_trans (fr_drew hw5) hb6
    have hc6 := fr_cell hb6 hc5
    clear hc5
    have H6 := Lib.hid hb6; clear hb6
    unfold pairV
    go_wp2_with fail
    refine (field_Lines _ _ [ctP, connP k] _ (by simp) (Pairs.new _ [ctP, connP k] _) (by omega)).mono ?_
    rintro e w7 ⟨rfl, hb7⟩
    have hw7 : Below w.heap.size w w7 := by first | exact fr_trans hw6 hb7 | exact fr_trans (fr_alloc hw6 _) hb7 | exact fr_trans (fr_alloc (fr_alloc hw6 _) _) hb7 | exact fr_trans (fr_alloc (fr_alloc (fr_alloc hw6 _) _) _) hb7 | exact fr_trans (fr_drew hw6) hb7
    have hc7 := fr_cell (fr_trans (fr_alloc (fr_refl _) _) hb7) hc6
    clear hc6
    have H7 := Lib.hid hb7; clear hb7
    go_wp2_with fail
    refine (reply_Bare m n _).mono ?_
    rintro e w8 ⟨rfl, rfl⟩
    cases hbr : bareB m n
    · have HBR := Lib.hid hbr
      go_wp2
      go_ret
      refine ⟨?_, hw7⟩
      rw [HF.out, HBR.out, HE.out]; rfl
    · have HBR := Lib.hid hbr
      go_wp2
      go_ret
      refine ⟨?_, hw7⟩
      rw [HF.out, HBR.out, HE.out]; rfl
  · have HE := Lib.hid he
    go_wp2_with fail
    refine (reply_connection k _).mono ?_
    rintro e w6 ⟨rfl, hb6⟩
    have hw6 : Below w.heap.size w w6 := by first | exact fr_trans hw2 hb6 | exact fr_trans (fr_alloc hw2 _) hb6 | exact fr_trans (fr_alloc (fr_alloc hw2 _) _) hb6 | exact fr_trans (fr_alloc (fr_alloc (fr_alloc hw2 _) _) _) hb6 | exact fr_trans (fr_drew hw2) hb6
    have hc6 := fr_cell hb6 hc2
    clear hc2
    have H6 := Lib.hid hb6; clear hb6
    unfold pairV
    go_wp2_with fail
    refine (field_Lines _ _ [ctP, connP k] _ (by simp) (Pairs.new _ [ctP, connP k] _) (by omega)).mono ?_
    rintro e w7 ⟨rfl, hb7⟩
    have hw7 : Below w.heap.size w w7 := by first | exact fr_trans hw6 hb7 | exact fr_trans (fr_alloc hw6 _) hb7 | exact fr_trans (fr_alloc (fr_alloc hw6 _) _) hb7 | exact fr_trans (fr_alloc (fr_alloc (fr_alloc hw6 _) _) _) hb7 | exact fr_trans (fr_drew hw6) hb7
    have hc7 := fr_cell (fr_trans (fr_alloc (fr_refl _) _) hb7) hc6
    clear hc6
    have H7 := Lib.hid hb7; clear hb7
    go_wp2_with fail
    refine (reply_Bare m n _).mono ?_
    rintro e w8 ⟨rfl, rfl⟩
    cases hbr : bareB m n
    · have HBR := Lib.hid hbr
      go_wp2
      go_ret
      refine ⟨?_, hw7⟩
      rw [HF.out, HBR.out, HE.out]; rfl
    · have HBR := Lib.hid hbr
      go_wp2
      go_ret
      refine ⟨?_, hw7⟩
      rw [HF.out, HBR.out, HE.out]; rfl
end Go.Proofs.YtkodkojbeehhjaaDoor
