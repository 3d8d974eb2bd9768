/- conduitref6.HeadOf. -/
import Derived.Test.YtkodkojbeehhjaaDoorHead
import Derived.Deep.DeepCutAuto
import Derived.Deep.RegionWith
import Derived.Deep.RegionHeld3
namespace Go.Proofs.YtkodkojbeehhjaaDoor
open Go.RowKit

def nmr (k : Nat) : ByteArray := match k with | 0 => ⟨#[99, 111, 110, 110, 101, 99, 116, 105, 111, 110]⟩ | 1 => ⟨#[116, 114, 97, 110, 115, 102, 101, 114, 45, 101, 110, 99, 111, 100, 105, 110, 103]⟩ | 2 => ⟨#[99, 111, 110, 116, 101, 110, 116, 45, 108, 101, 110, 103, 116, 104]⟩ | 3 => ⟨#[115, 116, 97, 116, 117, 115]⟩ | _ => ⟨#[107, 101, 101, 112, 45, 97, 108, 105, 118, 101]⟩
theorem nmr_low : ∀ k, k < 5 → lowB (nmr k) = lowB (nm k) := by
  have h : ∀ k, k < 5 → (lowB (nmr k)).data = (lowB (nm k)).data := by decide +kernel
  exact fun k hk => ByteArray.ext (h k hk)
theorem dropL_low (l : List Pr) {a b : ByteArray} (h : lowB a = lowB b) : dropL l a = dropL l b := by unfold dropL keep; rw [h]
theorem drops_ref (l : List Pr) (j : Nat) (hj : j < 5) : dropL (drops l j) (nmr j) = drops l (j + 1) := dropL_low _ (nmr_low j hj)
theorem nmr_size (k : Nat) : (nmr k).size ≤ 20 := by unfold nmr; split <;> decide
theorem nmr_at (k : Nat) (hk : k < 5) : ([.string ⟨#[99, 111, 110, 110, 101, 99, 116, 105, 111, 110]⟩, .string ⟨#[116, 114, 97, 110, 115, 102, 101, 114, 45, 101, 110, 99, 111, 100, 105, 110, 103]⟩, .string ⟨#[99, 111, 110, 116, 101, 110, 116, 45, 108, 101, 110, 103, 116, 104]⟩, .string ⟨#[115, 116, 97, 116, 117, 115]⟩, .string ⟨#[107, 101, 101, 112, 45, 97, 108, 105, 118, 101]⟩] : List Value)[k]? = some (.string (nmr k)) := by
  have h : k = 0 ∨ k = 1 ∨ k = 2 ∨ k = 3 ∨ k = 4 := by omega
  rcases h with rfl | rfl | rfl | rfl | rfl <;> rfl
theorem te_lines : linesB [teP] = ⟨#[84, 114, 97, 110, 115, 102, 101, 114, 45, 69, 110, 99, 111, 100, 105, 110, 103, 58, 32, 99, 104, 117, 110, 107, 101, 100, 13, 10]⟩ := by
  apply ByteArray.ext; decide +kernel

set_option maxHeartbeats 2000000 in
theorem ref6_HeadOf (m tg : ByteArray) (minor : Int) (A : Option Addr) (fl c : Nat) (body : ByteArray) (st : Int) (rs : ByteArray) (A' : Option Addr) (l : List Pr) (c' : Nat) (k : Bool) (w : World)
    (h0 : -9223372036854775808 ≤ st) (h1 : st ≤ 9223372036854775807) (hp : Pairs w A' l) (hl : l.length ≤ 1000000) (htot : tot l ≤ 1152921504606846976) (hr : rs.size ≤ 1152921504606846976) :
    Calls Tryd.prog 15 #[.agg #[.string m, .string tg, .int .i64 minor, .slice A fl c, .string body], .agg #[.int .i64 st, .string rs, .slice A' l.length c'], .bool k] w
      fun e w' => e = .returned (.string (headB m minor st rs l k)) ∧ Below w.heap.size w w' := by
  have HP := Lib.hid (hp.fr (fr_alloc (fr_alloc (fr_alloc (fr_refl _) (.cells #[.string m, .string tg, .int .i64 minor, .slice A fl c, .string body] 24)) (.cells #[.int .i64 st, .string rs, .slice A' l.length c'] 26)) (.cells #[.string ⟨#[99, 111, 110, 110, 101, 99, 116, 105, 111, 110]⟩, .string ⟨#[116, 114, 97, 110, 115, 102, 101, 114, 45, 101, 110, 99, 111, 100, 105, 110, 103]⟩, .string ⟨#[99, 111, 110, 116, 101, 110, 116, 45, 108, 101, 110, 103, 116, 104]⟩, .string ⟨#[115, 116, 97, 116, 117, 115]⟩, .string ⟨#[107, 101, 101, 112, 45, 97, 108, 105, 118, 101]⟩] 58)))
  clear hp
  have hz4 := lineB_size st rs h0 h1
  have hzi := itoaB_size st h0 h1
  go_enter Tryd.func15, Tryd.ntmps15
  go_wp2
  go_loopw [7, 9] (fun v i wr => ∃ (j : Nat) (A1 : Option Addr) (c1 : Nat), j ≤ 5 ∧ i = .int .i64 j ∧ v = .slice A1 (drops l j).length c1 ∧ Below w.heap.size w wr ∧ w.heap.size + 3 ≤ wr.heap.size ∧ Pairs wr A1 (drops l j) ∧
      Box wr w.heap.size [.string m, .string tg, .int .i64 minor, .slice A fl c, .string body] ∧ Box wr (w.heap.size + 1) [.int .i64 st, .string rs, .slice A' l.length c'] ∧ Box wr (w.heap.size + 1 + 1) [.string ⟨#[99, 111, 110, 110, 101, 99, 116, 105, 111, 110]⟩, .string ⟨#[116, 114, 97, 110, 115, 102, 101, 114, 45, 101, 110, 99, 111, 100, 105, 110, 103]⟩, .string ⟨#[99, 111, 110, 116, 101, 110, 116, 45, 108, 101, 110, 103, 116, 104]⟩, .string ⟨#[115, 116, 97, 116, 117, 115]⟩, .string ⟨#[107, 101, 101, 112, 45, 97, 108, 105, 118, 101]⟩]) (fun _ i _ => 5 - (intOf i).toNat)
  case atStart => exact ⟨0, A', c', by omega, rfl, rfl, fr_alloc (fr_alloc (fr_alloc (fr_refl _) _) _) _, by simp, HP.out, (Box.new _ [.string m, .string tg, .int .i64 minor, .slice A fl c, .string body] _).fr (fr_alloc (fr_alloc (fr_refl _) _) _), (Box.newAt (by simp) [.int .i64 st, .string rs, .slice A' l.length c'] _).fr (fr_alloc (fr_refl _) _), Box.newAt (by simp) [.string ⟨#[99, 111, 110, 110, 101, 99, 116, 105, 111, 110]⟩, .string ⟨#[116, 114, 97, 110, 115, 102, 101, 114, 45, 101, 110, 99, 111, 100, 105, 110, 103]⟩, .string ⟨#[99, 111, 110, 116, 101, 110, 116, 45, 108, 101, 110, 103, 116, 104]⟩, .string ⟨#[115, 116, 97, 116, 117, 115]⟩, .string ⟨#[107, 101, 101, 112, 45, 97, 108, 105, 118, 101]⟩] _⟩
  case round =>
    obtain ⟨j, A1, c1, hj, rfl, rfl, hb, hsz, hpr, hba, hbb, hbn⟩ := hrel
    by_cases hlt : j < 5
    · have hix := hbn.at_ j (.string (nmr j)) (nmr_at j hlt)
      have HPR := Lib.hid hpr; clear hpr
      have HBA := Lib.hid hba; clear hba
      have HBB := Lib.hid hbb; clear hbb
      have HBN := Lib.hid hbn; clear hbn
      go_wp2_with fail
      have htj := drops_tot l j
      have hlj := drops_len l j
      have hnz := nmr_size j
      refine (ref6_Drop A1 c1 (drops l j) (nmr j) _ (by omega) HPR.out (by omega) (fun p hp => by have := tot_mem hp; omega)).mono ?_
      rintro e w1 ⟨⟨v1, rfl, hown1⟩, hb1⟩
      rw [drops_ref l j hlt] at hown1
      have hbw : Below w.heap.size w w1 := fr_trans hb hb1
      obtain ⟨A2, c2, rfl, hn, hp2⟩ := Pairs.own hown1
      have HP2 := Lib.hid hp2
      have hsz1 := hb1.size
      clear hown1 hp2 hn hix
      have HBA1 := Lib.hid (HBA.out.fr hb1)
      have HBB1 := Lib.hid (HBB.out.fr hb1)
      have HBN1 := Lib.hid (HBN.out.fr hb1)
      clear hb1

      go_wp2
      go_roundw
      case measure => exact meas hlt _ _
      case rel => exact ⟨j + 1, A2, c2, by omega, by go_num, rfl, hbw, by omega, HP2.out, HBA1.out, HBB1.out, HBN1.out⟩
    · obtain rfl : j = 5 := by omega
      have htj := drops_tot l 5
      have hlj := drops_len l 5
      obtain ⟨L5, hL5⟩ : ∃ L, L = drops l 5 := ⟨_, rfl⟩
      rw [← hL5] at htj hlj hpr
      rw [← hL5]
      have HL5 := Lib.hid hL5; clear hL5
      have HPR := Lib.hid hpr
      have HBA := Lib.hid hba
      have HBB := Lib.hid hbb
      have b0 := hbb.at_ 0 (.int .i64 st)
      have b1 := hbb.at_ 1 (.string rs)
      clear hpr hba hbb hbn
      have hlz := linesB_size L5
      have hlz2 : (linesB L5).size ≤ 1152921504606846976 := by rw [hlz]; omega
      clear hlz
      have hs1 : w.heap.size + 1 < wr.heap.size := by omega
      go_upto_region 7 with fail
      go_cut [10] (fun s10 wx => s10 = .string (lineB st rs ++ linesB L5) ∧ Below wr.heap.size wr wx)
      case first =>
        have d0 : wr.drew.cell? ⟨w.heap.size + 1, 0, none⟩ = some (.int .i64 st) := b0
        have d1 : wr.drew.cell? ⟨w.heap.size + 1, 1, none⟩ = some (.string rs) := b1
        have HPD := Lib.hid (HPR.out.fr (fr_drew (fr_refl wr)))
        have q1 : ¬ 9223372036854775807 < 9 + (itoaB st).size := by omega
        have q2 : ¬ 9223372036854775807 < 9 + (itoaB st).size + 1 := by omega
        have q3 : ¬ 9223372036854775807 < 9 + (itoaB st).size + 1 + rs.size := by omega
        have q4 : ¬ 9223372036854775807 < 9 + (itoaB st).size + 1 + rs.size + 2 := by omega
        have q5 : ¬ 9223372036854775807 < 9 + (itoaB st).size + 1 + rs.size + 2 + (linesB L5).size := by omega
        go_region_held3 (fun w' => w'.cell? ⟨w.heap.size + 1, 0, none⟩ = some (.int .i64 st) ∧ w'.cell? ⟨w.heap.size + 1, 1, none⟩ = some (.string rs)) (first | exact ⟨b0, b1⟩ | exact ⟨fr_cell hb1 d0, fr_cell hb1 d1⟩ | exact ⟨fr_cell hb2 (fr_cell hb1 d0), fr_cell hb2 (fr_cell hb1 d1)⟩)
          (first
          | (go_at_call 23; refine (ref6_Dec st wr.drew h0 h1).mono ?_; rintro e w1 ⟨rfl, hb1⟩)
          | (go_at_call 31; refine (ref6_Lines A1 c1 L5 w1 (by omega) (HPD.out.fr hb1) (by omega)).mono ?_; rintro e w2 ⟨rfl, hb2⟩))
        all_goals (go_wp2_with fail; go_meet; exact ⟨rfl, fr_trans (fr_trans (fr_drew (fr_refl _)) hb1) hb2⟩)
      case rest =>
        obtain ⟨rfl, hbx⟩ := hcut
        have hwc : Below w.heap.size w wc := fr_trans hb hbx
        clear b0 b1
        have HBAx := Lib.hid (HBA.out.fr hbx)
        have HBBx := Lib.hid (HBB.out.fr hbx)
        clear hbx hb
        have a0 := HBAx.out.at_ 0 (.string m)
        have a1 := HBAx.out.at_ 1 (.string tg)
        have a2 := HBAx.out.at_ 2 (.int .i64 minor)
        have a3 := HBAx.out.at_ 3 (.slice A fl c)
        have a4 := HBAx.out.at_ 4 (.string body)
        have b0 := HBBx.out.at_ 0 (.int .i64 st)
        have b1 := HBBx.out.at_ 1 (.string rs)
        have b2 := HBBx.out.at_ 2 (.slice A' l.length c')
        go_wp2_with fail
        refine (ref6_Chunked m tg minor A fl c body st rs A' l.length c' _).mono ?_
        rintro e w1 ⟨rfl, hb1⟩
        have hw1 : Below w.heap.size w w1 := fr_trans hwc hb1
        have HBA1 := Lib.hid (HBAx.out.fr hb1)
        have HBB1 := Lib.hid (HBBx.out.fr hb1)
        clear a0 a1 a2 a3 a4 b0 b1 b2 hb1
        have a0 := HBA1.out.at_ 0 (.string m)
        have a1 := HBA1.out.at_ 1 (.string tg)
        have a2 := HBA1.out.at_ 2 (.int .i64 minor)
        have a3 := HBA1.out.at_ 3 (.slice A fl c)
        have a4 := HBA1.out.at_ 4 (.string body)
        have b0 := HBB1.out.at_ 0 (.int .i64 st)
        have b1 := HBB1.out.at_ 1 (.string rs)
        have b2 := HBB1.out.at_ 2 (.slice A' l.length c')
        cases hch : chunkedB m minor st
        all_goals
          have HCH := Lib.hid hch
          cases k
          all_goals go_wp2_with fail
        · refine (ref6_connection false _).mono ?_
          rintro e w3 ⟨rfl, hb3⟩
          have hw3 : Below w.heap.size w w3 := fr_trans hw1 hb3
          clear a0 a1 a2 a3 a4 b0 b1 b2 hb3
          unfold pairV
          have hcs := conn_size false
          have hlc := linesB_size [connP false]
          have hlc2 : (linesB [connP false]).size ≤ 30 := by rw [hlc]; exact hcs
          have hfin : headB m minor st rs l false = lineB st rs ++ linesB L5 ++ linesB [connP false] ++ ⟨#[13, 10]⟩ := by
            unfold headB headL; rw [← HL5.out, HCH.out]
            simp [linesB_app, app_assoc]
          have HF := Lib.hid hfin
          clear hfin hlc
          go_wp2_with fail
          refine (ref6_Lines _ _ [connP false] _ (by simp) (Pairs.new _ [connP false] _) (by omega)).mono ?_
          rintro e w4 ⟨rfl, hb4⟩
          have hw4 : Below w.heap.size w w4 := fr_trans (fr_alloc hw3 _) hb4
          clear hb4
          go_wp2
          go_ret
          exact ⟨by rw [HF.out]; rfl, hw4⟩
        · refine (ref6_Bare m st _).mono ?_
          rintro e w2 ⟨rfl, rfl⟩
          go_wp2_with fail
          refine (ref6_connection (bareB m st) _).mono ?_
          rintro e w3 ⟨rfl, hb3⟩
          have hw3 : Below w.heap.size w w3 := fr_trans hw1 hb3
          clear a0 a1 a2 a3 a4 b0 b1 b2 hb3
          unfold pairV
          have hcs := conn_size (bareB m st)
          have hlc := linesB_size [connP (bareB m st)]
          have hlc2 : (linesB [connP (bareB m st)]).size ≤ 30 := by rw [hlc]; exact hcs
          have hfin : headB m minor st rs l true = lineB st rs ++ linesB L5 ++ linesB [connP (bareB m st)] ++ ⟨#[13, 10]⟩ := by
            unfold headB headL; rw [← HL5.out, HCH.out]
            simp [linesB_app, app_assoc]
          have HF := Lib.hid hfin
          clear hfin hlc
          go_wp2_with fail
          refine (ref6_Lines _ _ [connP (bareB m st)] _ (by simp) (Pairs.new _ [connP (bareB m st)] _) (by omega)).mono ?_
          rintro e w4 ⟨rfl, hb4⟩
          have hw4 : Below w.heap.size w w4 := fr_trans (fr_alloc hw3 _) hb4
          clear hb4
          go_wp2
          go_ret
          exact ⟨by rw [HF.out]; rfl, hw4⟩
        · refine (ref6_connection false _).mono ?_
          rintro e w3 ⟨rfl, hb3⟩
          have hw3 : Below w.heap.size w w3 := fr_trans hw1 hb3
          clear a0 a1 a2 a3 a4 b0 b1 b2 hb3
          unfold pairV
          have hcs := conn_size false
          have hlc := linesB_size [connP false]
          have hlc2 : (linesB [connP false]).size ≤ 30 := by rw [hlc]; exact hcs
          have hfin : headB m minor st rs l false = lineB st rs ++ linesB L5 ++ ⟨#[84, 114, 97, 110, 115, 102, 101, 114, 45, 69, 110, 99, 111, 100, 105, 110, 103, 58, 32, 99, 104, 117, 110, 107, 101, 100, 13, 10]⟩ ++ linesB [connP false] ++ ⟨#[13, 10]⟩ := by
            unfold headB headL; rw [← HL5.out, HCH.out]
            simp only [if_true, Bool.true_or, Bool.false_and, Bool.true_and, linesB_app, te_lines, app_assoc]
          have HF := Lib.hid hfin
          clear hfin hlc
          go_wp2_with fail
          refine (ref6_Lines _ _ [connP false] _ (by simp) (Pairs.new _ [connP false] _) (by omega)).mono ?_
          rintro e w4 ⟨rfl, hb4⟩
          have hw4 : Below w.heap.size w w4 := fr_trans (fr_alloc hw3 _) hb4
          clear hb4
          go_wp2
          go_ret
          exact ⟨by rw [HF.out]; rfl, hw4⟩
        · refine (ref6_connection true _).mono ?_
          rintro e w3 ⟨rfl, hb3⟩
          have hw3 : Below w.heap.size w w3 := fr_trans hw1 hb3
          clear a0 a1 a2 a3 a4 b0 b1 b2 hb3
          unfold pairV
          have hcs := conn_size true
          have hlc := linesB_size [connP true]
          have hlc2 : (linesB [connP true]).size ≤ 30 := by rw [hlc]; exact hcs
          have hfin : headB m minor st rs l true = lineB st rs ++ linesB L5 ++ ⟨#[84, 114, 97, 110, 115, 102, 101, 114, 45, 69, 110, 99, 111, 100, 105, 110, 103, 58, 32, 99, 104, 117, 110, 107, 101, 100, 13, 10]⟩ ++ linesB [connP true] ++ ⟨#[13, 10]⟩ := by
            unfold headB headL; rw [← HL5.out, HCH.out]
            simp only [if_true, Bool.true_or, Bool.false_and, Bool.true_and, linesB_app, te_lines, app_assoc]
          have HF := Lib.hid hfin
          clear hfin hlc
          go_wp2_with fail
          refine (ref6_Lines _ _ [connP true] _ (by simp) (Pairs.new _ [connP true] _) (by omega)).mono ?_
          rintro e w4 ⟨rfl, hb4⟩
          have hw4 : Below w.heap.size w w4 := fr_trans (fr_alloc hw3 _) hb4
          clear hb4
          go_wp2
          go_ret
          exact ⟨by rw [HF.out]; rfl, hw4⟩
end Go.Proofs.YtkodkojbeehhjaaDoor
