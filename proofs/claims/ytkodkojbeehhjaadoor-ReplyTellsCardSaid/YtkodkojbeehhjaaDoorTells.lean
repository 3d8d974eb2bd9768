/- conduitlaw10.ReplyTells: the walk. -/
import Derived.Test.YtkodkojbeehhjaaDoorKnown
import Derived.Test.YtkodkojbeehhjaaDoorReply4
import Derived.Deep.RegionHeld3
namespace Go.Proofs.YtkodkojbeehhjaaDoor
open Go.RowKit

theorem cells_rh {w' : World} {g g' : Nat} {a0 a1 a2 a3 a4 b0 b1 b2 : Value} (h : Box w' g [a0, a1, a2, a3, a4]) (k : Box w' g' [b0, b1, b2]) :
    w'.cell? ⟨g, 0, none⟩ = some a0 ∧ w'.cell? ⟨g, 1, none⟩ = some a1 ∧ w'.cell? ⟨g, 2, none⟩ = some a2 ∧ w'.cell? ⟨g, 3, none⟩ = some a3 ∧ w'.cell? ⟨g, 4, none⟩ = some a4 ∧
    w'.cell? ⟨g', 0, none⟩ = some b0 ∧ w'.cell? ⟨g', 1, none⟩ = some b1 ∧ w'.cell? ⟨g', 2, none⟩ = some b2 :=
  ⟨h.at_ 0 _, h.at_ 1 _, h.at_ 2 _, h.at_ 3 _, h.at_ 4 _, k.at_ 0 _, k.at_ 1 _, k.at_ 2 _⟩

set_option maxHeartbeats 2000000 in
theorem tells_big (m tg : ByteArray) (minor : Int) (A : Option Addr) (fl c : Nat) (body : ByteArray) (st : Int) (rs : ByteArray) (A' : Option Addr) (l : List Pr) (c' : Nat) (n : Int) (k : Bool) (s : ByteArray) (w : World)
    (h0 : -9223372036854775808 ≤ st) (h1 : st ≤ 9223372036854775807) (g0 : -9223372036854775808 ≤ n) (g1 : n ≤ 9223372036854775807) (ht : Tab w) (hz : TabZ w) (hp : Pairs w A' l) (hbig : 40 < m.size ∨ 20 < l.length ∨ 200 < rs.size ∨ 2000 < s.size) :
    Calls Tryd.prog 3 #[.agg #[.string m, .string tg, .int .i64 minor, .slice A fl c, .string body], .agg #[.int .i64 st, .string rs, .slice A' l.length c'], .int .i64 n, .bool k, .string s] w fun e w' => e = .returned (.bool true) ∧ Below w.heap.size w w' := by
  have hba0 := (Box.new w [.string m, .string tg, .int .i64 minor, .slice A fl c, .string body] 24).fr (fr_alloc (fr_refl _) (.cells #[.int .i64 st, .string rs, .slice A' l.length c'] 26))
  have hbb0 := Box.newAt (w := w.alloc (.cells #[.string m, .string tg, .int .i64 minor, .slice A fl c, .string body] 24)) (g := w.heap.size + 1) (by simp) [.int .i64 st, .string rs, .slice A' l.length c'] 26
  have HA0 := Lib.hid hba0
  have HB0 := Lib.hid hbb0
  have HP0 := Lib.hid (hp.fr (fr_alloc (fr_alloc (fr_refl _) (.cells #[.string m, .string tg, .int .i64 minor, .slice A fl c, .string body] 24)) (.cells #[.int .i64 st, .string rs, .slice A' l.length c'] 26)))
  clear hba0 hbb0 hp
  go_enter Tryd.func3, Tryd.ntmps3
  go_wp2_with fail
  refine (law10_known _ (ht.fr (fr_alloc (fr_alloc (fr_refl _) _) _)) (hz.fr (fr_alloc (fr_alloc (fr_refl _) _) _))).mono ?_
  rintro e w1 ⟨rfl, hb1⟩
  have hw1 : Below w.heap.size w w1 := fr_trans (fr_alloc (fr_alloc (fr_refl _) _) _) hb1
  have HA1 := Lib.hid (HA0.out.fr hb1)
  have HB1 := Lib.hid (HB0.out.fr hb1)
  have HP1 := Lib.hid (HP0.out.fr hb1)
  clear hb1
  have hba1 := HA1.out
  have hbb1 := HB1.out
  have a0 := hba1.at_ 0 (.string m)
  have a1 := hba1.at_ 1 (.string tg)
  have a2 := hba1.at_ 2 (.int .i64 minor)
  have a3 := hba1.at_ 3 (.slice A fl c)
  have a4 := hba1.at_ 4 (.string body)
  have b0 := hbb1.at_ 0 (.int .i64 st)
  have b1 := hbb1.at_ 1 (.string rs)
  have b2 := hbb1.at_ 2 (.slice A' l.length c')
  clear hba1 hbb1
  go_wp2_with fail
  all_goals first | (go_ret; exact ⟨rfl, hw1⟩) | (exfalso; omega)

set_option maxHeartbeats 4000000 in
theorem tells_small (m tg : ByteArray) (minor : Int) (A : Option Addr) (fl c : Nat) (body : ByteArray) (st : Int) (rs : ByteArray) (A' : Option Addr) (l : List Pr) (c' : Nat) (n : Int) (k : Bool) (s : ByteArray) (w : World)
    (h0 : -9223372036854775808 ≤ st) (h1 : st ≤ 9223372036854775807) (g0 : -9223372036854775808 ≤ n) (g1 : n ≤ 9223372036854775807) (ht : Tab w) (hz : TabZ w) (hp : Pairs w A' l) (s1 : m.size ≤ 40) (s2 : l.length ≤ 20) (s3 : rs.size ≤ 200) (s4 : s.size ≤ 2000) (htot : tot l ≤ 1152921504606846976) :
    Calls Tryd.prog 3 #[.agg #[.string m, .string tg, .int .i64 minor, .slice A fl c, .string body], .agg #[.int .i64 st, .string rs, .slice A' l.length c'], .int .i64 n, .bool k, .string s] w fun e w' => e = .returned (.bool true) ∧ Below w.heap.size w w' := by
  have hba0 := (Box.new w [.string m, .string tg, .int .i64 minor, .slice A fl c, .string body] 24).fr (fr_alloc (fr_refl _) (.cells #[.int .i64 st, .string rs, .slice A' l.length c'] 26))
  have hbb0 := Box.newAt (w := w.alloc (.cells #[.string m, .string tg, .int .i64 minor, .slice A fl c, .string body] 24)) (g := w.heap.size + 1) (by simp) [.int .i64 st, .string rs, .slice A' l.length c'] 26
  have HA0 := Lib.hid hba0
  have HB0 := Lib.hid hbb0
  have HP0 := Lib.hid (hp.fr (fr_alloc (fr_alloc (fr_refl _) (.cells #[.string m, .string tg, .int .i64 minor, .slice A fl c, .string body] 24)) (.cells #[.int .i64 st, .string rs, .slice A' l.length c'] 26)))
  clear hba0 hbb0 hp
  go_enter Tryd.func3, Tryd.ntmps3
  go_wp2_with fail
  refine (law10_known _ (ht.fr (fr_alloc (fr_alloc (fr_refl _) _) _)) (hz.fr (fr_alloc (fr_alloc (fr_refl _) _) _))).mono ?_
  rintro e w1 ⟨rfl, hb1⟩
  have hw1 : Below w.heap.size w w1 := fr_trans (fr_alloc (fr_alloc (fr_refl _) _) _) hb1
  have HA1 := Lib.hid (HA0.out.fr hb1)
  have HB1 := Lib.hid (HB0.out.fr hb1)
  have HP1 := Lib.hid (HP0.out.fr hb1)
  clear hb1
  have hba1 := HA1.out
  have hbb1 := HB1.out
  have a0 := hba1.at_ 0 (.string m)
  have a1 := hba1.at_ 1 (.string tg)
  have a2 := hba1.at_ 2 (.int .i64 minor)
  have a3 := hba1.at_ 3 (.slice A fl c)
  have a4 := hba1.at_ 4 (.string body)
  have b0 := hbb1.at_ 0 (.int .i64 st)
  have b1 := hbb1.at_ 1 (.string rs)
  have b2 := hbb1.at_ 2 (.slice A' l.length c')
  clear hba1 hbb1
  go_wp2_with fail
  have hw2 : Below w.heap.size w w1.drew := fr_drew hw1
  have HA2 := Lib.hid (HA1.out.fr (fr_drew (fr_refl _)))
  have HB2 := Lib.hid (HB1.out.fr (fr_drew (fr_refl _)))
  have HP2 := Lib.hid (HP1.out.fr (fr_drew (fr_refl _)))
  simp only [List.append_eq, List.cons_append, List.nil_append]
  go_region_held3 (fun w' => w'.cell? ⟨w.heap.size, 0, none⟩ = some (.string m) ∧ w'.cell? ⟨w.heap.size, 1, none⟩ = some (.string tg) ∧ w'.cell? ⟨w.heap.size, 2, none⟩ = some (.int .i64 minor) ∧ w'.cell? ⟨w.heap.size, 3, none⟩ = some (.slice A fl c) ∧ w'.cell? ⟨w.heap.size, 4, none⟩ = some (.string body) ∧ w'.cell? ⟨w.heap.size + 1, 0, none⟩ = some (.int .i64 st) ∧ w'.cell? ⟨w.heap.size + 1, 1, none⟩ = some (.string rs) ∧ w'.cell? ⟨w.heap.size + 1, 2, none⟩ = some (.slice A' l.length c')) (first | exact cells_rh HA1.out HB1.out | exact cells_rh HA2.out HB2.out | exact cells_rh HA3.out HB3.out | exact cells_rh HA4.out HB4.out | exact cells_rh HA5.out HB5.out | exact cells_rh HA6.out HB6.out | exact cells_rh HA7.out HB7.out | exact cells_rh HA8.out HB8.out | exact cells_rh HA9.out HB9.out | exact cells_rh HA10.out HB10.out | exact cells_rh HA11.out HB11.out | exact cells_rh HA12.out HB12.out)
    (first
      | (go_at_call 8; refine (reply_Reason n _).mono ?_; rintro e wq ⟨rfl, rfl⟩)
      | (go_at_call 9; refine (ref6_Reason n _).mono ?_; rintro e wq ⟨rfl, rfl⟩)
      | (go_at_call 10; refine (reply_Bare m n _).mono ?_; rintro e wq ⟨rfl, rfl⟩)
      | (go_at_call 11; refine (ref6_Bare m n _).mono ?_; rintro e wq ⟨rfl, rfl⟩)
      | (go_at_call 12; refine (reply_Plain m tg minor A fl c body n k _ g0 g1 (ht.fr hw2)).mono ?_; rintro e w3 ⟨rfl, hb3⟩; have hw3 : Below w.heap.size w w3 := fr_trans hw2 hb3; have HA3 := Lib.hid (HA2.out.fr hb3); have HB3 := Lib.hid (HB2.out.fr hb3); have HP3 := Lib.hid (HP2.out.fr hb3); clear hb3)
      | (go_at_call 13; refine (ref6_Plain m tg minor A fl c body n k _ g0 g1).mono ?_; rintro e w4 ⟨rfl, hb4⟩; have hw4 : Below w.heap.size w w4 := fr_trans hw3 hb4; have HA4 := Lib.hid (HA3.out.fr hb4); have HB4 := Lib.hid (HB3.out.fr hb4); have HP4 := Lib.hid (HP3.out.fr hb4); clear hb4)
      | (go_at_call 14; refine (reply_Head m tg minor A fl c body st rs A' l c' k _ h0 h1 (ht.fr hw4) HP4.out (by omega) htot (by omega)).mono ?_; rintro e w5 ⟨rfl, hb5⟩; have hw5 : Below w.heap.size w w5 := fr_trans hw4 hb5; have HA5 := Lib.hid (HA4.out.fr hb5); have HB5 := Lib.hid (HB4.out.fr hb5); have HP5 := Lib.hid (HP4.out.fr hb5); clear hb5)
      | (go_at_call 15; refine (ref6_HeadOf m tg minor A fl c body st rs A' l c' k _ h0 h1 HP5.out (by omega) htot (by omega)).mono ?_; rintro e w6 ⟨rfl, hb6⟩; have hw6 : Below w.heap.size w w6 := fr_trans hw5 hb6; have HA6 := Lib.hid (HA5.out.fr hb6); have HB6 := Lib.hid (HB5.out.fr hb6); have HP6 := Lib.hid (HP5.out.fr hb6); clear hb6)
      | (go_at_call 16; refine (reply_Part m tg minor A fl c body st rs A' l.length c' s _ (hz.fr hw6) (by omega)).mono ?_; rintro e w7 ⟨rfl, hb7⟩; have hw7 : Below w.heap.size w w7 := fr_trans hw6 hb7; have HA7 := Lib.hid (HA6.out.fr hb7); have HB7 := Lib.hid (HB6.out.fr hb7); have HP7 := Lib.hid (HP6.out.fr hb7); clear hb7)
      | (go_at_call 17; refine (ref6_Part m tg minor A fl c body st rs A' l.length c' s _ (by omega)).mono ?_; rintro e w8 ⟨rfl, hb8⟩; have hw8 : Below w.heap.size w w8 := fr_trans hw7 hb8; have HA8 := Lib.hid (HA7.out.fr hb8); have HB8 := Lib.hid (HB7.out.fr hb8); have HP8 := Lib.hid (HP7.out.fr hb8); clear hb8)
      | (go_at_call 18; refine (reply_End m tg minor A fl c body st rs A' l.length c' _).mono ?_; rintro e w9 ⟨rfl, hb9⟩; have hw9 : Below w.heap.size w w9 := fr_trans hw8 hb9; have HA9 := Lib.hid (HA8.out.fr hb9); have HB9 := Lib.hid (HB8.out.fr hb9); have HP9 := Lib.hid (HP8.out.fr hb9); clear hb9)
      | (go_at_call 19; refine (ref6_End m tg minor A fl c body st rs A' l.length c' _).mono ?_; rintro e w10 ⟨rfl, hb10⟩; have hw10 : Below w.heap.size w w10 := fr_trans hw9 hb10; have HA10 := Lib.hid (HA9.out.fr hb10); have HB10 := Lib.hid (HB9.out.fr hb10); have HP10 := Lib.hid (HP9.out.fr hb10); clear hb10)
      | (go_at_call 20; refine (reply_Chunked m tg minor A fl c body st rs A' l.length c' _).mono ?_; rintro e w11 ⟨rfl, hb11⟩; have hw11 : Below w.heap.size w w11 := fr_trans hw10 hb11; have HA11 := Lib.hid (HA10.out.fr hb11); have HB11 := Lib.hid (HB10.out.fr hb11); have HP11 := Lib.hid (HP10.out.fr hb11); clear hb11)
      | (go_at_call 21; refine (ref6_Chunked m tg minor A fl c body st rs A' l.length c' _).mono ?_; rintro e w12 ⟨rfl, hb12⟩; have hw12 : Below w.heap.size w w12 := fr_trans hw11 hb12; have HA12 := Lib.hid (HA11.out.fr hb12); have HB12 := Lib.hid (HB11.out.fr hb12); have HP12 := Lib.hid (HP11.out.fr hb12); clear hb12))
  all_goals (go_wp2; go_ret; exact ⟨rfl, hw12⟩)
end Go.Proofs.YtkodkojbeehhjaaDoor
