/- reply.Part, conduitref6.Part. -/
import Derived.Test.YtkodkojbeehhjaaDoorReply2
import Derived.Test.YtkodkojbeehhjaaDoorHex
namespace Go.Proofs.YtkodkojbeehhjaaDoor
open Go.RowKit

def partB (m : ByteArray) (minor st : Int) (s : ByteArray) : ByteArray := if chunkedB m minor st then wrapB s else if bareB m st then ⟨#[]⟩ else s

set_option maxHeartbeats 1000000 in
theorem reply_Part (m tg : ByteArray) (minor : Int) (A : Option Addr) (fl c : Nat) (body : ByteArray) (st : Int) (rs : ByteArray) (A' : Option Addr) (n' c' : Nat) (s : ByteArray) (w : World) (hT : TabZ w) (hs : s.size ≤ 4611686018427387904) :
    Calls Tryd.prog 16 #[.agg #[.string m, .string tg, .int .i64 minor, .slice A fl c, .string body], .agg #[.int .i64 st, .string rs, .slice A' n' c'], .string s] w fun e w' => e = .returned (.string (partB m minor st s)) ∧ Below w.heap.size w w' := by
  have hba := (Box.new w [.string m, .string tg, .int .i64 minor, .slice A fl c, .string body] 24).fr (fr_alloc (fr_refl _) (.cells #[.int .i64 st, .string rs, .slice A' n' c'] 26))
  have hbb := Box.newAt (w := w.alloc (.cells #[.string m, .string tg, .int .i64 minor, .slice A fl c, .string body] 24)) (g := w.heap.size + 1) (by simp) [.int .i64 st, .string rs, .slice A' n' c'] 26
  have HA := Lib.hid hba
  have HB := Lib.hid hbb
  clear hba hbb
  go_enter Tryd.func16, Tryd.ntmps16
  go_wp2_with fail
  refine (reply_Chunked m tg minor A fl c body st rs A' n' c' _).mono ?_
  rintro e w1 ⟨rfl, hb1⟩
  have hw1 : Below w.heap.size w w1 := fr_trans (fr_alloc (fr_alloc (fr_refl _) _) _) hb1
  have HA1 := HA.out.fr hb1
  have HB1 := HB.out.fr hb1
  have a0 := HA1.at_ 0 (.string m)
  have a1 := HA1.at_ 1 (.string tg)
  have a2 := HA1.at_ 2 (.int .i64 minor)
  have a3 := HA1.at_ 3 (.slice A fl c)
  have a4 := HA1.at_ 4 (.string body)
  have b0 := HB1.at_ 0 (.int .i64 st)
  have b1 := HB1.at_ 1 (.string rs)
  have b2 := HB1.at_ 2 (.slice A' n' c')
  clear HA1 HB1 hb1
  cases hch : chunkedB m minor st
  · have HCH := Lib.hid hch
    go_wp2_with fail
    refine (reply_Bare m st _).mono ?_
    rintro e w2 ⟨rfl, rfl⟩
    cases hbr : bareB m st
    all_goals
      have HBR := Lib.hid hbr
      go_wp2
      go_ret
      exact ⟨by unfold partB; rw [HCH.out, HBR.out]; rfl, hw1⟩
  · have HCH := Lib.hid hch
    go_wp2_with fail
    refine (chunk_Wrap s _ (hT.fr hw1) hs).mono ?_
    rintro e w2 ⟨rfl, hb2⟩
    have hw2 := fr_trans hw1 hb2
    go_wp2
    go_ret
    exact ⟨by unfold partB; rw [HCH.out]; rfl, hw2⟩

set_option maxHeartbeats 1000000 in
theorem ref6_Part (m tg : ByteArray) (minor : Int) (A : Option Addr) (fl c : Nat) (body : ByteArray) (st : Int) (rs : ByteArray) (A' : Option Addr) (n' c' : Nat) (s : ByteArray) (w : World) (hs : s.size ≤ 4611686018427387904) :
    Calls Tryd.prog 17 #[.agg #[.string m, .string tg, .int .i64 minor, .slice A fl c, .string body], .agg #[.int .i64 st, .string rs, .slice A' n' c'], .string s] w fun e w' => e = .returned (.string (partB m minor st s)) ∧ Below w.heap.size w w' := by
  have hba := (Box.new w [.string m, .string tg, .int .i64 minor, .slice A fl c, .string body] 24).fr (fr_alloc (fr_refl _) (.cells #[.int .i64 st, .string rs, .slice A' n' c'] 26))
  have hbb := Box.newAt (w := w.alloc (.cells #[.string m, .string tg, .int .i64 minor, .slice A fl c, .string body] 24)) (g := w.heap.size + 1) (by simp) [.int .i64 st, .string rs, .slice A' n' c'] 26
  have HA := Lib.hid hba
  have HB := Lib.hid hbb
  clear hba hbb
  go_enter Tryd.func17, Tryd.ntmps17
  go_wp2_with fail
  refine (ref6_Chunked m tg minor A fl c body st rs A' n' c' _).mono ?_
  rintro e w1 ⟨rfl, hb1⟩
  have hw1 : Below w.heap.size w w1 := fr_trans (fr_alloc (fr_alloc (fr_refl _) _) _) hb1
  have HA1 := HA.out.fr hb1
  have HB1 := HB.out.fr hb1
  have a0 := HA1.at_ 0 (.string m)
  have a1 := HA1.at_ 1 (.string tg)
  have a2 := HA1.at_ 2 (.int .i64 minor)
  have a3 := HA1.at_ 3 (.slice A fl c)
  have a4 := HA1.at_ 4 (.string body)
  have b0 := HB1.at_ 0 (.int .i64 st)
  have b1 := HB1.at_ 1 (.string rs)
  have b2 := HB1.at_ 2 (.slice A' n' c')
  clear HA1 HB1 hb1
  cases hch : chunkedB m minor st
  · have HCH := Lib.hid hch
    go_wp2_with fail
    refine (ref6_Bare m st _).mono ?_
    rintro e w2 ⟨rfl, rfl⟩
    cases hbr : bareB m st
    all_goals
      have HBR := Lib.hid hbr
      go_wp2
      go_ret
      exact ⟨by unfold partB; rw [HCH.out, HBR.out]; rfl, hw1⟩
  · have HCH := Lib.hid hch
    go_wp2_with fail
    refine (ref6_Wrap s _ hs).mono ?_
    rintro e w2 ⟨rfl, hb2⟩
    have hw2 := fr_trans hw1 hb2
    go_wp2
    go_ret
    exact ⟨by unfold partB; rw [HCH.out]; rfl, hw2⟩
end Go.Proofs.YtkodkojbeehhjaaDoor
