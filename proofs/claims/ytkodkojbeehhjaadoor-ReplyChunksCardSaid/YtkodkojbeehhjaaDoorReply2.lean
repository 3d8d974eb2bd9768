/- reply.Chunked, reply.End, chunk.Last and the references'. -/
import Derived.Test.YtkodkojbeehhjaaDoorReply
namespace Go.Proofs.YtkodkojbeehhjaaDoor
open Go.RowKit

def chunkedB (m : ByteArray) (minor st : Int) : Bool := minor == 1 && !bareB m st

set_option maxHeartbeats 400000 in
theorem reply_Chunked (m tg : ByteArray) (minor : Int) (A : Option Addr) (n c : Nat) (body : ByteArray) (st : Int) (rs : ByteArray) (A' : Option Addr) (n' c' : Nat) (w : World) :
    Calls Tryd.prog 20 #[.agg #[.string m, .string tg, .int .i64 minor, .slice A n c, .string body], .agg #[.int .i64 st, .string rs, .slice A' n' c']] w
      fun e w' => e = .returned (.bool (chunkedB m minor st)) ∧ Below w.heap.size w w' := by
  go_enter Tryd.func20, Tryd.ntmps20
  go_wp2_with (go_at_call 10; refine (reply_Bare _ _ _).mono ?_; rintro e w1 ⟨rfl, rfl⟩)
  all_goals (go_ret; refine ⟨?_, fr_alloc (fr_alloc (fr_refl _) _) _⟩; simp_all [chunkedB])

set_option maxHeartbeats 400000 in
theorem ref6_Chunked (m tg : ByteArray) (minor : Int) (A : Option Addr) (n c : Nat) (body : ByteArray) (st : Int) (rs : ByteArray) (A' : Option Addr) (n' c' : Nat) (w : World) :
    Calls Tryd.prog 21 #[.agg #[.string m, .string tg, .int .i64 minor, .slice A n c, .string body], .agg #[.int .i64 st, .string rs, .slice A' n' c']] w
      fun e w' => e = .returned (.bool (chunkedB m minor st)) ∧ Below w.heap.size w w' := by
  go_enter Tryd.func21, Tryd.ntmps21
  go_wp2_with (go_at_call 11; refine (ref6_Bare _ _ _).mono ?_; rintro e w1 ⟨rfl, rfl⟩)
  all_goals (go_ret; refine ⟨?_, fr_alloc (fr_alloc (fr_refl _) _) _⟩; simp_all [chunkedB])

theorem chunk_Last (w : World) : Calls Tryd.prog 36 #[] w fun e w' => e = .returned (.string ⟨#[48, 13, 10, 13, 10]⟩) ∧ w = w' := by
  go_enter Tryd.func36, Tryd.ntmps36
  go_wp2
  go_ret
  exact ⟨rfl, rfl⟩

def endB (b : Bool) : ByteArray := if b then ⟨#[48, 13, 10, 13, 10]⟩ else ⟨#[]⟩
set_option maxHeartbeats 400000 in
theorem reply_End (m tg : ByteArray) (minor : Int) (A : Option Addr) (n c : Nat) (body : ByteArray) (st : Int) (rs : ByteArray) (A' : Option Addr) (n' c' : Nat) (w : World) :
    Calls Tryd.prog 18 #[.agg #[.string m, .string tg, .int .i64 minor, .slice A n c, .string body], .agg #[.int .i64 st, .string rs, .slice A' n' c']] w
      fun e w' => e = .returned (.string (endB (chunkedB m minor st))) ∧ Below w.heap.size w w' := by
  go_enter Tryd.func18, Tryd.ntmps18
  go_wp2_with fail
  refine (reply_Chunked m tg minor A n c body st rs A' n' c' _).mono ?_
  rintro e w1 ⟨rfl, hb1⟩
  have hb : Below w.heap.size w w1 := fr_trans (fr_alloc (fr_alloc (fr_refl _) _) _) hb1
  cases hq : chunkedB m minor st
  · go_wp2
    go_ret
    exact ⟨by simp [endB, hq], hb⟩
  · go_wp2_with (go_at_call 36; refine (chunk_Last _).mono ?_; rintro e w2 ⟨rfl, rfl⟩)
    go_ret
    exact ⟨by simp [endB, hq], hb⟩

set_option maxHeartbeats 400000 in
theorem ref6_End (m tg : ByteArray) (minor : Int) (A : Option Addr) (n c : Nat) (body : ByteArray) (st : Int) (rs : ByteArray) (A' : Option Addr) (n' c' : Nat) (w : World) :
    Calls Tryd.prog 19 #[.agg #[.string m, .string tg, .int .i64 minor, .slice A n c, .string body], .agg #[.int .i64 st, .string rs, .slice A' n' c']] w
      fun e w' => e = .returned (.string (endB (chunkedB m minor st))) ∧ Below w.heap.size w w' := by
  go_enter Tryd.func19, Tryd.ntmps19
  go_wp2_with fail
  refine (ref6_Chunked m tg minor A n c body st rs A' n' c' _).mono ?_
  rintro e w1 ⟨rfl, hb1⟩
  have hb : Below w.heap.size w w1 := fr_trans (fr_alloc (fr_alloc (fr_refl _) _) _) hb1
  cases hq : chunkedB m minor st
  all_goals
    go_wp2
    go_ret
    exact ⟨by simp [endB, hq], hb⟩
end Go.Proofs.YtkodkojbeehhjaaDoor
