/- reply's and conduitref6's small functions: reasons, what is bare, the field of a connection, what is chunked. -/
import Derived.Test.YtkodkojbeehhjaaDoorLines
namespace Go.Proofs.YtkodkojbeehhjaaDoor
open Go.RowKit

def reason (n : Int) : ByteArray :=
  if n == 100 then ⟨#[67, 111, 110, 116, 105, 110, 117, 101]⟩ else
  if n == 200 then ⟨#[79, 75]⟩ else
  if n == 204 then ⟨#[78, 111, 32, 67, 111, 110, 116, 101, 110, 116]⟩ else
  if n == 302 then ⟨#[70, 111, 117, 110, 100]⟩ else
  if n == 304 then ⟨#[78, 111, 116, 32, 77, 111, 100, 105, 102, 105, 101, 100]⟩ else
  if n == 400 then ⟨#[66, 97, 100, 32, 82, 101, 113, 117, 101, 115, 116]⟩ else
  if n == 404 then ⟨#[78, 111, 116, 32, 70, 111, 117, 110, 100]⟩ else
  if n == 405 then ⟨#[77, 101, 116, 104, 111, 100, 32, 78, 111, 116, 32, 65, 108, 108, 111, 119, 101, 100]⟩ else
  if n == 413 then ⟨#[67, 111, 110, 116, 101, 110, 116, 32, 84, 111, 111, 32, 76, 97, 114, 103, 101]⟩ else
  if n == 431 then ⟨#[82, 101, 113, 117, 101, 115, 116, 32, 72, 101, 97, 100, 101, 114, 32, 70, 105, 101, 108, 100, 115, 32, 84, 111, 111, 32, 76, 97, 114, 103, 101]⟩ else
  if n == 500 then ⟨#[73, 110, 116, 101, 114, 110, 97, 108, 32, 83, 101, 114, 118, 101, 114, 32, 69, 114, 114, 111, 114]⟩ else
  if n == 501 then ⟨#[78, 111, 116, 32, 73, 109, 112, 108, 101, 109, 101, 110, 116, 101, 100]⟩ else
  if n == 502 then ⟨#[66, 97, 100, 32, 71, 97, 116, 101, 119, 97, 121]⟩ else
  if n == 503 then ⟨#[83, 101, 114, 118, 105, 99, 101, 32, 85, 110, 97, 118, 97, 105, 108, 97, 98, 108, 101]⟩ else
  if n == 504 then ⟨#[71, 97, 116, 101, 119, 97, 121, 32, 84, 105, 109, 101, 111, 117, 116]⟩ else
  if n == 505 then ⟨#[72, 84, 84, 80, 32, 86, 101, 114, 115, 105, 111, 110, 32, 78, 111, 116, 32, 83, 117, 112, 112, 111, 114, 116, 101, 100]⟩ else
  ⟨#[85, 110, 107, 110, 111, 119, 110]⟩
theorem ite_size {c : Bool} {a b : ByteArray} {m : Nat} (ha : a.size ≤ m) (hb : b.size ≤ m) : (if c then a else b).size ≤ m := by cases c <;> simp_all
theorem reason_size (n : Int) : (reason n).size ≤ 40 := by
  unfold reason
  repeat' (refine ite_size ?_ ?_)
  all_goals decide

set_option maxHeartbeats 1000000 in
theorem reply_Reason (n : Int) (w : World) :
    Calls Tryd.prog 8 #[.int .i64 n] w fun e w' => e = .returned (.string (reason n)) ∧ w = w' := by
  go_enter Tryd.func8, Tryd.ntmps8
  go_wp2
  all_goals (go_ret; refine ⟨?_, rfl⟩; simp_all [reason])

set_option maxHeartbeats 1000000 in
theorem ref6_Reason (n : Int) (w : World) :
    Calls Tryd.prog 9 #[.int .i64 n] w fun e w' => e = .returned (.string (reason n)) ∧ w = w' := by
  go_enter Tryd.func9, Tryd.ntmps9
  go_wp2
  all_goals (go_ret; refine ⟨?_, rfl⟩; simp_all [reason])

def isEmptyB (n : Int) : Bool := n == 204 || n == 304
theorem reply_isEmpty (n : Int) (w : World) :
    Calls Tryd.prog 25 #[.int .i64 n] w fun e w' => e = .returned (.bool (isEmptyB n)) ∧ w = w' := by
  go_enter Tryd.func25, Tryd.ntmps25
  go_wp2
  all_goals (go_ret; refine ⟨?_, rfl⟩; simp_all [isEmptyB])

def bareB (m : ByteArray) (n : Int) : Bool := eqB m ⟨#[72, 69, 65, 68]⟩ || isEmptyB n
theorem reply_Bare (m : ByteArray) (n : Int) (w : World) :
    Calls Tryd.prog 10 #[.string m, .int .i64 n] w fun e w' => e = .returned (.bool (bareB m n)) ∧ w = w' := by
  go_enter Tryd.func10, Tryd.ntmps10
  go_wp2_with (go_at_call 25; refine (reply_isEmpty n _).mono ?_; rintro e w1 ⟨rfl, rfl⟩)
  all_goals (go_ret; refine ⟨?_, rfl⟩; simp_all [bareB, eqB])
theorem ref6_Bare (m : ByteArray) (n : Int) (w : World) :
    Calls Tryd.prog 11 #[.string m, .int .i64 n] w fun e w' => e = .returned (.bool (bareB m n)) ∧ w = w' := by
  go_enter Tryd.func11, Tryd.ntmps11
  go_wp2
  all_goals (go_ret; refine ⟨?_, rfl⟩; simp_all [bareB, eqB, isEmptyB, Bool.or_assoc])

def connP (keep : Bool) : Pr := (⟨#[67, 111, 110, 110, 101, 99, 116, 105, 111, 110]⟩, if keep then ⟨#[107, 101, 101, 112, 45, 97, 108, 105, 118, 101]⟩ else ⟨#[99, 108, 111, 115, 101]⟩)
def pairV (p : Pr) : Value := .agg #[.string p.1, .string p.2]
theorem reply_connection (k : Bool) (w : World) :
    Calls Tryd.prog 29 #[.bool k] w fun e w' => e = .returned (pairV (connP k)) ∧ Below w.heap.size w w' := by
  go_enter Tryd.func29, Tryd.ntmps29
  cases k
  all_goals
    go_wp2
    exact bodyPost_ret (v := pairV (connP _)) (by simp [results, Tryd.results29, go_sem]; rfl) rfl ⟨rfl, fr_alloc (fr_refl _) _⟩
theorem ref6_connection (k : Bool) (w : World) :
    Calls Tryd.prog 30 #[.bool k] w fun e w' => e = .returned (pairV (connP k)) ∧ Below w.heap.size w w' := by
  go_enter Tryd.func30, Tryd.ntmps30
  cases k
  all_goals
    go_wp2
    exact bodyPost_ret (v := pairV (connP _)) (by simp [results, Tryd.results30, go_sem]; rfl) rfl ⟨rfl, fr_alloc (fr_refl _) _⟩
end Go.Proofs.YtkodkojbeehhjaaDoor
