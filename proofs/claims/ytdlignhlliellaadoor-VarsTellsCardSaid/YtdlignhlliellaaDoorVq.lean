/- slices.SortStableFunc of fewer than twenty pairs: the same pairs in another order. -/
import Derived.Test.YtdlignhlliellaaDoorVp
namespace Go.Proofs.YtdlignhlliellaaDoor
set_option linter.unusedVariables false
set_option linter.unusedSimpArgs false
open Go.RowKit

set_option maxHeartbeats 1000000 in
theorem stable_sort (base blk cap n : Nat) (l : List Pr) (w : World) (hown : w.ownsRow base 37 2 (.slice (some ⟨blk, 0, none⟩) n cap) n (pcells l)) (hblk : blk < w.heap.size) (hn20 : n < 20) :
    Calls Tryd.prog 40 #[.slice (some ⟨blk, 0, none⟩) n cap, .int .i64 n, .func (.func 23) #[] #[]] w fun e w' => e = .returned (.tuple #[]) ∧ ∃ l' : List Pr, l'.Perm l ∧ Pairs w' (some ⟨blk, 0, none⟩) l' ∧ w.grownBy w' (some blk) := by
  have HI := Lib.hid (ins_sort base blk cap n l w hown hblk (by omega))
  have h1 : decide ((20 : Int) ≤ (n : Int)) = false := by simp; omega
  have h2 : decide ((20 : Int) < (n : Int)) = false := by simp; omega
  clear hown
  go_enter Tryd.func40, Tryd.ntmps40
  go_wp2
  go_loop [7, 8] (fun a i => a = .int .i64 0 ∧ i = .int .i64 20) (fun _ _ => 0)
  case atStart => exact ⟨rfl, rfl⟩
  case round =>
    obtain ⟨rfl, rfl⟩ := hrel
    go_wp2_with fail
    refine HI.out.mono ?_
    rintro e w1 ⟨rfl, l', hp, hP, hg⟩
    have HP := Lib.hid hp; have HPP := Lib.hid hP; have HG := Lib.hid hg
    clear hp hP hg
    go_wp2
    go_loop [6] (fun i => i = .int .i64 20) (fun _ => 0)
    case atStart => rfl
    case round =>
      subst hrel
      go_wp2
      go_end0
      exact ⟨rfl, l', HP.out, HPP.out, HG.out⟩
theorem sort_stable (base blk cap n : Nat) (l : List Pr) (w : World) (hown : w.ownsRow base 37 2 (.slice (some ⟨blk, 0, none⟩) n cap) n (pcells l)) (hblk : blk < w.heap.size) (hn20 : n < 20) :
    Calls Tryd.prog 22 #[.slice (some ⟨blk, 0, none⟩) n cap, .func (.func 23) #[] #[]] w fun e w' => e = .returned (.tuple #[]) ∧ ∃ l' : List Pr, l'.Perm l ∧ Pairs w' (some ⟨blk, 0, none⟩) l' ∧ w.grownBy w' (some blk) := by
  have HI := Lib.hid (stable_sort base blk cap n l w hown hblk hn20)
  clear hown hblk hn20
  go_enter Tryd.func22, Tryd.ntmps22
  go_wp2_with fail
  refine HI.out.mono ?_
  rintro e w1 ⟨rfl, l', hp, hP, hg⟩
  have HP := Lib.hid hp; have HPP := Lib.hid hP; have HG := Lib.hid hg
  clear hp hP hg
  go_wp2
  go_end0
  exact ⟨rfl, l', HP.out, HPP.out, HG.out⟩
end Go.Proofs.YtdlignhlliellaaDoor
