/- conduitlaw13.RouteHosts: true. -/
import Derived.Test.YtedombigkebpiaaDoorRKnown
namespace Go.Proofs.YtedombigkebpiaaDoor
open Go.RowKit

def hL (own : Bool) : List RV := [rv 1 ⟨#[]⟩ ⟨#[47, 97]⟩, rv 3 ⟨#[104, 46, 120]⟩ (if own then ⟨#[47]⟩ else ⟨#[47, 98]⟩), rv 3 ⟨#[111, 116, 104, 101, 114]⟩ ⟨#[47]⟩]
theorem chooseS_host {l : List RV} {h h' p : ByteArray} (e : hostS h = hostS h') : chooseS l h p = chooseS l h' p := by unfold chooseS; rw [e]
theorem hh1 : hostS ⟨#[104, 46, 120]⟩ = hostS ⟨#[104, 46, 120]⟩ := rfl
theorem hh2 : hostS ⟨#[72, 46, 88]⟩ = hostS ⟨#[104, 46, 120]⟩ := by rw [hostE_eq]; kernel_rfl
theorem hh3 : hostS (⟨#[104, 46, 120]⟩ ++ ⟨#[58, 56, 48, 56, 48]⟩) = hostS ⟨#[104, 46, 120]⟩ := by rw [hostE_eq]; kernel_rfl
theorem hh4 : hostS (⟨#[72, 46, 88]⟩ ++ ⟨#[58, 56, 48, 56, 48]⟩) = hostS ⟨#[104, 46, 120]⟩ := by rw [hostE_eq]; kernel_rfl
theorem ht1 : chooseS (hL true) ⟨#[104, 46, 120]⟩ ⟨#[47, 97]⟩ = ⟨1, ⟨#[]⟩, ⟨#[47, 97]⟩, [], 3, 0⟩ := by rw [chooseE_eq]; kernel_rfl
theorem ht2 : chooseS (hL true) ⟨#[104, 46, 120]⟩ ⟨#[47, 99]⟩ = ⟨1, ⟨#[]⟩, ⟨#[47, 99]⟩, [], 3, 0⟩ := by rw [chooseE_eq]; kernel_rfl
theorem hf1 : chooseS (hL false) ⟨#[104, 46, 120]⟩ ⟨#[47, 97]⟩ = ⟨0, ⟨#[47, 97]⟩, ⟨#[]⟩, [], 1, 0⟩ := by rw [chooseE_eq]; kernel_rfl
theorem hf2 : chooseS (hL false) ⟨#[104, 46, 120]⟩ ⟨#[47, 99]⟩ = ⟨0, ⟨#[]⟩, ⟨#[]⟩, [], 0, 0⟩ := by rw [chooseE_eq]; kernel_rfl
theorem hft1 : ∀ r ∈ hL true, FitsR r.path ⟨#[47, 97]⟩ r.kind := fits_of (by kernel_rfl)
theorem hft2 : ∀ r ∈ hL true, FitsR r.path ⟨#[47, 99]⟩ r.kind := fits_of (by kernel_rfl)
theorem hff1 : ∀ r ∈ hL false, FitsR r.path ⟨#[47, 97]⟩ r.kind := fits_of (by kernel_rfl)
theorem hff2 : ∀ r ∈ hL false, FitsR r.path ⟨#[47, 99]⟩ r.kind := fits_of (by kernel_rfl)
def hC (p : ByteArray) : Array Value := #[.int .i64 1, .string ⟨#[]⟩, .string ⟨#[47, 97]⟩, .int .i64 0, .slice none 0 0, .int .i64 3, .string ⟨#[104, 46, 120]⟩, .string p, .int .i64 0, .slice none 0 0, .int .i64 3, .string ⟨#[111, 116, 104, 101, 114]⟩, .string ⟨#[47]⟩, .int .i64 0, .slice none 0 0]

set_option maxHeartbeats 4000000 in
theorem hosts_true (big port : Bool) (w : World) (hm : MaxL w) : Calls Tryd.prog 8 #[.bool true, .bool big, .bool port] w fun e w' => e = .returned (.bool true) ∧ Below w.heap.size w w' := by
  have HM := Lib.hid hm; clear hm
  have HR : RowKit.Hid (∀ W : World, Rules (W.alloc (.cells (hC ⟨#[47]⟩) 36)) (some ⟨W.heap.size, 0, none⟩) (hL true)) := fun W => Rules.new W (hL true) 36
  cases big <;> cases port
  all_goals
    go_enter Tryd.func8, Tryd.ntmps8
    go_wp2_with fail
    refine (law13_known _ HM.out).mono ?_
    rintro e w1 ⟨rfl, hb1⟩
    have hw1 := fr_alloc hb1 (.cells (hC ⟨#[47]⟩) 36)
    go_wp2_with fail
    refine (choose_at 0 true _ 3 3 (hL true) _ ⟨#[47, 97]⟩ _ ((chooseS_host (by first | exact hh1 | exact hh2 | exact hh3 | exact hh4)).trans ht1) rfl rfl rfl (HM.out.fr hw1) (HR.out _) hft1 (by decide) (by decide)).mono ?_
    rintro e w2 ⟨⟨A2, c2, rfl, hp2⟩, hb2⟩
    have hw2 := fr_alloc (fr_trans hw1 hb2) (.cells #[.int .i64 1, .string ⟨#[]⟩, .string ⟨#[47, 97]⟩, .slice A2 0 c2] 29)
    have H2 := Lib.hid (Box.new w2 [.int .i64 1, .string ⟨#[]⟩, .string ⟨#[47, 97]⟩, .slice A2 0 c2] 29)
    have HR2 := Lib.hid (((HR.out w1).fr hb2).fr (fr_alloc (fr_refl _) (.cells #[.int .i64 1, .string ⟨#[]⟩, .string ⟨#[47, 97]⟩, .slice A2 0 c2] 29)))
    clear hb2 hp2
    go_wp2_with fail
    refine (choose_at 0 true _ 3 3 (hL true) _ ⟨#[47, 99]⟩ _ ((chooseS_host (by first | exact hh1 | exact hh2 | exact hh3 | exact hh4)).trans ht2) rfl rfl rfl (HM.out.fr hw2) HR2.out hft2 (by decide) (by decide)).mono ?_
    rintro e w3 ⟨⟨A3, c3, rfl, hp3⟩, hb3⟩
    have hw3 := fr_trans hw2 hb3
    have b2 := H2.out.fr hb3
    have qc0 : w3.cell? ⟨w2.heap.size, 0, none⟩ = some (.int .i64 1) := b2.2 0 _ rfl
    have qlt : w2.heap.size < w3.heap.size := b2.1
    have HW3 := Lib.hid hw3
    clear hb3 hp3 hw3 hw2 hw1 hb1 b2
    go_wp2
    go_ret
    exact ⟨rfl, fr_alloc HW3.out _⟩
set_option maxHeartbeats 4000000 in
theorem hosts_false (big port : Bool) (w : World) (hm : MaxL w) : Calls Tryd.prog 8 #[.bool false, .bool big, .bool port] w fun e w' => e = .returned (.bool true) ∧ Below w.heap.size w w' := by
  have HM := Lib.hid hm; clear hm
  have HR : RowKit.Hid (∀ W : World, Rules (W.alloc (.cells (hC ⟨#[47, 98]⟩) 36)) (some ⟨W.heap.size, 0, none⟩) (hL false)) := fun W => Rules.new W (hL false) 36
  cases big <;> cases port
  all_goals
    go_enter Tryd.func8, Tryd.ntmps8
    go_wp2_with fail
    refine (law13_known _ HM.out).mono ?_
    rintro e w1 ⟨rfl, hb1⟩
    have hw1 := fr_alloc hb1 (.cells (hC ⟨#[47, 98]⟩) 36)
    go_wp2_with fail
    refine (choose_at 0 true _ 3 3 (hL false) _ ⟨#[47, 97]⟩ _ ((chooseS_host (by first | exact hh1 | exact hh2 | exact hh3 | exact hh4)).trans hf1) rfl rfl rfl (HM.out.fr hw1) (HR.out _) hff1 (by decide) (by decide)).mono ?_
    rintro e w2 ⟨⟨A2, c2, rfl, hp2⟩, hb2⟩
    have hw2 := fr_alloc (fr_trans hw1 hb2) (.cells #[.int .i64 0, .string ⟨#[47, 97]⟩, .string ⟨#[]⟩, .slice A2 0 c2] 29)
    have H2 := Lib.hid (Box.new w2 [.int .i64 0, .string ⟨#[47, 97]⟩, .string ⟨#[]⟩, .slice A2 0 c2] 29)
    have HR2 := Lib.hid (((HR.out w1).fr hb2).fr (fr_alloc (fr_refl _) (.cells #[.int .i64 0, .string ⟨#[47, 97]⟩, .string ⟨#[]⟩, .slice A2 0 c2] 29)))
    clear hb2 hp2
    go_wp2_with fail
    refine (choose_at 0 false _ 3 3 (hL false) _ ⟨#[47, 99]⟩ _ ((chooseS_host (by first | exact hh1 | exact hh2 | exact hh3 | exact hh4)).trans hf2) rfl rfl rfl (HM.out.fr hw2) HR2.out hff2 (by decide) (by decide)).mono ?_
    rintro e w3 ⟨⟨A3, c3, rfl, hp3⟩, hb3⟩
    have hw3 := fr_trans hw2 hb3
    have b2 := H2.out.fr hb3
    have qc0 : w3.cell? ⟨w2.heap.size, 0, none⟩ = some (.int .i64 0) := b2.2 0 _ rfl
    have qlt : w2.heap.size < w3.heap.size := b2.1
    have HW3 := Lib.hid hw3
    clear hb3 hp3 hw3 hw2 hw1 hb1 b2
    go_wp2
    go_ret
    exact ⟨rfl, fr_alloc HW3.out _⟩

theorem law13_hosts (own big port : Bool) (w : World) (hm : MaxL w) : Calls Tryd.prog 8 #[.bool own, .bool big, .bool port] w fun e w' => e = .returned (.bool true) ∧ Below w.heap.size w w' := by
  cases own
  · exact hosts_false big port w hm
  · exact hosts_true big port w hm
end Go.Proofs.YtedombigkebpiaaDoor
