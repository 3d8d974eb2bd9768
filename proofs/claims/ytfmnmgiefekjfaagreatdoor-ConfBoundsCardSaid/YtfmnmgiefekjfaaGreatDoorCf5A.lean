/- conduitlaw17.ConfBounds, by the number that is turned. -/
import Derived.Test.YtfmnmgiefekjfaaGreatDoorCf4
namespace Go.Proofs.YtfmnmgiefekjfaaGreatDoor
set_option linter.unusedVariables false
set_option linter.unusedSimpArgs false
open Go.RowKit

set_option maxRecDepth 100000 in
set_option maxHeartbeats 8000000 in
theorem bounds_p (x : Int) (high out : Bool) (w : World) (hm : MaxL w) (hx : x % 8 = 0) (x0 : 0 ≤ x) (x1 : x ≤ 255) :
    Calls Tryz.prog 4 #[.int .u8 x, .bool high, .bool out] w fun e w' => e = .returned (.bool true) ∧ Below w.heap.size w w' := by
  have HM := Lib.hid hm
  clear hm
  have ixl : ∀ W : World, (Instr.index 33 (.agg #[.int .i64 1, .int .i64 1, .int .i64 1, .int .i64 1, .int .i64 0, .int .i64 500, .int .i64 1, .int .i64 1]) (.int .i64 0)).run Tryz.prog W = .ok (.int .i64 1) W := by intro W; kernel_rfl
  have ixh : ∀ W : World, (Instr.index 33 (.agg #[.int .i64 65535, .int .i64 4, .int .i64 8, .int .i64 2000, .int .i64 4000, .int .i64 8000, .int .i64 100, .int .i64 2]) (.int .i64 0)).run Tryz.prog W = .ok (.int .i64 65535) W := by intro W; kernel_rfl
  cases high <;> cases out
  · go_enter Tryz.func4, Tryz.ntmps4
    go_wp2_with fail
    refine (law17_known _ HM.out).mono ?_
    rintro e w1 ⟨rfl, hb1⟩
    have H1 := Lib.hid hb1; clear hb1
    go_wp2_with fail
    refine (conf_Small _).mono ?_
    rintro e w2 ⟨⟨A, c, rfl, hr⟩, hb2⟩
    unfold confV
    have H2 := Lib.hid (fr_alloc (fr_trans H1.out hb2) (.cells #[.string ⟨#[108, 111, 99, 97, 108]⟩, .int .i64 1, .slice A 1 c, .int .i64 1, .int .i64 2, .int .i64 2000, .int .i64 4000, .int .i64 8000, .int .i64 10, .int .i64 1] 24))
    have HR := Lib.hid (hr.fr (fr_alloc (fr_refl w2) (.cells #[.string ⟨#[108, 111, 99, 97, 108]⟩, .int .i64 1, .slice A 1 c, .int .i64 1, .int .i64 2, .int .i64 2000, .int .i64 4000, .int .i64 8000, .int .i64 10, .int .i64 1] 24)))
    clear hr hb2
    go_wp2_with fail
    refine (at_p_ok 1 A c _ (by decide) (HM.out.fr H2.out) HR.out).mono ?_
    rintro e w3 ⟨rfl, hb3⟩
    have H3 := Lib.hid (fr_trans H2.out hb3); clear hb3
    go_wp2
    go_ret
    exact ⟨by first | rfl | simp, H3.out⟩
  · go_enter Tryz.func4, Tryz.ntmps4
    go_wp2_with fail
    refine (law17_known _ HM.out).mono ?_
    rintro e w1 ⟨rfl, hb1⟩
    have H1 := Lib.hid hb1; clear hb1
    go_wp2_with fail
    refine (conf_Small _).mono ?_
    rintro e w2 ⟨⟨A, c, rfl, hr⟩, hb2⟩
    unfold confV
    have H2 := Lib.hid (fr_alloc (fr_trans H1.out hb2) (.cells #[.string ⟨#[108, 111, 99, 97, 108]⟩, .int .i64 0, .slice A 1 c, .int .i64 1, .int .i64 2, .int .i64 2000, .int .i64 4000, .int .i64 8000, .int .i64 10, .int .i64 1] 24))
    have HR := Lib.hid (hr.fr (fr_alloc (fr_refl w2) (.cells #[.string ⟨#[108, 111, 99, 97, 108]⟩, .int .i64 0, .slice A 1 c, .int .i64 1, .int .i64 2, .int .i64 2000, .int .i64 4000, .int .i64 8000, .int .i64 10, .int .i64 1] 24)))
    clear hr hb2
    go_wp2_with fail
    refine (at_p_no 0 A c _ (by decide) (HM.out.fr H2.out) HR.out).mono ?_
    rintro e w3 ⟨rfl, hb3⟩
    have H3 := Lib.hid (fr_trans H2.out hb3); clear hb3
    go_wp2
    go_ret
    exact ⟨by first | rfl | simp, H3.out⟩
  · go_enter Tryz.func4, Tryz.ntmps4
    go_wp2_with fail
    refine (law17_known _ HM.out).mono ?_
    rintro e w1 ⟨rfl, hb1⟩
    have H1 := Lib.hid hb1; clear hb1
    go_wp2_with fail
    refine (conf_Small _).mono ?_
    rintro e w2 ⟨⟨A, c, rfl, hr⟩, hb2⟩
    unfold confV
    have H2 := Lib.hid (fr_alloc (fr_trans H1.out hb2) (.cells #[.string ⟨#[108, 111, 99, 97, 108]⟩, .int .i64 65535, .slice A 1 c, .int .i64 1, .int .i64 2, .int .i64 2000, .int .i64 4000, .int .i64 8000, .int .i64 10, .int .i64 1] 24))
    have HR := Lib.hid (hr.fr (fr_alloc (fr_refl w2) (.cells #[.string ⟨#[108, 111, 99, 97, 108]⟩, .int .i64 65535, .slice A 1 c, .int .i64 1, .int .i64 2, .int .i64 2000, .int .i64 4000, .int .i64 8000, .int .i64 10, .int .i64 1] 24)))
    clear hr hb2
    go_wp2_with fail
    refine (at_p_ok 65535 A c _ (by decide) (HM.out.fr H2.out) HR.out).mono ?_
    rintro e w3 ⟨rfl, hb3⟩
    have H3 := Lib.hid (fr_trans H2.out hb3); clear hb3
    go_wp2
    go_ret
    exact ⟨by first | rfl | simp, H3.out⟩
  · go_enter Tryz.func4, Tryz.ntmps4
    go_wp2_with fail
    refine (law17_known _ HM.out).mono ?_
    rintro e w1 ⟨rfl, hb1⟩
    have H1 := Lib.hid hb1; clear hb1
    go_wp2_with fail
    refine (conf_Small _).mono ?_
    rintro e w2 ⟨⟨A, c, rfl, hr⟩, hb2⟩
    unfold confV
    have H2 := Lib.hid (fr_alloc (fr_trans H1.out hb2) (.cells #[.string ⟨#[108, 111, 99, 97, 108]⟩, .int .i64 65536, .slice A 1 c, .int .i64 1, .int .i64 2, .int .i64 2000, .int .i64 4000, .int .i64 8000, .int .i64 10, .int .i64 1] 24))
    have HR := Lib.hid (hr.fr (fr_alloc (fr_refl w2) (.cells #[.string ⟨#[108, 111, 99, 97, 108]⟩, .int .i64 65536, .slice A 1 c, .int .i64 1, .int .i64 2, .int .i64 2000, .int .i64 4000, .int .i64 8000, .int .i64 10, .int .i64 1] 24)))
    clear hr hb2
    go_wp2_with fail
    refine (at_p_no 65536 A c _ (by decide) (HM.out.fr H2.out) HR.out).mono ?_
    rintro e w3 ⟨rfl, hb3⟩
    have H3 := Lib.hid (fr_trans H2.out hb3); clear hb3
    go_wp2
    go_ret
    exact ⟨by first | rfl | simp, H3.out⟩
set_option maxRecDepth 100000 in
set_option maxHeartbeats 8000000 in
theorem bounds_co (x : Int) (high out : Bool) (w : World) (hm : MaxL w) (hx : x % 8 = 1) (x0 : 0 ≤ x) (x1 : x ≤ 255) :
    Calls Tryz.prog 4 #[.int .u8 x, .bool high, .bool out] w fun e w' => e = .returned (.bool true) ∧ Below w.heap.size w w' := by
  have HM := Lib.hid hm
  clear hm
  have ixl : ∀ W : World, (Instr.index 33 (.agg #[.int .i64 1, .int .i64 1, .int .i64 1, .int .i64 1, .int .i64 0, .int .i64 500, .int .i64 1, .int .i64 1]) (.int .i64 1)).run Tryz.prog W = .ok (.int .i64 1) W := by intro W; kernel_rfl
  have ixh : ∀ W : World, (Instr.index 33 (.agg #[.int .i64 65535, .int .i64 4, .int .i64 8, .int .i64 2000, .int .i64 4000, .int .i64 8000, .int .i64 100, .int .i64 2]) (.int .i64 1)).run Tryz.prog W = .ok (.int .i64 4) W := by intro W; kernel_rfl
  cases high <;> cases out
  · go_enter Tryz.func4, Tryz.ntmps4
    go_wp2_with fail
    refine (law17_known _ HM.out).mono ?_
    rintro e w1 ⟨rfl, hb1⟩
    have H1 := Lib.hid hb1; clear hb1
    go_wp2_with fail
    refine (conf_Small _).mono ?_
    rintro e w2 ⟨⟨A, c, rfl, hr⟩, hb2⟩
    unfold confV
    have H2 := Lib.hid (fr_alloc (fr_trans H1.out hb2) (.cells #[.string ⟨#[108, 111, 99, 97, 108]⟩, .int .i64 80, .slice A 1 c, .int .i64 1, .int .i64 2, .int .i64 2000, .int .i64 4000, .int .i64 8000, .int .i64 10, .int .i64 1] 24))
    have HR := Lib.hid (hr.fr (fr_alloc (fr_refl w2) (.cells #[.string ⟨#[108, 111, 99, 97, 108]⟩, .int .i64 80, .slice A 1 c, .int .i64 1, .int .i64 2, .int .i64 2000, .int .i64 4000, .int .i64 8000, .int .i64 10, .int .i64 1] 24)))
    clear hr hb2
    go_wp2_with fail
    refine (at_co_ok 1 A c _ (by decide) (HM.out.fr H2.out) HR.out).mono ?_
    rintro e w3 ⟨rfl, hb3⟩
    have H3 := Lib.hid (fr_trans H2.out hb3); clear hb3
    go_wp2
    go_ret
    exact ⟨by first | rfl | simp, H3.out⟩
  · go_enter Tryz.func4, Tryz.ntmps4
    go_wp2_with fail
    refine (law17_known _ HM.out).mono ?_
    rintro e w1 ⟨rfl, hb1⟩
    have H1 := Lib.hid hb1; clear hb1
    go_wp2_with fail
    refine (conf_Small _).mono ?_
    rintro e w2 ⟨⟨A, c, rfl, hr⟩, hb2⟩
    unfold confV
    have H2 := Lib.hid (fr_alloc (fr_trans H1.out hb2) (.cells #[.string ⟨#[108, 111, 99, 97, 108]⟩, .int .i64 80, .slice A 1 c, .int .i64 0, .int .i64 2, .int .i64 2000, .int .i64 4000, .int .i64 8000, .int .i64 10, .int .i64 1] 24))
    have HR := Lib.hid (hr.fr (fr_alloc (fr_refl w2) (.cells #[.string ⟨#[108, 111, 99, 97, 108]⟩, .int .i64 80, .slice A 1 c, .int .i64 0, .int .i64 2, .int .i64 2000, .int .i64 4000, .int .i64 8000, .int .i64 10, .int .i64 1] 24)))
    clear hr hb2
    go_wp2_with fail
    refine (at_co_no 0 A c _ (by decide) (HM.out.fr H2.out) HR.out).mono ?_
    rintro e w3 ⟨rfl, hb3⟩
    have H3 := Lib.hid (fr_trans H2.out hb3); clear hb3
    go_wp2
    go_ret
    exact ⟨by first | rfl | simp, H3.out⟩
  · go_enter Tryz.func4, Tryz.ntmps4
    go_wp2_with fail
    refine (law17_known _ HM.out).mono ?_
    rintro e w1 ⟨rfl, hb1⟩
    have H1 := Lib.hid hb1; clear hb1
    go_wp2_with fail
    refine (conf_Small _).mono ?_
    rintro e w2 ⟨⟨A, c, rfl, hr⟩, hb2⟩
    unfold confV
    have H2 := Lib.hid (fr_alloc (fr_trans H1.out hb2) (.cells #[.string ⟨#[108, 111, 99, 97, 108]⟩, .int .i64 80, .slice A 1 c, .int .i64 4, .int .i64 2, .int .i64 2000, .int .i64 4000, .int .i64 8000, .int .i64 10, .int .i64 1] 24))
    have HR := Lib.hid (hr.fr (fr_alloc (fr_refl w2) (.cells #[.string ⟨#[108, 111, 99, 97, 108]⟩, .int .i64 80, .slice A 1 c, .int .i64 4, .int .i64 2, .int .i64 2000, .int .i64 4000, .int .i64 8000, .int .i64 10, .int .i64 1] 24)))
    clear hr hb2
    go_wp2_with fail
    refine (at_co_ok 4 A c _ (by decide) (HM.out.fr H2.out) HR.out).mono ?_
    rintro e w3 ⟨rfl, hb3⟩
    have H3 := Lib.hid (fr_trans H2.out hb3); clear hb3
    go_wp2
    go_ret
    exact ⟨by first | rfl | simp, H3.out⟩
  · go_enter Tryz.func4, Tryz.ntmps4
    go_wp2_with fail
    refine (law17_known _ HM.out).mono ?_
    rintro e w1 ⟨rfl, hb1⟩
    have H1 := Lib.hid hb1; clear hb1
    go_wp2_with fail
    refine (conf_Small _).mono ?_
    rintro e w2 ⟨⟨A, c, rfl, hr⟩, hb2⟩
    unfold confV
    have H2 := Lib.hid (fr_alloc (fr_trans H1.out hb2) (.cells #[.string ⟨#[108, 111, 99, 97, 108]⟩, .int .i64 80, .slice A 1 c, .int .i64 5, .int .i64 2, .int .i64 2000, .int .i64 4000, .int .i64 8000, .int .i64 10, .int .i64 1] 24))
    have HR := Lib.hid (hr.fr (fr_alloc (fr_refl w2) (.cells #[.string ⟨#[108, 111, 99, 97, 108]⟩, .int .i64 80, .slice A 1 c, .int .i64 5, .int .i64 2, .int .i64 2000, .int .i64 4000, .int .i64 8000, .int .i64 10, .int .i64 1] 24)))
    clear hr hb2
    go_wp2_with fail
    refine (at_co_no 5 A c _ (by decide) (HM.out.fr H2.out) HR.out).mono ?_
    rintro e w3 ⟨rfl, hb3⟩
    have H3 := Lib.hid (fr_trans H2.out hb3); clear hb3
    go_wp2
    go_ret
    exact ⟨by first | rfl | simp, H3.out⟩
end Go.Proofs.YtfmnmgiefekjfaaGreatDoor
