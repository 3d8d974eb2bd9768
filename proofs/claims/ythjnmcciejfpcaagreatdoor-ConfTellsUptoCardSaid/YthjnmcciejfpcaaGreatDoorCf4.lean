/- conf.Is at Small with one number turned; conduitlaw17.known. -/
import Derived.Test.YthjnmcciejfpcaaGreatDoorCf3
import Derived.Test.YthjnmcciejfpcaaGreatDoorCfA
import Derived.Test.YthjnmcciejfpcaaGreatDoorCfB
import Derived.Test.YthjnmcciejfpcaaGreatDoorCfC
import Derived.Deep.RegionHeld3
namespace Go.Proofs.YthjnmcciejfpcaaGreatDoor
set_option linter.unusedVariables false
set_option linter.unusedSimpArgs false
open Go.RowKit

theorem trim_local : trimB ⟨#[108, 111, 99, 97, 108]⟩ hostSet = ⟨#[]⟩ := by kernel_rfl

theorem at_p_ok (x : Int) (A : Option Addr) (c : Nat) (w : World) (h : inB x 1 65535 = true) (hm : MaxL w) (hr : RootAt w A) : Calls Tryz.prog 5 #[.agg (confV ⟨#[108, 111, 99, 97, 108]⟩ x A 1 c 1 2 2000 4000 8000 10 1)] w fun e w' => e = .returned (.nilIface) ∧ Below w.heap.size w w' :=
  conf_ok ⟨#[108, 111, 99, 97, 108]⟩ x A 1 c 1 2 2000 4000 8000 10 1 w hm (by decide) (by decide) trim_local (by decide) (by decide) (by decide) (by decide) (by decide) (by decide) (by decide) h (by decide) hr rfl
theorem at_p_no (x : Int) (A : Option Addr) (c : Nat) (w : World) (h : inB x 1 65535 = false) (hm : MaxL w) (hr : RootAt w A) : Calls Tryz.prog 5 #[.agg (confV ⟨#[108, 111, 99, 97, 108]⟩ x A 1 c 1 2 2000 4000 8000 10 1)] w fun e w' => e = .returned (.iface 31 (.int .i64 14)) ∧ Below w.heap.size w w' :=
  conf_no_p ⟨#[108, 111, 99, 97, 108]⟩ x A 1 c 1 2 2000 4000 8000 10 1 w hm (by decide) (by decide) trim_local (by decide) (by decide) (by decide) (by decide) (by decide) (by decide) (by decide) h
theorem at_co_ok (x : Int) (A : Option Addr) (c : Nat) (w : World) (h : inB x 1 4 = true) (hm : MaxL w) (hr : RootAt w A) : Calls Tryz.prog 5 #[.agg (confV ⟨#[108, 111, 99, 97, 108]⟩ 80 A 1 c x 2 2000 4000 8000 10 1)] w fun e w' => e = .returned (.nilIface) ∧ Below w.heap.size w w' :=
  conf_ok ⟨#[108, 111, 99, 97, 108]⟩ 80 A 1 c x 2 2000 4000 8000 10 1 w hm (by decide) (by decide) trim_local (by decide) (by decide) h (by decide) (by decide) (by decide) (by decide) (by decide) (by decide) hr rfl
theorem at_co_no (x : Int) (A : Option Addr) (c : Nat) (w : World) (h : inB x 1 4 = false) (hm : MaxL w) (hr : RootAt w A) : Calls Tryz.prog 5 #[.agg (confV ⟨#[108, 111, 99, 97, 108]⟩ 80 A 1 c x 2 2000 4000 8000 10 1)] w fun e w' => e = .returned (.iface 31 (.int .i64 14)) ∧ Below w.heap.size w w' :=
  conf_no_co ⟨#[108, 111, 99, 97, 108]⟩ 80 A 1 c x 2 2000 4000 8000 10 1 w hm (by decide) (by decide) trim_local (by decide) (by decide) h (by decide) (by decide) (by decide)
theorem at_id_ok (x : Int) (A : Option Addr) (c : Nat) (w : World) (h : inB x 1 8 = true) (hm : MaxL w) (hr : RootAt w A) : Calls Tryz.prog 5 #[.agg (confV ⟨#[108, 111, 99, 97, 108]⟩ 80 A 1 c 1 x 2000 4000 8000 10 1)] w fun e w' => e = .returned (.nilIface) ∧ Below w.heap.size w w' :=
  conf_ok ⟨#[108, 111, 99, 97, 108]⟩ 80 A 1 c 1 x 2000 4000 8000 10 1 w hm (by decide) (by decide) trim_local (by decide) (by decide) (by decide) h (by decide) (by decide) (by decide) (by decide) (by decide) hr rfl
theorem at_id_no (x : Int) (A : Option Addr) (c : Nat) (w : World) (h : inB x 1 8 = false) (hm : MaxL w) (hr : RootAt w A) : Calls Tryz.prog 5 #[.agg (confV ⟨#[108, 111, 99, 97, 108]⟩ 80 A 1 c 1 x 2000 4000 8000 10 1)] w fun e w' => e = .returned (.iface 31 (.int .i64 14)) ∧ Below w.heap.size w w' :=
  conf_no_id ⟨#[108, 111, 99, 97, 108]⟩ 80 A 1 c 1 x 2000 4000 8000 10 1 w hm (by decide) (by decide) trim_local (by decide) (by decide) (by decide) h (by decide) (by decide) (by decide)
theorem at_he_ok (x : Int) (A : Option Addr) (c : Nat) (w : World) (h : inB x 1 2000 = true) (hm : MaxL w) (hr : RootAt w A) : Calls Tryz.prog 5 #[.agg (confV ⟨#[108, 111, 99, 97, 108]⟩ 80 A 1 c 1 2 x 4000 8000 10 1)] w fun e w' => e = .returned (.nilIface) ∧ Below w.heap.size w w' :=
  conf_ok ⟨#[108, 111, 99, 97, 108]⟩ 80 A 1 c 1 2 x 4000 8000 10 1 w hm (by decide) (by decide) trim_local (by decide) (by decide) (by decide) (by decide) h (by decide) (by decide) (by decide) (by decide) hr rfl
theorem at_he_no (x : Int) (A : Option Addr) (c : Nat) (w : World) (h : inB x 1 2000 = false) (hm : MaxL w) (hr : RootAt w A) : Calls Tryz.prog 5 #[.agg (confV ⟨#[108, 111, 99, 97, 108]⟩ 80 A 1 c 1 2 x 4000 8000 10 1)] w fun e w' => e = .returned (.iface 31 (.int .i64 14)) ∧ Below w.heap.size w w' :=
  conf_no_he ⟨#[108, 111, 99, 97, 108]⟩ 80 A 1 c 1 2 x 4000 8000 10 1 w hm (by decide) (by decide) trim_local (by decide) (by decide) (by decide) (by decide) h
theorem at_bo_ok (x : Int) (A : Option Addr) (c : Nat) (w : World) (h : inB x 0 4000 = true) (hm : MaxL w) (hr : RootAt w A) : Calls Tryz.prog 5 #[.agg (confV ⟨#[108, 111, 99, 97, 108]⟩ 80 A 1 c 1 2 2000 x 8000 10 1)] w fun e w' => e = .returned (.nilIface) ∧ Below w.heap.size w w' :=
  conf_ok ⟨#[108, 111, 99, 97, 108]⟩ 80 A 1 c 1 2 2000 x 8000 10 1 w hm (by decide) (by decide) trim_local (by decide) (by decide) (by decide) (by decide) (by decide) h (by decide) (by decide) (by decide) hr rfl
theorem at_bo_no (x : Int) (A : Option Addr) (c : Nat) (w : World) (h : inB x 0 4000 = false) (hm : MaxL w) (hr : RootAt w A) : Calls Tryz.prog 5 #[.agg (confV ⟨#[108, 111, 99, 97, 108]⟩ 80 A 1 c 1 2 2000 x 8000 10 1)] w fun e w' => e = .returned (.iface 31 (.int .i64 14)) ∧ Below w.heap.size w w' :=
  conf_no_bo ⟨#[108, 111, 99, 97, 108]⟩ 80 A 1 c 1 2 2000 x 8000 10 1 w hm (by decide) (by decide) trim_local (by decide) (by decide) (by decide) (by decide) (by decide) h
theorem at_ou_ok (x : Int) (A : Option Addr) (c : Nat) (w : World) (h : inB x 500 8000 = true) (hm : MaxL w) (hr : RootAt w A) : Calls Tryz.prog 5 #[.agg (confV ⟨#[108, 111, 99, 97, 108]⟩ 80 A 1 c 1 2 2000 4000 x 10 1)] w fun e w' => e = .returned (.nilIface) ∧ Below w.heap.size w w' :=
  conf_ok ⟨#[108, 111, 99, 97, 108]⟩ 80 A 1 c 1 2 2000 4000 x 10 1 w hm (by decide) (by decide) trim_local (by decide) (by decide) (by decide) (by decide) (by decide) (by decide) h (by decide) (by decide) hr rfl
theorem at_ou_no (x : Int) (A : Option Addr) (c : Nat) (w : World) (h : inB x 500 8000 = false) (hm : MaxL w) (hr : RootAt w A) : Calls Tryz.prog 5 #[.agg (confV ⟨#[108, 111, 99, 97, 108]⟩ 80 A 1 c 1 2 2000 4000 x 10 1)] w fun e w' => e = .returned (.iface 31 (.int .i64 14)) ∧ Below w.heap.size w w' :=
  conf_no_ou ⟨#[108, 111, 99, 97, 108]⟩ 80 A 1 c 1 2 2000 4000 x 10 1 w hm (by decide) (by decide) trim_local (by decide) (by decide) (by decide) (by decide) (by decide) (by decide) h
theorem at_ti_ok (x : Int) (A : Option Addr) (c : Nat) (w : World) (h : inB x 1 100 = true) (hm : MaxL w) (hr : RootAt w A) : Calls Tryz.prog 5 #[.agg (confV ⟨#[108, 111, 99, 97, 108]⟩ 80 A 1 c 1 2 2000 4000 8000 x 1)] w fun e w' => e = .returned (.nilIface) ∧ Below w.heap.size w w' :=
  conf_ok ⟨#[108, 111, 99, 97, 108]⟩ 80 A 1 c 1 2 2000 4000 8000 x 1 w hm (by decide) (by decide) trim_local (by decide) (by decide) (by decide) (by decide) (by decide) (by decide) (by decide) (by decide) h hr rfl
theorem at_ti_no (x : Int) (A : Option Addr) (c : Nat) (w : World) (h : inB x 1 100 = false) (hm : MaxL w) (hr : RootAt w A) : Calls Tryz.prog 5 #[.agg (confV ⟨#[108, 111, 99, 97, 108]⟩ 80 A 1 c 1 2 2000 4000 8000 x 1)] w fun e w' => e = .returned (.iface 31 (.int .i64 14)) ∧ Below w.heap.size w w' :=
  conf_no_ti ⟨#[108, 111, 99, 97, 108]⟩ 80 A 1 c 1 2 2000 4000 8000 x 1 w hm (by decide) (by decide) trim_local (by decide) (by decide) (by decide) (by decide) (by decide) (by decide) (by decide) (by decide) h
theorem at_ba_ok (x : Int) (A : Option Addr) (c : Nat) (w : World) (h : inB x 1 2 = true) (hm : MaxL w) (hr : RootAt w A) : Calls Tryz.prog 5 #[.agg (confV ⟨#[108, 111, 99, 97, 108]⟩ 80 A 1 c 1 2 2000 4000 8000 10 x)] w fun e w' => e = .returned (.nilIface) ∧ Below w.heap.size w w' :=
  conf_ok ⟨#[108, 111, 99, 97, 108]⟩ 80 A 1 c 1 2 2000 4000 8000 10 x w hm (by decide) (by decide) trim_local (by decide) h (by decide) (by decide) (by decide) (by decide) (by decide) (by decide) (by decide) hr rfl
theorem at_ba_no (x : Int) (A : Option Addr) (c : Nat) (w : World) (h : inB x 1 2 = false) (hm : MaxL w) (hr : RootAt w A) : Calls Tryz.prog 5 #[.agg (confV ⟨#[108, 111, 99, 97, 108]⟩ 80 A 1 c 1 2 2000 4000 8000 10 x)] w fun e w' => e = .returned (.iface 31 (.int .i64 14)) ∧ Below w.heap.size w w' :=
  conf_no_ba ⟨#[108, 111, 99, 97, 108]⟩ 80 A 1 c 1 2 2000 4000 8000 10 x w hm (by decide) (by decide) trim_local (by decide) h (by decide) (by decide) (by decide)
def cells1 (A : Option Addr) (c : Nat) : List Value := [.string ⟨#[108, 111, 99, 97, 108]⟩, .int .i64 80, .slice A 1 c, .int .i64 1, .int .i64 2, .int .i64 2000, .int .i64 4000, .int .i64 8000, .int .i64 10, .int .i64 1]
theorem both {w' : World} {g1 g2 : Nat} {A : Option Addr} {c : Nat} (hx : Box w' g1 [.string ⟨#[108, 111, 99, 97, 108]⟩, .int .i64 80, .slice A 1 c, .int .i64 1, .int .i64 2, .int .i64 2000, .int .i64 4000, .int .i64 8000, .int .i64 10, .int .i64 1]) (hy : Box w' g2 [.string ⟨#[108, 111, 99, 97, 108]⟩, .int .i64 0, .slice A 1 c, .int .i64 1, .int .i64 2, .int .i64 2000, .int .i64 4000, .int .i64 8000, .int .i64 10, .int .i64 1]) : w'.cell? ⟨g1, 0, none⟩ = some (.string ⟨#[108, 111, 99, 97, 108]⟩) ∧ w'.cell? ⟨g1, 1, none⟩ = some (.int .i64 80) ∧ w'.cell? ⟨g1, 2, none⟩ = some (.slice A 1 c) ∧ w'.cell? ⟨g1, 3, none⟩ = some (.int .i64 1) ∧ w'.cell? ⟨g1, 4, none⟩ = some (.int .i64 2) ∧ w'.cell? ⟨g1, 5, none⟩ = some (.int .i64 2000) ∧ w'.cell? ⟨g1, 6, none⟩ = some (.int .i64 4000) ∧ w'.cell? ⟨g1, 7, none⟩ = some (.int .i64 8000) ∧ w'.cell? ⟨g1, 8, none⟩ = some (.int .i64 10) ∧ w'.cell? ⟨g1, 9, none⟩ = some (.int .i64 1) ∧ w'.cell? ⟨g2, 0, none⟩ = some (.string ⟨#[108, 111, 99, 97, 108]⟩) ∧ w'.cell? ⟨g2, 1, none⟩ = some (.int .i64 0) ∧ w'.cell? ⟨g2, 2, none⟩ = some (.slice A 1 c) ∧ w'.cell? ⟨g2, 3, none⟩ = some (.int .i64 1) ∧ w'.cell? ⟨g2, 4, none⟩ = some (.int .i64 2) ∧ w'.cell? ⟨g2, 5, none⟩ = some (.int .i64 2000) ∧ w'.cell? ⟨g2, 6, none⟩ = some (.int .i64 4000) ∧ w'.cell? ⟨g2, 7, none⟩ = some (.int .i64 8000) ∧ w'.cell? ⟨g2, 8, none⟩ = some (.int .i64 10) ∧ w'.cell? ⟨g2, 9, none⟩ = some (.int .i64 1) := ⟨hx.2 0 _ rfl, hx.2 1 _ rfl, hx.2 2 _ rfl, hx.2 3 _ rfl, hx.2 4 _ rfl, hx.2 5 _ rfl, hx.2 6 _ rfl, hx.2 7 _ rfl, hx.2 8 _ rfl, hx.2 9 _ rfl, hy.2 0 _ rfl, hy.2 1 _ rfl, hy.2 2 _ rfl, hy.2 3 _ rfl, hy.2 4 _ rfl, hy.2 5 _ rfl, hy.2 6 _ rfl, hy.2 7 _ rfl, hy.2 8 _ rfl, hy.2 9 _ rfl⟩
set_option maxRecDepth 100000 in
set_option maxHeartbeats 8000000 in
theorem law17_known (w : World) (hm : MaxL w) : Calls Tryz.prog 4 #[] w fun e w' => e = .returned (.bool true) ∧ Below w.heap.size w w' := by
  have HM := Lib.hid hm
  clear hm
  go_enter Tryz.func4, Tryz.ntmps4
  go_wp2_with fail
  refine (conf_Small _).mono ?_
  rintro e w1 ⟨⟨A, c, rfl, hr⟩, hb1⟩
  unfold confV
  have hx := (Box.new w1 [.string ⟨#[108, 111, 99, 97, 108]⟩, .int .i64 80, .slice A 1 c, .int .i64 1, .int .i64 2, .int .i64 2000, .int .i64 4000, .int .i64 8000, .int .i64 10, .int .i64 1] 24).fr (fr_alloc (fr_refl _) (.cells #[.string ⟨#[108, 111, 99, 97, 108]⟩, .int .i64 0, .slice A 1 c, .int .i64 1, .int .i64 2, .int .i64 2000, .int .i64 4000, .int .i64 8000, .int .i64 10, .int .i64 1] 24))
  have hy := Box.new (w1.alloc (.cells #[.string ⟨#[108, 111, 99, 97, 108]⟩, .int .i64 80, .slice A 1 c, .int .i64 1, .int .i64 2, .int .i64 2000, .int .i64 4000, .int .i64 8000, .int .i64 10, .int .i64 1] 24)) [.string ⟨#[108, 111, 99, 97, 108]⟩, .int .i64 0, .slice A 1 c, .int .i64 1, .int .i64 2, .int .i64 2000, .int .i64 4000, .int .i64 8000, .int .i64 10, .int .i64 1] 24
  rw [World.size_alloc] at hy
  have hf := fr_alloc (fr_alloc hb1 (.cells #[.string ⟨#[108, 111, 99, 97, 108]⟩, .int .i64 80, .slice A 1 c, .int .i64 1, .int .i64 2, .int .i64 2000, .int .i64 4000, .int .i64 8000, .int .i64 10, .int .i64 1] 24)) (.cells #[.string ⟨#[108, 111, 99, 97, 108]⟩, .int .i64 0, .slice A 1 c, .int .i64 1, .int .i64 2, .int .i64 2000, .int .i64 4000, .int .i64 8000, .int .i64 10, .int .i64 1] 24)
  have hrr := hr.fr (fr_alloc (fr_alloc (fr_refl w1) (.cells #[.string ⟨#[108, 111, 99, 97, 108]⟩, .int .i64 80, .slice A 1 c, .int .i64 1, .int .i64 2, .int .i64 2000, .int .i64 4000, .int .i64 8000, .int .i64 10, .int .i64 1] 24)) (.cells #[.string ⟨#[108, 111, 99, 97, 108]⟩, .int .i64 0, .slice A 1 c, .int .i64 1, .int .i64 2, .int .i64 2000, .int .i64 4000, .int .i64 8000, .int .i64 10, .int .i64 1] 24))
  obtain ⟨W, hW⟩ : ∃ W, (w1.alloc (.cells #[.string ⟨#[108, 111, 99, 97, 108]⟩, .int .i64 80, .slice A 1 c, .int .i64 1, .int .i64 2, .int .i64 2000, .int .i64 4000, .int .i64 8000, .int .i64 10, .int .i64 1] 24)).alloc (.cells #[.string ⟨#[108, 111, 99, 97, 108]⟩, .int .i64 0, .slice A 1 c, .int .i64 1, .int .i64 2, .int .i64 2000, .int .i64 4000, .int .i64 8000, .int .i64 10, .int .i64 1] 24) = W := ⟨_, rfl⟩
  rw [hW] at hx hy hf hrr
  obtain ⟨g1, hg1⟩ : ∃ g, w1.heap.size = g := ⟨_, rfl⟩
  rw [hg1] at hx hy
  obtain ⟨g2, hg2⟩ : ∃ g, g1 + 1 = g := ⟨_, rfl⟩
  rw [hg2] at hy
  have HX := Lib.hid hx; have HY := Lib.hid hy; have HF := Lib.hid hf; have HR := Lib.hid hrr
  have xc0 : W.cell? ⟨g1, 0, none⟩ = some (.string ⟨#[108, 111, 99, 97, 108]⟩) := hx.2 0 _ rfl
  have xc1 : W.cell? ⟨g1, 1, none⟩ = some (.int .i64 80) := hx.2 1 _ rfl
  have xc2 : W.cell? ⟨g1, 2, none⟩ = some (.slice A 1 c) := hx.2 2 _ rfl
  have xc3 : W.cell? ⟨g1, 3, none⟩ = some (.int .i64 1) := hx.2 3 _ rfl
  have xc4 : W.cell? ⟨g1, 4, none⟩ = some (.int .i64 2) := hx.2 4 _ rfl
  have xc5 : W.cell? ⟨g1, 5, none⟩ = some (.int .i64 2000) := hx.2 5 _ rfl
  have xc6 : W.cell? ⟨g1, 6, none⟩ = some (.int .i64 4000) := hx.2 6 _ rfl
  have xc7 : W.cell? ⟨g1, 7, none⟩ = some (.int .i64 8000) := hx.2 7 _ rfl
  have xc8 : W.cell? ⟨g1, 8, none⟩ = some (.int .i64 10) := hx.2 8 _ rfl
  have xc9 : W.cell? ⟨g1, 9, none⟩ = some (.int .i64 1) := hx.2 9 _ rfl
  have xlt : g1 < W.heap.size := hx.1
  clear hx hy hf hrr hb1 hr
  have HMW := Lib.hid (HM.out.fr HF.out)
  have hd0 : Below W.heap.size W W.drew := fr_drew (fr_refl W)
  go_wp2_with fail

  clear hW hg1 hg2
  go_region_held3 (fun w' => w'.cell? ⟨g1, 0, none⟩ = some (.string ⟨#[108, 111, 99, 97, 108]⟩) ∧ w'.cell? ⟨g1, 1, none⟩ = some (.int .i64 80) ∧ w'.cell? ⟨g1, 2, none⟩ = some (.slice A 1 c) ∧ w'.cell? ⟨g1, 3, none⟩ = some (.int .i64 1) ∧ w'.cell? ⟨g1, 4, none⟩ = some (.int .i64 2) ∧ w'.cell? ⟨g1, 5, none⟩ = some (.int .i64 2000) ∧ w'.cell? ⟨g1, 6, none⟩ = some (.int .i64 4000) ∧ w'.cell? ⟨g1, 7, none⟩ = some (.int .i64 8000) ∧ w'.cell? ⟨g1, 8, none⟩ = some (.int .i64 10) ∧ w'.cell? ⟨g1, 9, none⟩ = some (.int .i64 1) ∧ w'.cell? ⟨g2, 0, none⟩ = some (.string ⟨#[108, 111, 99, 97, 108]⟩) ∧ w'.cell? ⟨g2, 1, none⟩ = some (.int .i64 0) ∧ w'.cell? ⟨g2, 2, none⟩ = some (.slice A 1 c) ∧ w'.cell? ⟨g2, 3, none⟩ = some (.int .i64 1) ∧ w'.cell? ⟨g2, 4, none⟩ = some (.int .i64 2) ∧ w'.cell? ⟨g2, 5, none⟩ = some (.int .i64 2000) ∧ w'.cell? ⟨g2, 6, none⟩ = some (.int .i64 4000) ∧ w'.cell? ⟨g2, 7, none⟩ = some (.int .i64 8000) ∧ w'.cell? ⟨g2, 8, none⟩ = some (.int .i64 10) ∧ w'.cell? ⟨g2, 9, none⟩ = some (.int .i64 1)) (first | exact both HX.out HY.out | exact both (HX.out.fr hd0) (HY.out.fr hd0) | exact both (HX.out.fr h3) (HY.out.fr h3) | exact both (HX.out.fr h4) (HY.out.fr h4) | exact both (HX.out.fr h5) (HY.out.fr h5) | exact both (HX.out.fr h6) (HY.out.fr h6) | exact both (HX.out.fr h7) (HY.out.fr h7))
    (first
    | (have hq4 := h4; go_at_call 5; refine (conf_zero _).mono ?_; rintro e w5 ⟨rfl, hb5⟩; have h5 := fr_trans h4 hb5)
    | (have hq3 := h3; go_at_call 5; refine (at_p_no 0 A c _ (by decide) (HMW.out.fr h3) (HR.out.fr h3)).mono ?_; rintro e w4 ⟨rfl, hb4⟩; have h4 := fr_trans h3 hb4)
    | (go_at_call 5; refine (at_p_ok 80 A c _ (by decide) (HMW.out.fr hd0) (HR.out.fr hd0)).mono ?_; rintro e w3 ⟨rfl, hb3⟩; have h3 : Below W.heap.size W w3 := fr_trans hd0 hb3)
    | (go_at_call 7; refine (is_errno 14 14 _).mono ?_; rintro e wq ⟨rfl, rfl⟩)
    | (go_at_call 10; refine (ref11_Small _).mono ?_; rintro e w6 ⟨⟨B, d, rfl, hr6⟩, hb6⟩; unfold confV; have h6 := fr_trans h5 hb6)
    | (go_at_call 9; refine (ref11_SameConf A B c d _ (HR.out.fr h6) hr6).mono ?_; rintro e w7 ⟨rfl, hb7⟩; have h7 := fr_trans h6 hb7))
  all_goals
    go_wp2
    go_ret
    exact ⟨by first | rfl | simp, fr_trans HF.out h7⟩
end Go.Proofs.YthjnmcciejfpcaaGreatDoor
