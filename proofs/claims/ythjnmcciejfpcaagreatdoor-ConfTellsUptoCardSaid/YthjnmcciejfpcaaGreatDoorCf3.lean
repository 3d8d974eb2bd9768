/- conduitref11.SameWares, SameConf; conf.Is at the zero configuration. -/
import Derived.Test.YthjnmcciejfpcaaGreatDoorCf2
import Derived.BigRegion
namespace Go.Proofs.YthjnmcciejfpcaaGreatDoor
set_option linter.unusedVariables false
set_option linter.unusedSimpArgs false
open Go.RowKit

theorem same_wares0 (w : World) : Calls Tryz.prog 18 #[.slice none 0 0, .slice none 0 0] w fun e w' => e = .returned (.bool true) ∧ w = w' := by
  go_enter Tryz.func18, Tryz.ntmps18
  go_wp2
  go_loop [5] (fun i => i = .int .i64 0) (fun _ => 0)
  case atStart => rfl
  case round =>
    subst hrel
    go_wp2
    go_ret
    exact ⟨rfl, rfl⟩
set_option maxRecDepth 100000 in
set_option maxHeartbeats 4000000 in
theorem conf_zero (w : World) : Calls Tryz.prog 5 #[.agg zeroC] w fun e w' => e = .returned (.iface 31 (.int .i64 14)) ∧ Below w.heap.size w w' := by
  unfold zeroC
  have i0 : inB 0 1 64 = false := by decide
  have i1 : inB 0 1 2 = false := by decide
  have i2 : inB 0 1 2000 = false := by decide
  have hB := Box.new w [.string ⟨#[]⟩, .int .i64 0, .slice none 0 0, .int .i64 0, .int .i64 0, .int .i64 0, .int .i64 0, .int .i64 0, .int .i64 0, .int .i64 0] 24
  have hF := fr_alloc (fr_refl w) (.cells #[.string ⟨#[]⟩, .int .i64 0, .slice none 0 0, .int .i64 0, .int .i64 0, .int .i64 0, .int .i64 0, .int .i64 0, .int .i64 0, .int .i64 0] 24)
  have HF := Lib.hid hF
  obtain ⟨W0, hW0⟩ : ∃ W0, w.alloc (.cells #[.string ⟨#[]⟩, .int .i64 0, .slice none 0 0, .int .i64 0, .int .i64 0, .int .i64 0, .int .i64 0, .int .i64 0, .int .i64 0, .int .i64 0] 24) = W0 := ⟨_, rfl⟩
  have hB' : Box W0 w.heap.size [.string ⟨#[]⟩, .int .i64 0, .slice none 0 0, .int .i64 0, .int .i64 0, .int .i64 0, .int .i64 0, .int .i64 0, .int .i64 0, .int .i64 0] := hW0 ▸ hB
  have hF' : Below w.heap.size w W0 := hW0 ▸ hF
  have H0 := Lib.hid hF'
  have ac0 : W0.cell? ⟨w.heap.size, 0, none⟩ = some (.string ⟨#[]⟩) := hB'.2 0 _ rfl
  have ac1 : W0.cell? ⟨w.heap.size, 1, none⟩ = some (.int .i64 0) := hB'.2 1 _ rfl
  have ac2 : W0.cell? ⟨w.heap.size, 2, none⟩ = some (.slice none 0 0) := hB'.2 2 _ rfl
  have ac3 : W0.cell? ⟨w.heap.size, 3, none⟩ = some (.int .i64 0) := hB'.2 3 _ rfl
  have ac4 : W0.cell? ⟨w.heap.size, 4, none⟩ = some (.int .i64 0) := hB'.2 4 _ rfl
  have ac5 : W0.cell? ⟨w.heap.size, 5, none⟩ = some (.int .i64 0) := hB'.2 5 _ rfl
  have ac6 : W0.cell? ⟨w.heap.size, 6, none⟩ = some (.int .i64 0) := hB'.2 6 _ rfl
  have ac7 : W0.cell? ⟨w.heap.size, 7, none⟩ = some (.int .i64 0) := hB'.2 7 _ rfl
  have ac8 : W0.cell? ⟨w.heap.size, 8, none⟩ = some (.int .i64 0) := hB'.2 8 _ rfl
  have ac9 : W0.cell? ⟨w.heap.size, 9, none⟩ = some (.int .i64 0) := hB'.2 9 _ rfl
  have alt : w.heap.size < W0.heap.size := hB'.1
  clear hB hB' hF hF'
  go_enter Tryz.func5, Tryz.ntmps5
  go_wp2_with fail
  refine (conf_in 0 1 64 false _ i0).mono ?_
  rintro e wq ⟨rfl, rfl⟩
  go_wp2_with fail
  refine (conf_in 0 1 2 false _ i1).mono ?_
  rintro e wq ⟨rfl, rfl⟩
  go_wp2_with fail
  refine (conf_in 0 1 2000 false _ i2).mono ?_
  rintro e wq ⟨rfl, rfl⟩
  go_wp2
  go_ret
  exact ⟨rfl, H0.out⟩
set_option maxRecDepth 100000 in
set_option maxHeartbeats 4000000 in
theorem ref11_SameConf (A B : Option Addr) (c d : Nat) (w : World) (hA : RootAt w A) (hB : RootAt w B) :
    Calls Tryz.prog 9 #[.agg (confV ⟨#[108, 111, 99, 97, 108]⟩ 80 A 1 c 1 2 2000 4000 8000 10 1), .agg (confV ⟨#[108, 111, 99, 97, 108]⟩ 80 B 1 d 1 2 2000 4000 8000 10 1)] w fun e w' => e = .returned (.bool true) ∧ Below w.heap.size w w' := by
  unfold confV
  obtain ⟨ga, rfl, a0, a1, a2, a3, a4⟩ := hA
  obtain ⟨gb, rfl, b0, b1, b2, b3, b4⟩ := hB
  have hf1 := fr_alloc (fr_refl w) (.cells #[.string ⟨#[108, 111, 99, 97, 108]⟩, .int .i64 80, .slice (some ⟨ga, 0, none⟩) 1 c, .int .i64 1, .int .i64 2, .int .i64 2000, .int .i64 4000, .int .i64 8000, .int .i64 10, .int .i64 1] 24)
  have hb1 := Box.new w [.string ⟨#[108, 111, 99, 97, 108]⟩, .int .i64 80, .slice (some ⟨ga, 0, none⟩) 1 c, .int .i64 1, .int .i64 2, .int .i64 2000, .int .i64 4000, .int .i64 8000, .int .i64 10, .int .i64 1] 24
  obtain ⟨W1, hW1⟩ : ∃ W1, w.alloc (.cells #[.string ⟨#[108, 111, 99, 97, 108]⟩, .int .i64 80, .slice (some ⟨ga, 0, none⟩) 1 c, .int .i64 1, .int .i64 2, .int .i64 2000, .int .i64 4000, .int .i64 8000, .int .i64 10, .int .i64 1] 24) = W1 := ⟨_, rfl⟩
  have hb1' : Box W1 w.heap.size [.string ⟨#[108, 111, 99, 97, 108]⟩, .int .i64 80, .slice (some ⟨ga, 0, none⟩) 1 c, .int .i64 1, .int .i64 2, .int .i64 2000, .int .i64 4000, .int .i64 8000, .int .i64 10, .int .i64 1] := hW1 ▸ hb1
  have hf1' : Below w.heap.size w W1 := hW1 ▸ hf1
  have hb2 := Box.new W1 [.string ⟨#[108, 111, 99, 97, 108]⟩, .int .i64 80, .slice (some ⟨gb, 0, none⟩) 1 d, .int .i64 1, .int .i64 2, .int .i64 2000, .int .i64 4000, .int .i64 8000, .int .i64 10, .int .i64 1] 24
  have hf2 := fr_alloc (fr_refl W1) (.cells #[.string ⟨#[108, 111, 99, 97, 108]⟩, .int .i64 80, .slice (some ⟨gb, 0, none⟩) 1 d, .int .i64 1, .int .i64 2, .int .i64 2000, .int .i64 4000, .int .i64 8000, .int .i64 10, .int .i64 1] 24)
  obtain ⟨W2, hW2⟩ : ∃ W2, W1.alloc (.cells #[.string ⟨#[108, 111, 99, 97, 108]⟩, .int .i64 80, .slice (some ⟨gb, 0, none⟩) 1 d, .int .i64 1, .int .i64 2, .int .i64 2000, .int .i64 4000, .int .i64 8000, .int .i64 10, .int .i64 1] 24) = W2 := ⟨_, rfl⟩
  obtain ⟨g1, hg1⟩ : ∃ g, w.heap.size = g := ⟨_, rfl⟩
  obtain ⟨g2, hg2⟩ : ∃ g, W1.heap.size = g := ⟨_, rfl⟩
  have hx : Box W2 g1 [.string ⟨#[108, 111, 99, 97, 108]⟩, .int .i64 80, .slice (some ⟨ga, 0, none⟩) 1 c, .int .i64 1, .int .i64 2, .int .i64 2000, .int .i64 4000, .int .i64 8000, .int .i64 10, .int .i64 1] := hg1 ▸ hW2 ▸ hb1'.fr hf2
  have hy : Box W2 g2 [.string ⟨#[108, 111, 99, 97, 108]⟩, .int .i64 80, .slice (some ⟨gb, 0, none⟩) 1 d, .int .i64 1, .int .i64 2, .int .i64 2000, .int .i64 4000, .int .i64 8000, .int .i64 10, .int .i64 1] := hg2 ▸ hW2 ▸ hb2
  have hf : Below w.heap.size w W2 := hW2 ▸ fr_trans hf1' hf2
  have p0 := fr_cell hf a0; have p1 := fr_cell hf a1; have p2 := fr_cell hf a2; have p3 := fr_cell hf a3; have p4 := fr_cell hf a4
  have q0 := fr_cell hf b0; have q1 := fr_cell hf b1; have q2 := fr_cell hf b2; have q3 := fr_cell hf b3; have q4 := fr_cell hf b4
  have xc0 : W2.cell? ⟨g1, 0, none⟩ = some (.string ⟨#[108, 111, 99, 97, 108]⟩) := hx.2 0 _ rfl
  have xc1 : W2.cell? ⟨g1, 1, none⟩ = some (.int .i64 80) := hx.2 1 _ rfl
  have xc2 : W2.cell? ⟨g1, 2, none⟩ = some (.slice (some ⟨ga, 0, none⟩) 1 c) := hx.2 2 _ rfl
  have xc3 : W2.cell? ⟨g1, 3, none⟩ = some (.int .i64 1) := hx.2 3 _ rfl
  have xc4 : W2.cell? ⟨g1, 4, none⟩ = some (.int .i64 2) := hx.2 4 _ rfl
  have xc5 : W2.cell? ⟨g1, 5, none⟩ = some (.int .i64 2000) := hx.2 5 _ rfl
  have xc6 : W2.cell? ⟨g1, 6, none⟩ = some (.int .i64 4000) := hx.2 6 _ rfl
  have xc7 : W2.cell? ⟨g1, 7, none⟩ = some (.int .i64 8000) := hx.2 7 _ rfl
  have xc8 : W2.cell? ⟨g1, 8, none⟩ = some (.int .i64 10) := hx.2 8 _ rfl
  have xc9 : W2.cell? ⟨g1, 9, none⟩ = some (.int .i64 1) := hx.2 9 _ rfl
  have xlt : g1 < W2.heap.size := hx.1
  have yc0 : W2.cell? ⟨g2, 0, none⟩ = some (.string ⟨#[108, 111, 99, 97, 108]⟩) := hy.2 0 _ rfl
  have yc1 : W2.cell? ⟨g2, 1, none⟩ = some (.int .i64 80) := hy.2 1 _ rfl
  have yc2 : W2.cell? ⟨g2, 2, none⟩ = some (.slice (some ⟨gb, 0, none⟩) 1 d) := hy.2 2 _ rfl
  have yc3 : W2.cell? ⟨g2, 3, none⟩ = some (.int .i64 1) := hy.2 3 _ rfl
  have yc4 : W2.cell? ⟨g2, 4, none⟩ = some (.int .i64 2) := hy.2 4 _ rfl
  have yc5 : W2.cell? ⟨g2, 5, none⟩ = some (.int .i64 2000) := hy.2 5 _ rfl
  have yc6 : W2.cell? ⟨g2, 6, none⟩ = some (.int .i64 4000) := hy.2 6 _ rfl
  have yc7 : W2.cell? ⟨g2, 7, none⟩ = some (.int .i64 8000) := hy.2 7 _ rfl
  have yc8 : W2.cell? ⟨g2, 8, none⟩ = some (.int .i64 10) := hy.2 8 _ rfl
  have yc9 : W2.cell? ⟨g2, 9, none⟩ = some (.int .i64 1) := hy.2 9 _ rfl
  have ylt : g2 < W2.heap.size := hy.1
  have plt := World.block_lt_of_cell? W2 _ p0
  have qlt := World.block_lt_of_cell? W2 _ q0
  have HFW := Lib.hid hf
  clear hf1 hb1 hb1' hf1' hb2 hf2 hx hy hf a0 a1 a2 a3 a4 b0 b1 b2 b3 b4
  go_enter Tryz.func9, Tryz.ntmps9
  go_wp2
  go_loopw [5] (fun i wr => (i = .int .i64 0 ∧ wr = W2) ∨ (i = .int .i64 1 ∧ Below W2.heap.size W2 wr)) (fun i _ => 1 - (intOf i).toNat)
  case atStart => exact .inl ⟨rfl, rfl⟩
  case round =>
    rcases hrel with ⟨rfl, rfl⟩ | ⟨rfl, hb⟩
    · go_wp2_with fail
      go_big_region
      all_goals
        have e1 := ((Box.new wr [.int .i64 3, .string ⟨#[]⟩, .string ⟨#[47]⟩, .int .i64 0, .slice none 0 0] 38).fr (fr_alloc (fr_refl _) (.cells #[.int .i64 3, .string ⟨#[]⟩, .string ⟨#[47]⟩, .int .i64 0, .slice none 0 0] 38))).fr (fr_drew (fr_refl _))
        have e2 := (Box.new (wr.alloc (.cells #[.int .i64 3, .string ⟨#[]⟩, .string ⟨#[47]⟩, .int .i64 0, .slice none 0 0] 38)) [.int .i64 3, .string ⟨#[]⟩, .string ⟨#[47]⟩, .int .i64 0, .slice none 0 0] 38).fr (fr_drew (fr_refl _))
        have hf3 := fr_drew (fr_alloc (fr_alloc (fr_refl wr) (.cells #[.int .i64 3, .string ⟨#[]⟩, .string ⟨#[47]⟩, .int .i64 0, .slice none 0 0] 38)) (.cells #[.int .i64 3, .string ⟨#[]⟩, .string ⟨#[47]⟩, .int .i64 0, .slice none 0 0] 38))
        rw [World.size_alloc] at e2
        obtain ⟨W3, hW3⟩ : ∃ W3, ((wr.alloc (.cells #[.int .i64 3, .string ⟨#[]⟩, .string ⟨#[47]⟩, .int .i64 0, .slice none 0 0] 38)).alloc (.cells #[.int .i64 3, .string ⟨#[]⟩, .string ⟨#[47]⟩, .int .i64 0, .slice none 0 0] 38)).drew = W3 := ⟨_, rfl⟩
        have e1' : Box W3 wr.heap.size [.int .i64 3, .string ⟨#[]⟩, .string ⟨#[47]⟩, .int .i64 0, .slice none 0 0] := hW3 ▸ e1
        have e2' : Box W3 (wr.heap.size + 1) [.int .i64 3, .string ⟨#[]⟩, .string ⟨#[47]⟩, .int .i64 0, .slice none 0 0] := hW3 ▸ e2
        have hf3' : Below wr.heap.size wr W3 := hW3 ▸ hf3
        rw [hW3]
        have mc0 : W3.cell? ⟨wr.heap.size, 0, none⟩ = some (.int .i64 3) := e1'.2 0 _ rfl
        have mc1 : W3.cell? ⟨wr.heap.size, 1, none⟩ = some (.string ⟨#[]⟩) := e1'.2 1 _ rfl
        have mc2 : W3.cell? ⟨wr.heap.size, 2, none⟩ = some (.string ⟨#[47]⟩) := e1'.2 2 _ rfl
        have mc3 : W3.cell? ⟨wr.heap.size, 3, none⟩ = some (.int .i64 0) := e1'.2 3 _ rfl
        have mc4 : W3.cell? ⟨wr.heap.size, 4, none⟩ = some (.slice none 0 0) := e1'.2 4 _ rfl
        have mlt : wr.heap.size < W3.heap.size := e1'.1
        have mm0 : W3.cell? ⟨wr.heap.size + 1, 0, none⟩ = some (.int .i64 3) := e2'.2 0 _ rfl
        have mm1 : W3.cell? ⟨wr.heap.size + 1, 1, none⟩ = some (.string ⟨#[]⟩) := e2'.2 1 _ rfl
        have mm2 : W3.cell? ⟨wr.heap.size + 1, 2, none⟩ = some (.string ⟨#[47]⟩) := e2'.2 2 _ rfl
        have mm3 : W3.cell? ⟨wr.heap.size + 1, 3, none⟩ = some (.int .i64 0) := e2'.2 3 _ rfl
        have mm4 : W3.cell? ⟨wr.heap.size + 1, 4, none⟩ = some (.slice none 0 0) := e2'.2 4 _ rfl
        have H3 := Lib.hid hf3'
        clear e1 e2 hf3 e1' e2' hf3' hW3
        go_wp2_with fail
        refine (same_wares0 _).mono ?_
        rintro e wq ⟨rfl, rfl⟩
        go_wp2
        go_roundw
        case measure => show 1 - 1 < 1 - 0; decide
        case rel => exact .inr ⟨by first | rfl | go_num, H3.out⟩
    · have x2 := fr_cell hb xc2
      go_wp2
      go_ret
      exact ⟨rfl, fr_trans HFW.out hb⟩
end Go.Proofs.YthjnmcciejfpcaaGreatDoor
