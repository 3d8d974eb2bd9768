/- conf.Small, conduitref11.Small. -/
import Derived.Test.YthjnmcciejfpcaaGreatDoorCf
namespace Go.Proofs.YthjnmcciejfpcaaGreatDoor
set_option linter.unusedVariables false
set_option linter.unusedSimpArgs false
open Go.RowKit

def zeroC : Array Value := #[.string ⟨#[]⟩, .int .i64 0, .slice none 0 0, .int .i64 0, .int .i64 0, .int .i64 0, .int .i64 0, .int .i64 0, .int .i64 0, .int .i64 0]
theorem res_conf {fn : Func} {a : Tmp} {tmps : Array Value} {w : World} {g : Nat} {v0 v1 v2 v3 v4 v5 v6 v7 v8 v9 : Value} (h : fn.results = #[.cell a 24]) (ht : tmps.getD a undef = .pointer (some ⟨g, 0, none⟩))
    (hb : Box w g [v0, v1, v2, v3, v4, v5, v6, v7, v8, v9]) : (results fn tmps).run Tryz.prog w = .ok (.agg #[v0, v1, v2, v3, v4, v5, v6, v7, v8, v9]) w := by
  have c0 : w.cell? ⟨g, 0, none⟩ = some v0 := hb.2 0 _ rfl
  have c1 : w.cell? ⟨g, 1, none⟩ = some v1 := hb.2 1 _ rfl
  have c2 : w.cell? ⟨g, 2, none⟩ = some v2 := hb.2 2 _ rfl
  have c3 : w.cell? ⟨g, 3, none⟩ = some v3 := hb.2 3 _ rfl
  have c4 : w.cell? ⟨g, 4, none⟩ = some v4 := hb.2 4 _ rfl
  have c5 : w.cell? ⟨g, 5, none⟩ = some v5 := hb.2 5 _ rfl
  have c6 : w.cell? ⟨g, 6, none⟩ = some v6 := hb.2 6 _ rfl
  have c7 : w.cell? ⟨g, 7, none⟩ = some v7 := hb.2 7 _ rfl
  have c8 : w.cell? ⟨g, 8, none⟩ = some v8 := hb.2 8 _ rfl
  have c9 : w.cell? ⟨g, 9, none⟩ = some v9 := hb.2 9 _ rfl
  have ht' : tmps[a]?.getD undef = .pointer (some ⟨g, 0, none⟩) := by simpa using ht
  simp [results, h, ht', go_sem, c0, c1, c2, c3, c4, c5, c6, c7, c8, c9]
set_option maxRecDepth 100000 in
set_option maxHeartbeats 2000000 in
theorem conf_Small (w : World) : Calls Tryz.prog 8 #[] w fun e w' => (∃ A c, e = .returned (.agg (confV ⟨#[108, 111, 99, 97, 108]⟩ 80 A 1 c 1 2 2000 4000 8000 10 1)) ∧ RootAt w' A) ∧ Below w.heap.size w w' := by
  go_enter Tryz.func8, Tryz.ntmps8
  go_wp2
  have hB := (Box.new w [.string ⟨#[108, 111, 99, 97, 108]⟩, .int .i64 80, .slice (some ⟨w.heap.size + 1, 0, none⟩) 1 1, .int .i64 1, .int .i64 2, .int .i64 2000, .int .i64 4000, .int .i64 8000, .int .i64 10, .int .i64 1] 24).fr (fr_alloc (fr_refl _) (.cells #[.int .i64 3, .string ⟨#[]⟩, .string ⟨#[47]⟩, .int .i64 0, .slice none 0 0] 38))
  refine bodyPost_ret (res_conf (g := w.heap.size) Tryz.results8 rfl hB) rfl ?_
  refine ⟨⟨_, 1, rfl, w.heap.size + 1, rfl, ?_⟩, fr_alloc (fr_alloc (fr_refl _) _) _⟩
  have hR := Box.new (w.alloc (.cells #[.string ⟨#[108, 111, 99, 97, 108]⟩, .int .i64 80, .slice (some ⟨w.heap.size + 1, 0, none⟩) 1 1, .int .i64 1, .int .i64 2, .int .i64 2000, .int .i64 4000, .int .i64 8000, .int .i64 10, .int .i64 1] 24)) [.int .i64 3, .string ⟨#[]⟩, .string ⟨#[47]⟩, .int .i64 0, .slice none 0 0] 38
  rw [World.size_alloc] at hR
  exact ⟨hR.2 0 _ rfl, hR.2 1 _ rfl, hR.2 2 _ rfl, hR.2 3 _ rfl, hR.2 4 _ rfl⟩
set_option maxRecDepth 100000 in
set_option maxHeartbeats 2000000 in
theorem ref11_Small (w : World) : Calls Tryz.prog 10 #[] w fun e w' => (∃ A c, e = .returned (.agg (confV ⟨#[108, 111, 99, 97, 108]⟩ 80 A 1 c 1 2 2000 4000 8000 10 1)) ∧ RootAt w' A) ∧ Below w.heap.size w w' := by
  go_enter Tryz.func10, Tryz.ntmps10
  go_wp2
  have hB := (Box.new w [.string ⟨#[108, 111, 99, 97, 108]⟩, .int .i64 80, .slice (some ⟨w.heap.size + 1, 0, none⟩) 1 1, .int .i64 1, .int .i64 2, .int .i64 2000, .int .i64 4000, .int .i64 8000, .int .i64 10, .int .i64 1] 24).fr (fr_alloc (fr_refl _) (.cells #[.int .i64 3, .string ⟨#[]⟩, .string ⟨#[47]⟩, .int .i64 0, .slice none 0 0] 38))
  refine bodyPost_ret (res_conf (g := w.heap.size) Tryz.results10 rfl hB) rfl ?_
  refine ⟨⟨_, 1, rfl, w.heap.size + 1, rfl, ?_⟩, fr_alloc (fr_alloc (fr_refl _) _) _⟩
  have hR := Box.new (w.alloc (.cells #[.string ⟨#[108, 111, 99, 97, 108]⟩, .int .i64 80, .slice (some ⟨w.heap.size + 1, 0, none⟩) 1 1, .int .i64 1, .int .i64 2, .int .i64 2000, .int .i64 4000, .int .i64 8000, .int .i64 10, .int .i64 1] 24)) [.int .i64 3, .string ⟨#[]⟩, .string ⟨#[47]⟩, .int .i64 0, .slice none 0 0] 38
  rw [World.size_alloc] at hR
  exact ⟨hR.2 0 _ rfl, hR.2 1 _ rfl, hR.2 2 _ rfl, hR.2 3 _ rfl, hR.2 4 _ rfl⟩
end Go.Proofs.YthjnmcciejfpcaaGreatDoor
