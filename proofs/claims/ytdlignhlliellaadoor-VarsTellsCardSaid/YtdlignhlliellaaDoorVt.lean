/- conduitref11.Small; conduitlaw15.get; what a row in another order says. -/
import Derived.Test.YtdlignhlliellaaDoorVq
namespace Go.Proofs.YtdlignhlliellaaDoor
set_option linter.unusedVariables false
set_option linter.unusedSimpArgs false
open Go.RowKit

def RootAt (w : World) (A : Option Addr) : Prop := ∃ g, A = some ⟨g, 0, none⟩ ∧ w.cell? ⟨g, 0, none⟩ = some (.int .i64 3) ∧ w.cell? ⟨g, 1, none⟩ = some (.string ⟨#[]⟩) ∧ w.cell? ⟨g, 2, none⟩ = some (.string ⟨#[47]⟩) ∧ w.cell? ⟨g, 3, none⟩ = some (.int .i64 0) ∧ w.cell? ⟨g, 4, none⟩ = some (.slice none 0 0)
theorem RootAt.fr {w w' : World} {A : Option Addr} (h : RootAt w A) (hb : Below w.heap.size w w') : RootAt w' A := by
  obtain ⟨g, rfl, h0, h1, h2, h3, h4⟩ := h
  exact ⟨g, rfl, fr_cell hb h0, fr_cell hb h1, fr_cell hb h2, fr_cell hb h3, fr_cell hb h4⟩
def confV (nm : ByteArray) (p : Int) (A : Option Addr) (n c : Nat) (co id he bo ou ti ba : Int) : Array Value := #[.string nm, .int .i64 p, .slice A n c, .int .i64 co, .int .i64 id, .int .i64 he, .int .i64 bo, .int .i64 ou, .int .i64 ti, .int .i64 ba]
theorem res_conf {fn : Func} {a : Tmp} {tmps : Array Value} {w : World} {g : Nat} {v0 v1 v2 v3 v4 v5 v6 v7 v8 v9 : Value} (h : fn.results = #[.cell a 24]) (ht : tmps.getD a undef = .pointer (some ⟨g, 0, none⟩))
    (hb : Box w g [v0, v1, v2, v3, v4, v5, v6, v7, v8, v9]) : (results fn tmps).run Tryd.prog w = .ok (.agg #[v0, v1, v2, v3, v4, v5, v6, v7, v8, v9]) w := by
  have c0 : w.cell? ⟨g, 0, none⟩ = some v0 := hb.2 0 _ rfl
  have c1 : w.cell? ⟨g, 1, none⟩ = some v1 := hb.2 1 _ rfl
  have c2 : w.cell? ⟨g, 2, none⟩ = some v2 := hb.2 2 _ rfl
  have c3 : w.cell? ⟨g, 3, none⟩ = some v3 := hb.2 3 _ rfl
  have c4 : w.cell? ⟨g, 4, none⟩ = some v4 := hb.2 4 _ rfl
  have c5 : w.cell? ⟨g, 5, none⟩ = some v5 := hb.2 5 _ rfl
  have c6 : w.cell? ⟨g, 6, none⟩ = some v6 := hb.2 6 _ rfl
  have c7 : w.cell? ⟨g, 7, none⟩ = some v7 := hb.2 7 _ rfl
  have c8 : w.cell? ⟨g, 8, none⟩ = some v8 := hb.2 8 _ rfl
  have c9 : w.cell? ⟨g, 9, none⟩ = some v9 := hb.2 9 _ rfl
  have ht' : tmps[a]?.getD undef = .pointer (some ⟨g, 0, none⟩) := by simpa using ht
  simp [results, h, ht', go_sem, c0, c1, c2, c3, c4, c5, c6, c7, c8, c9]
set_option maxRecDepth 100000 in
set_option maxHeartbeats 2000000 in
theorem ref11_Small (w : World) : Calls Tryd.prog 11 #[] w fun e w' => (∃ A c, e = .returned (.agg (confV ⟨#[108, 111, 99, 97, 108]⟩ 80 A 1 c 1 2 2000 4000 8000 10 1)) ∧ RootAt w' A) ∧ Below w.heap.size w w' := by
  go_enter Tryd.func11, Tryd.ntmps11
  go_wp2
  have hB := (Box.new w [.string ⟨#[108, 111, 99, 97, 108]⟩, .int .i64 80, .slice (some ⟨w.heap.size + 1, 0, none⟩) 1 1, .int .i64 1, .int .i64 2, .int .i64 2000, .int .i64 4000, .int .i64 8000, .int .i64 10, .int .i64 1] 24).fr (fr_alloc (fr_refl _) (.cells #[.int .i64 3, .string ⟨#[]⟩, .string ⟨#[47]⟩, .int .i64 0, .slice none 0 0] 62))
  refine bodyPost_ret (res_conf (g := w.heap.size) Tryd.results11 rfl hB) rfl ?_
  refine ⟨⟨_, 1, rfl, w.heap.size + 1, rfl, ?_⟩, fr_alloc (fr_alloc (fr_refl _) _) _⟩
  have hR := Box.new (w.alloc (.cells #[.string ⟨#[108, 111, 99, 97, 108]⟩, .int .i64 80, .slice (some ⟨w.heap.size + 1, 0, none⟩) 1 1, .int .i64 1, .int .i64 2, .int .i64 2000, .int .i64 4000, .int .i64 8000, .int .i64 10, .int .i64 1] 24)) [.int .i64 3, .string ⟨#[]⟩, .string ⟨#[47]⟩, .int .i64 0, .slice none 0 0] 62
  rw [World.size_alloc] at hR
  exact ⟨hR.2 0 _ rfl, hR.2 1 _ rfl, hR.2 2 _ rfl, hR.2 3 _ rfl, hR.2 4 _ rfl⟩
def getV (l : List Pr) (n : ByteArray) : Option ByteArray := (l.find? fun p => eqB p.1 n).map (·.2)
def getR : Option ByteArray → Value
  | some v => .tuple #[.string v, .bool true]
  | none => .tuple #[.string ⟨#[]⟩, .bool false]
end Go.Proofs.YtdlignhlliellaaDoor
