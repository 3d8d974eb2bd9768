/- (*vars.rows).add, some. -/
import Derived.Test.YtdlignhlliellaaDoorVa
namespace Go.Proofs.YtdlignhlliellaaDoor
set_option linter.unusedVariables false
set_option linter.unusedSimpArgs false
open Go.RowKit

def addL (l : List Pr) (nm v : ByteArray) : List Pr := if hasN l nm then l else l ++ [(nm, v)]
structure RowsAt (base g : Nat) (w : World) (f : Value) (l : List Pr) : Prop where
  blk : Blk w g 44 #[f]
  own : w.ownsRow base 37 2 f l.length (pcells l)
theorem Two.set_ {g : Nat} {r : Option Nat} {w a : World} (h : Two g r w a) (i : Nat) (u : Value) : Two g r w (a.setCell ⟨g, i, none⟩ u) :=
  by
  have hs := only_set (only_refl a (some g)) i u
  exact ⟨hs.os.trans h.os, hs.tape.trans h.tape, hs.output.trans h.output, Nat.le_trans h.size hs.size, fun k hk hg hr => (hs.block k (Nat.lt_of_lt_of_le hk h.size) (fun e => hg (Option.some.inj e))).trans (h.block k hk hg hr)⟩
set_option maxRecDepth 100000 in
set_option maxHeartbeats 4000000 in
theorem rows_add (base g : Nat) (f : Value) (l : List Pr) (nm v : ByteArray) (w : World) (hR : RowsAt base g w f l) (hbw : base ≤ w.heap.size) (hgb : g < base) (hl : l.length ≤ 1000000) :
    Calls Tryd.prog 15 #[.pointer (some ⟨g, 0, none⟩), .string nm, .string v] w fun e w' => e = .returned (.tuple #[]) ∧ (∃ f', RowsAt base g w' f' (addL l nm v) ∧ Fresh w f f') ∧ Two g f.ownBlock w w' := by
  obtain ⟨i0, hi, hz0, hz1, hz2⟩ := info_parts pair_info
  obtain ⟨hB, hO⟩ := hR
  obtain ⟨A, c, rfl, -, hP⟩ := Pairs.own hO
  have hf0 := fr_alloc (fr_refl w) (.cells #[.string nm] 9)
  have hcon := cont_add nm w.heap.size A l.length c l (w.alloc (.cells #[.string nm] 9)) rfl (hP.fr hf0) ((Box.new w [.string nm] 9).2 0 _ rfl) (by omega)
  have hn0 := (Box.new w [.string nm] 9).2 0 (.string nm) rfl
  have b0 := hB.fr hf0
  have c0 : (w.alloc (.cells #[.string nm] 9)).cell? ⟨g, 0, none⟩ = some (.slice A l.length c) := b0.cell 0
  have hadd : hasN l nm = true → addL l nm v = l := fun h => by unfold addL; rw [if_pos h]
  have hadd2 : hasN l nm = false → addL l nm v = l ++ [(nm, v)] := fun h => by unfold addL; rw [if_neg (by rw [h]; decide)]
  obtain ⟨n, hn⟩ : ∃ n, l.length = n := ⟨_, rfl⟩
  rw [hn] at hcon hO c0 b0 hl hB
  have HC := Lib.hid hcon; have HB := Lib.hid hB; have HO := Lib.hid hO; have HF := Lib.hid hf0; have HB0 := Lib.hid b0; have HN0 := Lib.hid hn0; have HN := Lib.hid hn
  have HA1 := Lib.hid hadd; have HA2 := Lib.hid hadd2
  rw [hn]
  clear hcon hB hO hf0 b0 hn0 hn hP hadd hadd2
  cases hq : hasN l nm
  · have HQ := Lib.hid hq
    rw [hq] at HC
    clear hq
    go_enter Tryd.func15, Tryd.ntmps15
    go_wp2_with fail
    refine HC.out.mono ?_
    rintro e w1 ⟨rfl, hb1⟩
    have hx1 := HB0.out.fr hb1
    have d0 : w1.cell? ⟨g, 0, none⟩ = some (.slice A n c) := hx1.cell 0
    have df : w1.frozen? ⟨g, 0, none⟩ = false := hx1.frozen 0
    have dn := fr_cell hb1 HN0.out
    have hb := fr_trans HF.out hb1
    have ho := own_fr (own_fr HO.out HF.out) hb1
    have lt1 := World.block_lt_of_cell? w1 _ d0
    have lt2 := World.block_lt_of_cell? w1 _ dn
    have hne : (Value.slice A n c).ownBlock ≠ some g := fun e => by have := own_ge ho _ e; omega
    have hsz := hb.size
    clear c0 hb1
    go_wp2_with fail
    go_region_law (refine step_append_lies _ (by rfl) _ _ _ (by rfl) base 37 i0 _ 2 32 Tryd.underlying25 hi hz0 hz1 hz2 rfl (by omega) (.slice A n c) _ _ (by rfl) ((ho.alloc _).drew) ⟨w1.heap.size, 0, none⟩ 1 1 [.string nm, .string v] (by rfl) (by rfl) (World.news_of_block (cs := #[.string nm, .string v]) (t := 37) (fr := (0, 0)) (heap_alloc_new w1 _)) (by simp [Value.oneCell']) (by omega) (by simp only [maxLen]; omega) (by omega) (by simp; omega) (w1.heap.size + 1) (by simp) ?_; intro gg cap w2 hown1 hgrow hat hlt2; have hbb2 := ((hx1.alloc (.cells #[.string nm, .string v] 37)).drew).grown hgrow (Ne.symm hne); have d2 : w2.cell? ⟨g, 0, none⟩ = some (.slice A n c) := hbb2.cell 0; have d3 : w2.frozen? ⟨g, 0, none⟩ = false := hbb2.frozen 0)
    all_goals
      have hown2 := ownsRow_setCell_below hown1 (a := ⟨g, 0, none⟩) (by simpa using hgb) (.slice (some ⟨gg, 0, none⟩) (n + 1) cap)
      go_end0
      refine ⟨rfl, ⟨.slice (some ⟨gg, 0, none⟩) (n + 1) cap, ⟨hbb2.set_ 0 _, ?_⟩, hat.elim (fun e => .inl e.symm) (fun e => .inr ⟨gg, rfl, by omega⟩)⟩, (Two.grown (fr_drew (fr_alloc hb _)) hgrow).set_ 0 _⟩
      rw [HA2.out HQ.out, pcells_snoc, List.length_append, HN.out]
      exact hown2
  · have HQ := Lib.hid hq
    rw [hq] at HC
    clear hq
    go_enter Tryd.func15, Tryd.ntmps15
    go_wp2_with fail
    refine HC.out.mono ?_
    rintro e w1 ⟨rfl, hb1⟩
    have hb := fr_trans HF.out hb1
    have hx1 := HB0.out.fr hb1
    have ho := own_fr (own_fr HO.out HF.out) hb1
    go_wp2
    go_end0
    refine ⟨rfl, ⟨.slice A n c, ⟨hx1, ?_⟩, Fresh.refl _ _⟩, Two.of_fr hb⟩
    rw [HA1.out HQ.out, HN.out]
    exact ho
end Go.Proofs.YtdlignhlliellaaDoor
