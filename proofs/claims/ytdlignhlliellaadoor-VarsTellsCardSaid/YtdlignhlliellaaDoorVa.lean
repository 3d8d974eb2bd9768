/- (*vars.rows).add, some. -/
import Derived.Test.YtdlignhlliellaaDoorVk
import Derived.Deep.AppendLies
import Derived.Deep.RegionLaw
namespace Go.Proofs.YtdlignhlliellaaDoor
set_option linter.unusedVariables false
set_option linter.unusedSimpArgs false
open Go.RowKit

theorem pair_info : (Tryd.prog.info? 37).map (fun i => (i.zero, i.size, i.bytes)) = some (some (.agg #[.string ⟨#[]⟩, .string ⟨#[]⟩]), 2, 32) := by kernel_rfl
structure Two (g : Nat) (r : Option Nat) (w w' : World) : Prop where
  os : w'.os = w.os
  tape : w'.tape = w.tape
  output : w'.output = w.output
  size : w.heap.size ≤ w'.heap.size
  block : ∀ k, k < w.heap.size → k ≠ g → r ≠ some k → w'.heap[k]? = w.heap[k]?
theorem Two.below {g B : Nat} {r : Option Nat} {w w' : World} (h : Two g r w w') (hB : B ≤ w.heap.size) (hg : B ≤ g) (hr : ∀ k, r = some k → B ≤ k) : Below B w w' :=
  ⟨h.os, h.tape, h.output, h.size, fun k hk => h.block k (by omega) (by omega) (fun e => by have := hr k e; omega)⟩
theorem Two.trans {g : Nat} {r r1 : Option Nat} {w a b : World} (h : Two g r w a) (k : Two g r1 a b) (hr : r1 = r ∨ ∃ n, r1 = some n ∧ w.heap.size ≤ n) : Two g r w b :=
  ⟨k.os.trans h.os, k.tape.trans h.tape, k.output.trans h.output, Nat.le_trans h.size k.size, fun i hi hg hn => (k.block i (Nat.lt_of_lt_of_le hi h.size) hg (fun e => by
    rcases hr with e1 | ⟨n, e1, hn1⟩
    · exact hn (e1 ▸ e)
    · rw [e1] at e; injection e with e; omega)).trans (h.block i hi hg hn)⟩
/-- the row's block is the old one, or one laid since -/
def Fresh (w : World) (v v' : Value) : Prop := v'.ownBlock = v.ownBlock ∨ ∃ n, v'.ownBlock = some n ∧ w.heap.size ≤ n
theorem Fresh.refl (w : World) (v : Value) : Fresh w v v := .inl rfl
theorem Fresh.trans {w a : World} {u v x : Value} (h : Fresh w u v) (k : Fresh a v x) (hs : w.heap.size ≤ a.heap.size) : Fresh w u x := by
  rcases k with e | ⟨n, e, hn⟩
  · rcases h with e1 | ⟨n, e1, hn⟩
    · exact .inl (e.trans e1)
    · exact .inr ⟨n, e.trans e1, hn⟩
  · exact .inr ⟨n, e, Nat.le_trans hs hn⟩
theorem Two.of_fr {g : Nat} {r : Option Nat} {w w' : World} (h : Below w.heap.size w w') : Two g r w w' :=
  ⟨h.os, h.tape, h.output, h.size, fun k hk _ _ => h.block k hk⟩
theorem Two.grown {g : Nat} {v : Value} {w a b : World} (h : Below w.heap.size w a) (hg : a.grownBy b v.ownBlock) : Two g v.ownBlock w b :=
  ⟨hg.os.trans h.os, hg.tape.trans h.tape, hg.output.trans h.output, Nat.le_trans h.size hg.size, fun k hk _ hr => (hg.block k (Nat.lt_of_lt_of_le hk h.size) (fun e => hr e.symm)).trans (h.block k hk)⟩
theorem add_fn (nm pn pv : ByteArray) (g : Nat) (w : World) (hg : w.cell? ⟨g, 0, none⟩ = some (.string nm)) :
    Calls Tryd.prog 35 #[.agg #[.string pn, .string pv], .pointer (some ⟨g, 0, none⟩)] w fun e w' => e = .returned (.bool (eqB pn nm)) ∧ Below w.heap.size w w' := by
  have hlt := World.block_lt_of_cell? w _ hg
  go_enter Tryd.func35, Tryd.ntmps35
  go_wp2
  go_ret
  exact ⟨rfl, fr_alloc (fr_refl _) _⟩
def hasN (l : List Pr) (nm : ByteArray) : Bool := l.any fun p => eqB p.1 nm
set_option maxRecDepth 100000 in
set_option maxHeartbeats 2000000 in
theorem idx_add (nm : ByteArray) (g : Nat) (A : Option Addr) (n c : Nat) (l : List Pr) (w : World) (hn : l.length = n) (hS : Pairs w A l) (hg : w.cell? ⟨g, 0, none⟩ = some (.string nm)) (hn9 : n ≤ 4398046511103) :
    Calls Tryd.prog 45 #[.slice A n c, .func (.func 35) #[] #[.pointer (some ⟨g, 0, none⟩)]] w fun e w' => (∃ i : Int, e = .returned (.int .i64 i) ∧ decide (0 ≤ i) = hasN l nm) ∧ Below w.heap.size w w' := by
  have HN := Lib.hid hn; have HS := Lib.hid hS; have HG := Lib.hid hg
  clear hn hS hg
  go_enter Tryd.func45, Tryd.ntmps45
  go_wp2
  go_loopw [8] (fun i wr => ∃ k : Nat, k ≤ n ∧ i = .int .i64 k ∧ Below w.heap.size w wr ∧ hasN (l.take k) nm = false) (fun i _ => n - (intOf i).toNat)
  case atStart => exact ⟨0, Nat.zero_le _, rfl, fr_refl _, rfl⟩
  case round =>
    obtain ⟨k, hk, rfl, hb, hall⟩ := hrel
    have HB := Lib.hid hb; have HA := Lib.hid hall
    clear hb hall
    by_cases hlt : k < n
    · have hkl : k < l.length := by have := HN.out; omega
      obtain ⟨b, off, rfl, hbl, hcell⟩ := (HS.out.fr HB.out) (by omega)
      obtain ⟨h1, h2⟩ := hcell k hkl
      obtain ⟨⟨pn, pv⟩, hpe⟩ : ∃ p, l[k] = p := ⟨_, rfl⟩
      rw [hpe] at h1 h2
      simp only at h1 h2
      have HX := Lib.hid hpe
      have kI : (k : Int) < (n : Int) := by omega
      have k0 : (0 : Int) ≤ (k : Int) := by omega
      clear hpe hcell
      cases hq : eqB pn nm
      · have HQ := Lib.hid hq
        go_wp2_with fail
        refine (add_fn nm pn pv g _ (fr_cell HB.out HG.out)).mono ?_
        rintro e w1 ⟨rfl, hb1⟩
        rw [HQ.out]
        have HB1 := Lib.hid (fr_trans HB.out hb1)
        clear hb1
        go_wp2
        go_roundw
        case measure => exact meas hlt .i64 .i64
        case rel => exact ⟨k + 1, by omega, by go_num, HB1.out, by unfold hasN; rw [List.take_succ_eq_append_getElem hkl, List.any_append, HX.out]; have := HA.out; unfold hasN at this; rw [this]; simp [HQ.out]⟩
      · have HQ := Lib.hid hq
        go_wp2_with fail
        refine (add_fn nm pn pv g _ (fr_cell HB.out HG.out)).mono ?_
        rintro e w1 ⟨rfl, hb1⟩
        rw [HQ.out]
        have HB1 := Lib.hid (fr_trans HB.out hb1)
        clear hb1
        go_wp2
        go_ret
        refine ⟨⟨(k : Int), rfl, ?_⟩, HB1.out⟩
        have : hasN l nm = true := List.any_eq_true.2 ⟨(pn, pv), by rw [← HX.out]; exact List.getElem_mem hkl, HQ.out⟩
        rw [this]; simp
    · have e : l.take k = l := List.take_of_length_le (by have := HN.out; omega)
      have ha := HA.out
      rw [e] at ha
      have HA2 := Lib.hid ha
      clear e ha
      go_wp2
      go_ret
      exact ⟨⟨-1, rfl, by rw [HA2.out]; rfl⟩, HB.out⟩
theorem cont_add (nm : ByteArray) (g : Nat) (A : Option Addr) (n c : Nat) (l : List Pr) (w : World) (hn : l.length = n) (hS : Pairs w A l) (hg : w.cell? ⟨g, 0, none⟩ = some (.string nm)) (hn9 : n ≤ 4398046511103) :
    Calls Tryd.prog 34 #[.slice A n c, .func (.func 35) #[] #[.pointer (some ⟨g, 0, none⟩)]] w fun e w' => e = .returned (.bool (hasN l nm)) ∧ Below w.heap.size w w' := by
  have HC := Lib.hid (idx_add nm g A n c l w hn hS hg hn9)
  clear hn hS hg hn9
  go_enter Tryd.func34, Tryd.ntmps34
  go_wp2_with fail
  refine HC.out.mono ?_
  rintro e w1 ⟨⟨i, rfl, hi⟩, hb1⟩
  go_wp2
  go_ret
  exact ⟨by first | exact congrArg (fun b => Ending.returned (Value.bool b)) hi | (rw [← hi]; rfl), hb1⟩
end Go.Proofs.YtdlignhlliellaaDoor
