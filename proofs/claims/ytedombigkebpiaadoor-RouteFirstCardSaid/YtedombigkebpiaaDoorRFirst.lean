/- conduitlaw13.RouteFirst: true. -/
import Derived.Test.YtedombigkebpiaaDoorRKnown
import Derived.Deep.Cut
import Derived.Laws.Tables
import Derived.Laws.CopyOwn
namespace Go.Proofs.YtedombigkebpiaaDoor
set_option linter.unusedVariables false
set_option linter.unusedSimpArgs false
open Go.RowKit

def fK (i : Nat) : Int := if i = 0 then 1 else if i = 1 then 2 else if i = 2 then 2 else if i = 3 then 3 else if i = 4 then 3 else 4
def fP (i : Nat) : ByteArray := if i = 0 then ⟨#[47, 117, 47, 120, 46, 112, 104, 112]⟩ else if i = 1 then ⟨#[47, 117, 47, 58, 110]⟩ else if i = 2 then ⟨#[47, 58, 109, 47, 58, 110]⟩ else if i = 3 then ⟨#[47, 117]⟩ else if i = 4 then ⟨#[47]⟩ else ⟨#[46, 112, 104, 112]⟩
def fL : List RV := [rv 1 ⟨#[]⟩ ⟨#[47, 117, 47, 120, 46, 112, 104, 112]⟩, rv 2 ⟨#[]⟩ ⟨#[47, 117, 47, 58, 110]⟩, rv 2 ⟨#[]⟩ ⟨#[47, 58, 109, 47, 58, 110]⟩, rv 3 ⟨#[]⟩ ⟨#[47, 117]⟩, rv 3 ⟨#[]⟩ ⟨#[47]⟩, rv 4 ⟨#[]⟩ ⟨#[46, 112, 104, 112]⟩]
theorem fL_at : ∀ i (h : i < fL.length), fL[i] = rv (fK i) ⟨#[]⟩ (fP i) := by
  intro i h
  have : i = 0 ∨ i = 1 ∨ i = 2 ∨ i = 3 ∨ i = 4 ∨ i = 5 := by simp [fL] at h; omega
  rcases this with rfl | rfl | rfl | rfl | rfl | rfl <;> rfl
def fHost (host : Bool) : ByteArray := if host then ⟨#[104]⟩ else ⟨#[]⟩
def fTwo (i j : Nat) (host : Bool) : List RV := [rv (fK i) ⟨#[]⟩ (fP i), rv (fK j) (fHost host) (fP j)]
def fWant (i j : Nat) (host : Bool) : Int := if host then 1 else if j < i then 1 else 0
def fTry (i j : Nat) (host : Bool) : Bst := chooseE (fTwo i j host) ⟨#[104]⟩ ⟨#[47, 117, 47, 120, 46, 112, 104, 112]⟩
theorem fAll : (List.range 6).all (fun i => (List.range 6).all fun j => [true, false].all fun h => (fTry i j h).rule == fWant i j h && (fTry i j h).ok && (fTwo i j h).all fun r => fitsE r ⟨#[47, 117, 47, 120, 46, 112, 104, 112]⟩) = true := by kernel_rfl
theorem fOne (i j : Nat) (h : Bool) (hi : i < 6) (hj : j < 6) : (chooseS (fTwo i j h) ⟨#[104]⟩ ⟨#[47, 117, 47, 120, 46, 112, 104, 112]⟩).rule = fWant i j h ∧ (chooseS (fTwo i j h) ⟨#[104]⟩ ⟨#[47, 117, 47, 120, 46, 112, 104, 112]⟩).ok = true ∧ ∀ r ∈ fTwo i j h, FitsR r.path ⟨#[47, 117, 47, 120, 46, 112, 104, 112]⟩ r.kind := by
  have h1 := List.all_eq_true.1 fAll i (List.mem_range.2 hi)
  have h2 := List.all_eq_true.1 h1 j (List.mem_range.2 hj)
  have h3 := List.all_eq_true.1 h2 h (by cases h <;> simp)
  simp only [Bool.and_eq_true, beq_iff_eq] at h3
  rw [chooseE_eq]
  exact ⟨h3.1.1, h3.1.2, fits_of h3.2⟩

theorem wpList_store_new {P : Program} {ops : Array Oper} {rest : List Oper} {o : Oper} {a : Act} {Q : Exit → Act → World → Prop} (hgd : o.guard = none) (ty : TypeId) (x y : Operand) (ho : o.op = .store ty x y)
    (w : World) (cells : Array Value) (hx : a.eval x = .pointer (some ⟨w.heap.size, 0, none⟩)) (hy : a.eval y = .agg cells) (t : TypeId) (old : Array Value) (hi : (P.info? ty).map (·.size) = some cells.size)
    (hold : old.size = cells.size) (h1 : cells.all (·.oneCell') = true)
    (h : ∀ W, Below w.heap.size w W → Blk W w.heap.size t cells → wpList P ops Q rest (a.put o.dst undef) W) : wpList P ops Q (o :: rest) a (w.alloc (.cells old t)) :=
  wpList_store_row hgd ty x y ho w.heap.size cells hx hy t old (heap_alloc_new w _) hi hold h1 (h _ (below_setRow (fr_alloc (fr_refl _) _) (Nat.le_refl _) _) (setRow_heap _ _ _ _ _ _ (heap_alloc_new w _)))

set_option maxHeartbeats 4000000 in
theorem first_walk (x y : Int) (i j : Nat) (host : Bool) (w : World) (hm : MaxL w) (hx : x % 6 = (i : Int)) (hy : y % 6 = (j : Int)) (hi : i < 6) (hj : j < 6) (x0 : 0 ≤ x) (x1 : x ≤ 255) (y0 : 0 ≤ y) (y1 : y ≤ 255) :
    Calls Tryd.prog 5 #[.int .u8 x, .int .u8 y, .bool host] w fun e w' => e = .returned (.bool true) ∧ Below w.heap.size w w' := by
  have HM := Lib.hid hm; clear hm
  have hfi : i < fL.length := hi
  have hfj : j < fL.length := hj
  have hB : ∀ W : World, Box (W.alloc (.cells (rcells fL).toArray 39)) W.heap.size (rcells fL) := fun W => Box.new W (rcells fL) 39
  have HB := Lib.hid hB; clear hB
  go_enter Tryd.func5, Tryd.ntmps5
  go_wp2_with fail
  refine (law13_known _ HM.out).mono ?_
  rintro e w1 ⟨rfl, hb1⟩
  go_wp2_with (refine wpList_store_new rfl 39 (.tmp 7) (.tmp 23) rfl w1 (rcells fL).toArray rfl rfl 39 _ (by kernel_rfl) (by kernel_rfl) (by kernel_rfl) ?_; intro W hWb hWB; have HWB := Lib.hid hWB; clear hWB)
  have hb2 := fr_trans hb1 hWb
  have hlt := HWB.out.lt
  have ci : ∀ q v, (rv (fK i) ⟨#[]⟩ (fP i)).cells[q]? = some v → W.cell? ⟨w1.heap.size, i * 5 + q, none⟩ = some v := fun q v h => by
    rw [HWB.out.cell]; simpa using rcells_at fL i hfi q v (by rw [fL_at i hfi]; exact h)
  have cj : ∀ q v, (rv (fK j) ⟨#[]⟩ (fP j)).cells[q]? = some v → W.cell? ⟨w1.heap.size, j * 5 + q, none⟩ = some v := fun q v h => by
    rw [HWB.out.cell]; simpa using rcells_at fL j hfj q v (by rw [fL_at j hfj]; exact h)
  have i0 : W.cell? ⟨w1.heap.size, i * 5, none⟩ = some (.int .i64 (fK i)) := ci 0 _ rfl
  have i1 : W.cell? ⟨w1.heap.size, i * 5 + 1, none⟩ = some (.string ⟨#[]⟩) := ci 1 _ rfl
  have i2 : W.cell? ⟨w1.heap.size, i * 5 + 2, none⟩ = some (.string (fP i)) := ci 2 _ rfl
  have i3 : W.cell? ⟨w1.heap.size, i * 5 + 3, none⟩ = some (.int .i64 0) := ci 3 _ rfl
  have i4 : W.cell? ⟨w1.heap.size, i * 5 + 4, none⟩ = some (.slice none 0 0) := ci 4 _ rfl
  have j0 : W.cell? ⟨w1.heap.size, j * 5, none⟩ = some (.int .i64 (fK j)) := cj 0 _ rfl
  have j1 : W.cell? ⟨w1.heap.size, j * 5 + 1, none⟩ = some (.string ⟨#[]⟩) := cj 1 _ rfl
  have j2 : W.cell? ⟨w1.heap.size, j * 5 + 2, none⟩ = some (.string (fP j)) := cj 2 _ rfl
  have j3 : W.cell? ⟨w1.heap.size, j * 5 + 3, none⟩ = some (.int .i64 0) := cj 3 _ rfl
  have j4 : W.cell? ⟨w1.heap.size, j * 5 + 4, none⟩ = some (.slice none 0 0) := cj 4 _ rfl
  have hone := fOne i j host hi hj
  obtain ⟨ki, hki⟩ : ∃ k, fK i = k := ⟨_, rfl⟩
  obtain ⟨kj, hkj⟩ : ∃ k, fK j = k := ⟨_, rfl⟩
  obtain ⟨pi, hpi⟩ : ∃ k, fP i = k := ⟨_, rfl⟩
  obtain ⟨pj, hpj⟩ : ∃ k, fP j = k := ⟨_, rfl⟩
  rw [hki] at i0; rw [hpi] at i2; rw [hkj] at j0; rw [hpj] at j2
  have htw : fTwo i j host = [rv ki ⟨#[]⟩ pi, rv kj (fHost host) pj] := by unfold fTwo; rw [hki, hkj, hpi, hpj]
  rw [htw] at hone
  have HONE := Lib.hid hone
  clear hone htw ci cj hki hkj hpi hpj hfi hfj hWb hb1
  have i5 : (i : Int) < 6 := by omega
  have j5 : (j : Int) < 6 := by omega
  have hwant : fWant i j host = if host then 1 else if j < i then 1 else 0 := rfl
  have hRL : ∀ (W : World) (h : ByteArray) (g : Nat), g = W.heap.size → Rules (W.alloc (.cells #[.int .i64 ki, .string ⟨#[]⟩, .string pi, .int .i64 0, .slice none 0 0, .int .i64 kj, .string h, .string pj, .int .i64 0, .slice none 0 0] 36)).drew (some ⟨g, 0, none⟩) [rv ki ⟨#[]⟩ pi, rv kj h pj] := fun W h g hg => by
    subst hg; exact Rules.new W [rv ki ⟨#[]⟩ pi, rv kj h pj] 36
  have HRL := Lib.hid hRL; have HWANT := Lib.hid hwant
  clear hRL hwant HB HWB
  obtain ⟨⟨ru, sc, inf, nm, kd, ms⟩, hbb⟩ : ∃ b, chooseS [rv ki ⟨#[]⟩ pi, rv kj (fHost host) pj] ⟨#[104]⟩ ⟨#[47, 117, 47, 120, 46, 112, 104, 112]⟩ = b := ⟨_, rfl⟩
  have hone := HONE.out
  rw [hbb] at hone
  obtain ⟨hru, hok, hft⟩ := hone
  have hru2 : ru = _ := hru.trans HWANT.out
  have hok2 : decide (0 < kd) = true := hok
  have HFT := Lib.hid hft; have HBB := Lib.hid hbb; have HOK := Lib.hid hok2; have HRU := Lib.hid hru2
  clear hru hok hft hbb hok2 hru2 HONE HWANT
  have hhost : fHost host = if host then ⟨#[104]⟩ else ⟨#[]⟩ := rfl
  obtain ⟨hh, hhe⟩ : ∃ hh, fHost host = hh := ⟨_, rfl⟩
  rw [hhe] at HFT HBB hhost
  clear hhe
  have hb2z := hb2
  cases host
  all_goals
    simp only [Bool.false_eq_true, if_false, if_true] at hhost
    subst hhost
  all_goals by_cases hji : (j : Int) < (i : Int)
  all_goals
    have hru2 := HRU.out
    clear HRU
    first | (rw [if_neg (by decide), if_pos (by omega)] at hru2) | (rw [if_neg (by decide), if_neg (by omega)] at hru2) | rw [if_pos rfl] at hru2
    subst hru2
    go_region
    all_goals
      go_wp2_with fail
      refine (choose_at nm.length true _ 2 2 [rv ki ⟨#[]⟩ pi, rv kj _ pj] ⟨#[104]⟩ ⟨#[47, 117, 47, 120, 46, 112, 104, 112]⟩ _ HBB.out rfl HOK.out rfl (HM.out.fr (fr_drew (fr_alloc (fr_alloc (fr_alloc hb2 _) _) _))) (HRL.out _ _ _ (by simp)) HFT.out (by simp) (by decide)).mono ?_
      rintro e w5 ⟨⟨A5, c5, rfl, hp5⟩, hb5⟩
      have hw5 := fr_trans (fr_drew (fr_alloc (fr_alloc (fr_alloc hb2 _) _) _)) hb5
      have HW5 := Lib.hid hw5
      clear hw5 hb5 hp5
      go_wp2
      go_ret
      exact ⟨rfl, fr_alloc HW5.out _⟩
theorem law13_first (x y : Int) (host : Bool) (w : World) (hm : MaxL w) (x0 : 0 ≤ x) (x1 : x ≤ 255) (y0 : 0 ≤ y) (y1 : y ≤ 255) :
    Calls Tryd.prog 5 #[.int .u8 x, .int .u8 y, .bool host] w fun e w' => e = .returned (.bool true) ∧ Below w.heap.size w w' :=
  first_walk x y (x % 6).toNat (y % 6).toNat host w hm (by omega) (by omega) (by omega) (by omega) x0 x1 y0 y1
end Go.Proofs.YtedombigkebpiaaDoor
