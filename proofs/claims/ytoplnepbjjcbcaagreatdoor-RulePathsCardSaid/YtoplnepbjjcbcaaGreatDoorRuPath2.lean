/- conduitlaw12.RulePaths: true. -/
import Derived.Test.YtoplnepbjjcbcaaGreatDoorRuG
namespace Go.Proofs.YtoplnepbjjcbcaaGreatDoor
set_option linter.unusedVariables false
set_option linter.unusedSimpArgs false
open Go.RowKit

def goodP (i : Nat) : ByteArray := if i = 0 then ⟨#[47]⟩ else if i = 1 then ⟨#[47, 97]⟩ else if i = 2 then ⟨#[47, 97, 47, 98, 47]⟩ else if i = 3 then ⟨#[47, 97, 32, 98]⟩ else ⟨#[47, 37, 52, 49]⟩
def badP (i : Nat) : ByteArray := if i = 0 then ⟨#[]⟩ else if i = 1 then ⟨#[97]⟩ else if i = 2 then ⟨#[47, 47]⟩ else if i = 3 then ⟨#[47, 97, 47, 47, 98]⟩ else if i = 4 then ⟨#[47, 46, 47, 97]⟩ else if i = 5 then ⟨#[47, 97, 47, 46, 46]⟩ else ⟨#[47, 1]⟩
def kindP (j : Nat) : Int := if j = 0 then 1 else 3
theorem goodAll : (List.range 5).all (fun i => (List.range 2).all fun j => pathOkE (kindP j) (goodP i)) = true := by kernel_rfl
theorem badAll : (List.range 7).all (fun i => (List.range 2).all fun j => !pathOkE (kindP j) (badP i)) = true := by kernel_rfl
theorem goodOne (i j : Nat) (hi : i < 5) (hj : j < 2) : isOk0 (kindP j) ⟨#[]⟩ (goodP i) 0 2 = true := by
  have h := List.all_eq_true.1 (List.all_eq_true.1 goodAll i (List.mem_range.2 hi)) j (List.mem_range.2 hj)
  unfold isOk0; rw [pathOkE_eq, h]; rfl
theorem badOne (i j : Nat) (hi : i < 7) (hj : j < 2) : isOk0 (kindP j) ⟨#[]⟩ (badP i) 0 2 = false := by
  have h := List.all_eq_true.1 (List.all_eq_true.1 badAll i (List.mem_range.2 hi)) j (List.mem_range.2 hj)
  unfold isOk0; rw [pathOkE_eq, show pathOkE (kindP j) (badP i) = false by simpa using h]; simp
theorem badP_size (i : Nat) : (badP i).size ≤ 2000000 := by
  unfold badP; (repeat' split) <;> decide
theorem goodP_size (i : Nat) : (goodP i).size ≤ 2000000 := by
  unfold goodP; (repeat' split) <;> decide
set_option maxRecDepth 100000 in
set_option maxHeartbeats 4000000 in
theorem paths_walk (x y : Int) (r i j : Nat) (w : World) (hm : MaxL w) (hr : x % 2 = (r : Int)) (hi5 : x / 2 % 5 = (i : Int)) (q : Nat) (hq7 : x / 2 % 7 = (q : Int)) (hj2 : y % 2 = (j : Int)) (hr2 : r < 2) (hi : i < 5) (hq : q < 7) (hj : j < 2) (x0 : 0 ≤ x) (x1 : x ≤ 255) (y0 : 0 ≤ y) (y1 : y ≤ 255) :
    Calls Tryz.prog 4 #[.int .u8 x, .int .u8 y] w fun e w' => e = .returned (.bool true) ∧ Below w.heap.size w w' := by
  have HM := Lib.hid hm; clear hm
  have HG := Lib.hid (goodOne i j hi hj); have HBD := Lib.hid (badOne q j hq hj)
  have HGS := Lib.hid (goodP_size i); have HBS := Lib.hid (badP_size q)
  have hc5 : ∀ W : World, ((W.alloc (.cells #[.string (goodP 0), .string (goodP 1), .string (goodP 2), .string (goodP 3), .string (goodP 4)] 34)).alloc (.cells #[.string (badP 0), .string (badP 1), .string (badP 2), .string (badP 3), .string (badP 4), .string (badP 5), .string (badP 6)] 35)).cell? ⟨W.heap.size, i, none⟩ = some (.string (goodP i)) := fun W => by
    have h0 := (Box.new W [.string (goodP 0), .string (goodP 1), .string (goodP 2), .string (goodP 3), .string (goodP 4)] 34).fr (fr_alloc (fr_refl _) (.cells #[.string (badP 0), .string (badP 1), .string (badP 2), .string (badP 3), .string (badP 4), .string (badP 5), .string (badP 6)] 35))
    have hi' : i = 0 ∨ i = 1 ∨ i = 2 ∨ i = 3 ∨ i = 4 := by omega
    rcases hi' with rfl | rfl | rfl | rfl | rfl <;> exact h0.2 _ _ rfl
  have hc7 : ∀ W : World, ((W.alloc (.cells #[.string (goodP 0), .string (goodP 1), .string (goodP 2), .string (goodP 3), .string (goodP 4)] 34)).alloc (.cells #[.string (badP 0), .string (badP 1), .string (badP 2), .string (badP 3), .string (badP 4), .string (badP 5), .string (badP 6)] 35)).cell? ⟨W.heap.size + 1, q, none⟩ = some (.string (badP q)) := fun W => by
    have h0 := Box.newAt (w := W.alloc (.cells #[.string (goodP 0), .string (goodP 1), .string (goodP 2), .string (goodP 3), .string (goodP 4)] 34)) (g := W.heap.size + 1) (by simp) [.string (badP 0), .string (badP 1), .string (badP 2), .string (badP 3), .string (badP 4), .string (badP 5), .string (badP 6)] 35
    have hi' : q = 0 ∨ q = 1 ∨ q = 2 ∨ q = 3 ∨ q = 4 ∨ q = 5 ∨ q = 6 := by omega
    rcases hi' with rfl | rfl | rfl | rfl | rfl | rfl | rfl <;> exact h0.2 _ _ rfl
  have HC5 := Lib.hid hc5; have HC7 := Lib.hid hc7
  clear hc5 hc7
  obtain ⟨gi, hgi⟩ : ∃ g, goodP i = g := ⟨_, rfl⟩
  obtain ⟨bq, hbq⟩ : ∃ g, badP q = g := ⟨_, rfl⟩
  rw [hgi] at HG HGS HC5
  rw [hbq] at HBD HBS HC7
  have iI : (i : Int) < 5 := by omega
  have qI : (q : Int) < 7 := by omega
  have i0 : (0 : Int) ≤ (i : Int) := by omega
  have q0 : (0 : Int) ≤ (q : Int) := by omega
  have hj' : j = 0 ∨ j = 1 := by omega
  have hr' : r = 0 ∨ r = 1 := by omega
  clear hgi hbq
  have hx0 : ∀ W : World, (Instr.index 36 (.agg #[.int .i64 1, .int .i64 3]) (.int .u8 0)).run Tryz.prog W = .ok (.int .i64 (kindP 0)) W := fun W => by first | rfl | kernel_rfl | (simp [Instr.index, go_sem]; done)
  have hx1 : ∀ W : World, (Instr.index 36 (.agg #[.int .i64 1, .int .i64 3]) (.int .u8 1)).run Tryz.prog W = .ok (.int .i64 (kindP 1)) W := fun W => by first | rfl | kernel_rfl | (simp [Instr.index, go_sem]; done)
  rcases hr' with rfl | rfl
  · clear hq7 HC7
    rcases hj' with rfl | rfl
    all_goals
      go_enter Tryz.func4, Tryz.ntmps4
      go_wp2_with fail
      refine (law12_known _ HM.out).mono ?_
      rintro e w1 ⟨rfl, hb1⟩
      have HB1 := Lib.hid (fr_alloc (fr_alloc hb1 (.cells #[.string (goodP 0), .string (goodP 1), .string (goodP 2), .string (goodP 3), .string (goodP 4)] 34)) (.cells #[.string (badP 0), .string (badP 1), .string (badP 2), .string (badP 3), .string (badP 4), .string (badP 5), .string (badP 6)] 35))
      have c5 := HC5.out w1
      clear hb1
      unfold goodP badP at c5
      simp only [if_true, if_false, Nat.reduceEqDiff, reduceIte] at c5
      go_wp2_with fail
      refine (is_at true _ _ _ _ _ _ HG.out (HM.out.fr HB1.out) (by decide) HGS.out).mono ?_
      rintro e w2 ⟨rfl, hb2⟩
      unfold confR
      clear c5
      go_wp2
      go_ret
      exact ⟨rfl, fr_trans HB1.out hb2⟩
  · clear hi5 HC5
    rcases hj' with rfl | rfl
    all_goals
      go_enter Tryz.func4, Tryz.ntmps4
      go_wp2_with fail
      refine (law12_known _ HM.out).mono ?_
      rintro e w1 ⟨rfl, hb1⟩
      have HB1 := Lib.hid (fr_alloc (fr_alloc hb1 (.cells #[.string (goodP 0), .string (goodP 1), .string (goodP 2), .string (goodP 3), .string (goodP 4)] 34)) (.cells #[.string (badP 0), .string (badP 1), .string (badP 2), .string (badP 3), .string (badP 4), .string (badP 5), .string (badP 6)] 35))
      have c7 := HC7.out w1
      clear hb1
      unfold goodP badP at c7
      simp only [if_true, if_false, Nat.reduceEqDiff, reduceIte] at c7
      go_wp2_with fail
      refine (is_at false _ _ _ _ _ _ HBD.out (HM.out.fr HB1.out) (by decide) HBS.out).mono ?_
      rintro e w2 ⟨rfl, hb2⟩
      unfold confR
      clear c7
      go_wp2_with fail
      refine (is_errno 14 14 _).mono ?_
      rintro e w7 ⟨rfl, rfl⟩
      go_wp2
      go_ret
      exact ⟨rfl, fr_trans HB1.out hb2⟩
theorem law12_paths (x y : Int) (w : World) (hm : MaxL w) (x0 : 0 ≤ x) (x1 : x ≤ 255) (y0 : 0 ≤ y) (y1 : y ≤ 255) :
    Calls Tryz.prog 4 #[.int .u8 x, .int .u8 y] w fun e w' => e = .returned (.bool true) ∧ Below w.heap.size w w' :=
  paths_walk x y (x % 2).toNat (x / 2 % 5).toNat (y % 2).toNat w hm (by omega) (by omega) (x / 2 % 7).toNat (by omega) (by omega) (by omega) (by omega) (by omega) (by omega) x0 x1 y0 y1
end Go.Proofs.YtoplnepbjjcbcaaGreatDoor
