/- numbers as text: strconv.Itoa. -/
import Derived.Test.YtdlignhlliellaaDoorBase
import Derived.Test.YtdlignhlliellaaDoorShelf
import Derived.Deep.RegionWith
namespace Go.Proofs.YtdlignhlliellaaDoor
set_option linter.unusedVariables false
set_option linter.unusedSimpArgs false
open Go.RowKit

/-- the library's table of powers of ten -/
def Tab (w : World) : Prop := Lib.TabIs Tryd.prog w "internal/strconv.uint64pow10" .u64 Lib.pow10Tab
theorem Tab.fr {w w' : World} (h : Tab w) (hb : Below w.heap.size w w') : Tab w' := by
  unfold Tab Lib.TabIs World.var? at h ⊢
  cases hg : Program.globalNamed Tryd.prog "internal/strconv.uint64pow10" with
  | none => simp [hg] at h
  | some g =>
    simp only [hg, Option.bind_some] at h ⊢
    have hlt : g < w.heap.size := by
      rcases Nat.lt_or_ge g w.heap.size with h' | h'
      · exact h'
      · simp [Array.getElem?_eq_none h'] at h
    rw [hb.block g hlt]
    exact h
theorem fr_grow (w : World) (k : Nat) (os : Array Obj) : Below w.heap.size w (Sort.grow (w.drewN k) os) :=
  ⟨rfl, rfl, rfl, by simp, fun i hi => by rw [Sort.heap_grow_old _ _ (by exact hi)]; rfl⟩
def itoaB (n : Int) : ByteArray := ⟨(Lib.itoa n).toArray⟩
theorem strconv_Itoa (n : Int) (h0 : -9223372036854775808 ≤ n) (h1 : n ≤ 9223372036854775807) (w : World) (ht : Tab w) :
    Calls Tryd.prog 16 #[.int .i64 n] w fun e w' => e = .returned (.string (itoaB n)) ∧ Below w.heap.size w w' :=
  (Tryd.strconv_Itoa n h0 h1 w ht).mono fun e w' ⟨he, k, os, hw⟩ => ⟨he, hw ▸ fr_grow _ _ _⟩

def decB (u : Nat) : ByteArray := ⟨(Lib.decDigits u).toArray⟩
theorem decB_small (u : Nat) (h : u < 10) : decB u = ⟨#[UInt8.ofNat (48 + u)]⟩ := by unfold decB; rw [Lib.decDigits, dif_pos h]
theorem decB_big (u : Nat) (h : ¬ u < 10) : decB u = decB (u / 10) ++ ⟨#[UInt8.ofNat (48 + u % 10)]⟩ := by
  unfold decB; rw [Lib.decDigits, dif_neg h]
  apply ByteArray.ext; simp

theorem decB_size (u : Nat) (h : u < 18446744073709551616) : (decB u).size ≤ 20 := by
  have hk : ∀ (k u : Nat), u < 10 ^ (k + 1) → (decB u).size ≤ k + 1 := by
    intro k
    induction k with
    | zero => intro u hu; rw [decB_small u (by simpa using hu)]; exact Nat.le_refl _
    | succ k ih =>
      intro u hu
      by_cases h10 : u < 10
      · rw [decB_small u h10]; show 1 ≤ _; omega
      · rw [decB_big u h10, size_app]
        have := ih (u / 10) (by rw [Nat.pow_succ] at hu; omega)
        show _ + 1 ≤ _
        omega
  exact hk 19 u (by omega)

theorem itoaB_neg (u : Nat) (h : 0 < u) : itoaB (-(u : Int)) = ⟨#[45]⟩ ++ decB u := by
  unfold itoaB Lib.itoa decB
  rw [if_pos (by omega), Int.natAbs_neg, Int.natAbs_natCast]
  apply ByteArray.ext; simp
theorem itoaB_nat (u : Nat) : itoaB (u : Int) = decB u := by
  unfold itoaB Lib.itoa decB
  rw [if_neg (by omega), Int.toNat_natCast]
theorem itoaB_size (n : Int) (h0 : -9223372036854775808 ≤ n) (h1 : n ≤ 9223372036854775807) : (itoaB n).size ≤ 21 := by
  by_cases h : n < 0
  · obtain ⟨u, rfl⟩ : ∃ u : Nat, n = -(u : Int) := ⟨n.natAbs, by omega⟩
    rw [itoaB_neg u (by omega), size_app]
    have := decB_size u (by omega)
    show 1 + _ ≤ 21
    omega
  · obtain ⟨u, rfl⟩ : ∃ u : Nat, n = (u : Int) := ⟨n.toNat, by omega⟩
    rw [itoaB_nat]
    have := decB_size u (by omega)
    omega
theorem itoa1 : itoaB 1 = ⟨#[49]⟩ := by rw [show (1 : Int) = ((1 : Nat) : Int) from rfl, itoaB_nat, decB_small 1 (by decide)]; rfl
end Go.Proofs.YtdlignhlliellaaDoor
