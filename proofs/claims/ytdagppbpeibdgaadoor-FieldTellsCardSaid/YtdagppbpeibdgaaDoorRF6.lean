/- conduitref1.SamePairs of like rows; conduitlaw6.code. -/
import Derived.Test.YtdagppbpeibdgaaDoorRF5
import Derived.Test.YtdagppbpeibdgaaDoorRF4
import Derived.Test.YtdagppbpeibdgaaDoorF6
import Derived.Test.YtdagppbpeibdgaaDoorAsE
namespace Go.Proofs.YtdagppbpeibdgaaDoor
set_option linter.unusedVariables false
set_option linter.unusedSimpArgs false
open Go.RowKit

set_option maxHeartbeats 2000000 in
theorem ref1_SamePairs (A B : Option Addr) (n c d : Nat) (l : List Pr) (w : World) (hn : l.length = n) (hA : Pairs w A l) (hB : Pairs w B l) (hn9 : n ≤ 9223372036854775807) :
    Calls Tryd.prog 35 #[.slice A n c, .slice B n d] w fun e w' => e = .returned (.bool true) ∧ Below w.heap.size w w' := by
  have HA := Lib.hid hA; have HB := Lib.hid hB; have HN := Lib.hid hn
  clear hA hB hn
  go_enter Tryd.func35, Tryd.ntmps35
  go_wp2
  go_loopw [5] (fun i wr => ∃ k : Nat, k ≤ n ∧ i = .int .i64 k ∧ Below w.heap.size w wr) (fun i _ => n - (intOf i).toNat)
  case atStart => exact ⟨0, Nat.zero_le _, rfl, fr_refl _⟩
  case round =>
    obtain ⟨k, hk, rfl, hb⟩ := hrel
    by_cases hlt : k < n
    · have kx : k < l.length := by have := HN.out; omega
      obtain ⟨b1, o1, rfl, l1, c1⟩ := (HA.out.fr hb) (by omega)
      obtain ⟨b2, o2, rfl, l2, c2⟩ := (HB.out.fr hb) (by omega)
      obtain ⟨p1, p2⟩ := c1 k kx
      obtain ⟨q1, q2⟩ := c2 k kx
      obtain ⟨⟨x, y⟩, hx⟩ : ∃ x, l[k] = x := ⟨_, rfl⟩
      rw [hx] at p1 p2 q1 q2
      simp only at p1 p2 q1 q2
      have hkI : (k : Int) < (n : Int) := by omega
      have hk0 : (0 : Int) ≤ (k : Int) := by omega
      have HBW := Lib.hid hb
      have e1 : (x.toList == x.toList) = true := by simp
      have e2 : (y.toList == y.toList) = true := by simp
      clear c1 c2 hx hb
      go_wp2_with fail
      go_quiet (fail)
      go_wp2
      go_roundw
      case measure => exact meas hlt .i64 .i64
      case rel => exact ⟨k + 1, by omega, by go_num, fr_drewN HBW.out _⟩
    · go_wp2
      go_ret
      exact ⟨rfl, hb⟩
theorem law6_code_nil (w : World) : Calls Tryd.prog 31 #[.nilIface] w fun e w' => e = .returned (.int .i64 0) ∧ Below w.heap.size w w' := by
  go_enter Tryd.func31, Tryd.ntmps31
  go_wp2
  go_ret
  exact ⟨rfl, fr_alloc (fr_refl _) _⟩
theorem law6_code_n (n : Int) (w : World) (hE : ErrT w) : Calls Tryd.prog 31 #[.iface 38 (.int .i64 n)] w fun e w' => e = .returned (.int .i64 n) ∧ Below w.heap.size w w' := by
  have hf := fr_alloc (fr_refl w) (.cells #[.int .i64 0] 38)
  have hB := Blk.new w 38 #[.int .i64 0]
  have HE := Lib.hid (hE.fr hf); have HB := Lib.hid hB; have HF := Lib.hid hf
  clear hE hf hB
  go_enter Tryd.func31, Tryd.ntmps31
  go_wp2_with fail
  refine (as_set n _ _ _ HE.out HB.out).mono ?_
  rintro e w1 ⟨rfl, hg, hc⟩
  have HG := Lib.hid (fr_only HF.out hg (Nat.le_refl _)); clear hg
  go_wp2
  go_ret
  exact ⟨rfl, HG.out⟩
theorem law6_code (n : Int) (w : World) (hE : ErrT w) : Calls Tryd.prog 31 #[errV n] w fun e w' => e = .returned (.int .i64 n) ∧ Below w.heap.size w w' := by
  unfold errV
  by_cases h : n = 0
  · rw [if_pos h, h]; exact law6_code_nil w
  · rw [if_neg h]; exact law6_code_n n w hE
theorem tot_1004 : ∀ (l : List Pr), (∀ p ∈ l, p.1.size ≤ 200 ∧ p.2.size ≤ 800) → tot l ≤ l.length * 1004 := by
  intro l
  refine list_snoc_ind (p := fun l => (∀ p ∈ l, p.1.size ≤ 200 ∧ p.2.size ≤ 800) → tot l ≤ l.length * 1004) (fun _ => Nat.le_refl _) (fun l p ih h => ?_) l
  have h1 := ih fun q hq => h q (List.mem_append_left _ hq)
  have h2 := h p (by simp)
  rw [tot_snoc, List.length_append, List.length_singleton]
  omega
end Go.Proofs.YtdagppbpeibdgaaDoor
