/- numbers as text: strconv.Itoa, conduitref6.Dec, conduitref6.nat. -/
import Derived.Test.YtkodkojbeehhjaaDoorBase
import Derived.Test.YtkodkojbeehhjaaDoorShelf
import Derived.Deep.RegionWith
namespace Go.Proofs.YtkodkojbeehhjaaDoor
open Go.RowKit

/-- the library's table of powers of ten -/
def Tab (w : World) : Prop := Lib.TabIs Tryd.prog w "internal/strconv.uint64pow10" .u64 Lib.pow10Tab
theorem Tab.fr {w w' : World} (h : Tab w) (hb : Below w.heap.size w w') : Tab w' := by
  unfold Tab Lib.TabIs World.var? at h ⊢
  cases hg : Program.globalNamed Tryd.prog "internal/strconv.uint64pow10" with
  | none => simp [hg] at h
  | some g =>
    simp only [hg, Option.bind_some] at h ⊢
    have hlt : g < w.heap.size := by
      rcases Nat.lt_or_ge g w.heap.size with h' | h'
      · exact h'
      · simp [Array.getElem?_eq_none h'] at h
    rw [hb.block g hlt]
    exact h
theorem fr_grow (w : World) (k : Nat) (os : Array Obj) : Below w.heap.size w (Sort.grow (w.drewN k) os) :=
  ⟨rfl, rfl, rfl, by simp, fun i hi => by rw [Sort.heap_grow_old _ _ (by exact hi)]; rfl⟩
def itoaB (n : Int) : ByteArray := ⟨(Lib.itoa n).toArray⟩
theorem strconv_Itoa (n : Int) (h0 : -9223372036854775808 ≤ n) (h1 : n ≤ 9223372036854775807) (w : World) (ht : Tab w) :
    Calls Tryd.prog 26 #[.int .i64 n] w fun e w' => e = .returned (.string (itoaB n)) ∧ Below w.heap.size w w' :=
  (Tryd.strconv_Itoa n h0 h1 w ht).mono fun e w' ⟨he, k, os, hw⟩ => ⟨he, hw ▸ fr_grow _ _ _⟩

def decB (u : Nat) : ByteArray := ⟨(Lib.decDigits u).toArray⟩
theorem decB_small (u : Nat) (h : u < 10) : decB u = ⟨#[UInt8.ofNat (48 + u)]⟩ := by unfold decB; rw [Lib.decDigits, dif_pos h]
theorem decB_big (u : Nat) (h : ¬ u < 10) : decB u = decB (u / 10) ++ ⟨#[UInt8.ofNat (48 + u % 10)]⟩ := by
  unfold decB; rw [Lib.decDigits, dif_neg h]
  apply ByteArray.ext; simp

theorem decB_size (u : Nat) (h : u < 18446744073709551616) : (decB u).size ≤ 20 := by
  have hk : ∀ (k u : Nat), u < 10 ^ (k + 1) → (decB u).size ≤ k + 1 := by
    intro k
    induction k with
    | zero => intro u hu; rw [decB_small u (by simpa using hu)]; exact Nat.le_refl _
    | succ k ih =>
      intro u hu
      by_cases h10 : u < 10
      · rw [decB_small u h10]; show 1 ≤ _; omega
      · rw [decB_big u h10, size_app]
        have := ih (u / 10) (by rw [Nat.pow_succ] at hu; omega)
        show _ + 1 ≤ _
        omega
  exact hk 19 u (by omega)

set_option maxHeartbeats 400000 in
theorem nat_core (u q r : Nat) (d z : ByteArray) (w : World) (hu : ¬ (u : Int) < 10) (hu0 : (u : Int) ≤ 18446744073709551615) (hdz : d.size ≤ 4611686018427387904) (hz : z.size ≤ 1)
    (e1 : IntKind.u64.wrap ((u : Int) / 10) = (q : Int)) (e2 : (u : Int).tmod 10 = (r : Int)) (e3 : IntKind.u64.wrap (48 + (r : Int)) = 48 + (r : Int)) (e4 : IntKind.u8.wrap (48 + (r : Int)) = 48 + (r : Int))
    (hcv : ∀ W : World, (convert 66 9 (.slice (some ⟨W.heap.size, 0, none⟩) 1 1)).run Tryd.prog (W.alloc (.cells #[.int .u8 (48 + (r : Int))] 5)) = .ok (.string z) (W.alloc (.cells #[.int .u8 (48 + (r : Int))] 5)))
    (hcv2 : ∀ (W : World) (g : Nat), W.cell? ⟨g, 0, none⟩ = some (.int .u8 (48 + (r : Int))) → (convert 66 9 (.slice (some ⟨g, 0, none⟩) 1 1)).run Tryd.prog W = .ok (.string z) W)
    (hc : ∀ w, Calls Tryd.prog 38 #[.int .u64 (q : Int)] w fun e w' => e = .returned (.string d) ∧ Below w.heap.size w w') :
    Calls Tryd.prog 38 #[.int .u64 (u : Int)] w fun e w' => e = .returned (.string (d ++ z)) ∧ Below w.heap.size w w' := by
  have HC := Lib.hid hc; clear hc
  go_enter Tryd.func38, Tryd.ntmps38
  go_wp2_with fail
  go_region_with (go_at_call 38; refine (HC.out _).mono ?_; rintro e w1 ⟨rfl, hb1⟩; obtain ⟨hc1, hf1⟩ := fr_cells hb1)
  all_goals
    go_wp2
    go_ret
    refine ⟨rfl, ?_⟩
  all_goals first | exact fr_alloc (fr_trans (fr_drew (fr_refl _)) hb1) _ | exact fr_trans (fr_alloc (fr_drew (fr_refl _)) _) hb1 | exact fr_trans (fr_drew (fr_alloc (fr_refl _) _)) hb1

set_option maxHeartbeats 400000 in
theorem ref6_nat : ∀ (u : Nat) (n : Int) (w : World), n = (u : Int) → u < 18446744073709551616 →
    Calls Tryd.prog 38 #[.int .u64 n] w fun e w' => e = .returned (.string (decB u)) ∧ Below w.heap.size w w' := by
  intro u
  induction u using Nat.strongRecOn with
  | ind u ih =>
    intro n w hn hu
    subst hn
    by_cases h : u < 10
    · have hcv := fun (W : World) (x : Int) => conv1_new (P := Tryd.prog) W x 66 9 5 Tryd.underlying66 Tryd.underlying5 Tryd.underlying9
      go_enter Tryd.func38, Tryd.ntmps38
      go_wp2
      go_ret
      refine ⟨?_, fr_alloc (fr_refl _) _⟩
      rw [decB_small u h]; rfl
    · rw [decB_big u h]
      have hz := decB_size (u / 10) (by omega)
      exact nat_core u (u / 10) (u % 10) _ _ w (by omega) (by omega) (by omega) (Nat.le_refl _) (IntWalk.u64_in _ (by omega)) (IntWalk.rem_in _ _ (by omega)) (IntWalk.u64_in _ (by omega)) (IntWalk.u8_in _ (by omega))
        (fun W => conv1_new W _ _ _ _ Tryd.underlying66 Tryd.underlying5 Tryd.underlying9) (fun W g h => conv1 W g _ _ _ _ _ Tryd.underlying66 Tryd.underlying5 Tryd.underlying9 h) (fun w => ih (u / 10) (by omega) _ w rfl (by omega))

theorem itoaB_neg (u : Nat) (h : 0 < u) : itoaB (-(u : Int)) = ⟨#[45]⟩ ++ decB u := by
  unfold itoaB Lib.itoa decB
  rw [if_pos (by omega), Int.natAbs_neg, Int.natAbs_natCast]
  apply ByteArray.ext; simp
theorem itoaB_nat (u : Nat) : itoaB (u : Int) = decB u := by
  unfold itoaB Lib.itoa decB
  rw [if_neg (by omega), Int.toNat_natCast]
theorem itoaB_size (n : Int) (h0 : -9223372036854775808 ≤ n) (h1 : n ≤ 9223372036854775807) : (itoaB n).size ≤ 21 := by
  by_cases h : n < 0
  · obtain ⟨u, rfl⟩ : ∃ u : Nat, n = -(u : Int) := ⟨n.natAbs, by omega⟩
    rw [itoaB_neg u (by omega), size_app]
    have := decB_size u (by omega)
    show 1 + _ ≤ 21
    omega
  · obtain ⟨u, rfl⟩ : ∃ u : Nat, n = (u : Int) := ⟨n.toNat, by omega⟩
    rw [itoaB_nat]
    have := decB_size u (by omega)
    omega

set_option maxHeartbeats 400000 in
theorem ref6_Dec (n : Int) (w : World) (h0 : -9223372036854775808 ≤ n) (h1 : n ≤ 9223372036854775807) :
    Calls Tryd.prog 23 #[.int .i64 n] w fun e w' => e = .returned (.string (itoaB n)) ∧ Below w.heap.size w w' := by
  by_cases h : n < 0
  · obtain ⟨u, hu⟩ : ∃ u : Nat, n = -(u : Int) := ⟨n.natAbs, by omega⟩
    subst hu
    have hz := decB_size u (by omega)
    go_enter Tryd.func23, Tryd.ntmps23
    go_wp2_with fail
    refine (ref6_nat u _ _ (by omega) (by omega)).mono ?_
    rintro e w1 ⟨rfl, hb1⟩
    go_wp2
    go_ret
    exact ⟨by rw [itoaB_neg u (by omega)]; rfl, hb1⟩
  · obtain ⟨u, rfl⟩ : ∃ u : Nat, n = (u : Int) := ⟨n.toNat, by omega⟩
    go_enter Tryd.func23, Tryd.ntmps23
    go_wp2_with fail
    refine (ref6_nat u _ _ rfl (by omega)).mono ?_
    rintro e w1 ⟨rfl, hb1⟩
    go_wp2
    go_ret
    exact ⟨by rw [itoaB_nat u]; rfl, hb1⟩
end Go.Proofs.YtkodkojbeehhjaaDoor
