/- route.weight, route.among, route.Choose: what they answer. -/
import Derived.Test.YthjnmcciejfpcaaDoorRoute2
namespace Go.Proofs.YthjnmcciejfpcaaDoor
set_option linter.unusedVariables false
set_option linter.unusedSimpArgs false
open Go.RowKit

def wN (ws : List ByteArray) (k : Nat) : Nat := ((ws.take k).filter fun s => !hasC s).length
theorem wN_succ {ws : List ByteArray} {k : Nat} (h : k < ws.length) : wN ws (k + 1) = wN ws k + if hasC ws[k] then 0 else 1 := by
  unfold wN; rw [List.take_succ_eq_append_getElem h, List.filter_append, List.length_append]
  cases hq : hasC ws[k] <;> simp [hq]
theorem wN_le (ws : List ByteArray) (k : Nat) : wN ws k ≤ k := Nat.le_trans (List.length_filter_le _ _) (List.length_take_le _ _)

set_option maxHeartbeats 2000000 in
theorem route_weight (k : Int) (h0 rp : ByteArray) (b0 : Int) (wA : Option Addr) (wn wc : Nat) (w : World) (hm : MaxL w) (hrp : rp.size ≤ 1000000000) :
    Calls Tryd.prog 35 #[.agg #[.int .i64 k, .string h0, .string rp, .int .i64 b0, .slice wA wn wc]] w fun e w' => e = .returned (.tuple #[.int .i64 k, .int .i64 (weightS k rp : Int)]) ∧ Below w.heap.size w w' := by
  have HM := Lib.hid hm; clear hm
  have l1 := segs_len rp
  have HR := Lib.hid (Box.new w [.int .i64 k, .string h0, .string rp, .int .i64 b0, .slice wA wn wc] 36)
  by_cases k2 : k = 2
  · have e : (weightS k rp : Int) = (wN (segs rp) (segs rp).length : Nat) := by unfold weightS wN; rw [if_pos k2, List.take_length]
    rw [e]
    clear e
    subst k2
    obtain ⟨ws, hws⟩ : ∃ ws, segs rp = ws := ⟨_, rfl⟩
    rw [hws] at l1 ⊢
    have HWS := Lib.hid hws; clear hws
    go_enter Tryd.func35, Tryd.ntmps35
    go_wp2_with fail
    refine (path_Segments rp _ (HM.out.fr (fr_alloc (fr_refl _) _)) (by omega)).mono ?_
    rintro e w1 ⟨⟨A, c, rfl, hc, hA⟩, hb1⟩
    rw [HWS.out] at hA hc ⊢
    have hw1 : Below w.heap.size w w1 := fr_trans (fr_alloc (fr_refl _) _) hb1
    have HA := Lib.hid hA
    have HR1 := HR.out.fr hb1
    have rc0 : w1.cell? ⟨w.heap.size, 0, none⟩ = some (.int .i64 2) := HR1.2 0 _ rfl
    have rlt : w.heap.size < w1.heap.size := HR1.1
    have HW1 := Lib.hid hw1
    clear hA hb1 hw1 HR1
    go_wp2
    go_loop [4, 19] (fun m i => ∃ j : Nat, j ≤ ws.length ∧ i = .int .i64 j ∧ m = .int .i64 (wN ws j : Nat)) (fun _ i => ws.length - (intOf i).toNat)
    case atStart => exact ⟨0, Nat.zero_le _, rfl, rfl⟩
    case round =>
      obtain ⟨j, hj, rfl, rfl⟩ := hrel
      have hwl := wN_le ws j
      by_cases hlt : j < ws.length
      · obtain ⟨b, o, rfl, hbl, hcell⟩ := HA.out.at_ hlt
        have hsu := wN_succ hlt
        obtain ⟨x, hx⟩ : ∃ x, ws[j] = x := ⟨_, rfl⟩
        rw [hx] at hcell hsu
        have HSU := Lib.hid hsu; clear hsu hx
        go_wp2_with fail
        refine (lib_HasPrefix x ⟨#[58]⟩ _).mono ?_
        rintro e w2 ⟨rfl, rfl⟩
        cases hq : hasC x
        all_goals
          have HQ := Lib.hid hq
          rw [show Lib.hasPrefix (L x) (L ⟨#[58]⟩) = _ from HQ.out]
          clear hq
          go_wp2_with fail
          go_round
          case measure => exact meas hlt .i64 .i64
          case rel => exact ⟨j + 1, by omega, by go_num, by rw [HSU.out, HQ.out]; go_num⟩
      · obtain rfl : j = ws.length := by omega
        go_wp2
        go_ret2
        exact ⟨rfl, HW1.out⟩
  have n2 : (k == 2) = false := by simpa using k2
  by_cases k3 : k = 3
  · have e : weightS k rp = (segs rp).length := by unfold weightS; rw [if_neg k2, if_pos k3]
    rw [e]
    clear e k2 n2
    subst k3
    obtain ⟨ws, hws⟩ : ∃ ws, segs rp = ws := ⟨_, rfl⟩
    rw [hws] at l1 ⊢
    have HWS := Lib.hid hws; clear hws
    go_enter Tryd.func35, Tryd.ntmps35
    go_wp2_with fail
    refine (path_Segments rp _ (HM.out.fr (fr_alloc (fr_refl _) _)) (by omega)).mono ?_
    rintro e w1 ⟨⟨A, c, rfl, hc, hA⟩, hb1⟩
    rw [HWS.out] at hA hc ⊢
    have hw1 : Below w.heap.size w w1 := fr_trans (fr_alloc (fr_refl _) _) hb1
    have HR1 := HR.out.fr hb1
    have rc0 : w1.cell? ⟨w.heap.size, 0, none⟩ = some (.int .i64 3) := HR1.2 0 _ rfl
    have rlt : w.heap.size < w1.heap.size := HR1.1
    have HW1 := Lib.hid hw1
    clear hA hb1 hw1 HR1
    go_wp2
    go_ret2
    exact ⟨rfl, HW1.out⟩
  have n3 : (k == 3) = false := by simpa using k3
  have e : weightS k rp = 0 := by unfold weightS; rw [if_neg k2, if_neg k3]
  rw [e]
  clear e k2 k3
  go_enter Tryd.func35, Tryd.ntmps35
  go_wp2
  all_goals
    go_ret2
    exact ⟨rfl, fr_alloc (fr_refl _) _⟩
end Go.Proofs.YthjnmcciejfpcaaDoor
