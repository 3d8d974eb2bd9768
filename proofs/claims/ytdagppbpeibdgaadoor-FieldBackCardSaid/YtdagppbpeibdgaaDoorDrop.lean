/- field.same, field.Drop, conduitref6.Drop: what has another name. -/
import Derived.Test.YtdagppbpeibdgaaDoorLow
namespace Go.Proofs.YtdagppbpeibdgaaDoor
set_option linter.unusedVariables false
set_option linter.unusedSimpArgs false
open Go.RowKit

set_option maxHeartbeats 400000 in
theorem field_same (a b : ByteArray) (w : World) (ha : a.size ≤ 9223372036854775807) (hb : b.size ≤ 9223372036854775807) :
    Calls Tryd.prog 42 #[.string a, .string b] w fun e w' => e = .returned (.bool (eqB (lowB a) (lowB b))) ∧ Below w.heap.size w w' := by
  go_enter Tryd.func42, Tryd.ntmps42
  go_wp2_with fail
  refine (octet_Lower a _ ha).mono ?_
  rintro e w1 ⟨rfl, hb1⟩
  go_wp2_with fail
  refine (octet_Lower b _ hb).mono ?_
  rintro e w2 ⟨rfl, hb2⟩
  go_wp2_with fail
  go_ret
  exact ⟨rfl, fr_trans (fr_trans (fr_refl _) hb1) hb2⟩

def keep (name : ByteArray) (p : Pr) : Bool := !(eqB (lowB p.1) (lowB name))
def dropL (l : List Pr) (name : ByteArray) : List Pr := l.filter (keep name)
theorem dropL_yes (l : List Pr) (name : ByteArray) (p : Pr) (h : (eqB (lowB p.1) (lowB name)) = false) : dropL (l ++ [p]) name = dropL l name ++ [p] := by simp [dropL, keep, h, List.filter_append, List.filter_cons]
theorem dropL_no (l : List Pr) (name : ByteArray) (p : Pr) (h : (eqB (lowB p.1) (lowB name)) = true) : dropL (l ++ [p]) name = dropL l name := by simp [dropL, keep, h, List.filter_append, List.filter_cons]

theorem pair_info : (Tryd.prog.info? 23).map (fun i => (i.zero, i.size, i.bytes)) = some (some (.agg #[.string ⟨#[]⟩, .string ⟨#[]⟩]), 2, 32) := by kernel_rfl

set_option maxHeartbeats 400000 in
theorem field_Drop (A : Option Addr) (c : Nat) (l : List Pr) (name : ByteArray) (w : World) (hl : l.length ≤ 4398046511103) (hp : Pairs w A l) (hn : name.size ≤ 9223372036854775807)
    (hs : ∀ p ∈ l, p.1.size ≤ 9223372036854775807) :
    Calls Tryd.prog 17 #[.slice A l.length c, .string name] w fun e w' => (∃ v, e = .returned v ∧ w'.ownsRow w.heap.size 23 2 v (dropL l name).length (pcells (dropL l name))) ∧ Below w.heap.size w w' := by
  obtain ⟨i0, hi, hz0, hz1, hz2⟩ := info_parts pair_info
  have H := Lib.hid hp; clear hp
  have HS := Lib.hid hs; clear hs
  go_enter Tryd.func17, Tryd.ntmps17
  go_wp2
  go_loopw [5, 10] (fun v i wr => ∃ k : Nat, k ≤ l.length ∧ i = .int .i64 k ∧ Below w.heap.size w wr ∧ wr.ownsRow w.heap.size 23 2 v (dropL (l.take k) name).length (pcells (dropL (l.take k) name))) (fun _ i _ => l.length - (intOf i).toNat)
  case atStart => exact ⟨0, Nat.zero_le _, rfl, Below.refl _ _, World.ownsRow_nil _ _ _ _⟩
  case round =>
    obtain ⟨k, hk, rfl, hb, hown⟩ := hrel
    by_cases hlt : k < l.length
    · obtain ⟨b, off, rfl, hbl, hcell⟩ := H.out (by omega)
      obtain ⟨h1, h2⟩ := hcell k hlt
      rw [← hb.cell (p := ⟨b, _, none⟩) hbl] at h1 h2
      clear hcell
      have hs1 := HS.out l[k] (List.getElem_mem hlt)
      obtain ⟨p, hpe⟩ : ∃ p, p = l[k] := ⟨_, rfl⟩
      rw [← hpe] at h1 h2 hs1
      have HP := Lib.hid hpe; clear hpe
      have hpp : l.take (k + 1) = l.take k ++ [p] := by rw [take_succ' l k hlt, HP.out]
      have HPP := Lib.hid hpp; clear hpp
      have hlen : (dropL (l.take k) name).length ≤ k := Nat.le_trans (List.length_filter_le _ _) (List.length_take_le _ _)
      cases hq : eqB (lowB p.1) (lowB name)
      · have HQ := Lib.hid hq
        go_wp2_with fail
        refine (field_same p.1 name _ hs1 hn).mono ?_
        rintro e w1 ⟨rfl, hb1⟩
        obtain ⟨hc1, hf1⟩ := fr_cells hb1
        have hz1' : wr.heap.size + 1 ≤ w1.heap.size := by have := hb1.size; simpa using this
        have hbw : Below w.heap.size w w1 := fr_trans (fr_alloc hb _) hb1
        have hown1 := own_fr (own_fr hown (fr_alloc (fr_refl _) _)) hb1
        have HO := Lib.hid hown1; clear hown1 hown
        have HB := Lib.hid hb1; clear hb1
        go_wp2_with (first
          | (at_builtin
             refine wpList_append_own _ rfl (.tmp 19) (.tmp 21) _ rfl w.heap.size 23 i0 _ 2 32 Tryd.underlying24 hi hz0 hz1 hz2 rfl (by decide) _ _ _ rfl (HO.out.alloc _) ⟨w1.heap.size, 0, none⟩ 1 1 [.string p.1, .string p.2] rfl rfl (new_cells _ _ _) ?c1 ?c2 ?c3 ?c4 ?_
             rotate_left 4
             intro v2 w2 hown2 hg2 _))
        case c1 => intro u hu; simp at hu; rcases hu with rfl | rfl <;> rfl
        case c2 => simp only [maxLen]; omega
        case c3 => omega
        case c4 => exact Nat.le_trans hbw.size (by simp)
        go_roundw
        case measure => exact meas hlt _ _
        case rel =>
          refine ⟨k + 1, by omega, by go_num, fr_grown (fr_alloc hbw _) hg2 (own_ge HO.out), ?_⟩
          rw [HPP.out, dropL_yes _ _ _ HQ.out, List.length_append, pcells_snoc]
          exact hown2
      · have HQ := Lib.hid hq
        go_wp2_with fail
        refine (field_same p.1 name _ hs1 hn).mono ?_
        rintro e w1 ⟨rfl, hb1⟩
        have hbw : Below w.heap.size w w1 := fr_trans (fr_alloc hb _) hb1
        have hown1 := own_fr (own_fr hown (fr_alloc (fr_refl _) _)) hb1
        clear hb1 hown
        go_wp2_with fail
        go_roundw
        case measure => exact meas hlt _ _
        case rel => exact ⟨k + 1, by omega, by go_num, hbw, by rw [HPP.out, dropL_no _ _ _ HQ.out]; exact hown1⟩
    · have e : l.take k = l := List.take_of_length_le (by omega)
      rw [e] at hown
      have HE := Lib.hid e; clear e
      go_wp2
      go_ret
      exact ⟨⟨_, rfl, hown⟩, hb⟩
end Go.Proofs.YtdagppbpeibdgaaDoor
