/- field.Lines, conduitref6.Lines; conduitref6.Drop. -/
import Derived.Test.YtdagppbpeibdgaaDoorDrop
import Derived.Deep.QuietTactic
import Derived.BigQuiet
namespace Go.Proofs.YtdagppbpeibdgaaDoor
set_option linter.unusedVariables false
set_option linter.unusedSimpArgs false
open Go.RowKit

def linesB (l : List Pr) : ByteArray := l.foldl (fun r p => r ++ (p.1 ++ ⟨#[58, 32]⟩ ++ p.2 ++ ⟨#[13, 10]⟩)) ⟨#[]⟩
theorem linesB_snoc (l : List Pr) (p : Pr) : linesB (l ++ [p]) = linesB l ++ (p.1 ++ ⟨#[58, 32]⟩ ++ p.2 ++ ⟨#[13, 10]⟩) := by simp [linesB]
theorem linesB_size (l : List Pr) : (linesB l).size = tot l := by
  refine list_snoc_ind (p := fun l => (linesB l).size = tot l) rfl (fun l p ih => ?_) l
  rw [linesB_snoc, size_app, ih, tot_snoc]; simp only [size_app]; show _ + (_ + 2 + _ + 2) = _; omega
theorem app_assoc (a b c : ByteArray) : a ++ b ++ c = a ++ (b ++ c) := by
  apply ByteArray.ext; simp [Array.append_assoc]

set_option maxHeartbeats 400000 in
theorem field_Lines (A : Option Addr) (c : Nat) (l : List Pr) (w : World) (hl : l.length ≤ 9223372036854775807) (hp : Pairs w A l) (ht : tot l ≤ 4611686018427387904) :
    Calls Tryd.prog 15 #[.slice A l.length c] w fun e w' => e = .returned (.string (linesB l)) ∧ Below w.heap.size w w' := by
  go_enter Tryd.func15, Tryd.ntmps15
  have H := Lib.hid hp; clear hp
  go_wp2
  go_loopw [3, 8] (fun r i wr => ∃ k : Nat, k ≤ l.length ∧ i = .int .i64 k ∧ Below w.heap.size w wr ∧ r = .string (linesB (l.take k))) (fun _ i _ => l.length - (intOf i).toNat)
  case atStart => exact ⟨0, Nat.zero_le _, rfl, Below.refl _ _, rfl⟩
  case round =>
    obtain ⟨k, hk, rfl, hb, rfl⟩ := hrel
    by_cases hlt : k < l.length
    · obtain ⟨b, off, rfl, hbl, hcell⟩ := H.out (by omega)
      obtain ⟨h1, h2⟩ := hcell k hlt
      rw [← hb.cell (p := ⟨b, _, none⟩) hbl] at h1 h2
      clear hcell
      have hz := linesB_size (l.take k)
      have ht2 := tot_take l k hlt
      have hz' : (linesB (l.take k)).size + (l[k].1.size + l[k].2.size + 4) ≤ 4611686018427387904 := by omega
      clear hz ht2
      go_wp2
      go_roundw
      case measure => exact meas hlt _ _
      case rel => exact ⟨k + 1, by omega, by go_num, hb.alloc hb.size _, by rw [take_succ' l k hlt, linesB_snoc]⟩
    · have e : l.take k = l := List.take_of_length_le (by omega)
      have HE := Lib.hid e; clear e
      go_wp2
      go_ret
      exact ⟨by rw [HE.out]; rfl, hb⟩

theorem field_Lines_n (A : Option Addr) (c n : Nat) (l : List Pr) (w : World) (hn : l.length = n) (hl : l.length ≤ 9223372036854775807) (hp : Pairs w A l) (ht : tot l ≤ 4611686018427387904) :
    Calls Tryd.prog 15 #[.slice A n c] w fun e w' => e = .returned (.string (linesB l)) ∧ Below w.heap.size w w' := by subst hn; exact field_Lines A c l w hl hp ht

set_option maxHeartbeats 400000 in
theorem ref6_Lines (A : Option Addr) (c : Nat) (l : List Pr) (w : World) (hl : l.length ≤ 9223372036854775807) (hp : Pairs w A l) (ht : tot l ≤ 4611686018427387904) :
    Calls Tryd.prog 37 #[.slice A l.length c] w fun e w' => e = .returned (.string (linesB l)) ∧ Below w.heap.size w w' := by
  go_enter Tryd.func37, Tryd.ntmps37
  have H := Lib.hid hp; clear hp
  go_wp2
  go_loopw [3, 4] (fun r i wr => ∃ k : Nat, k ≤ l.length ∧ i = .int .i64 k ∧ Below w.heap.size w wr ∧ r = .string (linesB (l.take k))) (fun _ i _ => l.length - (intOf i).toNat)
  case atStart => exact ⟨0, Nat.zero_le _, rfl, Below.refl _ _, rfl⟩
  case round =>
    obtain ⟨k, hk, rfl, hb, rfl⟩ := hrel
    by_cases hlt : k < l.length
    · obtain ⟨b, off, rfl, hbl, hcell⟩ := H.out (by omega)
      obtain ⟨h1, h2⟩ := hcell k hlt
      rw [← hb.cell (p := ⟨b, _, none⟩) hbl] at h1 h2
      clear hcell
      have hz := linesB_size (l.take k)
      have ht2 := tot_take l k hlt
      have hz' : (linesB (l.take k)).size + (l[k].1.size + l[k].2.size + 4) ≤ 4611686018427387904 := by omega
      clear hz ht2
      have hkI : (k : Int) < (l.length : Int) := by omega
      have hk0 : (0 : Int) ≤ (k : Int) := by omega
      go_wp2_with fail
      go_quiet (fail)
      go_wp2
      go_roundw
      case measure => exact meas hlt _ _
      case rel => exact ⟨k + 1, by omega, by go_num, fr_drewN hb _, by rw [take_succ' l k hlt, linesB_snoc]; simp only [app_assoc]⟩
    · have e : l.take k = l := List.take_of_length_le (by omega)
      have HE := Lib.hid e; clear e
      go_wp2
      go_ret
      exact ⟨by rw [HE.out]; rfl, hb⟩

theorem ref6_Lines_n (A : Option Addr) (c n : Nat) (l : List Pr) (w : World) (hn : l.length = n) (hl : l.length ≤ 9223372036854775807) (hp : Pairs w A l) (ht : tot l ≤ 4611686018427387904) :
    Calls Tryd.prog 37 #[.slice A n c] w fun e w' => e = .returned (.string (linesB l)) ∧ Below w.heap.size w w' := by subst hn; exact ref6_Lines A c l w hl hp ht

set_option maxHeartbeats 400000 in
theorem ref6_Drop (A : Option Addr) (c : Nat) (l : List Pr) (name : ByteArray) (w : World) (hl : l.length ≤ 4398046511103) (hp : Pairs w A l) (hn : name.size ≤ 9223372036854775807)
    (hs : ∀ p ∈ l, p.1.size ≤ 9223372036854775807) :
    Calls Tryd.prog 36 #[.slice A l.length c, .string name] w fun e w' => (∃ v, e = .returned v ∧ w'.ownsRow w.heap.size 23 2 v (dropL l name).length (pcells (dropL l name))) ∧ Below w.heap.size w w' := by
  obtain ⟨i0, hi, hz0, hz1, hz2⟩ := info_parts pair_info
  have H := Lib.hid hp; clear hp
  have HS := Lib.hid hs; clear hs
  go_enter Tryd.func36, Tryd.ntmps36
  go_wp2
  go_loopw [5, 6] (fun v i wr => ∃ k : Nat, k ≤ l.length ∧ i = .int .i64 k ∧ Below w.heap.size w wr ∧ wr.ownsRow w.heap.size 23 2 v (dropL (l.take k) name).length (pcells (dropL (l.take k) name))) (fun _ i _ => l.length - (intOf i).toNat)
  case atStart => exact ⟨0, Nat.zero_le _, rfl, Below.refl _ _, World.ownsRow_nil _ _ _ _⟩
  case round =>
    obtain ⟨k, hk, rfl, hb, hown⟩ := hrel
    by_cases hlt : k < l.length
    · obtain ⟨b, off, rfl, hbl, hcell⟩ := H.out (by omega)
      obtain ⟨h1, h2⟩ := hcell k hlt
      rw [← hb.cell (p := ⟨b, _, none⟩) hbl] at h1 h2
      clear hcell
      have hs1 := HS.out l[k] (List.getElem_mem hlt)
      obtain ⟨p, hpe⟩ : ∃ p, p = l[k] := ⟨_, rfl⟩
      rw [← hpe] at h1 h2 hs1
      have HP := Lib.hid hpe; clear hpe
      have hpp : l.take (k + 1) = l.take k ++ [p] := by rw [take_succ' l k hlt, HP.out]
      have HPP := Lib.hid hpp; clear hpp
      have hlen : (dropL (l.take k) name).length ≤ k := Nat.le_trans (List.length_filter_le _ _) (List.length_take_le _ _)
      have hblr : b < wr.heap.size := Nat.lt_of_lt_of_le hbl hb.size
      go_wp2_with fail
      refine (ref1_Lower p.1 _ hs1).mono ?_
      rintro e w1 ⟨rfl, hb1⟩
      have h1' := fr_cell hb1 h1
      have h2' := fr_cell hb1 h2
      go_wp2_with fail
      refine (ref1_Lower name _ hn).mono ?_
      rintro e w2 ⟨rfl, hb2⟩
      have h1'' := fr_cell hb2 h1'
      have h2'' := fr_cell hb2 h2'
      have hbw : Below w.heap.size w w2 := fr_trans (fr_trans hb hb1) hb2
      have hown1 := own_fr (own_fr hown hb1) hb2
      clear hb1 hb2 hown h1 h2 h1' h2'
      cases hq : eqB (lowB p.1) (lowB name)
      · have HQ := Lib.hid hq
        unfold eqB at hq
        have HO := Lib.hid hown1; clear hown1
        go_wp2_with (first
          | (at_builtin
             refine wpList_append_own _ rfl (.tmp 22) (.tmp 27) _ rfl w.heap.size 23 i0 _ 2 32 Tryd.underlying24 hi hz0 hz1 hz2 rfl (by decide) _ _ _ rfl (HO.out.alloc _) ⟨w2.heap.size, 0, none⟩ 1 1 [.string p.1, .string p.2] rfl rfl (new_cells _ _ _) ?c1 ?c2 ?c3 ?c4 ?_
             rotate_left 4
             intro v2 w3 hown2 hg2 _))
        case c1 => intro u hu; simp at hu; rcases hu with rfl | rfl <;> rfl
        case c2 => simp only [maxLen]; omega
        case c3 => omega
        case c4 => exact Nat.le_trans hbw.size (by simp)
        go_roundw
        case measure => exact meas hlt _ _
        case rel =>
          refine ⟨k + 1, by omega, by go_num, fr_grown (fr_alloc hbw _) hg2 (own_ge HO.out), ?_⟩
          rw [HPP.out, dropL_yes _ _ _ HQ.out, List.length_append, pcells_snoc]
          exact hown2
      · have HQ := Lib.hid hq
        unfold eqB at hq
        go_wp2_with fail
        go_roundw
        case measure => exact meas hlt _ _
        case rel => exact ⟨k + 1, by omega, by go_num, hbw, by rw [HPP.out, dropL_no _ _ _ HQ.out]; exact hown1⟩
    · have e : l.take k = l := List.take_of_length_le (by omega)
      rw [e] at hown
      have HE := Lib.hid e; clear e
      go_wp2
      go_ret
      exact ⟨⟨_, rfl, hown⟩, hb⟩
end Go.Proofs.YtdagppbpeibdgaaDoor
