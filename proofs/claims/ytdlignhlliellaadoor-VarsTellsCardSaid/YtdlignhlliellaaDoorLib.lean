/- The library's functions on texts, at this seat's dump, in one make: strings.Cut, strings.Split at one byte. -/
import Derived.Test.YtdlignhlliellaaDoorTxt
import Derived.Test.YtdlignhlliellaaDoorShelf
import Derived.Lib.OwnBridge
import Derived.Deep.QuietTactic
import Derived.BigQuiet
namespace Go.Proofs.YtdlignhlliellaaDoor
set_option linter.unusedVariables false
set_option linter.unusedSimpArgs false
open Go.RowKit

def MaxL (w : World) : Prop := ∃ m, w.cell? ⟨0, 0, none⟩ = some (.int .i64 m)
theorem MaxL.fr {w w' : World} (h : MaxL w) (hb : Below w.heap.size w w') : MaxL w' := by
  obtain ⟨m, hm⟩ := h
  exact ⟨m, fr_cell hb hm⟩
theorem Strs.new (w : World) (l : List ByteArray) (t : TypeId) : Strs (w.alloc (.cells (l.map Value.string).toArray t)) (some ⟨w.heap.size, 0, none⟩) l := fun _ =>
  ⟨w.heap.size, 0, rfl, by simp, fun k hk => by rw [Nat.zero_add, World.cell?_alloc_mark]; simp [hk]⟩
theorem cutB_pos (s : ByteArray) (c : UInt8) : 0 < (cutB s c).length := by
  unfold cutB; rw [List.length_map]; exact List.length_pos_iff.2 (cutC_ne c _)
theorem cutB_len (s : ByteArray) (c : UInt8) : (cutB s c).length ≤ s.size + 1 := by
  unfold cutB; rw [List.length_map]; exact cutC_len c _
theorem idx_no {c : UInt8} : ∀ {l : List UInt8}, c ∉ l → Lib.indexByte l c = -1
  | [], _ => rfl
  | x :: l, h => by
    have hx : (x == c) = false := by simp; exact fun e => h (by simp [e])
    unfold Lib.indexByte
    rw [hx, idx_no (l := l) (fun e => h (by simp [e]))]; rfl
theorem idx_yes {c : UInt8} : ∀ {p : List UInt8}, c ∉ p → ∀ l, Lib.indexByte (p ++ c :: l) c = (p.length : Int)
  | [], _, l => by simp [Lib.indexByte]
  | x :: p, h, l => by
    have hx : (x == c) = false := by simp; exact fun e => h (by simp [e])
    rw [List.cons_append]
    unfold Lib.indexByte
    rw [hx, idx_yes (fun e => h (by simp [e]))]
    have : ((p.length : Int) == -1) = false := by simp
    rw [this]
    simp
theorem idx_lt (c : UInt8) (l : List UInt8) : Lib.indexByte l c < (l.length : Int) := by
  by_cases h : c ∈ l
  · obtain ⟨p, r, hp, rfl⟩ := split_at h
    rw [idx_yes hp]; simp; omega
  · rw [idx_no h]; omega
/-- before, behind, whether it is there -/
def cutS (s : ByteArray) (c : UInt8) : ByteArray × ByteArray × Bool :=
  if 0 ≤ Lib.indexByte (L s) c then (s.extract 0 (Lib.indexByte (L s) c).toNat, s.extract ((Lib.indexByte (L s) c).toNat + 1) s.size, true) else (s, ⟨#[]⟩, false)
theorem cutS_no {s : ByteArray} {c : UInt8} (h : c ∉ L s) : cutS s c = (s, ⟨#[]⟩, false) := by
  unfold cutS; rw [idx_no h]; rfl
theorem cutS_yes {s : ByteArray} {c : UInt8} {p r : List UInt8} (h : c ∉ p) (e : L s = p ++ c :: r) : cutS s c = (mk p, mk r, true) := by
  unfold cutS; rw [e, idx_yes h]
  rw [if_pos (by omega)]
  have hz : s.size = p.length + 1 + r.length := by have : (L s).length = s.size := rfl; rw [← this, e]; simp; omega
  have h1 : s.extract 0 ((p.length : Int)).toNat = mk p := L_inj (by rw [L_ext, e, L_mk]; simp)
  have h2 : s.extract (((p.length : Int)).toNat + 1) s.size = mk r := L_inj (by
    rw [L_ext, e, L_mk, hz, List.take_of_length_le (by simp; omega), Int.toNat_natCast, ← List.drop_drop, List.drop_left]; rfl)
  rw [h1, h2]

set_option maxHeartbeats 400000 in
theorem lite_Cut (s : ByteArray) (c : UInt8) (w : World) (hs : s.size ≤ 9223372036854775807) : Calls Tryd.prog 44 #[.string s, .string ⟨#[c]⟩] w fun e w' => e = .returned (.tuple #[.string (cutS s c).1, .string (cutS s c).2.1, .bool (cutS s c).2.2]) ∧ Below w.heap.size w w' := by
  have hlt := idx_lt c (L s)
  rw [L_len] at hlt
  have hge := Lib.indexByte_ge (L s) c
  by_cases h0 : 0 ≤ Lib.indexByte (L s) c
  · have e : cutS s c = (s.extract 0 (Lib.indexByte (L s) c).toNat, s.extract ((Lib.indexByte (L s) c).toNat + 1) s.size, true) := by unfold cutS; rw [if_pos h0]
    rw [e]
    obtain ⟨i, hi⟩ : ∃ i : Nat, Lib.indexByte (L s) c = (i : Int) := ⟨(Lib.indexByte (L s) c).toNat, by omega⟩
    rw [hi, Int.toNat_natCast]
    rw [hi] at hlt
    clear e h0 hge
    have H := Lib.hid hi; clear hi
    have ht : ((i : Int) + 1).toNat = i + 1 := by omega
    have h1 : 0 ≤ (i : Int) + 1 := by omega
    have h2 : (i : Int) + 1 ≤ (s.size : Int) := by omega
    have ew : IntKind.i64.wrap ((i : Int) + 1) = (i : Int) + 1 := IntWalk.i64_in _ (by omega)
    go_enter Tryd.func44, Tryd.ntmps44
    go_wp2_with fail
    refine (Tryd.stringslite_Index_one s c _).mono ?_
    rintro e w1 ⟨rfl, rfl⟩
    rw [show Lib.indexByte s.data.toList c = (i : Int) from H.out]
    go_wp2_with fail
    go_quiet (fail)
    go_wp2
    go_ret3
    exact ⟨rfl, fr_drewN (fr_refl _) _⟩
  · have e : cutS s c = (s, ⟨#[]⟩, false) := by unfold cutS; rw [if_neg h0]
    rw [e]
    have hi : Lib.indexByte (L s) c = -1 := by omega
    clear e h0 hge hlt
    have H := Lib.hid hi; clear hi
    go_enter Tryd.func44, Tryd.ntmps44
    go_wp2_with fail
    refine (Tryd.stringslite_Index_one s c _).mono ?_
    rintro e w1 ⟨rfl, rfl⟩
    rw [show Lib.indexByte s.data.toList c = -1 from H.out]
    go_wp2
    go_ret3
    exact ⟨rfl, fr_refl _⟩
theorem lib_Cut (s : ByteArray) (c : UInt8) (w : World) (hs : s.size ≤ 9223372036854775807) : Calls Tryd.prog 33 #[.string s, .string ⟨#[c]⟩] w fun e w' => e = .returned (.tuple #[.string (cutS s c).1, .string (cutS s c).2.1, .bool (cutS s c).2.2]) ∧ Below w.heap.size w w' := by
  obtain ⟨r, hr⟩ : ∃ r, cutS s c = r := ⟨_, rfl⟩
  have h := lite_Cut s c w hs
  rw [hr] at h ⊢
  obtain ⟨a, b, d⟩ := r
  clear hr
  go_enter Tryd.func33, Tryd.ntmps33
  go_wp2_with fail
  refine h.mono ?_
  rintro e w1 ⟨rfl, hb⟩
  clear h
  go_wp2
  go_ret3
  exact ⟨rfl, hb⟩
end Go.Proofs.YtdlignhlliellaaDoor
