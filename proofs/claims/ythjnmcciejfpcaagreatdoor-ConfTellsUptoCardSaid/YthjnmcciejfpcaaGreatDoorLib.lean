/- The library's functions on texts, at this seat's dump, in one make: strings.Cut, strings.Split at one byte. -/
import Derived.Test.YthjnmcciejfpcaaGreatDoorMA
import Derived.Test.YthjnmcciejfpcaaGreatDoorShelf
import Derived.Lib.OwnBridge
import Derived.Deep.QuietTactic
import Derived.BigQuiet
namespace Go.Proofs.YthjnmcciejfpcaaGreatDoor
set_option linter.unusedVariables false
set_option linter.unusedSimpArgs false
open Go.RowKit

def MaxL (w : World) : Prop := ∃ m, w.cell? ⟨2, 0, none⟩ = some (.int .i64 m)
theorem MaxL.fr {w w' : World} (h : MaxL w) (hb : Below w.heap.size w w') : MaxL w' := by
  obtain ⟨m, hm⟩ := h
  exact ⟨m, fr_cell hb hm⟩
theorem Strs.new (w : World) (l : List ByteArray) (t : TypeId) : Strs (w.alloc (.cells (l.map Value.string).toArray t)) (some ⟨w.heap.size, 0, none⟩) l := fun _ =>
  ⟨w.heap.size, 0, rfl, by simp, fun k hk => by rw [Nat.zero_add, World.cell?_alloc_mark]; simp [hk]⟩
theorem cutB_pos (s : ByteArray) (c : UInt8) : 0 < (cutB s c).length := by
  unfold cutB; rw [List.length_map]; exact List.length_pos_iff.2 (cutC_ne c _)
theorem cutB_len (s : ByteArray) (c : UInt8) : (cutB s c).length ≤ s.size + 1 := by
  unfold cutB; rw [List.length_map]; exact cutC_len c _
theorem lib_Split (s : ByteArray) (c : UInt8) (w : World) (hm : MaxL w) (hs : s.size < 4294967281) : Calls Tryz.prog 73 #[.string s, .string ⟨#[c]⟩] w fun e w' => e = .returned (.slice (some ⟨w.heap.size, 0, none⟩) (cutB s c).length (cutB s c).length) ∧ w' = w.alloc (.cells ((cutB s c).map Value.string).toArray 9) := by obtain ⟨m, hm⟩ := hm; have h1 : (cutB s c).length = Lib.countB s ⟨#[c]⟩ + 1 := (by rw [← splitB_cutB]; exact Lib.splitB_all ⟨#[c]⟩ (Nat.le_refl 1) 0 _ s rfl); have h := Tryz.strings_Split s ⟨#[c]⟩ m w hs hm (Nat.le_refl 1); rw [splitB_cutB, ← h1] at h; exact h
theorem idx_no {c : UInt8} : ∀ {l : List UInt8}, c ∉ l → Lib.indexByte l c = -1
  | [], _ => rfl
  | x :: l, h => by
    have hx : (x == c) = false := by simp; exact fun e => h (by simp [e])
    unfold Lib.indexByte
    rw [hx, idx_no (l := l) (fun e => h (by simp [e]))]; rfl
theorem idx_yes {c : UInt8} : ∀ {p : List UInt8}, c ∉ p → ∀ l, Lib.indexByte (p ++ c :: l) c = (p.length : Int)
  | [], _, l => by simp [Lib.indexByte]
  | x :: p, h, l => by
    have hx : (x == c) = false := by simp; exact fun e => h (by simp [e])
    rw [List.cons_append]
    unfold Lib.indexByte
    rw [hx, idx_yes (fun e => h (by simp [e]))]
    have : ((p.length : Int) == -1) = false := by simp
    rw [this]
    simp
theorem idx_lt (c : UInt8) (l : List UInt8) : Lib.indexByte l c < (l.length : Int) := by
  by_cases h : c ∈ l
  · obtain ⟨p, r, hp, rfl⟩ := split_at h
    rw [idx_yes hp]; simp; omega
  · rw [idx_no h]; omega
theorem lib_CutPrefix (s : ByteArray) (c : UInt8) (w : World) : Calls Tryz.prog 49 #[.string s, .string ⟨#[c]⟩] w fun e w' => e = .returned (.tuple #[.string ⟨(Lib.trimPrefix (L s) [c]).toArray⟩, .bool (Lib.hasPrefix (L s) [c])]) ∧ w = w' := (Tryz.strings_CutPrefix s ⟨#[c]⟩ w).mono fun _ _ h => ⟨h.1, h.2.symm⟩
theorem lib_HasPrefix (s p : ByteArray) (w : World) : Calls Tryz.prog 75 #[.string s, .string p] w fun e w' => e = .returned (.bool (Lib.hasPrefix (L s) (L p))) ∧ w = w' := (Tryz.strings_HasPrefix s p w).mono fun _ _ h => ⟨h.1, h.2.symm⟩
theorem lib_IndexByte (s : ByteArray) (c : UInt8) (w : World) : Calls Tryz.prog 67 #[.string s, .int .u8 (c.toNat : Int)] w fun e w' => e = .returned (.int .i64 (Lib.indexByte (L s) c)) ∧ w = w' := (Tryz.strings_IndexByte s (c.toNat : Int) w).mono fun _ _ h => ⟨by rw [h.1]; simp, h.2.symm⟩
/-- before, behind, whether it is there -/
def cutS (s : ByteArray) (c : UInt8) : ByteArray × ByteArray × Bool :=
  if 0 ≤ Lib.indexByte (L s) c then (s.extract 0 (Lib.indexByte (L s) c).toNat, s.extract ((Lib.indexByte (L s) c).toNat + 1) s.size, true) else (s, ⟨#[]⟩, false)
theorem cutS_no {s : ByteArray} {c : UInt8} (h : c ∉ L s) : cutS s c = (s, ⟨#[]⟩, false) := by
  unfold cutS; rw [idx_no h]; rfl
theorem cutS_yes {s : ByteArray} {c : UInt8} {p r : List UInt8} (h : c ∉ p) (e : L s = p ++ c :: r) : cutS s c = (mk p, mk r, true) := by
  unfold cutS; rw [e, idx_yes h]
  rw [if_pos (by omega)]
  have hz : s.size = p.length + 1 + r.length := by have : (L s).length = s.size := rfl; rw [← this, e]; simp; omega
  have h1 : s.extract 0 ((p.length : Int)).toNat = mk p := L_inj (by rw [L_ext, e, L_mk]; simp)
  have h2 : s.extract (((p.length : Int)).toNat + 1) s.size = mk r := L_inj (by
    rw [L_ext, e, L_mk, hz, List.take_of_length_le (by simp; omega), Int.toNat_natCast, ← List.drop_drop, List.drop_left]; rfl)
  rw [h1, h2]
