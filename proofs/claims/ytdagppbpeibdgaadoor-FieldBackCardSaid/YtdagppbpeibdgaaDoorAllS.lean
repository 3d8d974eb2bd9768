/- Small words that the texts of fields and of request lines share. -/
import Derived.Test.YtdagppbpeibdgaaDoorLib
import Derived.Test.YtdagppbpeibdgaaDoorErr
namespace Go.Proofs.YtdagppbpeibdgaaDoor
set_option linter.unusedVariables false
set_option linter.unusedSimpArgs false
open Go.RowKit

def allB (p : UInt8 → Bool) (s : ByteArray) : Bool := (L s).all p && !s.toList.isEmpty
theorem all_drop {p : UInt8 → Bool} {l : List UInt8} {k : Nat} (h : k < l.length) (hk : (l.take k).all p = true) (hp : p l[k] = false) : l.all p = false := by
  rw [← List.take_append_drop k l, List.all_append, hk, List.drop_eq_getElem_cons h, List.all_cons, hp]; rfl
theorem all_succ {p : UInt8 → Bool} {l : List UInt8} {k : Nat} (h : k < l.length) (hk : (l.take k).all p = true) (hp : p l[k] = true) : (l.take (k + 1)).all p = true := by
  rw [List.take_succ_eq_append_getElem h, List.all_append, hk]; simp [hp]

def ucells (l : List UInt8) : List Value := l.map fun c => .int .u8 (c.toNat : Int)
theorem ucells_len (l : List UInt8) : (ucells l).length = l.length := by simp [ucells]
theorem ucells_snoc (l : List UInt8) (c : UInt8) : ucells (l ++ [c]) = ucells l ++ [.int .u8 (c.toNat : Int)] := by simp [ucells]
theorem u8_info : (Tryd.prog.info? 5).map (fun i => (i.zero, i.size, i.bytes)) = some (some (.int .u8 0), 1, 1) := by kernel_rfl
theorem own_back {w : World} {base n : Nat} {v : Value} {l : List UInt8} (h : w.ownsRow base 5 1 v n (ucells l)) :
    (convert 36 9 v).run Tryd.prog w = .ok (.string (mk l)) w := by
  have hn : n = l.length := by have := h.1; rw [ucells_len] at this; omega
  subst hn
  rcases h.2 with ⟨rfl, h0⟩ | ⟨g, cap, cur, rfl, hb, hg, hnc, hcm, hcs, htake⟩
  · have : l = [] := by simpa [ucells] using h0
    subst this
    exact run_convert_bytes_nil w 36 5 Tryd.underlying36 Tryd.underlying5 0 0 9 Tryd.underlying9
  · refine run_convert_bytes_back w _ _ _ _ cap l Tryd.underlying36 Tryd.underlying5 Tryd.underlying9 fun j hj => ?_
    exact h.cells (g := g) rfl j _ (by simp [ucells, hj])

theorem ucell_one (c : Int) : ∀ u ∈ [Value.int .u8 c], u.oneCell' = true := by intro u hu; simp at hu; subst hu; rfl
set_option maxHeartbeats 2000000 in
theorem str_info : (Tryd.prog.info? 9).map (fun i => (i.zero, i.size, i.bytes)) = some (some (.string ⟨#[]⟩), 1, 16) := by kernel_rfl
theorem cutB_size {s x : ByteArray} {c : UInt8} (h : x ∈ cutB s c) : x.size ≤ s.size := by
  unfold cutB at h
  obtain ⟨y, hy, rfl⟩ := List.mem_map.1 h
  have h1 := cutC_sum c (L s)
  have h2 : y.length ≤ ((cutC c (L s)).map List.length).sum := by
    obtain ⟨a, b, e⟩ := List.append_of_mem hy
    rw [e]; simp; omega
  have h3 : 0 < (cutC c (L s)).length := List.length_pos_iff.2 (cutC_ne _ _)
  rw [mk_size]
  have : (L s).length = s.size := rfl
  omega
def full (s : ByteArray) : Bool := !s.toList.isEmpty
theorem ble_no {a b : Nat} (h : ¬ a ≤ b) : Nat.ble a b = false := by cases hb : Nat.ble a b with | false => rfl | true => rw [Nat.ble_eq] at hb; omega
theorem ble_yes {a b : Nat} (h : a ≤ b) : Nat.ble a b = true := by rw [Nat.ble_eq]; exact h
end Go.Proofs.YtdagppbpeibdgaaDoor
