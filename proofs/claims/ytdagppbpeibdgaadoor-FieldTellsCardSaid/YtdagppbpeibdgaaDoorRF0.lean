/- Blanks taken off by steps; plainly. -/
import Derived.Test.YtdagppbpeibdgaaDoorFld2
import Derived.Test.YtdagppbpeibdgaaDoorFPl
namespace Go.Proofs.YtdagppbpeibdgaaDoor
set_option linter.unusedVariables false
set_option linter.unusedSimpArgs false
open Go.RowKit

def blB (c : UInt8) : Bool := ([32, 9] : List UInt8).contains c
def trT (l : List UInt8) : List UInt8 := ((l.dropWhile blB).reverse.dropWhile blB).reverse
theorem octTrim_T (s : ByteArray) : octTrim s = mk (trT (L s)) := by
  unfold octTrim trimB
  rw [← trimS_left]; rfl
theorem trT_cons {c : UInt8} {r : List UInt8} (h : blB c = true) : trT (c :: r) = trT r := by
  unfold trT; rw [List.dropWhile_cons, h]; rfl
theorem trT_snoc {c : UInt8} {r : List UInt8} (h : blB c = true) : trT (r ++ [c]) = trT r := by
  unfold trT
  rw [trim_comm, trim_comm, List.reverse_append, List.reverse_singleton, List.singleton_append, List.dropWhile_cons, h]; rfl
theorem trT_fix {l : List UInt8} (h1 : ∀ c r, l = c :: r → blB c = false) (h2 : ∀ c r, l = r ++ [c] → blB c = false) : trT l = l := by
  unfold trT
  have e1 : l.dropWhile blB = l := by
    cases l with
    | nil => rfl
    | cons c r => rw [List.dropWhile_cons, h1 c r rfl]; rfl
  rw [e1]
  have e2 : l.reverse.dropWhile blB = l.reverse := by
    cases hr : l.reverse with
    | nil => rfl
    | cons c r =>
      have : l = r.reverse ++ [c] := by rw [← List.reverse_reverse l, hr]; simp
      rw [List.dropWhile_cons, h2 c _ this]; rfl
  rw [e2, List.reverse_reverse]
theorem dropW_all {p q : UInt8 → Bool} (h : ∀ c, p c = true → q c = true) : ∀ l : List UInt8, (l.dropWhile p).all q = l.all q
  | [] => rfl
  | c :: l => by
    rw [List.dropWhile_cons]
    cases hp : p c
    · rfl
    · simp only [if_true]
      rw [dropW_all h l, List.all_cons, h c hp, Bool.true_and]
theorem bl_val : ∀ c : UInt8, blB c = true → valB c = true := by
  intro c h
  unfold blB at h
  simp at h
  rcases h with rfl | rfl <;> rfl
theorem trim_val (s : ByteArray) : (L (octTrim s)).all valB = (L s).all valB := by
  rw [octTrim_T, L_mk]
  unfold trT
  rw [List.all_reverse, dropW_all bl_val, List.all_reverse, dropW_all bl_val]
theorem octTrim_first (x : ByteArray) (h : 0 < x.size) (hb : blB x[0] = true) : octTrim (x.extract 1 x.size) = octTrim x := by
  have e : L x = x[0] :: (L x).drop 1 := List.drop_eq_getElem_cons (show 0 < (L x).length from h)
  rw [octTrim_T, octTrim_T, L_end, e, trT_cons hb]
  simp
theorem octTrim_last (x : ByteArray) (h : 0 < x.size) (hb : blB (x[x.size - 1]'(by omega)) = true) : octTrim (x.extract 0 (x.size - 1)) = octTrim x := by
  have hl : (L x).length = x.size := rfl
  have e : L x = (L x).take (x.size - 1) ++ [x[x.size - 1]'(by omega)] := by
    have h1 := List.take_succ_eq_append_getElem (l := L x) (i := x.size - 1) (by rw [hl]; omega)
    rw [L_at x (x.size - 1) (by omega)] at h1
    rw [← h1, List.take_of_length_le (by rw [hl]; omega)]
  have e2 : L (x.extract 0 (x.size - 1)) = (L x).take (x.size - 1) := by rw [L_ext]; simp
  rw [octTrim_T, octTrim_T, e2]
  conv => rhs; rw [e]
  rw [trT_snoc hb]
theorem octTrim_fix (x : ByteArray) (h1 : ∀ h : 0 < x.size, blB (x[0]'h) = false) (h2 : ∀ h : 0 < x.size, blB (x[x.size - 1]'(by omega)) = false) : octTrim x = x := by
  have hl : (L x).length = x.size := rfl
  rw [octTrim_T, trT_fix, mk_L]
  · intro c r h
    have h0 : 0 < x.size := by rw [← hl, h]; simp
    have : (L x)[0]'(by rw [hl]; exact h0) = c := by simp [h]
    rw [← this]
    exact h1 h0
  · intro c r h
    have h0 : 0 < x.size := by rw [← hl, h]; simp
    have hs : x.size - 1 = r.length := by rw [← hl, h]; simp
    have : (L x)[x.size - 1]'(by rw [hl]; omega) = c := by simp [h, hs]
    rw [← this]
    exact h2 h0
theorem blB_eq (c : UInt8) : blB c = (((c.toNat : Int) == 32) || ((c.toNat : Int) == 9)) := by
  unfold blB
  have h : ∀ n : Fin 256, ([32, 9] : List UInt8).contains (UInt8.ofNat n) = ((((UInt8.ofNat n).toNat : Int) == 32) || (((UInt8.ofNat n).toNat : Int) == 9)) := by decide +kernel
  have := h ⟨c.toNat, c.toNat_lt⟩
  simpa using this
end Go.Proofs.YtdagppbpeibdgaaDoor
