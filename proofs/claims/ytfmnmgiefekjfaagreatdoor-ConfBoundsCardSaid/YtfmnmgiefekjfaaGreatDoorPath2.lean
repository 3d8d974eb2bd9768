/- path.Clean: what it answers. -/
import Derived.Test.YtfmnmgiefekjfaaGreatDoorPath
namespace Go.Proofs.YtfmnmgiefekjfaaGreatDoor
set_option linter.unusedVariables false
set_option linter.unusedSimpArgs false
open Go.RowKit

def dotB (p : ByteArray) : Bool := p.toList.isEmpty || eqB p ⟨#[46]⟩ || eqB p ⟨#[46, 46]⟩
def cleanStep (st : List ByteArray) (p : ByteArray) : Option (List ByteArray) :=
  if p.toList.isEmpty || eqB p ⟨#[46]⟩ then some st else if eqB p ⟨#[46, 46]⟩ then (if st.length = 0 then none else some (st.take (st.length - 1))) else some (st ++ [p])
def cleanGo : List ByteArray → List ByteArray → ByteArray → Option (List ByteArray × ByteArray)
  | [], st, last => some (st, last)
  | s :: r, st, _ => match partS s with
    | none => none
    | some p => match cleanStep st p with
      | none => none
      | some st' => cleanGo r st' p
def joinB (l : List ByteArray) : ByteArray := ⟨(Lib.join (l.map (·.data.toList)) [47]).toArray⟩
def cleanOut (r : List ByteArray × ByteArray) : ByteArray :=
  if decide (0 < r.1.length) && dotB r.2 then ⟨#[47]⟩ ++ joinB r.1 ++ ⟨#[47]⟩ else ⟨#[47]⟩ ++ joinB r.1
def cleanS (s : ByteArray) : Option ByteArray :=
  if Lib.hasPrefix (L s) [47] then (cleanGo (cutB (s.extract 1 s.size) 47) [] ⟨#[]⟩).map cleanOut else none
theorem own_cut {w : World} {base e m n c : Nat} {A : Option Addr} {l : List ByteArray} (h : w.ownsRow base e 1 (.slice A n c) n (scells l)) (hn : 0 < n) (hm : m ≤ n) : w.ownsRow base e 1 (.slice A m c) m (scells (l.take m)) := by
  have hl : l.length = n := by have := h.1; rw [scells_len] at this; omega
  rcases h.2 with ⟨_, h0⟩ | ⟨g, cap, cur, hv, hb, hg, hnc, hcm, hcs, htake⟩
  · omega
  · injection hv with h1 h2 h3
    subst h1 h3
    refine ⟨by rw [scells_len, List.length_take]; omega, .inr ⟨g, c, cur, rfl, hb, hg, by omega, hcm, hcs, ?_⟩⟩
    have : scells (l.take m) = (scells l).take m := by simp [scells, List.map_take]
    rw [this, ← htake, List.take_take]
    congr 1; omega
theorem joinTail_len (M : Nat) : ∀ (l : List (List UInt8)), (∀ x ∈ l, x.length ≤ M) → (Lib.joinTail [47] l).length ≤ l.length * (M + 1)
  | [], _ => by simp [Lib.joinTail]
  | x :: r, h => by
    have h1 := h x (by simp)
    have h2 := joinTail_len M r (fun z hz => h z (by simp [hz]))
    have e : (Lib.joinTail [47] (x :: r)).length = 1 + x.length + (Lib.joinTail [47] r).length := by simp [Lib.joinTail]; omega
    have e2 : (x :: r).length * (M + 1) = r.length * (M + 1) + (M + 1) := by rw [List.length_cons, Nat.succ_mul]
    omega
theorem join_len (M : Nat) (l : List (List UInt8)) (h : ∀ x ∈ l, x.length ≤ M) : (Lib.join l [47]).length ≤ l.length * (M + 1) := by
  cases l with
  | nil => simp [Lib.join_nil]
  | cons x r =>
    have h1 := h x (by simp)
    have h2 := joinTail_len M r (fun z hz => h z (by simp [hz]))
    have e2 : (x :: r).length * (M + 1) = r.length * (M + 1) + (M + 1) := by rw [List.length_cons, Nat.succ_mul]
    rw [Lib.join_cons, List.length_append]
    omega
theorem joinB_size (M n : Nat) (l : List ByteArray) (h : ∀ x ∈ l, x.size ≤ M) (hn : l.length ≤ n) (hM : n * (M + 1) ≤ 140737488355328) : (Lib.join (l.map (·.data.toList)) [47]).length ≤ 140737488355328 := by
  have h1 := join_len M (l.map (·.data.toList)) (fun x hx => by
    obtain ⟨y, hy, rfl⟩ := List.mem_map.1 hx
    exact h y hy)
  rw [List.length_map] at h1
  exact Nat.le_trans h1 (Nat.le_trans (Nat.mul_le_mul_right _ hn) hM)
theorem Strs.some_ {w : World} {A : Option Addr} {l : List ByteArray} (h : Strs w A l) (h0 : 0 < l.length) : ∃ b off, A = some ⟨b, off, none⟩ ∧ b < w.heap.size ∧ ∀ (j : Nat) x, l[j]? = some x → w.cell? ⟨b, off + j, none⟩ = some (.string x) := by
  obtain ⟨b, off, e, hb, hc⟩ := h h0
  refine ⟨b, off, e, hb, fun j x hx => ?_⟩
  obtain ⟨hj, rfl⟩ := List.getElem?_eq_some_iff.1 hx
  exact hc j hj
theorem lib_Join (A : Option Addr) (c n : Nat) (l : List ByteArray) (w : World) (hn : l.length = n) (hA : Strs w A l) (hc : n ≤ c) (hN : n ≤ 140737488355328) (hlen : (Lib.join (l.map (·.data.toList)) [47]).length ≤ 140737488355328) :
    Calls Tryz.prog 78 #[.slice A n c, .string ⟨#[47]⟩] w fun e w' => e = .returned (.string (joinB l)) ∧ Below w.heap.size w w' := by
  subst hn
  rcases Nat.eq_zero_or_pos l.length with h0 | h0
  · have : l = [] := List.eq_nil_of_length_eq_zero h0
    subst this
    refine (Tryz.strings_Join_none A c ⟨#[47]⟩ w).mono ?_
    rintro e w' ⟨rfl, rfl⟩
    exact ⟨rfl, fr_refl _⟩
  · obtain ⟨b, off, rfl, hb, hcell⟩ := hA.some_ h0
    exact Tryz.strings_Join b off c l ⟨#[47]⟩ w hcell hb hN hc hlen
theorem str_info : (Tryz.prog.info? 9).map (fun i => (i.zero, i.size, i.bytes)) = some (some (.string ⟨#[]⟩), 1, 16) := by kernel_rfl
def cleanR : Option ByteArray → Value
  | some p => .tuple #[.string p, .nilIface]
  | none => .tuple #[.string ⟨#[]⟩, .iface 31 (.int .i64 10)]
theorem cutB_size {s x : ByteArray} {c : UInt8} (h : x ∈ cutB s c) : x.size ≤ s.size := by
  unfold cutB at h
  obtain ⟨y, hy, rfl⟩ := List.mem_map.1 h
  have h1 := cutC_sum c (L s)
  have h2 : y.length ≤ ((cutC c (L s)).map List.length).sum := by
    obtain ⟨a, b, e⟩ := List.append_of_mem hy
    rw [e]; simp; omega
  have h3 : 0 < (cutC c (L s)).length := List.length_pos_iff.2 (cutC_ne _ _)
  rw [mk_size]
  have : (L s).length = s.size := rfl
  omega
end Go.Proofs.YtfmnmgiefekjfaaGreatDoor
