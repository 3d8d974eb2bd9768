/- path.part: what it answers. path.Clean: what it answers. path.Clean: the walk. Paths put right, in words that the kernel can reckon with. strings.Trim at a set of bytes; octet.isPlain, isToken, Token, Trim. conduitlaw11.same, known: true. -/
import Derived.Test.YthjnmcciejfpcaaDoorMB
import Derived.Test.YthjnmcciejfpcaaDoorSeg
import Derived.Lib.Join
import Derived.OwnWalk
import Derived.KernelRfl
import Derived.Shelf.Strings.SlTrimAscii
import Derived.Deep.QuietTactic
import Derived.BigQuiet
namespace Go.Proofs.YthjnmcciejfpcaaDoor
set_option linter.unusedVariables false
set_option linter.unusedSimpArgs false
open Go.RowKit

def okB (c : UInt8) : Bool := !(c.toNat == 47) && !(c.toNat == 127) && decide (32 ≤ c.toNat)
def partS (s : ByteArray) : Option ByteArray := match unescS s with
  | some p => if p.all okB then some (mk p) else none
  | none => none
theorem unescS_len {s : ByteArray} {p : List UInt8} (h : unescS s = some p) : p.length ≤ s.size := by
  have := unescA_len (L s) [] p h
  simpa [L_len] using this
theorem partS_size {s p : ByteArray} (h : partS s = some p) : p.size ≤ s.size := by
  unfold partS at h
  split at h
  · rename_i q hq
    split at h
    · injection h with h; subst h; rw [mk_size]; exact unescS_len hq
    · cases h
  · cases h
end Go.Proofs.YthjnmcciejfpcaaDoor

namespace Go.Proofs.YthjnmcciejfpcaaDoor
set_option linter.unusedVariables false
set_option linter.unusedSimpArgs false
open Go.RowKit

def dotB (p : ByteArray) : Bool := p.toList.isEmpty || eqB p ⟨#[46]⟩ || eqB p ⟨#[46, 46]⟩
def cleanStep (st : List ByteArray) (p : ByteArray) : Option (List ByteArray) :=
  if p.toList.isEmpty || eqB p ⟨#[46]⟩ then some st else if eqB p ⟨#[46, 46]⟩ then (if st.length = 0 then none else some (st.take (st.length - 1))) else some (st ++ [p])
def cleanGo : List ByteArray → List ByteArray → ByteArray → Option (List ByteArray × ByteArray)
  | [], st, last => some (st, last)
  | s :: r, st, _ => match partS s with
    | none => none
    | some p => match cleanStep st p with
      | none => none
      | some st' => cleanGo r st' p
def joinB (l : List ByteArray) : ByteArray := ⟨(Lib.join (l.map (·.data.toList)) [47]).toArray⟩
def cleanOut (r : List ByteArray × ByteArray) : ByteArray :=
  if decide (0 < r.1.length) && dotB r.2 then ⟨#[47]⟩ ++ joinB r.1 ++ ⟨#[47]⟩ else ⟨#[47]⟩ ++ joinB r.1
def cleanS (s : ByteArray) : Option ByteArray :=
  if Lib.hasPrefix (L s) [47] then (cleanGo (cutB (s.extract 1 s.size) 47) [] ⟨#[]⟩).map cleanOut else none
theorem own_cut {w : World} {base e m n c : Nat} {A : Option Addr} {l : List ByteArray} (h : w.ownsRow base e 1 (.slice A n c) n (scells l)) (hn : 0 < n) (hm : m ≤ n) : w.ownsRow base e 1 (.slice A m c) m (scells (l.take m)) := by
  have hl : l.length = n := by have := h.1; rw [scells_len] at this; omega
  rcases h.2 with ⟨_, h0⟩ | ⟨g, cap, cur, hv, hb, hg, hnc, hcm, hcs, htake⟩
  · omega
  · injection hv with h1 h2 h3
    subst h1 h3
    refine ⟨by rw [scells_len, List.length_take]; omega, .inr ⟨g, c, cur, rfl, hb, hg, by omega, hcm, hcs, ?_⟩⟩
    have : scells (l.take m) = (scells l).take m := by simp [scells, List.map_take]
    rw [this, ← htake, List.take_take]
    congr 1; omega
theorem joinTail_len (M : Nat) : ∀ (l : List (List UInt8)), (∀ x ∈ l, x.length ≤ M) → (Lib.joinTail [47] l).length ≤ l.length * (M + 1)
  | [], _ => by simp [Lib.joinTail]
  | x :: r, h => by
    have h1 := h x (by simp)
    have h2 := joinTail_len M r (fun z hz => h z (by simp [hz]))
    have e : (Lib.joinTail [47] (x :: r)).length = 1 + x.length + (Lib.joinTail [47] r).length := by simp [Lib.joinTail]; omega
    have e2 : (x :: r).length * (M + 1) = r.length * (M + 1) + (M + 1) := by rw [List.length_cons, Nat.succ_mul]
    omega
theorem join_len (M : Nat) (l : List (List UInt8)) (h : ∀ x ∈ l, x.length ≤ M) : (Lib.join l [47]).length ≤ l.length * (M + 1) := by
  cases l with
  | nil => simp [Lib.join_nil]
  | cons x r =>
    have h1 := h x (by simp)
    have h2 := joinTail_len M r (fun z hz => h z (by simp [hz]))
    have e2 : (x :: r).length * (M + 1) = r.length * (M + 1) + (M + 1) := by rw [List.length_cons, Nat.succ_mul]
    rw [Lib.join_cons, List.length_append]
    omega
theorem joinB_size (M n : Nat) (l : List ByteArray) (h : ∀ x ∈ l, x.size ≤ M) (hn : l.length ≤ n) (hM : n * (M + 1) ≤ 140737488355328) : (Lib.join (l.map (·.data.toList)) [47]).length ≤ 140737488355328 := by
  have h1 := join_len M (l.map (·.data.toList)) (fun x hx => by
    obtain ⟨y, hy, rfl⟩ := List.mem_map.1 hx
    exact h y hy)
  rw [List.length_map] at h1
  exact Nat.le_trans h1 (Nat.le_trans (Nat.mul_le_mul_right _ hn) hM)
theorem Strs.some_ {w : World} {A : Option Addr} {l : List ByteArray} (h : Strs w A l) (h0 : 0 < l.length) : ∃ b off, A = some ⟨b, off, none⟩ ∧ b < w.heap.size ∧ ∀ (j : Nat) x, l[j]? = some x → w.cell? ⟨b, off + j, none⟩ = some (.string x) := by
  obtain ⟨b, off, e, hb, hc⟩ := h h0
  refine ⟨b, off, e, hb, fun j x hx => ?_⟩
  obtain ⟨hj, rfl⟩ := List.getElem?_eq_some_iff.1 hx
  exact hc j hj
theorem str_info : (Tryd.prog.info? 9).map (fun i => (i.zero, i.size, i.bytes)) = some (some (.string ⟨#[]⟩), 1, 16) := by kernel_rfl
theorem cutB_size {s x : ByteArray} {c : UInt8} (h : x ∈ cutB s c) : x.size ≤ s.size := by
  unfold cutB at h
  obtain ⟨y, hy, rfl⟩ := List.mem_map.1 h
  have h1 := cutC_sum c (L s)
  have h2 : y.length ≤ ((cutC c (L s)).map List.length).sum := by
    obtain ⟨a, b, e⟩ := List.append_of_mem hy
    rw [e]; simp; omega
  have h3 : 0 < (cutC c (L s)).length := List.length_pos_iff.2 (cutC_ne _ _)
  rw [mk_size]
  have : (L s).length = s.size := rfl
  omega
end Go.Proofs.YthjnmcciejfpcaaDoor

namespace Go.Proofs.YthjnmcciejfpcaaDoor
set_option linter.unusedVariables false
set_option linter.unusedSimpArgs false
open Go.RowKit

theorem eq_dot (p : ByteArray) : eqB p ⟨#[46]⟩ = (p.toList == [46]) := by unfold eqB; rw [show (⟨#[46]⟩ : ByteArray).toList = [46] by rw [toList_L]]
theorem eq_dots (p : ByteArray) : eqB p ⟨#[46, 46]⟩ = (p.toList == [46, 46]) := by unfold eqB; rw [show (⟨#[46, 46]⟩ : ByteArray).toList = [46, 46] by rw [toList_L]]
theorem cleanGo_bad {s : ByteArray} {r st : List ByteArray} {last : ByteArray} (h : partS s = none) : cleanGo (s :: r) st last = none := by unfold cleanGo; rw [h]
theorem cleanGo_no {s p : ByteArray} {r st : List ByteArray} {last : ByteArray} (h : partS s = some p) (h2 : cleanStep st p = none) : cleanGo (s :: r) st last = none := by unfold cleanGo; rw [h]; simp only [h2]
theorem cleanGo_yes {s p : ByteArray} {r st st' : List ByteArray} {last : ByteArray} (h : partS s = some p) (h2 : cleanStep st p = some st') : cleanGo (s :: r) st last = cleanGo r st' p := by
  conv => lhs; unfold cleanGo
  rw [h]; simp only [h2]

end Go.Proofs.YthjnmcciejfpcaaDoor

namespace Go.Proofs.YthjnmcciejfpcaaDoor
set_option linter.unusedVariables false
set_option linter.unusedSimpArgs false
open Go.RowKit

def xtB (p : ByteArray) (i j : Nat) : ByteArray := mk (((L p).take j).drop i)
theorem xtB_eq (p : ByteArray) (i j : Nat) : p.extract i j = xtB p i j := L_inj (by rw [L_ext]; unfold xtB; rw [L_mk])
def emptyE (p : ByteArray) : Bool := (L p).isEmpty
def cleanStepE (st : List ByteArray) (p : ByteArray) : Option (List ByteArray) :=
  if emptyE p || L p == [46] then some st else if L p == [46, 46] then (if st.length = 0 then none else some (st.take (st.length - 1))) else some (st ++ [p])
theorem cleanStepE_eq : cleanStep = cleanStepE := by
  funext st p
  unfold cleanStep cleanStepE emptyE
  rw [eq_dot, eq_dots, toList_L]
def cleanGoE : List ByteArray → List ByteArray → ByteArray → Option (List ByteArray × ByteArray)
  | [], st, last => some (st, last)
  | s :: r, st, _ => match partS s with
    | none => none
    | some p => match cleanStepE st p with
      | none => none
      | some st' => cleanGoE r st' p
theorem cleanGoE_eq : ∀ l st last, cleanGo l st last = cleanGoE l st last
  | [], _, _ => rfl
  | s :: r, st, last => by
    unfold cleanGo cleanGoE
    rw [cleanStepE_eq]
    cases partS s with
    | none => rfl
    | some p =>
      simp only []
      cases cleanStepE st p with
      | none => rfl
      | some st' => exact cleanGoE_eq r st' p
def cleanOutE (r : List ByteArray × ByteArray) : List UInt8 :=
  if Nat.blt 0 r.1.length && (emptyE r.2 || L r.2 == [46] || L r.2 == [46, 46]) then 47 :: (Lib.join (r.1.map L) [47] ++ [47]) else 47 :: Lib.join (r.1.map L) [47]
theorem cleanOutE_eq (r : List ByteArray × ByteArray) : cleanOut r = mk (cleanOutE r) := by
  have hj : joinB r.1 = mk (Lib.join (r.1.map L) [47]) := rfl
  have hd : dotB r.2 = (emptyE r.2 || L r.2 == [46] || L r.2 == [46, 46]) := by unfold dotB emptyE; rw [eq_dot, eq_dots, toList_L]
  have hb : decide (0 < r.1.length) = Nat.blt 0 r.1.length := by rw [Bool.eq_iff_iff]; simp [Nat.blt_eq]
  unfold cleanOut cleanOutE
  rw [hj, hd, hb]
  split
  · apply L_inj; simp [L_app, L_mk]
  · apply L_inj; simp [L_app, L_mk]
def cleanE (s : ByteArray) : Option ByteArray :=
  if Lib.hasPrefix (L s) [47] then (cleanGoE ((cutC 47 ((L s).drop 1)).map mk) [] ⟨#[]⟩).map (fun r => mk (cleanOutE r)) else none
theorem cleanE_eq (s : ByteArray) : cleanS s = cleanE s := by
  unfold cleanS cleanE cutB
  rw [L_end, cleanGoE_eq]
  have : cleanOut = fun r => mk (cleanOutE r) := funext cleanOutE_eq
  rw [this]
def segsE' (s : ByteArray) : List ByteArray := (segsL (L s)).map mk
theorem segsE'_eq (s : ByteArray) : segs s = segsE' s := segs_eq s
theorem begS_E (p q : ByteArray) : begS p q = (decide ((segsE' q).length ≤ (segsE' p).length) && decide ((segsE' p).take (segsE' q).length = segsE' q)) := by unfold begS; rw [segsE'_eq, segsE'_eq]
theorem pk1 : cleanS ⟨#[47, 97, 47, 46, 46, 47, 98, 47, 46, 47]⟩ = some ⟨#[47, 98, 47]⟩ := by rw [cleanE_eq]; kernel_rfl
theorem pk2 : cleanS ⟨#[47, 47, 120, 47, 47, 37, 52, 49]⟩ = some ⟨#[47, 120, 47, 65]⟩ := by rw [cleanE_eq]; kernel_rfl
theorem pk3 : cleanS ⟨#[47, 46, 46]⟩ = none := by rw [cleanE_eq]; kernel_rfl
theorem pk4 : cleanS ⟨#[47, 97, 37, 50, 102, 98]⟩ = none := by rw [cleanE_eq]; kernel_rfl
theorem pk5 : cleanS ⟨#[47]⟩ = some ⟨#[47]⟩ := by rw [cleanE_eq]; kernel_rfl
theorem pk6 : segs ⟨#[47, 97, 47, 47, 98, 47]⟩ = [⟨#[97]⟩, ⟨#[98]⟩] := by rw [segsE'_eq]; kernel_rfl
theorem pk7 : begS ⟨#[47, 97, 47, 98]⟩ ⟨#[47, 97, 47]⟩ = true := by rw [begS_E]; decide +kernel
theorem pk8 : begS ⟨#[47, 97, 98]⟩ ⟨#[47, 97]⟩ = false := by rw [begS_E]; decide +kernel
end Go.Proofs.YthjnmcciejfpcaaDoor

namespace Go.Proofs.YthjnmcciejfpcaaDoor
set_option linter.unusedVariables false
set_option linter.unusedSimpArgs false
open Go.RowKit

def trimB (s cut : ByteArray) : ByteArray := mk (Lib.trimS (L s) (L cut))
theorem dropWhile_len {p : UInt8 → Bool} : ∀ l : List UInt8, (l.dropWhile p).length ≤ l.length
  | [] => Nat.le_refl _
  | c :: l => by
    have := dropWhile_len (p := p) l
    rw [List.dropWhile_cons]
    split <;> simp <;> omega
theorem trimB_size (s cut : ByteArray) : (trimB s cut).size ≤ s.size := by
  unfold trimB Lib.trimS Lib.trimLeftS Lib.trimRightS
  rw [mk_size]
  refine Nat.le_trans (dropWhile_len _) ?_
  rw [List.length_reverse]
  refine Nat.le_trans (dropWhile_len _) ?_
  rw [List.length_reverse]
  exact Nat.le_of_eq (L_len s)
theorem dropWhile_nil {p : UInt8 → Bool} : ∀ l : List UInt8, l.dropWhile p = [] ↔ l.all p = true
  | [] => by simp
  | c :: l => by
    rw [List.dropWhile_cons, List.all_cons]
    cases hp : p c
    · simp
    · simp [dropWhile_nil l]
theorem trimS_nil (l cs : List UInt8) : Lib.trimS l cs = [] ↔ l.all (fun c => cs.contains c) = true := by
  unfold Lib.trimS Lib.trimLeftS Lib.trimRightS
  rw [dropWhile_nil]
  constructor
  · intro h
    have h1 : l.reverse.all (fun c => cs.contains c) = true := by
      have h2 := List.takeWhile_append_dropWhile (p := fun c => cs.contains c) (l := l.reverse)
      rw [← h2, List.all_append, Bool.and_eq_true]
      refine ⟨?_, by rw [List.all_reverse] at h; exact h⟩
      exact List.all_takeWhile
    rw [List.all_reverse] at h1; exact h1
  · intro h
    have h1 : l.reverse.dropWhile (fun c => cs.contains c) = [] := (dropWhile_nil _).2 (by rw [List.all_reverse]; exact h)
    rw [h1]; rfl
theorem trimB_empty (s cut : ByteArray) : (trimB s cut).toList.isEmpty = (L s).all (fun c => (L cut).contains c) := by
  rw [toList_L]
  unfold trimB
  rw [L_mk, Bool.eq_iff_iff, List.isEmpty_iff, trimS_nil]

def isPlainB (c : UInt8) : Bool := ((decide (97 ≤ (c.toNat : Int)) && decide ((c.toNat : Int) ≤ 122)) || (decide (65 ≤ (c.toNat : Int)) && decide ((c.toNat : Int) ≤ 90))) || (decide (48 ≤ (c.toNat : Int)) && decide ((c.toNat : Int) ≤ 57))
def tokL : List UInt8 := [33, 35, 36, 37, 38, 39, 42, 43, 45, 46, 94, 95, 96, 124, 126]
def isTokB (c : UInt8) : Bool := tokL.contains c || isPlainB c
def octTrim (s : ByteArray) : ByteArray := trimB s ⟨#[32, 9]⟩
end Go.Proofs.YthjnmcciejfpcaaDoor

namespace Go.Proofs.YthjnmcciejfpcaaDoor
set_option linter.unusedVariables false
set_option linter.unusedSimpArgs false
open Go.RowKit

theorem segs_at (s : ByteArray) (l : List ByteArray) (n : Nat) (w : World) (h : segs s = l) (hn : l.length = n) (hm : MaxL w) (hs : s.size < 4294967281) :
    Calls Tryd.prog 38 #[.string s] w fun e w' => (∃ A c, e = .returned (.slice A n c) ∧ n ≤ c ∧ Strs w' A l) ∧ Below w.heap.size w w' := by subst h hn; exact path_Segments s w hm hs

end Go.Proofs.YthjnmcciejfpcaaDoor
