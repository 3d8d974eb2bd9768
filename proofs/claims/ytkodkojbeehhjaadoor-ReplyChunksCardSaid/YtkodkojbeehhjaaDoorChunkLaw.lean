/- What wrapped parts and an end are to the document's machine for chunks: plain law, no program in sight. -/
import Derived.Test.YtkodkojbeehhjaaDoorFeed
import Derived.Test.YtkodkojbeehhjaaDoorHex
import Derived.Test.YtkodkojbeehhjaaDoorReply2
namespace Go.Proofs.YtkodkojbeehhjaaDoor
open Go.RowKit

def Steps (t : CS) (bs : List UInt8) (u : CS) : Prop := ∀ rest k, feedL t (bs ++ rest) k = feedL u rest (k + (bs.length : Int))
theorem Steps.nil (t : CS) : Steps t [] t := fun rest k => by show feedL t rest k = feedL t rest (k + 0); rw [Int.add_zero]
theorem Steps.trans {t u v : CS} {a b : List UInt8} (h : Steps t a u) (h2 : Steps u b v) : Steps t (a ++ b) v := fun rest k => by
  rw [List.append_assoc, h, h2, List.length_append]; congr 1; omega
theorem Steps.one {t u : CS} {c : UInt8} (h4 : t.state ≠ 4) (h : byteS t c = (u, 0)) : Steps t [c] u := fun rest k => by
  show feedL t (c :: rest) k = _
  rw [feedL, if_neg h4, h, if_pos rfl]; rfl
/-- the machine between chunks, within one -/
def mkS (M state : Int) (line : ByteArray) (cr : Bool) (left : Int) (b : ByteArray) : CS := ⟨M, state, line, cr, left, 0, b, false, false⟩
theorem byte_cr (M state : Int) (line : ByteArray) (left : Int) (b : ByteArray) (h : state ≠ 1) : byteS (mkS M state line false left b) 13 = (mkS M state line true left b, 0) := by
  unfold byteS mkS; rw [if_neg (by simpa using h), if_neg (by simp), if_pos (by decide)]
theorem byte_lf (M state : Int) (line : ByteArray) (left : Int) (b : ByteArray) (h : state ≠ 1) : byteS (mkS M state line true left b) 10 = lineS (mkS M state ⟨#[]⟩ false left b) line := by
  unfold byteS mkS; rw [if_neg (by simpa using h), if_neg (by simp only []; decide), if_neg (by decide), if_neg (by simp), if_pos (by decide)]
theorem byte_line (M : Int) (line : ByteArray) (left : Int) (b : ByteArray) (c : UInt8) (h10 : c.toNat ≠ 10) (h13 : c.toNat ≠ 13) (hz : line.size + 1 ≤ 1024) :
    byteS (mkS M 0 line false left b) c = (mkS M 0 (line ++ ⟨#[c]⟩) false left b, 0) := by
  have hs : (line ++ (⟨#[c]⟩ : ByteArray)).size = line.size + 1 := size_app _ _
  unfold byteS mkS
  rw [if_neg (by simp), if_neg (by simp [h10]), if_neg h13, if_neg (by simp), if_neg h10]
  simp only [hs]
  rw [if_neg (by omega), if_neg (by omega)]
theorem byte_data (M : Int) (left : Int) (b : ByteArray) (c : UInt8) : byteS (mkS M 1 ⟨#[]⟩ false left b) c = (mkS M (if left - 1 = 0 then 2 else 1) ⟨#[]⟩ false (left - 1) (b ++ ⟨#[c]⟩), 0) := by
  unfold byteS mkS; rw [if_pos rfl]
theorem app_cons (a : ByteArray) (c : UInt8) (l : List UInt8) : a ++ (⟨(c :: l).toArray⟩ : ByteArray) = a ++ ⟨#[c]⟩ ++ ⟨l.toArray⟩ := by
  apply ByteArray.ext; simp
theorem app_nil (a : ByteArray) : a ++ (⟨#[]⟩ : ByteArray) = a := by apply ByteArray.ext; simp
theorem steps_line (M left : Int) (b : ByteArray) : ∀ (cs : List UInt8) (line : ByteArray), (∀ c ∈ cs, c.toNat ≠ 10 ∧ c.toNat ≠ 13) → line.size + cs.length ≤ 1024 →
    Steps (mkS M 0 line false left b) cs (mkS M 0 (line ++ ⟨cs.toArray⟩) false left b)
  | [], line, _, _ => by
    have := Steps.nil (mkS M 0 line false left b)
    rwa [show line ++ (⟨([] : List UInt8).toArray⟩ : ByteArray) = line from app_nil line]
  | c :: cs, line, h, hz => by
    have hz' : line.size + (cs.length + 1) ≤ 1024 := hz
    have h1 : Steps (mkS M 0 line false left b) [c] (mkS M 0 (line ++ ⟨#[c]⟩) false left b) := Steps.one (by show (0 : Int) ≠ 4; decide) (byte_line M line left b c (h c (by simp)).1 (h c (by simp)).2 (by omega))
    have h2 := steps_line M left b cs (line ++ ⟨#[c]⟩) (fun d hd => h d (by simp [hd])) (by rw [size_app]; show _ + 1 + _ ≤ _; omega)
    rw [app_cons]
    exact h1.trans h2
theorem steps_data (M : Int) : ∀ (cs : List UInt8) (b : ByteArray), cs ≠ [] → Steps (mkS M 1 ⟨#[]⟩ false cs.length b) cs (mkS M 2 ⟨#[]⟩ false 0 (b ++ ⟨cs.toArray⟩))
  | [], _, h => absurd rfl h
  | [c], b, _ => by
    have h := byte_data M 1 b c
    exact Steps.one (by show (1 : Int) ≠ 4; decide) h
  | c :: d :: cs, b, _ => by
    have h := byte_data M ((c :: d :: cs).length : Nat) b c
    have e : (((c :: d :: cs).length : Nat) : Int) - 1 = ((d :: cs).length : Nat) := by simp only [List.length_cons]; omega
    rw [e, if_neg (by simp only [List.length_cons]; omega)] at h
    have h1 : Steps _ [c] _ := Steps.one (by show (1 : Int) ≠ 4; decide) h
    rw [app_cons]
    exact h1.trans (steps_data M (d :: cs) (b ++ ⟨#[c]⟩) (by simp))

/-! ### digits of base 16, read again -/
theorem nib_hexD : ∀ r : Nat, r < 16 → nib (hexD r) = (r : Int) := by decide
theorem hexD_plain : ∀ r : Nat, r < 16 → (hexD r).toNat ≠ 10 ∧ (hexD r).toNat ≠ 13 ∧ hexD r ≠ 59 := by decide
theorem hexL_mem (u : Nat) : ∀ c ∈ hexL u, ∃ r, r < 16 ∧ c = hexD r := by
  induction u using Nat.strongRecOn with
  | ind u ih =>
    by_cases h : u < 16
    · rw [hexL_small h]; intro c hc; simp at hc; exact ⟨u, h, hc⟩
    · rw [hexL_big h]; intro c hc
      rcases List.mem_append.1 hc with hc | hc
      · exact ih (u / 16) (by omega) c hc
      · simp at hc; exact ⟨u % 16, by omega, hc⟩
theorem hexFold_app : ∀ (l : List UInt8) (c : UInt8) (a : Nat), hexFold (l ++ [c]) a = (hexFold l a).bind fun v => if nib c < 0 then none else some (v * 16 + (nib c).toNat)
  | [], c, a => rfl
  | d :: l, c, a => by
    show (if nib d < 0 then none else hexFold (l ++ [c]) _) = (if nib d < 0 then none else hexFold l _).bind _
    split
    · rfl
    · exact hexFold_app l c _
theorem hexFold_hexL (u : Nat) : hexFold (hexL u) 0 = some u := by
  induction u using Nat.strongRecOn with
  | ind u ih =>
    by_cases h : u < 16
    · rw [hexL_small h]
      show (if nib (hexD u) < 0 then none else some (0 * 16 + (nib (hexD u)).toNat)) = _
      rw [nib_hexD u h, if_neg (by omega)]; congr 1; omega
    · rw [hexL_big h, hexFold_app, ih (u / 16) (by omega)]
      show (if nib (hexD (u % 16)) < 0 then none else some (u / 16 * 16 + (nib (hexD (u % 16))).toNat)) = _
      rw [nib_hexD _ (by omega), if_neg (by omega)]; congr 1; omega
theorem hexL_len7 : ∀ (k u : Nat), u < 16 ^ (k + 1) → 1 ≤ (hexL u).length ∧ (hexL u).length ≤ k + 1 := by
  intro k
  induction k with
  | zero => intro u hu; rw [hexL_small (by simpa using hu)]; exact ⟨Nat.le_refl _, Nat.le_refl _⟩
  | succ k ih =>
    intro u hu
    by_cases h16 : u < 16
    · rw [hexL_small h16]; simp
    · have := ih (u / 16) (by rw [Nat.pow_succ] at hu; omega)
      rw [hexL_big h16, List.length_append]
      show 1 ≤ _ + 1 ∧ _ + 1 ≤ _
      omega
theorem hexV_hexB (u : Nat) (h : u < 16 ^ 7) : hexV (hexB u) = some u := by
  have hl := hexL_len7 6 u h
  have hs : (hexB u).size = (hexL u).length := rfl
  unfold hexV
  rw [if_neg (by omega)]
  exact hexFold_hexL u
theorem headP_hexB (u : Nat) : headP (hexB u) = hexB u := by
  unfold headP
  rw [splitL_none]
  · rfl
  · intro i hi
    have hm : (hexB u)[i] ∈ hexL u := by
      have := List.getElem_mem (l := (hexB u).data.toList) (n := i) hi
      exact this
    obtain ⟨r, hr, e⟩ := hexL_mem u _ hm
    rw [e]; exact (hexD_plain r hr).2.2

/-! ### a chunk, the end -/
theorem wrap_list (s : ByteArray) (h : s.toList.isEmpty = false) : (wrapB s).data.toList = hexL s.size ++ [13] ++ [10] ++ s.data.toList ++ [13] ++ [10] := by
  unfold wrapB; rw [h]; simp [hexB]
theorem steps_wrap (M : Int) (b s : ByteArray) (hM : ((b ++ s).size : Int) ≤ M) (h7 : s.size < 16 ^ 7) : Steps (mkS M 0 ⟨#[]⟩ false 0 b) (wrapB s).data.toList (mkS M 0 ⟨#[]⟩ false 0 (b ++ s)) := by
  cases he : s.toList.isEmpty
  · have hne : s.data.toList ≠ [] := by rw [toList_data] at he; intro h; rw [h] at he; cases he
    have hs0 : s.size ≠ 0 := fun h => hne (List.eq_nil_of_length_eq_zero h)
    have hl := hexL_len7 6 s.size h7
    rw [wrap_list s he]
    have h1 := steps_line M 0 b (hexL s.size) ⟨#[]⟩ (fun c hc => by obtain ⟨r, hr, e⟩ := hexL_mem _ c hc; rw [e]; exact ⟨(hexD_plain r hr).1, (hexD_plain r hr).2.1⟩) (by show 0 + _ ≤ _; omega)
    rw [show (⟨#[]⟩ : ByteArray) ++ ⟨(hexL s.size).toArray⟩ = hexB s.size by apply ByteArray.ext; simp [hexB]] at h1
    have h2 : Steps _ [13] _ := Steps.one (by show (0 : Int) ≠ 4; decide) (byte_cr M 0 (hexB s.size) 0 b (by decide))
    have hline : lineS (mkS M 0 ⟨#[]⟩ false 0 b) (hexB s.size) = (mkS M 1 ⟨#[]⟩ false s.size b, 0) := by
      unfold lineS mkS
      rw [if_neg (by simp), if_neg (by simp), headP_hexB, hexV_hexB _ h7]
      simp only []
      rw [size_app] at hM
      rw [if_neg (by omega), if_neg hs0]
    have h3 : Steps _ [10] _ := Steps.one (by show (0 : Int) ≠ 4; decide) ((byte_lf M 0 (hexB s.size) 0 b (by decide)).trans hline)
    have h4 := steps_data M s.data.toList b hne
    have h5 : Steps _ [13] _ := Steps.one (by show (2 : Int) ≠ 4; decide) (byte_cr M 2 ⟨#[]⟩ 0 (b ++ s) (by decide))
    have hline2 : lineS (mkS M 2 ⟨#[]⟩ false 0 (b ++ s)) ⟨#[]⟩ = (mkS M 0 ⟨#[]⟩ false 0 (b ++ s), 0) := by unfold lineS mkS; rw [if_pos rfl]
    have h6 : Steps _ [10] _ := Steps.one (by show (2 : Int) ≠ 4; decide) ((byte_lf M 2 ⟨#[]⟩ 0 (b ++ s) (by decide)).trans hline2)
    exact ((((h1.trans h2).trans h3).trans h4).trans h5).trans h6
  · have hnil : s.data.toList = [] := by rw [toList_data] at he; exact List.isEmpty_iff.1 he
    have hs : s = ⟨#[]⟩ := by apply ByteArray.ext; exact Array.toList_inj.1 hnil
    have hw : wrapB s = ⟨#[]⟩ := by unfold wrapB; rw [he]; rfl
    rw [hw, hs, app_nil]
    exact Steps.nil _
theorem steps_end (M : Int) (b : ByteArray) (hM : (b.size : Int) ≤ M) : Steps (mkS M 0 ⟨#[]⟩ false 0 b) (endB true).data.toList (mkS M 4 ⟨#[]⟩ false 0 b) := by
  have h1 := steps_line M 0 b [48] ⟨#[]⟩ (fun c hc => by simp at hc; subst hc; decide) (by decide)
  rw [show (⟨#[]⟩ : ByteArray) ++ ⟨([48] : List UInt8).toArray⟩ = ⟨#[48]⟩ by apply ByteArray.ext; simp] at h1
  have h2 : Steps _ [13] _ := Steps.one (by show (0 : Int) ≠ 4; decide) (byte_cr M 0 ⟨#[48]⟩ 0 b (by decide))
  have hline : lineS (mkS M 0 ⟨#[]⟩ false 0 b) ⟨#[48]⟩ = (mkS M 3 ⟨#[]⟩ false 0 b, 0) := by
    have e : (⟨#[48]⟩ : ByteArray) = hexB 0 := by unfold hexB; rw [hexL_small (by decide)]; rfl
    unfold lineS mkS
    rw [if_neg (by simp), if_neg (by simp), e, headP_hexB, hexV_hexB 0 (by decide)]
    simp only []
    rw [if_neg (by omega), if_pos trivial]; rfl
  have h3 : Steps _ [10] _ := Steps.one (by show (0 : Int) ≠ 4; decide) ((byte_lf M 0 ⟨#[48]⟩ 0 b (by decide)).trans hline)
  have h5 : Steps _ [13] _ := Steps.one (by show (3 : Int) ≠ 4; decide) (byte_cr M 3 ⟨#[]⟩ 0 b (by decide))
  have hline2 : lineS (mkS M 3 ⟨#[]⟩ false 0 b) ⟨#[]⟩ = (mkS M 4 ⟨#[]⟩ false 0 b, 0) := by unfold lineS mkS; rw [if_neg (by simp), if_pos rfl, show (⟨#[]⟩ : ByteArray).toList.isEmpty = true by rw [toList_data]; rfl]; rfl
  have h6 : Steps _ [10] _ := Steps.one (by show (3 : Int) ≠ 4; decide) ((byte_lf M 3 ⟨#[]⟩ 0 b (by decide)).trans hline2)
  exact (((h1.trans h2).trans h3).trans h5).trans h6

/-! ### parts together -/
def cat (l : List ByteArray) : ByteArray := l.foldl (fun r s => r ++ s) ⟨#[]⟩
theorem cat_snoc (l : List ByteArray) (s : ByteArray) : cat (l ++ [s]) = cat l ++ s := by simp [cat]
def wraps (l : List ByteArray) : ByteArray := l.foldl (fun r s => r ++ wrapB s) ⟨#[]⟩
theorem wraps_snoc (l : List ByteArray) (s : ByteArray) : wraps (l ++ [s]) = wraps l ++ wrapB s := by simp [wraps]
theorem steps_wraps (M : Int) (hM7 : M < 16 ^ 7) (l : List ByteArray) : ((cat l).size : Int) ≤ M → Steps (mkS M 0 ⟨#[]⟩ false 0 ⟨#[]⟩) (wraps l).data.toList (mkS M 0 ⟨#[]⟩ false 0 (cat l)) := by
  refine list_snoc_ind (p := fun l => ((cat l).size : Int) ≤ M → Steps (mkS M 0 ⟨#[]⟩ false 0 ⟨#[]⟩) (wraps l).data.toList (mkS M 0 ⟨#[]⟩ false 0 (cat l))) (fun _ => Steps.nil _) (fun l a ih => ?_) l
  intro h
  rw [cat_snoc] at h ⊢
  have h' := h
  rw [size_app] at h'
  rw [wraps_snoc, show (wraps l ++ wrapB a).data.toList = (wraps l).data.toList ++ (wrapB a).data.toList by simp]
  exact (ih (by omega)).trans (steps_wrap M (cat l) a h (by omega))
theorem feed_wraps (M : Int) (hM7 : M < 16 ^ 7) (l : List ByteArray) (h : ((cat l).size : Int) ≤ M) :
    feedS (mkS M 0 ⟨#[]⟩ false 0 ⟨#[]⟩) (wraps l ++ endB true) = (mkS M 4 ⟨#[]⟩ false 0 (cat l), ((wraps l ++ endB true).size : Int), 0) := by
  have h1 := (steps_wraps M hM7 l h).trans (steps_end M (cat l) h)
  have h2 := h1 [] 0
  rw [List.append_nil, ← show (wraps l ++ endB true).data.toList = (wraps l).data.toList ++ (endB true).data.toList by simp] at h2
  unfold feedS
  show (if false = true then _ else _) = _
  rw [if_neg (by decide), h2, Int.zero_add]
  rfl
end Go.Proofs.YtkodkojbeehhjaaDoor
