/- conduitlaw6.known. -/
import Derived.Test.YtdagppbpeibdgaaDoorFld3
import Derived.Test.YtdagppbpeibdgaaDoorFV
namespace Go.Proofs.YtdagppbpeibdgaaDoor
set_option linter.unusedVariables false
set_option linter.unusedSimpArgs false
open Go.RowKit

theorem parse_at (line : ByteArray) (r : Int × ByteArray × ByteArray) (w : World) (h : parseS line = r) (hs : line.size ≤ 1000000000) :
    Calls Tryd.prog 16 #[.string line] w fun e w' => e = .returned (parseR r) ∧ Below w.heap.size w w' := h ▸ field_Parse line w hs
def l6 : List Pr := [(⟨#[65]⟩, ⟨#[120, 44, 32, 121]⟩), (⟨#[98]⟩, ⟨#[49]⟩), (⟨#[97]⟩, ⟨#[50]⟩)]
theorem l6_sz : ∀ p ∈ l6, p.1.size ≤ 9223372036854775807 := by
  intro p hp
  simp only [l6, List.mem_cons, List.not_mem_nil, or_false] at hp
  rcases hp with rfl | rfl | rfl <;> decide
theorem l6_val : ∀ p ∈ l6, p.2.size ≤ 1000000000 := by
  intro p hp
  simp only [l6, List.mem_cons, List.not_mem_nil, or_false] at hp
  rcases hp with rfl | rfl | rfl <;> decide
theorem getS_mem {l : List Pr} {name v : ByteArray} (h : v ∈ getS l name) : ∃ p ∈ l, p.2 = v := by
  unfold getS at h
  obtain ⟨p, hp, rfl⟩ := List.mem_map.1 h
  exact ⟨p, (List.mem_filter.1 hp).1, rfl⟩
theorem l6_get (name : ByteArray) : ∀ v ∈ getS l6 name, v.size ≤ 1000000000 := fun v hv => by
  obtain ⟨p, hp, rfl⟩ := getS_mem hv
  exact l6_val p hp
/-! ### for the kernel -/
def sameE (a b : ByteArray) : Bool := lowL (L a) == lowL (L b)
theorem sameE_eq (a b : ByteArray) : eqB (lowB a) (lowB b) = sameE a b := by
  rw [eqB_L]; unfold sameE lowB
  have h : ∀ l : List UInt8, L ⟨l.toArray⟩ = l := fun l => by simp [L]
  rw [h, h]
def getK (l : List Pr) (name : ByteArray) : List ByteArray := (l.filter fun p => sameE p.1 name).map (·.2)
theorem getK_eq (l : List Pr) (name : ByteArray) : getS l name = getK l name := by
  unfold getS getK
  congr 2
  funext p; exact sameE_eq _ _
def listK (s : ByteArray) : List ByteArray := ((cutB s 44).map octTrim).filter fun x => !(L x).isEmpty
theorem listK_eq (s : ByteArray) : listS s = listK s := by
  unfold listS lN listK
  rw [List.take_length]
  congr 1
  funext x; unfold full; rw [toList_L]
def hasK (l : List Pr) (name word : ByteArray) : Bool := (getK l name).any fun v => (listK v).any fun x => sameE x word
theorem hasK_eq (l : List Pr) (name word : ByteArray) : hasS l name word = hasK l name word := by
  unfold hasS hasK
  rw [getK_eq]
  congr 1
  funext v
  rw [listK_eq]
  congr 1
  funext x; unfold isW; exact sameE_eq _ _
def dropK (l : List Pr) (name : ByteArray) : List Pr := l.filter fun p => !(sameE p.1 name)
theorem dropK_eq (l : List Pr) (name : ByteArray) : dropL l name = dropK l name := by
  unfold dropL dropK
  congr 1
  funext p; unfold keep; rw [sameE_eq]
theorem k6a : parseS ⟨#[65, 58, 32, 32, 98, 32]⟩ = (0, ⟨#[65]⟩, ⟨#[98]⟩) := by rw [parseK_eq]; kernel_rfl
theorem k6b : parseS ⟨#[97, 32, 98, 58, 32, 99]⟩ = (10, ⟨#[]⟩, ⟨#[]⟩) := by rw [parseK_eq]; kernel_rfl
theorem k6c : parseS ⟨#[97]⟩ = (10, ⟨#[]⟩, ⟨#[]⟩) := by rw [parseK_eq]; kernel_rfl
theorem k6d : getS l6 ⟨#[97]⟩ = [⟨#[120, 44, 32, 121]⟩, ⟨#[50]⟩] := by rw [getK_eq]; kernel_rfl
theorem k6e : hasS l6 ⟨#[65]⟩ ⟨#[89]⟩ = true := by rw [hasK_eq]; kernel_rfl
theorem k6f : hasS l6 ⟨#[98]⟩ ⟨#[120]⟩ = false := by rw [hasK_eq]; kernel_rfl
theorem k6g : (dropL l6 ⟨#[97]⟩).length = 1 := by rw [dropK_eq]; kernel_rfl
theorem k6h : fieldOk ⟨#[65]⟩ ⟨#[98]⟩ = true := by rw [fieldK_eq]; kernel_rfl
theorem k6i : fieldOk ⟨#[]⟩ ⟨#[]⟩ = false := by rw [fieldK_eq]; kernel_rfl
theorem k6j : linesB [(⟨#[65]⟩, ⟨#[98]⟩)] = ⟨#[65, 58, 32, 98, 13, 10]⟩ := by rfl
theorem is_at6 (a b : ByteArray) (v : Bool) (w : World) (h : fieldOk a b = v) (ha : a.size ≤ 9223372036854775807) (hb : b.size ≤ 9223372036854775807) :
    Calls Tryd.prog 14 #[.agg #[.string a, .string b]] w fun e w' => e = .returned (.bool v) ∧ Below w.heap.size w w' := h ▸ fld_Is a b w ha hb
theorem has_at (A : Option Addr) (c n : Nat) (l : List Pr) (name word : ByteArray) (v : Bool) (w : World) (h : hasS l name word = v) (hn : l.length = n) (hl : n ≤ 4398046511103) (hp : Pairs w A l) (hz : name.size ≤ 9223372036854775807) (hw : word.size ≤ 9223372036854775807)
    (hs : ∀ p ∈ l, p.1.size ≤ 9223372036854775807) (hv : ∀ v ∈ getS l name, v.size ≤ 1000000000) (hm : MaxL w) :
    Calls Tryd.prog 20 #[.slice A n c, .string name, .string word] w fun e w' => e = .returned (.bool v) ∧ Below w.heap.size w w' := h ▸ field_Has A c n l name word w hn hl hp hz hw hs hv hm
theorem get_at (A : Option Addr) (c n : Nat) (l : List Pr) (name : ByteArray) (vs : List ByteArray) (m : Nat) (w : World) (h : getS l name = vs) (hm : vs.length = m) (hn : l.length = n) (hl : n ≤ 4398046511103) (hp : Pairs w A l) (hz : name.size ≤ 9223372036854775807)
    (hs : ∀ p ∈ l, p.1.size ≤ 9223372036854775807) :
    Calls Tryd.prog 18 #[.slice A n c, .string name] w fun e w' => (∃ A' c', e = .returned (.slice A' m c') ∧ Strs w' A' vs) ∧ Below w.heap.size w w' := by
  subst h hm; exact field_Get A c n l name w hn hl hp hz hs
theorem drop_at (A : Option Addr) (c n : Nat) (l : List Pr) (name : ByteArray) (ds : List Pr) (m : Nat) (w : World) (h : dropL l name = ds) (hm : ds.length = m) (hn : l.length = n) (hl : n ≤ 4398046511103) (hp : Pairs w A l) (hz : name.size ≤ 9223372036854775807)
    (hs : ∀ p ∈ l, p.1.size ≤ 9223372036854775807) :
    Calls Tryd.prog 17 #[.slice A n c, .string name] w fun e w' => (∃ v, e = .returned v ∧ w'.ownsRow w.heap.size 23 2 v m (pcells ds)) ∧ Below w.heap.size w w' := by
  subst h hm hn; exact field_Drop A c l name w hl hp hz hs
theorem Pairs.newAt {w : World} {g : Nat} (hg : g = w.heap.size) (l : List Pr) (t : TypeId) : Pairs (w.alloc (.cells (pcells l).toArray t)) (some ⟨g, 0, none⟩) l := hg ▸ Pairs.new w l t
theorem own_slice {w : World} {base e size n : Nat} {v : Value} {xs : List Value} (h : w.ownsRow base e size v n xs) : ∃ A c, v = .slice A n c := by
  rcases h.2 with ⟨rfl, h0⟩ | ⟨g, cap, cur, hv, _⟩
  · exact ⟨none, 0, by rw [h0]⟩
  · exact ⟨_, cap, hv⟩
set_option maxRecDepth 100000 in
set_option maxHeartbeats 8000000 in
theorem law6_known (w : World) (hm : MaxL w) : Calls Tryd.prog 13 #[] w fun e w' => e = .returned (.bool true) ∧ Below w.heap.size w w' := by
  have HM := Lib.hid hm
  clear hm
  go_enter Tryd.func13, Tryd.ntmps13
  go_wp2_with fail
  refine (parse_at _ _ _ k6a (by decide)).mono ?_
  rintro e w1 ⟨rfl, hb1⟩
  unfold parseR errV
  have HB1 := Lib.hid (Box.new w1 [.string ⟨#[65]⟩, .string ⟨#[98]⟩] 23)
  have H1 := Lib.hid (fr_alloc hb1 (.cells #[.string ⟨#[65]⟩, .string ⟨#[98]⟩] 23))
  clear hb1
  go_wp2_with fail
  refine (parse_at _ _ _ k6b (by decide)).mono ?_
  rintro e w2 ⟨rfl, hb2⟩
  unfold parseR errV
  have HB2 := Lib.hid ((HB1.out.fr hb2).fr (fr_alloc (fr_refl _) (.cells #[.string ⟨#[]⟩, .string ⟨#[]⟩] 23)))
  have H2 := Lib.hid (fr_alloc (fr_trans H1.out hb2) (.cells #[.string ⟨#[]⟩, .string ⟨#[]⟩] 23))
  clear hb2
  go_wp2_with fail
  refine (parse_at _ _ _ k6c (by decide)).mono ?_
  rintro e w3 ⟨rfl, hb3⟩
  unfold parseR errV
  have HB3 := Lib.hid ((HB2.out.fr hb3).fr (fr_alloc (fr_refl _) (.cells #[.string ⟨#[]⟩, .string ⟨#[]⟩] 23)))
  have x3 := HB2.out.fr hb3
  have qc0 : w3.cell? ⟨w1.heap.size, 0, none⟩ = some (.string ⟨#[65]⟩) := x3.2 0 _ rfl
  have qc1 : w3.cell? ⟨w1.heap.size, 1, none⟩ = some (.string ⟨#[98]⟩) := x3.2 1 _ rfl
  have qlt : w1.heap.size < w3.heap.size := x3.1
  have HX3 := Lib.hid x3
  have H4 := Lib.hid (fr_alloc (fr_alloc (fr_trans H2.out hb3) (.cells #[.string ⟨#[]⟩, .string ⟨#[]⟩] 23)) (.cells #[.string ⟨#[65]⟩, .string ⟨#[120, 44, 32, 121]⟩, .string ⟨#[98]⟩, .string ⟨#[49]⟩, .string ⟨#[97]⟩, .string ⟨#[50]⟩] 23))
  have HP4 := Lib.hid (Pairs.newAt (w := w3.alloc (.cells #[.string ⟨#[]⟩, .string ⟨#[]⟩] 23)) (g := w3.heap.size + 1) (by simp) l6 23)
  have HX4 := Lib.hid ((HX3.out.fr (fr_alloc (fr_refl w3) (.cells #[.string ⟨#[]⟩, .string ⟨#[]⟩] 23))).fr (fr_alloc (fr_refl _) (.cells #[.string ⟨#[65]⟩, .string ⟨#[120, 44, 32, 121]⟩, .string ⟨#[98]⟩, .string ⟨#[49]⟩, .string ⟨#[97]⟩, .string ⟨#[50]⟩] 23)))
  clear hb3 x3
  go_wp2_with fail
  refine (is_errno 10 10 _).mono ?_
  rintro e wq ⟨rfl, rfl⟩
  go_wp2_with fail
  refine (is_errno 10 10 _).mono ?_
  rintro e wq ⟨rfl, rfl⟩
  go_wp2_with fail
  refine (get_at _ 3 3 l6 _ _ 2 _ k6d rfl rfl (by decide) HP4.out (by decide) l6_sz).mono ?_
  rintro e w5 ⟨⟨A5, c5, rfl, hS5⟩, hb5⟩
  have HP5 := Lib.hid ((HP4.out.fr hb5).fr (fr_alloc (fr_refl _) (.cells #[.string ⟨#[120, 44, 32, 121]⟩, .string ⟨#[50]⟩] 9)))
  have HX5 := Lib.hid ((HX4.out.fr hb5).fr (fr_alloc (fr_refl _) (.cells #[.string ⟨#[120, 44, 32, 121]⟩, .string ⟨#[50]⟩] 9)))
  have HS5 := Lib.hid (hS5.fr (fr_alloc (fr_refl _) (.cells #[.string ⟨#[120, 44, 32, 121]⟩, .string ⟨#[50]⟩] 9)))
  have H5 := Lib.hid (fr_alloc (fr_trans H4.out hb5) (.cells #[.string ⟨#[120, 44, 32, 121]⟩, .string ⟨#[50]⟩] 9))
  have HT5 := Lib.hid (Strs.new w5 [⟨#[120, 44, 32, 121]⟩, ⟨#[50]⟩] 9)
  clear hb5 hS5 qc0 qc1 qlt
  go_wp2_with fail
  refine (law6_same A5 _ 2 2 c5 2 [⟨#[120, 44, 32, 121]⟩, ⟨#[50]⟩] [⟨#[120, 44, 32, 121]⟩, ⟨#[50]⟩] _ rfl rfl HS5.out HT5.out (by decide) (by decide)).mono ?_
  rintro e w6 ⟨rfl, hb6⟩
  have hd : decide (([⟨#[120, 44, 32, 121]⟩, ⟨#[50]⟩] : List ByteArray) = [⟨#[120, 44, 32, 121]⟩, ⟨#[50]⟩]) = true := by simp
  rw [hd]
  clear hd
  have HP6 := Lib.hid (HP5.out.fr hb6); have HX6 := Lib.hid (HX5.out.fr hb6); have H6 := Lib.hid (fr_trans H5.out hb6)
  clear hb6
  go_wp2_with fail
  refine (has_at _ 3 3 l6 _ _ true _ k6e rfl (by decide) HP6.out (by decide) (by decide) l6_sz (l6_get _) (HM.out.fr H6.out)).mono ?_
  rintro e w7 ⟨rfl, hb7⟩
  have HP7 := Lib.hid (HP6.out.fr hb7); have HX7 := Lib.hid (HX6.out.fr hb7); have H7 := Lib.hid (fr_trans H6.out hb7)
  clear hb7
  go_wp2_with fail
  refine (has_at _ 3 3 l6 _ _ false _ k6f rfl (by decide) HP7.out (by decide) (by decide) l6_sz (l6_get _) (HM.out.fr H7.out)).mono ?_
  rintro e w8 ⟨rfl, hb8⟩
  have HP8 := Lib.hid (HP7.out.fr hb8); have HX8 := Lib.hid (HX7.out.fr hb8); have H8 := Lib.hid (fr_trans H7.out hb8)
  clear hb8
  go_wp2_with fail
  refine (drop_at _ 3 3 l6 _ _ 1 _ rfl k6g rfl (by decide) HP8.out (by decide) l6_sz).mono ?_
  rintro e w9 ⟨⟨v9, rfl, hown9⟩, hb9⟩
  obtain ⟨A9, c9, rfl⟩ := own_slice hown9
  have x9 := HX8.out.fr hb9
  have rc0 : w9.cell? ⟨w1.heap.size, 0, none⟩ = some (.string ⟨#[65]⟩) := x9.2 0 _ rfl
  have rc1 : w9.cell? ⟨w1.heap.size, 1, none⟩ = some (.string ⟨#[98]⟩) := x9.2 1 _ rfl
  have rlt : w1.heap.size < w9.heap.size := x9.1
  have HX9 := Lib.hid x9; have H9 := Lib.hid (fr_trans H8.out hb9)
  clear hb9 x9 hown9
  go_wp2_with fail
  refine (is_at6 _ _ true _ k6h (by decide) (by decide)).mono ?_
  rintro e wa ⟨rfl, hba⟩
  have HXa := Lib.hid (HX9.out.fr hba); have Ha := Lib.hid (fr_trans H9.out hba)
  clear hba rc0 rc1 rlt
  go_wp2_with fail
  refine (is_at6 _ _ false _ k6i (by decide) (by decide)).mono ?_
  rintro e wb ⟨rfl, hbb⟩
  have xb := HXa.out.fr hbb
  have sc0 : wb.cell? ⟨w1.heap.size, 0, none⟩ = some (.string ⟨#[65]⟩) := xb.2 0 _ rfl
  have sc1 : wb.cell? ⟨w1.heap.size, 1, none⟩ = some (.string ⟨#[98]⟩) := xb.2 1 _ rfl
  have slt : w1.heap.size < wb.heap.size := xb.1
  have Hb := Lib.hid (fr_alloc (fr_trans Ha.out hbb) (.cells #[.string ⟨#[65]⟩, .string ⟨#[98]⟩] 23))
  have HPb := Lib.hid (Pairs.new wb [(⟨#[65]⟩, ⟨#[98]⟩)] 23)
  clear hbb xb
  go_wp2_with fail
  refine (field_Lines_n _ 1 1 [(⟨#[65]⟩, ⟨#[98]⟩)] _ rfl (by decide) HPb.out (by decide)).mono ?_
  rintro e wc ⟨rfl, hbc⟩
  rw [k6j]
  go_wp2
  go_ret
  exact ⟨rfl, fr_trans Hb.out hbc⟩
end Go.Proofs.YtdagppbpeibdgaaDoor
