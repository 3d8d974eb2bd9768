/- field.Get, Parse. -/
import Derived.Test.YtdagppbpeibdgaaDoorFld
import Derived.Test.YtdagppbpeibdgaaDoorLines
import Derived.Test.YtdagppbpeibdgaaDoorLib
import Derived.Deep.QuietTactic
import Derived.BigQuiet
namespace Go.Proofs.YtdagppbpeibdgaaDoor
set_option linter.unusedVariables false
set_option linter.unusedSimpArgs false
open Go.RowKit

/-! ### the values of a name -/
def getS (l : List Pr) (name : ByteArray) : List ByteArray := (l.filter fun p => eqB (lowB p.1) (lowB name)).map (·.2)
theorem getS_yes (l : List Pr) (name : ByteArray) (k : Nat) (h : k < l.length) (hf : eqB (lowB l[k].1) (lowB name) = true) : getS (l.take (k + 1)) name = getS (l.take k) name ++ [l[k].2] := by
  unfold getS
  rw [List.take_succ_eq_append_getElem h, List.filter_append, List.map_append]; simp [hf]
theorem getS_no (l : List Pr) (name : ByteArray) (k : Nat) (h : k < l.length) (hf : eqB (lowB l[k].1) (lowB name) = false) : getS (l.take (k + 1)) name = getS (l.take k) name := by
  unfold getS
  rw [List.take_succ_eq_append_getElem h, List.filter_append, List.map_append]; simp [hf]
theorem getS_len (l : List Pr) (name : ByteArray) : (getS l name).length ≤ l.length := by unfold getS; rw [List.length_map]; exact List.length_filter_le _ _
set_option maxRecDepth 100000 in
set_option maxHeartbeats 4000000 in
theorem field_Get (A : Option Addr) (c n : Nat) (l : List Pr) (name : ByteArray) (w : World) (hn : l.length = n) (hl : n ≤ 4398046511103) (hp : Pairs w A l) (hz : name.size ≤ 9223372036854775807)
    (hs : ∀ p ∈ l, p.1.size ≤ 9223372036854775807) :
    Calls Tryd.prog 18 #[.slice A n c, .string name] w fun e w' => (∃ A' c', e = .returned (.slice A' (getS l name).length c') ∧ Strs w' A' (getS l name)) ∧ Below w.heap.size w w' := by
  obtain ⟨i0, hi, hz0, hz1, hz2⟩ := info_parts str_info
  have H := Lib.hid hp; clear hp
  have HS := Lib.hid hs; clear hs
  have HN := Lib.hid hn; clear hn
  go_enter Tryd.func18, Tryd.ntmps18
  go_wp2
  go_loopw [5, 10] (fun v i wr => ∃ k : Nat, k ≤ n ∧ i = .int .i64 k ∧ Below w.heap.size w wr ∧ wr.ownsRow w.heap.size 9 1 v (getS (l.take k) name).length (scells (getS (l.take k) name))) (fun _ i _ => n - (intOf i).toNat)
  case atStart => exact ⟨0, Nat.zero_le _, rfl, Below.refl _ _, World.ownsRow_nil _ _ _ _⟩
  case round =>
    obtain ⟨k, hk, rfl, hb, hown⟩ := hrel
    have HB := Lib.hid hb; have HO := Lib.hid hown
    clear hb hown
    by_cases hlt : k < n
    · have hkl : k < l.length := by have := HN.out; omega
      obtain ⟨b, off, rfl, hbl, hcell⟩ := (H.out.fr HB.out) (by omega)
      obtain ⟨h1, h2⟩ := hcell k hkl
      have hs1 := HS.out l[k] (List.getElem_mem hkl)
      have hy := fun h => getS_yes l name k hkl h
      have hno := fun h => getS_no l name k hkl h
      have hlen : (getS (l.take k) name).length ≤ k := Nat.le_trans (getS_len _ _) (List.length_take_le _ _)
      obtain ⟨⟨pn, pv⟩, hpe⟩ : ∃ p, l[k] = p := ⟨_, rfl⟩
      rw [hpe] at h1 h2 hs1 hy hno
      simp only at h1 h2 hs1 hy hno
      obtain ⟨o, ho⟩ : ∃ o, getS (l.take k) name = o := ⟨_, rfl⟩
      rw [ho] at hy hno hlen HO
      have HY := Lib.hid hy; have HNO := Lib.hid hno
      have kI : (k : Int) < (n : Int) := by omega
      have k0 : (0 : Int) ≤ (k : Int) := by omega
      clear hcell hy hno hpe ho
      cases hq : eqB (lowB pn) (lowB name)
      · have HQ := Lib.hid hq
        go_wp2_with fail
        refine (field_same pn name _ hs1 hz).mono ?_
        rintro e w1 ⟨rfl, hb1⟩
        have HB1 := Lib.hid (fr_trans (fr_alloc HB.out _) hb1)
        have HO1 := Lib.hid (own_fr (own_fr HO.out (fr_alloc (fr_refl _) _)) hb1)
        clear hb1
        go_wp2_with fail
        go_roundw
        case measure => exact meas hlt .i64 .i64
        case rel => exact ⟨k + 1, by omega, by go_num, HB1.out, by rw [HNO.out HQ.out]; exact HO1.out⟩
      · have HQ := Lib.hid hq
        have hnb := Box.new wr [.string pn, .string pv] 23
        have HNB := Lib.hid hnb; clear hnb
        go_wp2_with fail
        refine (field_same pn name _ hs1 hz).mono ?_
        rintro e w1 ⟨rfl, hb1⟩
        have x1 := HNB.out.fr hb1
        have qc0 : w1.cell? ⟨wr.heap.size, 0, none⟩ = some (.string pn) := x1.2 0 _ rfl
        have qc1 : w1.cell? ⟨wr.heap.size, 1, none⟩ = some (.string pv) := x1.2 1 _ rfl
        have qlt : wr.heap.size < w1.heap.size := x1.1
        have HB1 := Lib.hid (fr_trans (fr_alloc HB.out _) hb1)
        have HO1 := Lib.hid (own_fr (own_fr HO.out (fr_alloc (fr_refl _) _)) hb1)
        clear hb1 x1
        go_wp2_with (first
          | (at_builtin
             refine wpList_append_own _ rfl (.tmp 18) (.tmp 21) _ rfl w.heap.size 9 i0 _ 1 16 Tryd.underlying33 hi hz0 hz1 hz2 rfl (by decide) _ _ _ rfl (HO1.out.alloc _) ⟨w1.heap.size, 0, none⟩ 1 1 [.string pv] rfl rfl (new_cells _ _ _) (scell_one _) (by simp only [maxLen]; omega) (by omega) (Nat.le_trans HB1.out.size (by simp)) ?_
             intro v2 w3 hown2 hg2 _))
        go_roundw
        case measure => exact meas hlt .i64 .i64
        case rel =>
          refine ⟨k + 1, by omega, by go_num, fr_grown (fr_alloc HB1.out _) hg2 (own_ge HO1.out), ?_⟩
          rw [HY.out HQ.out, List.length_append, scells_snoc]
          exact hown2
    · have e : l.take k = l := List.take_of_length_le (by have := HN.out; omega)
      rw [e] at HO
      obtain ⟨A2, c2, rfl, -, hS2, -⟩ := Strs.own HO.out
      have HS2 := Lib.hid hS2
      clear HO hS2 e
      go_wp2
      go_ret
      exact ⟨⟨A2, c2, rfl, HS2.out⟩, HB.out⟩
/-! ### the field of a line -/
def parseS (line : ByteArray) : Int × ByteArray × ByteArray :=
  if (cutS line 58).2.2 = false ∨ nameE (cutS line 58).1 = 10 ∨ valE (octTrim (cutS line 58).2.1) = 10 then (10, ⟨#[]⟩, ⟨#[]⟩)
  else if nameE (cutS line 58).1 ≠ 0 ∨ valE (octTrim (cutS line 58).2.1) ≠ 0 then (12, ⟨#[]⟩, ⟨#[]⟩)
  else (0, (cutS line 58).1, octTrim (cutS line 58).2.1)
def parseR (r : Int × ByteArray × ByteArray) : Value := .tuple #[.agg #[.string r.2.1, .string r.2.2], errV r.1]
theorem cutS_size2 (s : ByteArray) (c : UInt8) : (cutS s c).2.1.size ≤ s.size := by
  unfold cutS
  split
  · show (s.extract _ _).size ≤ _
    rw [ByteArray.size_extract]; omega
  · exact Nat.zero_le _
theorem cutS_size1 (s : ByteArray) (c : UInt8) : (cutS s c).1.size ≤ s.size := by
  unfold cutS
  split
  · show (s.extract _ _).size ≤ _
    rw [ByteArray.size_extract]; omega
  · exact Nat.le_refl _
theorem Blk.newAt {w : World} {g : Nat} (hg : g = w.heap.size) (t : TypeId) (cs : Array Value) : Blk (w.alloc (.cells cs t)) g t cs := hg ▸ Blk.new w t cs
theorem res_pair {fn : Func} {a u : Tmp} {tmps : Array Value} {w : World} {g : Nat} {v0 v1 : Value} (h : fn.results = #[.cell a 23, .tmp u]) (ht : tmps.getD a undef = .pointer (some ⟨g, 0, none⟩))
    (hb : Blk w g 23 #[v0, v1]) : (results fn tmps).run Tryd.prog w = .ok (.tuple #[.agg #[v0, v1], tmps.getD u undef]) w := by
  have c0 : w.cell? ⟨g, 0, none⟩ = some v0 := hb.cell 0
  have c1 : w.cell? ⟨g, 1, none⟩ = some v1 := hb.cell 1
  have ht' : tmps[a]?.getD undef = .pointer (some ⟨g, 0, none⟩) := by simpa using ht
  simp [results, h, ht', go_sem, c0, c1]
theorem is_err_at (a b : Int) (v : Bool) (ha : 0 ≤ a) (hb : 0 < b) (w : World) (h : (a == b) = v) :
    Calls Tryd.prog 19 #[errV a, .iface 38 (.int .i64 b)] w fun e w' => e = .returned (.bool v) ∧ w = w' := h ▸ errors_Is a b ha hb w
theorem nameE_nn (s : ByteArray) : 0 ≤ nameE s := by rcases nameE_cases s with h | h | h <;> rw [h] <;> decide
theorem valE_nn (s : ByteArray) : 0 ≤ valE s := by rcases valE_cases s with h | h | h <;> rw [h] <;> decide
set_option maxRecDepth 100000 in
set_option maxHeartbeats 4000000 in
theorem field_Parse (line : ByteArray) (w : World) (hs : line.size ≤ 1000000000) :
    Calls Tryd.prog 16 #[.string line] w fun e w' => e = .returned (parseR (parseS line)) ∧ Below w.heap.size w w' := by
  have hZ := Blk.new w 23 #[.string ⟨#[]⟩, .string ⟨#[]⟩]
  have HZ := Lib.hid hZ; clear hZ
  have hU : parseS line = if (cutS line 58).2.2 = false ∨ nameE (cutS line 58).1 = 10 ∨ valE (octTrim (cutS line 58).2.1) = 10 then (10, ⟨#[]⟩, ⟨#[]⟩)
    else if nameE (cutS line 58).1 ≠ 0 ∨ valE (octTrim (cutS line 58).2.1) ≠ 0 then (12, ⟨#[]⟩, ⟨#[]⟩)
    else (0, (cutS line 58).1, octTrim (cutS line 58).2.1) := rfl
  have hz1 := cutS_size1 line 58
  have hz2 := cutS_size2 line 58
  have hcut := fun W => lib_Cut line 58 W (by omega)
  obtain ⟨⟨n, v0, ok⟩, hc⟩ : ∃ c, cutS line 58 = c := ⟨_, rfl⟩
  rw [hc] at hU hz1 hz2 hcut
  simp only at hU hz1 hz2 hcut
  have htr := fun W => oct_Trim v0 W (by omega)
  have htz : (octTrim v0).size ≤ v0.size := trimB_size _ _
  obtain ⟨v, hv⟩ : ∃ v, octTrim v0 = v := ⟨_, rfl⟩
  rw [hv] at hU htr htz
  have hn9 : n.size ≤ 9223372036854775807 := by omega
  have hv9 : v.size ≤ 9223372036854775807 := by omega
  obtain ⟨R, hR⟩ : ∃ R, parseS line = R := ⟨_, rfl⟩
  rw [hR] at hU ⊢
  have ha0 := nameE_nn n; have hb0 := valE_nn v
  have hac := nameE_cases n; have hbc := valE_cases v
  obtain ⟨a, ha⟩ : ∃ a, nameE n = a := ⟨_, rfl⟩
  obtain ⟨b, hb⟩ : ∃ b, valE v = b := ⟨_, rfl⟩
  rw [ha] at hU ha0 hac; rw [hb] at hU hb0 hbc
  have HU := Lib.hid hU; have HCUT := Lib.hid hcut; have HTR := Lib.hid htr; have HA := Lib.hid ha; have HB := Lib.hid hb
  have HA0 := Lib.hid ha0; have HB0 := Lib.hid hb0; have HN9 := Lib.hid hn9; have HV9 := Lib.hid hv9
  clear hU hcut htr ha hb hc hv hR hz1 hz2 htz ha0 hb0 hn9 hv9 hs
  have hcases : ok = false ∨ (ok = true ∧ a = 10) ∨ (ok = true ∧ a ≠ 10 ∧ b = 10) ∨ (ok = true ∧ a = 12 ∧ b ≠ 10) ∨ (ok = true ∧ a = 0 ∧ b = 12) ∨ (ok = true ∧ a = 0 ∧ b = 0) := by
    cases ok
    · exact .inl rfl
    · rcases hac with h | h | h <;> rcases hbc with g | g | g <;> subst h <;> subst g <;> simp
  clear hac hbc
  rcases hcases with rfl | ⟨rfl, rfl⟩ | ⟨rfl, h1, rfl⟩ | ⟨rfl, rfl, h2⟩ | ⟨rfl, rfl, rfl⟩ | ⟨rfl, rfl, rfl⟩
  · have hr : R = (10, ⟨#[]⟩, ⟨#[]⟩) := by rw [HU.out, if_pos (.inl rfl)]
    subst hr
    go_enter Tryd.func16, Tryd.ntmps16
    go_wp2_with fail
    refine (HCUT.out _).mono ?_
    rintro e w1 ⟨rfl, hb1⟩
    have HZ1 := Lib.hid (HZ.out.fr hb1); have H1 := Lib.hid (fr_trans (fr_alloc (fr_refl w) _) hb1); clear hb1
    go_wp2_with fail
    refine (HTR.out _).mono ?_
    rintro e w2 ⟨rfl, hb2⟩
    have hz2 := HZ1.out.fr hb2
    have zc0 : w2.cell? ⟨w.heap.size, 0, none⟩ = some (.string ⟨#[]⟩) := hz2.cell 0
    have zf0 : w2.frozen? ⟨w.heap.size, 0, none⟩ = false := hz2.frozen 0
    have zc1 : w2.cell? ⟨w.heap.size, 1, none⟩ = some (.string ⟨#[]⟩) := hz2.cell 1
    have zf1 : w2.frozen? ⟨w.heap.size, 1, none⟩ = false := hz2.frozen 1
    have zlt : w.heap.size < w2.heap.size := hz2.lt
    have HZ2 := Lib.hid hz2; have H2 := Lib.hid (fr_trans H1.out hb2); clear hb2 hz2
    go_wp2_with fail
    refine (fld_name_at n a _ HA.out HN9.out).mono ?_
    rintro e wq ⟨rfl, rfl⟩
    go_wp2_with fail
    refine (fld_value_at v b _ HB.out HV9.out).mono ?_
    rintro e wq ⟨rfl, rfl⟩
    go_wp2
    refine bodyPost_ret (res_pair (g := w.heap.size) (v0 := .string ⟨#[]⟩) (v1 := .string ⟨#[]⟩) Tryd.results16 rfl ((HZ2.out.set_ 0 _).set_ 1 _)) rfl ?_
    exact ⟨rfl, fr_set (fr_set H2.out (Nat.le_refl _) _) (Nat.le_refl _) _⟩
  · have hr : R = (10, ⟨#[]⟩, ⟨#[]⟩) := by rw [HU.out, if_pos (.inr (.inl rfl))]
    subst hr
    go_enter Tryd.func16, Tryd.ntmps16
    go_wp2_with fail
    refine (HCUT.out _).mono ?_
    rintro e w1 ⟨rfl, hb1⟩
    have HZ1 := Lib.hid (HZ.out.fr hb1); have H1 := Lib.hid (fr_trans (fr_alloc (fr_refl w) _) hb1); clear hb1
    go_wp2_with fail
    refine (HTR.out _).mono ?_
    rintro e w2 ⟨rfl, hb2⟩
    have hz2 := HZ1.out.fr hb2
    have zc0 : w2.cell? ⟨w.heap.size, 0, none⟩ = some (.string ⟨#[]⟩) := hz2.cell 0
    have zf0 : w2.frozen? ⟨w.heap.size, 0, none⟩ = false := hz2.frozen 0
    have zc1 : w2.cell? ⟨w.heap.size, 1, none⟩ = some (.string ⟨#[]⟩) := hz2.cell 1
    have zf1 : w2.frozen? ⟨w.heap.size, 1, none⟩ = false := hz2.frozen 1
    have zlt : w.heap.size < w2.heap.size := hz2.lt
    have HZ2 := Lib.hid hz2; have H2 := Lib.hid (fr_trans H1.out hb2); clear hb2 hz2
    go_wp2_with fail
    refine (fld_name_n n 10 _ HA.out (by decide) HN9.out).mono ?_
    rintro e wq ⟨rfl, rfl⟩
    go_wp2_with fail
    refine (fld_value_at v b _ HB.out HV9.out).mono ?_
    rintro e wq ⟨rfl, rfl⟩
    go_wp2_with fail
    refine (is_errno 10 10 _).mono ?_
    rintro e wq ⟨rfl, rfl⟩
    go_wp2
    refine bodyPost_ret (res_pair (g := w.heap.size) (v0 := .string ⟨#[]⟩) (v1 := .string ⟨#[]⟩) Tryd.results16 rfl ((HZ2.out.set_ 0 _).set_ 1 _)) rfl ?_
    exact ⟨rfl, fr_set (fr_set H2.out (Nat.le_refl _) _) (Nat.le_refl _) _⟩
  · have hr : R = (10, ⟨#[]⟩, ⟨#[]⟩) := by rw [HU.out, if_pos (.inr (.inr rfl))]
    have h1e : (a == 10) = false := by simpa using h1
    subst hr
    go_enter Tryd.func16, Tryd.ntmps16
    go_wp2_with fail
    refine (HCUT.out _).mono ?_
    rintro e w1 ⟨rfl, hb1⟩
    have HZ1 := Lib.hid (HZ.out.fr hb1); have H1 := Lib.hid (fr_trans (fr_alloc (fr_refl w) _) hb1); clear hb1
    go_wp2_with fail
    refine (HTR.out _).mono ?_
    rintro e w2 ⟨rfl, hb2⟩
    have hz2 := HZ1.out.fr hb2
    have zc0 : w2.cell? ⟨w.heap.size, 0, none⟩ = some (.string ⟨#[]⟩) := hz2.cell 0
    have zf0 : w2.frozen? ⟨w.heap.size, 0, none⟩ = false := hz2.frozen 0
    have zc1 : w2.cell? ⟨w.heap.size, 1, none⟩ = some (.string ⟨#[]⟩) := hz2.cell 1
    have zf1 : w2.frozen? ⟨w.heap.size, 1, none⟩ = false := hz2.frozen 1
    have zlt : w.heap.size < w2.heap.size := hz2.lt
    have HZ2 := Lib.hid hz2; have H2 := Lib.hid (fr_trans H1.out hb2); clear hb2 hz2
    go_wp2_with fail
    refine (fld_name_at n a _ HA.out HN9.out).mono ?_
    rintro e wq ⟨rfl, rfl⟩
    go_wp2_with fail
    refine (fld_value_n v 10 _ HB.out (by decide) HV9.out).mono ?_
    rintro e wq ⟨rfl, rfl⟩
    go_wp2_with fail
    refine (is_err_at a 10 false HA0.out (by decide) _ h1e).mono ?_
    rintro e wq ⟨rfl, rfl⟩
    go_wp2_with fail
    refine (is_errno 10 10 _).mono ?_
    rintro e wq ⟨rfl, rfl⟩
    go_wp2
    refine bodyPost_ret (res_pair (g := w.heap.size) (v0 := .string ⟨#[]⟩) (v1 := .string ⟨#[]⟩) Tryd.results16 rfl ((HZ2.out.set_ 0 _).set_ 1 _)) rfl ?_
    exact ⟨rfl, fr_set (fr_set H2.out (Nat.le_refl _) _) (Nat.le_refl _) _⟩
  · have hr : R = (12, ⟨#[]⟩, ⟨#[]⟩) := by rw [HU.out, if_neg (by simp [h2]), if_pos (.inl (by decide))]
    have h2e : (b == 10) = false := by simpa using h2
    subst hr
    go_enter Tryd.func16, Tryd.ntmps16
    go_wp2_with fail
    refine (HCUT.out _).mono ?_
    rintro e w1 ⟨rfl, hb1⟩
    have HZ1 := Lib.hid (HZ.out.fr hb1); have H1 := Lib.hid (fr_trans (fr_alloc (fr_refl w) _) hb1); clear hb1
    go_wp2_with fail
    refine (HTR.out _).mono ?_
    rintro e w2 ⟨rfl, hb2⟩
    have hz2 := HZ1.out.fr hb2
    have zc0 : w2.cell? ⟨w.heap.size, 0, none⟩ = some (.string ⟨#[]⟩) := hz2.cell 0
    have zf0 : w2.frozen? ⟨w.heap.size, 0, none⟩ = false := hz2.frozen 0
    have zc1 : w2.cell? ⟨w.heap.size, 1, none⟩ = some (.string ⟨#[]⟩) := hz2.cell 1
    have zf1 : w2.frozen? ⟨w.heap.size, 1, none⟩ = false := hz2.frozen 1
    have zlt : w.heap.size < w2.heap.size := hz2.lt
    have HZ2 := Lib.hid hz2; have H2 := Lib.hid (fr_trans H1.out hb2); clear hb2 hz2
    go_wp2_with fail
    refine (fld_name_n n 12 _ HA.out (by decide) HN9.out).mono ?_
    rintro e wq ⟨rfl, rfl⟩
    go_wp2_with fail
    refine (fld_value_at v b _ HB.out HV9.out).mono ?_
    rintro e wq ⟨rfl, rfl⟩
    go_wp2_with fail
    refine (is_errno 12 10 _).mono ?_
    rintro e wq ⟨rfl, rfl⟩
    go_wp2_with fail
    refine (is_err_at b 10 false HB0.out (by decide) _ h2e).mono ?_
    rintro e wq ⟨rfl, rfl⟩
    go_wp2
    refine bodyPost_ret (res_pair (g := w.heap.size) (v0 := .string ⟨#[]⟩) (v1 := .string ⟨#[]⟩) Tryd.results16 rfl ((HZ2.out.set_ 0 _).set_ 1 _)) rfl ?_
    exact ⟨rfl, fr_set (fr_set H2.out (Nat.le_refl _) _) (Nat.le_refl _) _⟩
  · have hr : R = (12, ⟨#[]⟩, ⟨#[]⟩) := by rw [HU.out, if_neg (by simp), if_pos (.inr (by decide))]
    subst hr
    go_enter Tryd.func16, Tryd.ntmps16
    go_wp2_with fail
    refine (HCUT.out _).mono ?_
    rintro e w1 ⟨rfl, hb1⟩
    have HZ1 := Lib.hid (HZ.out.fr hb1); have H1 := Lib.hid (fr_trans (fr_alloc (fr_refl w) _) hb1); clear hb1
    go_wp2_with fail
    refine (HTR.out _).mono ?_
    rintro e w2 ⟨rfl, hb2⟩
    have hz2 := HZ1.out.fr hb2
    have zc0 : w2.cell? ⟨w.heap.size, 0, none⟩ = some (.string ⟨#[]⟩) := hz2.cell 0
    have zf0 : w2.frozen? ⟨w.heap.size, 0, none⟩ = false := hz2.frozen 0
    have zc1 : w2.cell? ⟨w.heap.size, 1, none⟩ = some (.string ⟨#[]⟩) := hz2.cell 1
    have zf1 : w2.frozen? ⟨w.heap.size, 1, none⟩ = false := hz2.frozen 1
    have zlt : w.heap.size < w2.heap.size := hz2.lt
    have HZ2 := Lib.hid hz2; have H2 := Lib.hid (fr_trans H1.out hb2); clear hb2 hz2
    go_wp2_with fail
    refine (fld_name_0 n _ HA.out HN9.out).mono ?_
    rintro e wq ⟨rfl, rfl⟩
    go_wp2_with fail
    refine (fld_value_n v 12 _ HB.out (by decide) HV9.out).mono ?_
    rintro e wq ⟨rfl, rfl⟩
    go_wp2_with fail
    refine (is_nil 10 _).mono ?_
    rintro e wq ⟨rfl, rfl⟩
    go_wp2_with fail
    refine (is_errno 12 10 _).mono ?_
    rintro e wq ⟨rfl, rfl⟩
    go_wp2
    refine bodyPost_ret (res_pair (g := w.heap.size) (v0 := .string ⟨#[]⟩) (v1 := .string ⟨#[]⟩) Tryd.results16 rfl ((HZ2.out.set_ 0 _).set_ 1 _)) rfl ?_
    exact ⟨rfl, fr_set (fr_set H2.out (Nat.le_refl _) _) (Nat.le_refl _) _⟩
  · have hr : R = (0, n, v) := by rw [HU.out, if_neg (by simp), if_neg (by simp)]
    subst hr
    go_enter Tryd.func16, Tryd.ntmps16
    go_wp2_with fail
    refine (HCUT.out _).mono ?_
    rintro e w1 ⟨rfl, hb1⟩
    have HZ1 := Lib.hid (HZ.out.fr hb1); have H1 := Lib.hid (fr_trans (fr_alloc (fr_refl w) _) hb1); clear hb1
    go_wp2_with fail
    refine (HTR.out _).mono ?_
    rintro e w2 ⟨rfl, hb2⟩
    have hz2 := HZ1.out.fr hb2
    have zc0 : w2.cell? ⟨w.heap.size, 0, none⟩ = some (.string ⟨#[]⟩) := hz2.cell 0
    have zf0 : w2.frozen? ⟨w.heap.size, 0, none⟩ = false := hz2.frozen 0
    have zc1 : w2.cell? ⟨w.heap.size, 1, none⟩ = some (.string ⟨#[]⟩) := hz2.cell 1
    have zf1 : w2.frozen? ⟨w.heap.size, 1, none⟩ = false := hz2.frozen 1
    have zlt : w.heap.size < w2.heap.size := hz2.lt
    have HZ2 := Lib.hid hz2; have H2 := Lib.hid (fr_trans H1.out hb2); clear hb2 hz2
    go_wp2_with fail
    refine (fld_name_0 n _ HA.out HN9.out).mono ?_
    rintro e wq ⟨rfl, rfl⟩
    go_wp2_with fail
    refine (fld_value_0 v _ HB.out HV9.out).mono ?_
    rintro e wq ⟨rfl, rfl⟩
    go_wp2_with fail
    refine (is_nil 10 _).mono ?_
    rintro e wq ⟨rfl, rfl⟩
    go_wp2_with fail
    refine (is_nil 10 _).mono ?_
    rintro e wq ⟨rfl, rfl⟩
    go_wp2
    refine bodyPost_ret (res_pair (g := w.heap.size) (v0 := .string n) (v1 := .string v) Tryd.results16 rfl ((HZ2.out.set_ 0 _).set_ 1 _)) rfl ?_
    exact ⟨rfl, fr_set (fr_set H2.out (Nat.le_refl _) _) (Nat.le_refl _) _⟩
end Go.Proofs.YtdagppbpeibdgaaDoor
