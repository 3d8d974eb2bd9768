/- field.same, Get; rule.Host; (*vars.rows).some. -/
import Derived.Test.YtdlignhlliellaaDoorVb
import Derived.Deep.QuietTactic
import Derived.BigQuiet
import Derived.OwnWalk
namespace Go.Proofs.YtdlignhlliellaaDoor
set_option linter.unusedVariables false
set_option linter.unusedSimpArgs false
open Go.RowKit

theorem str_info : (Tryd.prog.info? 9).map (fun i => (i.zero, i.size, i.bytes)) = some (some (.string ⟨#[]⟩), 1, 16) := by kernel_rfl
set_option maxHeartbeats 400000 in
theorem field_same (a b : ByteArray) (w : World) (ha : a.size ≤ 9223372036854775807) (hb : b.size ≤ 9223372036854775807) :
    Calls Tryd.prog 37 #[.string a, .string b] w fun e w' => e = .returned (.bool (eqB (lowB a) (lowB b))) ∧ Below w.heap.size w w' := by
  go_enter Tryd.func37, Tryd.ntmps37
  go_wp2_with fail
  refine (octet_Lower a _ ha).mono ?_
  rintro e w1 ⟨rfl, hb1⟩
  go_wp2_with fail
  refine (octet_Lower b _ hb).mono ?_
  rintro e w2 ⟨rfl, hb2⟩
  go_wp2_with fail
  go_ret
  exact ⟨rfl, fr_trans (fr_trans (fr_refl _) hb1) hb2⟩

/-! ### the values of a name -/
def getS (l : List Pr) (name : ByteArray) : List ByteArray := (l.filter fun p => eqB (lowB p.1) (lowB name)).map (·.2)
theorem getS_yes (l : List Pr) (name : ByteArray) (k : Nat) (h : k < l.length) (hf : eqB (lowB l[k].1) (lowB name) = true) : getS (l.take (k + 1)) name = getS (l.take k) name ++ [l[k].2] := by
  unfold getS
  rw [List.take_succ_eq_append_getElem h, List.filter_append, List.map_append]; simp [hf]
theorem getS_no (l : List Pr) (name : ByteArray) (k : Nat) (h : k < l.length) (hf : eqB (lowB l[k].1) (lowB name) = false) : getS (l.take (k + 1)) name = getS (l.take k) name := by
  unfold getS
  rw [List.take_succ_eq_append_getElem h, List.filter_append, List.map_append]; simp [hf]
theorem getS_len (l : List Pr) (name : ByteArray) : (getS l name).length ≤ l.length := by unfold getS; rw [List.length_map]; exact List.length_filter_le _ _
set_option maxRecDepth 100000 in
set_option maxHeartbeats 4000000 in
theorem field_Get (A : Option Addr) (c n : Nat) (l : List Pr) (name : ByteArray) (w : World) (hn : l.length = n) (hl : n ≤ 4398046511103) (hp : Pairs w A l) (hz : name.size ≤ 9223372036854775807)
    (hs : ∀ p ∈ l, p.1.size ≤ 9223372036854775807) :
    Calls Tryd.prog 17 #[.slice A n c, .string name] w fun e w' => (∃ A' c', e = .returned (.slice A' (getS l name).length c') ∧ Strs w' A' (getS l name) ∧ ∀ x, A' = some x → w.heap.size ≤ x.block) ∧ Below w.heap.size w w' := by
  obtain ⟨i0, hi, hz0, hz1, hz2⟩ := info_parts str_info
  have H := Lib.hid hp; clear hp
  have HS := Lib.hid hs; clear hs
  have HN := Lib.hid hn; clear hn
  go_enter Tryd.func17, Tryd.ntmps17
  go_wp2
  go_loopw [5, 10] (fun v i wr => ∃ k : Nat, k ≤ n ∧ i = .int .i64 k ∧ Below w.heap.size w wr ∧ wr.ownsRow w.heap.size 9 1 v (getS (l.take k) name).length (scells (getS (l.take k) name))) (fun _ i _ => n - (intOf i).toNat)
  case atStart => exact ⟨0, Nat.zero_le _, rfl, Below.refl _ _, World.ownsRow_nil _ _ _ _⟩
  case round =>
    obtain ⟨k, hk, rfl, hb, hown⟩ := hrel
    have HB := Lib.hid hb; have HO := Lib.hid hown
    clear hb hown
    by_cases hlt : k < n
    · have hkl : k < l.length := by have := HN.out; omega
      obtain ⟨b, off, rfl, hbl, hcell⟩ := (H.out.fr HB.out) (by omega)
      obtain ⟨h1, h2⟩ := hcell k hkl
      have hs1 := HS.out l[k] (List.getElem_mem hkl)
      have hy := fun h => getS_yes l name k hkl h
      have hno := fun h => getS_no l name k hkl h
      have hlen : (getS (l.take k) name).length ≤ k := Nat.le_trans (getS_len _ _) (List.length_take_le _ _)
      obtain ⟨⟨pn, pv⟩, hpe⟩ : ∃ p, l[k] = p := ⟨_, rfl⟩
      rw [hpe] at h1 h2 hs1 hy hno
      simp only at h1 h2 hs1 hy hno
      obtain ⟨o, ho⟩ : ∃ o, getS (l.take k) name = o := ⟨_, rfl⟩
      rw [ho] at hy hno hlen HO
      have HY := Lib.hid hy; have HNO := Lib.hid hno
      have kI : (k : Int) < (n : Int) := by omega
      have k0 : (0 : Int) ≤ (k : Int) := by omega
      clear hcell hy hno hpe ho
      cases hq : eqB (lowB pn) (lowB name)
      · have HQ := Lib.hid hq
        go_wp2_with fail
        refine (field_same pn name _ hs1 hz).mono ?_
        rintro e w1 ⟨rfl, hb1⟩
        have HB1 := Lib.hid (fr_trans (fr_alloc HB.out _) hb1)
        have HO1 := Lib.hid (own_fr (own_fr HO.out (fr_alloc (fr_refl _) _)) hb1)
        clear hb1
        go_wp2_with fail
        go_roundw
        case measure => exact meas hlt .i64 .i64
        case rel => exact ⟨k + 1, by omega, by go_num, HB1.out, by rw [HNO.out HQ.out]; exact HO1.out⟩
      · have HQ := Lib.hid hq
        have hnb := Box.new wr [.string pn, .string pv] 37
        have HNB := Lib.hid hnb; clear hnb
        go_wp2_with fail
        refine (field_same pn name _ hs1 hz).mono ?_
        rintro e w1 ⟨rfl, hb1⟩
        have x1 := HNB.out.fr hb1
        have qc0 : w1.cell? ⟨wr.heap.size, 0, none⟩ = some (.string pn) := x1.2 0 _ rfl
        have qc1 : w1.cell? ⟨wr.heap.size, 1, none⟩ = some (.string pv) := x1.2 1 _ rfl
        have qlt : wr.heap.size < w1.heap.size := x1.1
        have HB1 := Lib.hid (fr_trans (fr_alloc HB.out _) hb1)
        have HO1 := Lib.hid (own_fr (own_fr HO.out (fr_alloc (fr_refl _) _)) hb1)
        clear hb1 x1
        go_wp2_with (first
          | (at_builtin
             refine wpList_append_own _ rfl (.tmp 18) (.tmp 21) _ rfl w.heap.size 9 i0 _ 1 16 Tryd.underlying49 hi hz0 hz1 hz2 rfl (by decide) _ _ _ rfl (HO1.out.alloc _) ⟨w1.heap.size, 0, none⟩ 1 1 [.string pv] rfl rfl (new_cells _ _ _) (scell_one _) (by simp only [maxLen]; omega) (by omega) (Nat.le_trans HB1.out.size (by simp)) ?_
             intro v2 w3 hown2 hg2 _))
        go_roundw
        case measure => exact meas hlt .i64 .i64
        case rel =>
          refine ⟨k + 1, by omega, by go_num, fr_grown (fr_alloc HB1.out _) hg2 (own_ge HO1.out), ?_⟩
          rw [HY.out HQ.out, List.length_append, scells_snoc]
          exact hown2
    · have e : l.take k = l := List.take_of_length_le (by have := HN.out; omega)
      rw [e] at HO
      have hge := own_ge HO.out
      obtain ⟨A2, c2, rfl, -, hS2, -⟩ := Strs.own HO.out
      have hge2 : ∀ x, A2 = some x → w.heap.size ≤ x.block := fun x hx => hge x.block (by rw [hx]; rfl)
      have HS2 := Lib.hid hS2; have HGE := Lib.hid hge2
      clear HO hS2 e hge hge2
      go_wp2
      go_ret
      exact ⟨⟨A2, c2, rfl, HS2.out, HGE.out⟩, HB.out⟩
theorem cutS_size (s : ByteArray) (c : UInt8) : (cutS s c).1.size ≤ s.size := by
  unfold cutS; split
  · show (s.extract 0 _).size ≤ _; rw [ByteArray.size_extract]; omega
  · exact Nat.le_refl _
def hostS (h : ByteArray) : ByteArray := lowB (cutS h 58).1
theorem rule_Host (s : ByteArray) (w : World) (hs : s.size ≤ 9223372036854775807) :
    Calls Tryd.prog 38 #[.string s] w fun e w' => e = .returned (.string (hostS s)) ∧ Below w.heap.size w w' := by
  have hz := cutS_size s 58
  go_enter Tryd.func38, Tryd.ntmps38
  go_wp2_with fail
  refine (lib_Cut s 58 _ hs).mono ?_
  rintro e w1 ⟨rfl, hb1⟩
  go_wp2_with fail
  refine (octet_Lower _ _ (by omega)).mono ?_
  rintro e w2 ⟨rfl, hb2⟩
  go_wp2
  go_ret
  exact ⟨rfl, fr_trans hb1 hb2⟩
def someL (l : List Pr) (nm v : ByteArray) : List Pr := if v.toList.isEmpty then l else addL l nm v
theorem rows_some (base g : Nat) (f : Value) (l : List Pr) (nm v : ByteArray) (w : World) (hR : RowsAt base g w f l) (hbw : base ≤ w.heap.size) (hgb : g < base) (hl : l.length ≤ 1000000) :
    Calls Tryd.prog 18 #[.pointer (some ⟨g, 0, none⟩), .string nm, .string v] w fun e w' => e = .returned (.tuple #[]) ∧ (∃ f', RowsAt base g w' f' (someL l nm v) ∧ Fresh w f f') ∧ Two g f.ownBlock w w' := by
  have HR := Lib.hid hR
  clear hR
  unfold someL
  cases hv : v.toList.isEmpty
  · have HADD := Lib.hid (rows_add base g f l nm v w HR.out hbw hgb hl)
    go_enter Tryd.func18, Tryd.ntmps18
    go_wp2_with fail
    refine HADD.out.mono ?_
    rintro e w1 ⟨rfl, ⟨f', hR', hF⟩, hT⟩
    have HR' := Lib.hid hR'; have HT := Lib.hid hT; have HF := Lib.hid hF
    clear hR' hT hF
    go_wp2
    go_end0
    exact ⟨rfl, ⟨f', HR'.out, HF.out⟩, HT.out⟩
  · go_enter Tryd.func18, Tryd.ntmps18
    go_wp2
    go_end0
    exact ⟨rfl, ⟨f, HR.out, Fresh.refl _ _⟩, Two.of_fr (fr_refl _)⟩
end Go.Proofs.YtdlignhlliellaaDoor
