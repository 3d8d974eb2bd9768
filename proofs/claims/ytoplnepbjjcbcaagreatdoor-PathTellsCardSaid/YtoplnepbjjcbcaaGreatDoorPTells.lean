/- conduitlaw11.PathTells: true. -/
import Derived.Test.YtoplnepbjjcbcaaGreatDoorRefC
import Derived.Test.YtoplnepbjjcbcaaGreatDoorPKnown
import Derived.Test.YtoplnepbjjcbcaaGreatDoorAsE
namespace Go.Proofs.YtoplnepbjjcbcaaGreatDoor
set_option linter.unusedVariables false
set_option linter.unusedSimpArgs false
open Go.RowKit

theorem law11_code0 (w : World) : Calls Tryz.prog 11 #[.nilIface] w fun e w' => e = .returned (.int .i64 0) ∧ Below w.heap.size w w' := by
  go_enter Tryz.func11, Tryz.ntmps11
  go_wp2
  go_ret
  exact ⟨rfl, fr_alloc (fr_refl _) _⟩
set_option maxHeartbeats 1000000 in
theorem law11_codeE (n : Int) (w : World) (hE : ErrT w) : Calls Tryz.prog 11 #[.iface 42 (.int .i64 n)] w fun e w' => e = .returned (.int .i64 n) ∧ Below w.heap.size w w' := by
  have hE2 := hE.fr (fr_alloc (fr_refl w) (.cells #[.int .i64 0] 42))
  have ht : (w.alloc (.cells #[.int .i64 0] 42)).cell? ⟨w.heap.size, 0, none⟩ = some (.int .i64 0) := by rw [World.cell?_alloc_mark]; rfl
  have hf : (w.alloc (.cells #[.int .i64 0] 42)).frozen? ⟨w.heap.size, 0, none⟩ = false := by rw [World.frozen?_alloc_mark]; rfl
  have HC := Lib.hid (as_hit n ⟨w.heap.size, 0, none⟩ (.int .i64 0) (w.alloc (.cells #[.int .i64 0] 42)) hE2 ht hf)
  clear hE hE2 ht hf
  go_enter Tryz.func11, Tryz.ntmps11
  go_wp2_with fail
  refine HC.out.mono ?_
  rintro e w' ⟨rfl, hw⟩
  have hb : Below w.heap.size w w' := by rw [hw]; exact fr_set (fr_alloc (fr_alloc (fr_alloc (fr_alloc (fr_alloc (fr_refl _) _) _) _) _) _) (Nat.le_refl _) _
  have hc : w'.cell? ⟨w.heap.size, 0, none⟩ = some (.int .i64 n) := by
    rw [hw]
    have hx := fr_cell (b := w.heap.size) (o := 0) (v := .int .i64 0) (fr_alloc (fr_alloc (fr_alloc (fr_alloc (fr_refl (w.alloc (.cells #[.int .i64 0] 42))) (.cells #[.pointer (some ⟨w.heap.size, 0, none⟩)] 60)) (.cells #[.pointer (some ⟨9, 60, none⟩), .pointer (some ⟨(w.alloc (.cells #[.int .i64 0] 42)).heap.size, 0, none⟩), .int .u64 150] 83)) (.cells #[.pointer (some ⟨9, 60, none⟩), .pointer (some ⟨(w.alloc (.cells #[.int .i64 0] 42)).heap.size, 0, none⟩), .int .u64 150] 83)) (.cells #[.int .i64 n] 42)) (by rw [World.cell?_alloc_mark]; rfl)
    exact (World.cell?_setCell_same _ _ _ hx).trans rfl
  clear hw HC
  go_wp2
  go_ret
  exact ⟨rfl, hb⟩
theorem refC_at (s : ByteArray) (v : Value) (w : World) (h : cleanR1 (cleanS s) = v) (hs : s.size ≤ 1000000000) : Calls Tryz.prog 10 #[.string s] w fun e w' => e = .returned v ∧ Below w.heap.size w w' := h ▸ ref11_Clean s w hs
theorem refB_at (p q : ByteArray) (v : Bool) (w : World) (h : begS p q = v) (hp : p.size ≤ 4398046511103) (hq : q.size ≤ 4398046511103) : Calls Tryz.prog 16 #[.string p, .string q] w fun e w' => e = .returned (.bool v) ∧ Below w.heap.size w w' := h ▸ ref11_Begins p q w hp hq
set_option maxRecDepth 100000 in
set_option maxHeartbeats 4000000 in
theorem law11_tells (p q : ByteArray) (w : World) (hm : MaxL w) (hE : ErrT w) :
    Calls Tryz.prog 3 #[.string p, .string q] w fun e w' => e = .returned (.bool true) ∧ Below w.heap.size w w' := by
  have HM := Lib.hid hm; have HE := Lib.hid hE; clear hm hE
  by_cases hp : 400 < p.size
  · have hpI : decide ((400 : Int) < (p.size : Int)) = true := by simp; omega
    go_enter Tryz.func3, Tryz.ntmps3
    go_wp2_with fail
    refine (law11_known _ HM.out).mono ?_
    rintro e w1 ⟨rfl, hb1⟩
    go_wp2
    go_ret
    exact ⟨rfl, hb1⟩
  have hpI : decide ((400 : Int) < (p.size : Int)) = false := by simp; omega
  by_cases hq : 400 < q.size
  · have hqI : decide ((400 : Int) < (q.size : Int)) = true := by simp; omega
    go_enter Tryz.func3, Tryz.ntmps3
    go_wp2_with fail
    refine (law11_known _ HM.out).mono ?_
    rintro e w1 ⟨rfl, hb1⟩
    go_wp2
    go_ret
    exact ⟨rfl, hb1⟩
  have hqI : decide ((400 : Int) < (q.size : Int)) = false := by simp; omega
  have HP := Lib.hid (show p.size ≤ 400 by omega); have HQ := Lib.hid (show q.size ≤ 400 by omega)
  obtain ⟨b, hb⟩ : ∃ b, begS p q = b := ⟨_, rfl⟩
  obtain ⟨l, hl⟩ : ∃ l, segs p = l := ⟨_, rfl⟩
  have hll := segs_len p
  obtain ⟨n, hn⟩ : ∃ n, l.length = n := ⟨_, rfl⟩
  rw [hl, hn] at hll
  have hn9 : n ≤ 9223372036854775807 := by have := HP.out; omega
  have HB := Lib.hid hb; have HL := Lib.hid hl; have HN := Lib.hid hn; have HN9 := Lib.hid hn9
  have HLN := Lib.hid (show (segs p).length = n by rw [hl]; exact hn)
  clear hp hq hb hl hll hn hn9
  have tail : ∀ w4 : World, Below w.heap.size w w4 → MaxL w4 → True := fun _ _ _ => trivial
  clear tail
  cases hc : cleanS p with
  | none =>
    have HC := Lib.hid (cleanR_none hc)
    have HC1 := Lib.hid (show cleanR1 (cleanS p) = .tuple #[.string ⟨#[]⟩, .int .i64 10] by rw [hc]; rfl)
    clear hc
    go_enter Tryz.func3, Tryz.ntmps3
    go_wp2_with fail
    refine (law11_known _ HM.out).mono ?_
    rintro e w1 ⟨rfl, hb1⟩
    have H1 := Lib.hid hb1; clear hb1
    go_wp2_with fail
    refine (clean_at p _ _ HC.out (HM.out.fr H1.out) (by have := HP.out; omega)).mono ?_
    rintro e w2 ⟨rfl, hb2⟩
    have H2 := Lib.hid (fr_trans H1.out hb2); clear hb2
    go_wp2_with fail
    refine (refC_at p _ _ HC1.out (by have := HP.out; omega)).mono ?_
    rintro e w3 ⟨rfl, hb3⟩
    have H3 := Lib.hid (fr_trans H2.out hb3); clear hb3
    go_wp2_with fail
    refine (law11_codeE 10 _ (HE.out.fr H3.out)).mono ?_
    rintro e w4 ⟨rfl, hb4⟩
    have H4 := Lib.hid (fr_trans H3.out hb4); clear hb4
    go_wp2_with fail
    refine (segs_at p l n _ HL.out HN.out (HM.out.fr H4.out) (by have := HP.out; omega)).mono ?_
    rintro e w5 ⟨⟨A, c, rfl, -, hA⟩, hb5⟩
    have H5 := Lib.hid (fr_trans H4.out hb5); have HA := Lib.hid hA; clear hb5 hA
    go_wp2_with fail
    refine (segs_ref p n _ HLN.out (by have := HP.out; omega)).mono ?_
    rintro e w6 ⟨⟨A2, c2, rfl, hA2, -⟩, hb6⟩
    rw [HL.out] at hA2
    have H6 := Lib.hid (fr_trans H5.out hb6); have HA1 := Lib.hid (HA.out.fr hb6); have HA2 := Lib.hid hA2; clear hb6 hA2
    go_wp2_with fail
    refine (law11_same A A2 n n c c2 l l _ HN.out HN.out HA1.out HA2.out HN9.out HN9.out).mono ?_
    rintro e w7 ⟨rfl, hb7⟩
    have H7 := Lib.hid (fr_trans H6.out hb7); clear hb7
    have hll : decide (l = l) = true := by simp
    rw [hll]
    go_wp2_with fail
    refine (begins_at p q b _ HB.out (HM.out.fr H7.out) (by have := HP.out; omega) (by have := HQ.out; omega)).mono ?_
    rintro e w8 ⟨rfl, hb8⟩
    have H8 := Lib.hid (fr_trans H7.out hb8); clear hb8
    go_wp2_with fail
    refine (refB_at p q b _ HB.out (by have := HP.out; omega) (by have := HQ.out; omega)).mono ?_
    rintro e w9 ⟨rfl, hb9⟩
    have H9 := Lib.hid (fr_trans H8.out hb9); clear hb9
    go_wp2
    go_ret
    exact ⟨by first | rfl | (cases b <;> rfl), H9.out⟩
  | some x =>
    have HC := Lib.hid (cleanR_some hc)
    have HC1 := Lib.hid (show cleanR1 (cleanS p) = .tuple #[.string x, .int .i64 0] by rw [hc]; rfl)
    clear hc
    go_enter Tryz.func3, Tryz.ntmps3
    go_wp2_with fail
    refine (law11_known _ HM.out).mono ?_
    rintro e w1 ⟨rfl, hb1⟩
    have H1 := Lib.hid hb1; clear hb1
    go_wp2_with fail
    refine (clean_at p _ _ HC.out (HM.out.fr H1.out) (by have := HP.out; omega)).mono ?_
    rintro e w2 ⟨rfl, hb2⟩
    have H2 := Lib.hid (fr_trans H1.out hb2); clear hb2
    go_wp2_with fail
    refine (refC_at p _ _ HC1.out (by have := HP.out; omega)).mono ?_
    rintro e w3 ⟨rfl, hb3⟩
    have H3 := Lib.hid (fr_trans H2.out hb3); clear hb3
    go_wp2_with fail
    refine (law11_code0 _).mono ?_
    rintro e w4 ⟨rfl, hb4⟩
    have H4 := Lib.hid (fr_trans H3.out hb4); clear hb4
    go_wp2_with fail
    refine (segs_at p l n _ HL.out HN.out (HM.out.fr H4.out) (by have := HP.out; omega)).mono ?_
    rintro e w5 ⟨⟨A, c, rfl, -, hA⟩, hb5⟩
    have H5 := Lib.hid (fr_trans H4.out hb5); have HA := Lib.hid hA; clear hb5 hA
    go_wp2_with fail
    refine (segs_ref p n _ HLN.out (by have := HP.out; omega)).mono ?_
    rintro e w6 ⟨⟨A2, c2, rfl, hA2, -⟩, hb6⟩
    rw [HL.out] at hA2
    have H6 := Lib.hid (fr_trans H5.out hb6); have HA1 := Lib.hid (HA.out.fr hb6); have HA2 := Lib.hid hA2; clear hb6 hA2
    go_wp2_with fail
    refine (law11_same A A2 n n c c2 l l _ HN.out HN.out HA1.out HA2.out HN9.out HN9.out).mono ?_
    rintro e w7 ⟨rfl, hb7⟩
    have H7 := Lib.hid (fr_trans H6.out hb7); clear hb7
    have hll : decide (l = l) = true := by simp
    rw [hll]
    go_wp2_with fail
    refine (begins_at p q b _ HB.out (HM.out.fr H7.out) (by have := HP.out; omega) (by have := HQ.out; omega)).mono ?_
    rintro e w8 ⟨rfl, hb8⟩
    have H8 := Lib.hid (fr_trans H7.out hb8); clear hb8
    go_wp2_with fail
    refine (refB_at p q b _ HB.out (by have := HP.out; omega) (by have := HQ.out; omega)).mono ?_
    rintro e w9 ⟨rfl, hb9⟩
    have H9 := Lib.hid (fr_trans H8.out hb9); clear hb9
    go_wp2
    go_ret
    exact ⟨by first | rfl | (cases b <;> rfl), H9.out⟩
end Go.Proofs.YtoplnepbjjcbcaaGreatDoor
