/- conduitlaw7.StartBack: true of every line of a size that is bounded. -/
import Derived.Test.YtdagppbpeibdgaaDoorSt4
namespace Go.Proofs.YtdagppbpeibdgaaDoor
set_option linter.unusedVariables false
set_option linter.unusedSimpArgs false
open Go.RowKit

theorem cutC_join (c : UInt8) : ∀ l : List UInt8, ∀ x r, cutC c l = x :: r → l = x ++ r.flatMap (fun y => c :: y)
  | [], x, r, h => by
    have h' : ([] : List UInt8) :: [] = x :: r := h
    injection h' with h1 h2
    subst h1 h2; rfl
  | a :: l, x, r, h => by
    by_cases ha : a = c
    · subst ha
      rw [cutC_eq] at h
      injection h with h1 h2
      subst h1 h2
      cases hq : cutC a l with
      | nil => exact absurd hq (cutC_ne a l)
      | cons y s =>
        have ih := cutC_join a l y s hq
        rw [List.flatMap_cons, List.nil_append, List.cons_append, ← ih]
    · rw [cutC_neq ha] at h
      cases hq : cutC c l with
      | nil => exact absurd hq (cutC_ne c l)
      | cons y s =>
        rw [hq] at h
        have h' : ([a] ++ y) :: s = x :: r := h
        injection h' with h1 h2
        subst h1 h2
        have ih := cutC_join c l y s hq
        rw [List.append_assoc, ← ih]; rfl
theorem itoa0 : itoaB 0 = ⟨#[48]⟩ := by rw [show (0 : Int) = ((0 : Nat) : Int) from rfl, itoaB_nat, decB_small 0 (by decide)]; rfl
theorem start_back {line m t : ByteArray} {k : Int} (h : startS line = (0, m, t, k)) : printS m t k = line ∧ (k = 0 ∨ k = 1) ∧ m.size ≤ line.size ∧ t.size ≤ line.size := by
  by_cases hl : (cutB line 32).length = 3
  · obtain ⟨m', t', v, hc⟩ : ∃ m t v, cutB line 32 = [m, t, v] := by
      match hq : cutB line 32 with
      | [a, b, c] => exact ⟨a, b, c, rfl⟩
      | [] => rw [hq] at hl; cases hl
      | [a] => rw [hq] at hl; cases hl
      | [a, b] => rw [hq] at hl; cases hl
      | a :: b :: c :: d :: r => rw [hq] at hl; simp at hl
    rw [startS_eq hc] at h
    split at h
    · injection h with h1; cases h1
    · split at h
      · rename_i h2; injection h with h1; exact absurd h1 h2
      · rename_i hv
        split at h
        · rename_i h3; injection h with h1; exact absurd h1 h3
        · injection h with _ h; injection h with hm h; injection h with ht hk
          have hm' := cutB_size (s := line) (c := 32) (x := m') (by rw [hc]; simp)
          have ht' := cutB_size (s := line) (c := 32) (x := t') (by rw [hc]; simp)
          subst hm ht
          have hcc : cutC 32 (L line) = [L m', L t', L v] := by
            have : ((cutC 32 (L line)).map mk).map L = [L m', L t', L v] := by
              show (cutB line 32).map L = _
              rw [hc]; rfl
            rw [map_mk_L] at this; exact this
          have hj := cutC_join 32 (L line) _ _ hcc
          have hv0 : versE v = 0 := by
            cases Decidable.em (versE v = 0) with
            | inl h => exact h
            | inr h => exact absurd h hv
          have hv2 : (L v = [72, 84, 84, 80, 47, 49, 46, 48] ∧ k = 0) ∨ (L v = [72, 84, 84, 80, 47, 49, 46, 49] ∧ k = 1) := by
            unfold versE at hv0
            split at hv0
            · rename_i h1
              rw [Bool.or_eq_true, beq_iff_eq, beq_iff_eq] at h1
              rcases h1 with h1 | h1
              · exact .inl ⟨h1, by rw [← hk]; unfold versN; rw [h1]; rfl⟩
              · exact .inr ⟨h1, by rw [← hk]; unfold versN; rw [h1]; rfl⟩
            · split at hv0 <;> cases hv0
          refine ⟨?_, by rcases hv2 with h | h; exact .inl h.2; exact .inr h.2, hm', ht'⟩
          apply L_inj
          rw [hj]
          unfold printS
          rcases hv2 with ⟨h1, h2⟩ | ⟨h1, h2⟩
          · rw [h1, h2, itoa0, L_app, L_app, L_app, L_app]
            simp
            rfl
          · rw [h1, h2, itoa1, L_app, L_app, L_app, L_app]
            simp
            rfl
  · rw [startS_ne hl] at h
    injection h with h1; cases h1
theorem cut_back {t p q : ByteArray} {o : Bool} (h : cutS t 63 = (p, q, o)) : (o = true ∧ p ++ ⟨#[63]⟩ ++ q = t) ∨ (o = false ∧ p = t ∧ q = ⟨#[]⟩) := by
  by_cases hc : (63 : UInt8) ∈ L t
  · obtain ⟨a, r, ha, he⟩ := split_at hc
    rw [cutS_yes ha he] at h
    injection h with h1 h; injection h with h2 h3
    subst h1 h2 h3
    refine .inl ⟨rfl, L_inj ?_⟩
    rw [L_app, L_app, L_mk, L_mk, he, List.append_assoc]; rfl
  · rw [cutS_no hc] at h
    injection h with h1 h; injection h with h2 h3
    exact .inr ⟨h3.symm, h1.symm, h2.symm⟩
set_option maxRecDepth 100000 in
set_option maxHeartbeats 4000000 in
theorem law7_back (line : ByteArray) (w : World) (hm : MaxL w) (hE : ErrT w) (hT : Tab w) (hs : line.size ≤ 1000000000) :
    Calls Tryd.prog 8 #[.string line] w fun e w' => e = .returned (.bool true) ∧ Below w.heap.size w w' := by
  have HM := Lib.hid hm; have HE := Lib.hid hE; have HT := Lib.hid hT; have HS := Lib.hid hs
  clear hm hE hT hs
  by_cases h0 : (startS line).1 = 0
  · obtain ⟨⟨r0, m, t, k⟩, hr⟩ : ∃ r, startS line = r := ⟨_, rfl⟩
    rw [hr] at h0
    simp only at h0
    subst h0
    obtain ⟨hp, hk, hms, hts⟩ := start_back hr
    obtain ⟨⟨p, q, o⟩, hc⟩ : ∃ c, cutS t 63 = c := ⟨_, rfl⟩
    have hb := cut_back hc
    have hsz := HS.out
    have hp1 : p.size ≤ t.size := by have := cutS_size1 t 63; rw [hc] at this; exact this
    have hq1 : q.size ≤ t.size := by have := cutS_size2 t 63; rw [hc] at this; exact this
    have s1 : ¬ 9223372036854775807 < p.size + 1 := by omega
    have s2 : ¬ 9223372036854775807 < p.size + 1 + q.size := by omega
    have hk0 : -9223372036854775808 ≤ k := by omega
    have hk1 : k ≤ 9223372036854775807 := by omega
    have ht9 : t.size ≤ 9223372036854775807 := by omega
    have hmz : m.size ≤ 1000000000000 := by omega
    have htz : t.size ≤ 1000000000000 := by omega
    have HR := Lib.hid hr; have HP := Lib.hid hp; have HC := Lib.hid hc; have HK0 := Lib.hid hk0; have HK1 := Lib.hid hk1; have HT9 := Lib.hid ht9; have HMZ := Lib.hid hmz; have HTZ := Lib.hid htz
    clear hr hp hk hms hts hc hsz hp1 hq1 hk0 hk1 ht9 hmz htz
    rcases hb with ⟨rfl, hb⟩ | ⟨rfl, hpt, hqe⟩
    · have eq1 : ((p ++ ⟨#[63]⟩ ++ q).toList == t.toList) = true := by rw [hb]; simp
      clear hb
      go_enter Tryd.func8, Tryd.ntmps8
      go_wp2_with fail
      refine (law7_known _ HM.out HE.out HT.out).mono ?_
      rintro e w1 ⟨rfl, hb1⟩
      have H1 := Lib.hid hb1; clear hb1
      go_wp2_with fail
      refine (parse_ok _ _ _ _ _ HR.out (HM.out.fr H1.out) (HE.out.fr H1.out) HS.out).mono ?_
      rintro e w2 ⟨rfl, hb2⟩
      have HB2 := Lib.hid (Box.new w2 [.string m, .string t, .int .i64 k, .slice none 0 0, .string ⟨#[]⟩] 46)
      have H2 := Lib.hid (fr_alloc (fr_trans H1.out hb2) (.cells #[.string m, .string t, .int .i64 k, .slice none 0 0, .string ⟨#[]⟩] 46))
      clear hb2
      go_wp2_with fail
      refine (st_Split _ _ _ _ _ HC.out HT9.out).mono ?_
      rintro e w3 ⟨rfl, hb3⟩
      have hx3 := HB2.out.fr hb3
      have q3c0 : w3.cell? ⟨w2.heap.size, 0, none⟩ = some (.string m) := hx3.2 0 _ rfl
      have q3c1 : w3.cell? ⟨w2.heap.size, 1, none⟩ = some (.string t) := hx3.2 1 _ rfl
      have q3c2 : w3.cell? ⟨w2.heap.size, 2, none⟩ = some (.int .i64 k) := hx3.2 2 _ rfl
      have q3c3 : w3.cell? ⟨w2.heap.size, 3, none⟩ = some (.slice none 0 0) := hx3.2 3 _ rfl
      have q3c4 : w3.cell? ⟨w2.heap.size, 4, none⟩ = some (.string ⟨#[]⟩) := hx3.2 4 _ rfl
      have q3lt : w2.heap.size < w3.heap.size := hx3.1
      have HX3 := Lib.hid hx3
      have H3 := Lib.hid (fr_trans H2.out hb3)
      clear hb3 hx3
      go_wp2_with fail
      refine (st_Print _ _ k _ _ _ _ _ (HT.out.fr H3.out) HK0.out HK1.out HMZ.out HTZ.out).mono ?_
      rintro e w4 ⟨rfl, hb4⟩
      rw [HP.out]
      have hx4 := HX3.out.fr hb4
      have q4c0 : w4.cell? ⟨w2.heap.size, 0, none⟩ = some (.string m) := hx4.2 0 _ rfl
      have q4c1 : w4.cell? ⟨w2.heap.size, 1, none⟩ = some (.string t) := hx4.2 1 _ rfl
      have q4c2 : w4.cell? ⟨w2.heap.size, 2, none⟩ = some (.int .i64 k) := hx4.2 2 _ rfl
      have q4c3 : w4.cell? ⟨w2.heap.size, 3, none⟩ = some (.slice none 0 0) := hx4.2 3 _ rfl
      have q4c4 : w4.cell? ⟨w2.heap.size, 4, none⟩ = some (.string ⟨#[]⟩) := hx4.2 4 _ rfl
      have q4lt : w2.heap.size < w4.heap.size := hx4.1
      have H4 := Lib.hid (fr_trans H3.out hb4)
      clear hb4 hx4 q3c0 q3c1 q3c2 q3c3 q3c4
      go_wp2
      go_ret
      exact ⟨by first | rfl | simp, H4.out⟩
    · subst hpt hqe
      go_enter Tryd.func8, Tryd.ntmps8
      go_wp2_with fail
      refine (law7_known _ HM.out HE.out HT.out).mono ?_
      rintro e w1 ⟨rfl, hb1⟩
      have H1 := Lib.hid hb1; clear hb1
      go_wp2_with fail
      refine (parse_ok _ _ _ _ _ HR.out (HM.out.fr H1.out) (HE.out.fr H1.out) HS.out).mono ?_
      rintro e w2 ⟨rfl, hb2⟩
      have HB2 := Lib.hid (Box.new w2 [.string m, .string p, .int .i64 k, .slice none 0 0, .string ⟨#[]⟩] 46)
      have H2 := Lib.hid (fr_alloc (fr_trans H1.out hb2) (.cells #[.string m, .string p, .int .i64 k, .slice none 0 0, .string ⟨#[]⟩] 46))
      clear hb2
      go_wp2_with fail
      refine (st_Split _ _ _ _ _ HC.out HT9.out).mono ?_
      rintro e w3 ⟨rfl, hb3⟩
      have hx3 := HB2.out.fr hb3
      have q3c0 : w3.cell? ⟨w2.heap.size, 0, none⟩ = some (.string m) := hx3.2 0 _ rfl
      have q3c1 : w3.cell? ⟨w2.heap.size, 1, none⟩ = some (.string p) := hx3.2 1 _ rfl
      have q3c2 : w3.cell? ⟨w2.heap.size, 2, none⟩ = some (.int .i64 k) := hx3.2 2 _ rfl
      have q3c3 : w3.cell? ⟨w2.heap.size, 3, none⟩ = some (.slice none 0 0) := hx3.2 3 _ rfl
      have q3c4 : w3.cell? ⟨w2.heap.size, 4, none⟩ = some (.string ⟨#[]⟩) := hx3.2 4 _ rfl
      have q3lt : w2.heap.size < w3.heap.size := hx3.1
      have HX3 := Lib.hid hx3
      have H3 := Lib.hid (fr_trans H2.out hb3)
      clear hb3 hx3
      go_wp2_with fail
      refine (st_Print _ _ k _ _ _ _ _ (HT.out.fr H3.out) HK0.out HK1.out HMZ.out HTZ.out).mono ?_
      rintro e w4 ⟨rfl, hb4⟩
      rw [HP.out]
      have hx4 := HX3.out.fr hb4
      have q4c0 : w4.cell? ⟨w2.heap.size, 0, none⟩ = some (.string m) := hx4.2 0 _ rfl
      have q4c1 : w4.cell? ⟨w2.heap.size, 1, none⟩ = some (.string p) := hx4.2 1 _ rfl
      have q4c2 : w4.cell? ⟨w2.heap.size, 2, none⟩ = some (.int .i64 k) := hx4.2 2 _ rfl
      have q4c3 : w4.cell? ⟨w2.heap.size, 3, none⟩ = some (.slice none 0 0) := hx4.2 3 _ rfl
      have q4c4 : w4.cell? ⟨w2.heap.size, 4, none⟩ = some (.string ⟨#[]⟩) := hx4.2 4 _ rfl
      have q4lt : w2.heap.size < w4.heap.size := hx4.1
      have H4 := Lib.hid (fr_trans H3.out hb4)
      clear hb4 hx4 q3c0 q3c1 q3c2 q3c3 q3c4
      go_wp2
      all_goals
        go_ret
        exact ⟨by first | rfl | simp, H4.out⟩
  · obtain ⟨n, hn⟩ : ∃ n, (startS line).1 = n := ⟨_, rfl⟩
    have HN := Lib.hid hn; have HN0 := Lib.hid (show n ≠ 0 by rw [← hn]; exact h0)
    clear h0 hn
    go_enter Tryd.func8, Tryd.ntmps8
    go_wp2_with fail
    refine (law7_known _ HM.out HE.out HT.out).mono ?_
    rintro e w1 ⟨rfl, hb1⟩
    have H1 := Lib.hid hb1; clear hb1
    go_wp2_with fail
    refine (parse_no _ n _ HN.out HN0.out (HM.out.fr H1.out) (HE.out.fr H1.out) HS.out).mono ?_
    rintro e w2 ⟨rfl, hb2⟩
    have H2 := Lib.hid (fr_trans H1.out hb2); clear hb2
    go_wp2
    go_ret
    exact ⟨rfl, fr_alloc H2.out _⟩
end Go.Proofs.YtdagppbpeibdgaaDoor
