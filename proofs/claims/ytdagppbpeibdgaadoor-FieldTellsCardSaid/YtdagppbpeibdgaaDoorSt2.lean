/- start.Parse. -/
import Derived.Test.YtdagppbpeibdgaaDoorSt
import Derived.Deep.QuietTactic
import Derived.BigQuiet
namespace Go.Proofs.YtdagppbpeibdgaaDoor
set_option linter.unusedVariables false
set_option linter.unusedSimpArgs false
open Go.RowKit

theorem startS_ne {line : ByteArray} (h : (cutB line 32).length ≠ 3) : startS line = (10, ⟨#[]⟩, ⟨#[]⟩, 0) := by
  unfold startS
  match hq : cutB line 32 with
  | [] => rfl
  | [a] => rfl
  | [a, b] => rfl
  | [a, b, c] => rw [hq] at h; exact absurd rfl h
  | a :: b :: c :: d :: r => rfl
theorem startS_eq {line m t v : ByteArray} (h : cutB line 32 = [m, t, v]) : startS line =
    if ((L m).all isTokB && !(L m).isEmpty && Nat.ble m.size 16) = false then (10, ⟨#[]⟩, ⟨#[]⟩, 0)
    else if versE v ≠ 0 then (versE v, ⟨#[]⟩, ⟨#[]⟩, 0)
    else if targE m t ≠ 0 then (targE m t, ⟨#[]⟩, ⟨#[]⟩, 0)
    else (0, m, t, versN v) := by
  unfold startS; rw [h]
theorem st_version_at (s : ByteArray) (n k : Int) (w : World) (hn : versE s = n) (hk : (if versE s = 0 then versN s else 0) = k) :
    Calls Tryd.prog 50 #[.string s] w fun e w' => e = .returned (.tuple #[.int .i64 k, errV n]) ∧ w = w' := by
  subst hn hk; exact st_version s w
theorem st_version_n (s : ByteArray) (n : Int) (w : World) (hn : versE s = n) (h0 : n ≠ 0) :
    Calls Tryd.prog 50 #[.string s] w fun e w' => e = .returned (.tuple #[.int .i64 0, .iface 38 (.int .i64 n)]) ∧ w = w' := by
  have := st_version s w
  rw [hn, if_neg h0] at this
  unfold errV at this
  rw [if_neg h0] at this
  exact this
theorem st_version_0 (s : ByteArray) (w : World) (hn : versE s = 0) :
    Calls Tryd.prog 50 #[.string s] w fun e w' => e = .returned (.tuple #[.int .i64 (versN s), .nilIface]) ∧ w = w' := by
  have := st_version s w
  rw [hn, if_pos rfl] at this
  exact this
theorem st_target_n (m s : ByteArray) (n : Int) (w : World) (hn : targE m s = n) (h0 : n ≠ 0) (hs : s.size ≤ 9223372036854775807) :
    Calls Tryd.prog 51 #[.string m, .string s] w fun e w' => e = .returned (.iface 38 (.int .i64 n)) ∧ w = w' := by
  have := st_target m s w hs
  rw [hn] at this
  unfold errV at this
  rw [if_neg h0] at this
  exact this
theorem st_target_0 (m s : ByteArray) (w : World) (hn : targE m s = 0) (hs : s.size ≤ 9223372036854775807) :
    Calls Tryd.prog 51 #[.string m, .string s] w fun e w' => e = .returned .nilIface ∧ w = w' := by
  have := st_target m s w hs
  rw [hn] at this
  exact this
theorem st_target_at (m s : ByteArray) (n : Int) (w : World) (hn : targE m s = n) (hs : s.size ≤ 9223372036854775807) :
    Calls Tryd.prog 51 #[.string m, .string s] w fun e w' => e = .returned (errV n) ∧ w = w' := by
  subst hn; exact st_target m s w hs
def reqZ : Array Value := #[.string ⟨#[]⟩, .string ⟨#[]⟩, .int .i64 0, .slice none 0 0, .string ⟨#[]⟩]
theorem res_req {fn : Func} {a u : Tmp} {tmps : Array Value} {w : World} {g : Nat} {v0 v1 v2 v3 v4 : Value} (h : fn.results = #[.cell a 46, .tmp u]) (ht : tmps.getD a undef = .pointer (some ⟨g, 0, none⟩))
    (hb : Blk w g 46 #[v0, v1, v2, v3, v4]) : (results fn tmps).run Tryd.prog w = .ok (.tuple #[.agg #[v0, v1, v2, v3, v4], tmps.getD u undef]) w := by
  have c0 : w.cell? ⟨g, 0, none⟩ = some v0 := hb.cell 0
  have c1 : w.cell? ⟨g, 1, none⟩ = some v1 := hb.cell 1
  have c2 : w.cell? ⟨g, 2, none⟩ = some v2 := hb.cell 2
  have c3 : w.cell? ⟨g, 3, none⟩ = some v3 := hb.cell 3
  have c4 : w.cell? ⟨g, 4, none⟩ = some v4 := hb.cell 4
  have ht' : tmps[a]?.getD undef = .pointer (some ⟨g, 0, none⟩) := by simpa using ht
  simp [results, h, ht', go_sem, c0, c1, c2, c3, c4]
theorem same_sym2 {P : Program} {f : FuncId} {args : Array Value} {w : World} {v : Value} (h : Calls P f args w fun e w' => e = .returned v ∧ w = w') : Calls P f args w fun e w' => e = .returned v ∧ w' = w := h.mono fun _ _ ⟨a, b⟩ => ⟨a, b.symm⟩
theorem fr_req {w w2 : World} {v0 v1 v2 v3 v4 : Value} (h : Below w.heap.size w w2) : Below w.heap.size w (((((w2.setCell ⟨w.heap.size, 0, none⟩ v0).setCell ⟨w.heap.size, 1, none⟩ v1).setCell ⟨w.heap.size, 2, none⟩ v2).setCell ⟨w.heap.size, 3, none⟩ v3).setCell ⟨w.heap.size, 4, none⟩ v4) :=
  fr_set (fr_set (fr_set (fr_set (fr_set h (Nat.le_refl _) _) (Nat.le_refl _) _) (Nat.le_refl _) _) (Nat.le_refl _) _) (Nat.le_refl _) _
set_option maxRecDepth 100000 in
set_option maxHeartbeats 8000000 in
theorem st_Parse (line : ByteArray) (w : World) (hm : MaxL w) (hE : ErrT w) (hs : line.size ≤ 1000000000) :
    Calls Tryd.prog 22 #[.string line] w fun e w' => e = .returned (startR (startS line)) ∧ Below w.heap.size w w' := by
  have hw0 := fr_alloc (fr_refl w) (.cells reqZ 46)
  have hZ := Blk.new w 46 reqZ
  have hm0 := hm.fr hw0
  have hE0 := hE.fr hw0
  have hcl := cutB_len line 32
  have hms : ∀ x ∈ cutB line 32, x.size ≤ 9223372036854775807 := fun x hx => by have := cutB_size hx; omega
  have hne := fun h => @startS_ne line h
  have heq := fun m t v h => @startS_eq line m t v h
  obtain ⟨W0, hW0⟩ : ∃ W, w.alloc (.cells reqZ 46) = W := ⟨_, rfl⟩
  have hW0' : w.alloc (.cells #[.string ⟨#[]⟩, .string ⟨#[]⟩, .int .i64 0, .slice none 0 0, .string ⟨#[]⟩] 46) = W0 := hW0
  rw [hW0] at hw0 hZ hm0 hE0
  have hspl := lib_Split line 32 W0 hm0 (by omega)
  have hS := Strs.new W0 (cutB line 32) 9
  obtain ⟨l, hl⟩ : ∃ l, cutB line 32 = l := ⟨_, rfl⟩
  rw [hl] at hcl hms hspl hS hne heq
  have hw1 : Below W0.heap.size W0 (W0.alloc (.cells (l.map Value.string).toArray 9)) := fr_alloc (fr_refl _) _
  obtain ⟨w1, hw1e⟩ : ∃ w1, W0.alloc (.cells (l.map Value.string).toArray 9) = w1 := ⟨_, rfl⟩
  rw [hw1e] at hspl hS hw1
  obtain ⟨n, hn⟩ : ∃ n, l.length = n := ⟨_, rfl⟩
  rw [hn] at hspl hne hcl
  have HMS := Lib.hid hms; have HSP := Lib.hid hspl; have HS := Lib.hid hS; have HW1 := Lib.hid (fr_trans hw0 hw1); have HNE := Lib.hid hne; have HEQ := Lib.hid heq; have HN := Lib.hid hn; have HE := Lib.hid (hE0.fr hw1)
  have HZ := Lib.hid (hZ.fr hw1)
  obtain ⟨R, hR⟩ : ∃ R, startS line = R := ⟨_, rfl⟩
  rw [hR] at HNE HEQ ⊢
  obtain ⟨gs, hgs⟩ : ∃ g, W0.heap.size = g := ⟨_, rfl⟩
  rw [hgs] at HSP HS
  have hn9 : n ≤ 1000000001 := by omega
  clear hms hspl hS hne heq hn hE hl hcl hR hm hs hw0 hZ hm0 hE0 hw1 hw1e hW0 hgs
  by_cases hn3 : n = 3
  · subst hn3
    obtain ⟨m, t, v, rfl⟩ : ∃ m t v, l = [m, t, v] := by
      have := HN.out
      match l, this with
      | [a, b, c], _ => exact ⟨a, b, c, rfl⟩
    have hr := HEQ.out m t v rfl
    have hm9 : m.size ≤ 9223372036854775807 := HMS.out m (by simp)
    have ht9 : t.size ≤ 9223372036854775807 := HMS.out t (by simp)
    have hnI : (((3 : Nat) : Int) != 3) = false := by decide
    have HM9 := Lib.hid hm9; have HT9 := Lib.hid ht9; have HR := Lib.hid hr
    clear hr hm9 ht9 HNE HEQ
    cases htk : allB isTokB m
    · have hr : R = (10, ⟨#[]⟩, ⟨#[]⟩, 0) := by
        rw [HR.out, if_pos]
        unfold allB at htk; rw [toList_L] at htk; rw [htk]; rfl
      have HTK := Lib.hid htk
      clear htk
      subst hr
      go_enter Tryd.func22, Tryd.ntmps22
      go_wp2_with fail
      refine HSP.out.mono ?_
      rintro e w2 ⟨rfl, hw2⟩
      have hw2' := hw2.symm
      clear hw2 hW0'
      subst hw2'
      have hz := HZ.out
      have zc0 : w1.cell? ⟨w.heap.size, 0, none⟩ = some (.string ⟨#[]⟩) := hz.cell 0
      have zf0 : w1.frozen? ⟨w.heap.size, 0, none⟩ = false := hz.frozen 0
      have zc1 : w1.cell? ⟨w.heap.size, 1, none⟩ = some (.string ⟨#[]⟩) := hz.cell 1
      have zf1 : w1.frozen? ⟨w.heap.size, 1, none⟩ = false := hz.frozen 1
      have zc2 : w1.cell? ⟨w.heap.size, 2, none⟩ = some (.int .i64 0) := hz.cell 2
      have zf2 : w1.frozen? ⟨w.heap.size, 2, none⟩ = false := hz.frozen 2
      have zc3 : w1.cell? ⟨w.heap.size, 3, none⟩ = some (.slice none 0 0) := hz.cell 3
      have zf3 : w1.frozen? ⟨w.heap.size, 3, none⟩ = false := hz.frozen 3
      have zc4 : w1.cell? ⟨w.heap.size, 4, none⟩ = some (.string ⟨#[]⟩) := hz.cell 4
      have zf4 : w1.frozen? ⟨w.heap.size, 4, none⟩ = false := hz.frozen 4
      have zlt : w.heap.size < w1.heap.size := hz.lt
      obtain ⟨b0, o0, e0, gl0, c0⟩ := HS.out.at_ (k := 0) (by simp)
      obtain ⟨b1, o1, e1, gl1, c1⟩ := HS.out.at_ (k := 1) (by simp)
      obtain ⟨b2, o2, e2, gl2, c2⟩ := HS.out.at_ (k := 2) (by simp)
      simp only [Option.some.injEq, Addr.mk.injEq, and_true] at e0 e1 e2
      obtain ⟨rfl, rfl⟩ := e0
      obtain ⟨rfl, rfl⟩ := e1
      obtain ⟨rfl, rfl⟩ := e2
      rw [Nat.zero_add] at c0 c1 c2
      simp only [List.getElem_cons_zero, List.getElem_cons_succ] at c0 c1 c2
      clear hz
      go_wp2_with fail
      refine (oct_Token m _ HM9.out).mono ?_
      rintro e wq ⟨rfl, rfl⟩
      rw [HTK.out]
      go_wp2
      refine bodyPost_ret (res_req (g := w.heap.size) (v0 := .string ⟨#[]⟩) (v1 := .string ⟨#[]⟩) (v2 := .int .i64 0) (v3 := .slice none 0 0) (v4 := .string ⟨#[]⟩) Tryd.results22 rfl (((((HZ.out.set_ 0 _).set_ 1 _).set_ 2 _).set_ 3 _).set_ 4 _)) rfl ?_
      exact ⟨rfl, fr_req HW1.out⟩
    have htk' : ((L m).all isTokB && !(L m).isEmpty) = true := by unfold allB at htk; rw [toList_L] at htk; exact htk
    have HTK := Lib.hid htk
    clear htk
    by_cases h16 : m.size ≤ 16
    · have h16I : decide ((16 : Int) < (m.size : Int)) = false := by simp; omega
      have hr2 : R = if versE v ≠ 0 then (versE v, ⟨#[]⟩, ⟨#[]⟩, 0) else if targE m t ≠ 0 then (targE m t, ⟨#[]⟩, ⟨#[]⟩, 0) else (0, m, t, versN v) := by
        rw [HR.out, if_neg]
        rw [htk', ble_yes h16]; decide
      have HR2 := Lib.hid hr2
      clear hr2 htk' h16 HR
      by_cases hv0 : versE v = 0
      · have hr2 : R = if targE m t ≠ 0 then (targE m t, ⟨#[]⟩, ⟨#[]⟩, 0) else (0, m, t, versN v) := by rw [HR2.out, if_neg (by simp [hv0])]
        have HR3 := Lib.hid hr2; have HV := Lib.hid hv0
        clear hr2 hv0 HR2
        by_cases ht0 : targE m t = 0
        · have hr : R = (0, m, t, versN v) := by rw [HR3.out, if_neg (by simp [ht0])]
          subst hr
          have HT := Lib.hid ht0
          clear ht0 HR3
          obtain ⟨kv, hkv⟩ : ∃ k, versN v = k := ⟨_, rfl⟩
          have hver := fun W => st_version_0 v W HV.out
          rw [hkv] at hver
          rw [hkv]
          have HVER := Lib.hid hver
          clear hver hkv
          go_enter Tryd.func22, Tryd.ntmps22
          go_wp2_with fail
          refine HSP.out.mono ?_
          rintro e w2 ⟨rfl, hw2⟩
          have hw2' := hw2.symm
          clear hw2 hW0'
          subst hw2'
          have hz := HZ.out
          have zc0 : w1.cell? ⟨w.heap.size, 0, none⟩ = some (.string ⟨#[]⟩) := hz.cell 0
          have zf0 : w1.frozen? ⟨w.heap.size, 0, none⟩ = false := hz.frozen 0
          have zc1 : w1.cell? ⟨w.heap.size, 1, none⟩ = some (.string ⟨#[]⟩) := hz.cell 1
          have zf1 : w1.frozen? ⟨w.heap.size, 1, none⟩ = false := hz.frozen 1
          have zc2 : w1.cell? ⟨w.heap.size, 2, none⟩ = some (.int .i64 0) := hz.cell 2
          have zf2 : w1.frozen? ⟨w.heap.size, 2, none⟩ = false := hz.frozen 2
          have zc3 : w1.cell? ⟨w.heap.size, 3, none⟩ = some (.slice none 0 0) := hz.cell 3
          have zf3 : w1.frozen? ⟨w.heap.size, 3, none⟩ = false := hz.frozen 3
          have zc4 : w1.cell? ⟨w.heap.size, 4, none⟩ = some (.string ⟨#[]⟩) := hz.cell 4
          have zf4 : w1.frozen? ⟨w.heap.size, 4, none⟩ = false := hz.frozen 4
          have zlt : w.heap.size < w1.heap.size := hz.lt
          obtain ⟨b0, o0, e0, gl0, c0⟩ := HS.out.at_ (k := 0) (by simp)
          obtain ⟨b1, o1, e1, gl1, c1⟩ := HS.out.at_ (k := 1) (by simp)
          obtain ⟨b2, o2, e2, gl2, c2⟩ := HS.out.at_ (k := 2) (by simp)
          simp only [Option.some.injEq, Addr.mk.injEq, and_true] at e0 e1 e2
          obtain ⟨rfl, rfl⟩ := e0
          obtain ⟨rfl, rfl⟩ := e1
          obtain ⟨rfl, rfl⟩ := e2
          rw [Nat.zero_add] at c0 c1 c2
          simp only [List.getElem_cons_zero, List.getElem_cons_succ] at c0 c1 c2
          clear hz
          go_wp2_with fail
          refine (oct_Token m _ HM9.out).mono ?_
          rintro e wq ⟨rfl, rfl⟩
          rw [HTK.out]
          go_wp2_with fail
          refine (HVER.out _).mono ?_
          rintro e wq ⟨rfl, rfl⟩
          go_wp2_with fail
          go_quiet (first | (go_at_call 51; refine Calls.quiet_of_same (same_sym2 (st_target_0 m t _ HT.out HT9.out))))
          go_wp2_with fail
          refine (as_nil _ _).mono ?_
          rintro e wq ⟨rfl, rfl⟩
          have HZ6 := Lib.hid ((HZ.out.drewN nq).alloc (.cells #[.int .i64 0] 38))
          have HF6 := Lib.hid (fr_alloc (fr_drewN HW1.out nq) (.cells #[.int .i64 0] 38))
          have yc0 : ((w1.drewN nq).alloc (.cells #[.int .i64 0] 38)).cell? ⟨w.heap.size, 0, none⟩ = some (.string ⟨#[]⟩) := HZ6.out.cell 0
          have yf0 : ((w1.drewN nq).alloc (.cells #[.int .i64 0] 38)).frozen? ⟨w.heap.size, 0, none⟩ = false := HZ6.out.frozen 0
          have yc1 : ((w1.drewN nq).alloc (.cells #[.int .i64 0] 38)).cell? ⟨w.heap.size, 1, none⟩ = some (.string ⟨#[]⟩) := HZ6.out.cell 1
          have yf1 : ((w1.drewN nq).alloc (.cells #[.int .i64 0] 38)).frozen? ⟨w.heap.size, 1, none⟩ = false := HZ6.out.frozen 1
          have yc2 : ((w1.drewN nq).alloc (.cells #[.int .i64 0] 38)).cell? ⟨w.heap.size, 2, none⟩ = some (.int .i64 0) := HZ6.out.cell 2
          have yf2 : ((w1.drewN nq).alloc (.cells #[.int .i64 0] 38)).frozen? ⟨w.heap.size, 2, none⟩ = false := HZ6.out.frozen 2
          have yc3 : ((w1.drewN nq).alloc (.cells #[.int .i64 0] 38)).cell? ⟨w.heap.size, 3, none⟩ = some (.slice none 0 0) := HZ6.out.cell 3
          have yf3 : ((w1.drewN nq).alloc (.cells #[.int .i64 0] 38)).frozen? ⟨w.heap.size, 3, none⟩ = false := HZ6.out.frozen 3
          have yc4 : ((w1.drewN nq).alloc (.cells #[.int .i64 0] 38)).cell? ⟨w.heap.size, 4, none⟩ = some (.string ⟨#[]⟩) := HZ6.out.cell 4
          have yf4 : ((w1.drewN nq).alloc (.cells #[.int .i64 0] 38)).frozen? ⟨w.heap.size, 4, none⟩ = false := HZ6.out.frozen 4
          have k0 : ((w1.drewN nq).alloc (.cells #[.int .i64 0] 38)).cell? ⟨gs, 0, none⟩ = some (.string m) := fr_cell (fr_alloc (fr_drewN (fr_refl w1) nq) _) c0
          have k1 : ((w1.drewN nq).alloc (.cells #[.int .i64 0] 38)).cell? ⟨gs, 1, none⟩ = some (.string t) := fr_cell (fr_alloc (fr_drewN (fr_refl w1) nq) _) c1
          go_wp2_with fail
          go_region
          all_goals
            go_wp2
            refine bodyPost_ret (res_req (g := w.heap.size) (v0 := .string m) (v1 := .string t) (v2 := .int .i64 kv) (v3 := .slice none 0 0) (v4 := .string ⟨#[]⟩) Tryd.results22 rfl ((((((HZ6.out.set_ 0 _).set_ 1 _).set_ 2 _).set_ 3 _).set_ 4 _).drew)) rfl ?_
            exact ⟨rfl, fr_drew (fr_req HF6.out)⟩
        · obtain ⟨n, hn⟩ : ∃ n, targE m t = n := ⟨_, rfl⟩
          have hn0 : n ≠ 0 := by rw [← hn]; exact ht0
          have hr : R = (n, ⟨#[]⟩, ⟨#[]⟩, 0) := by rw [HR3.out, if_pos ht0, hn]
          subst hr
          have HT := Lib.hid hn; have HN0 := Lib.hid hn0
          obtain ⟨kv, hkv⟩ : ∃ k, versN v = k := ⟨_, rfl⟩
          have hver := fun W => st_version_0 v W HV.out
          rw [hkv] at hver
          have HVER := Lib.hid hver
          clear hver hkv ht0 hn hn0 HR3
          go_enter Tryd.func22, Tryd.ntmps22
          go_wp2_with fail
          refine HSP.out.mono ?_
          rintro e w2 ⟨rfl, hw2⟩
          have hw2' := hw2.symm
          clear hw2 hW0'
          subst hw2'
          have hz := HZ.out
          have zc0 : w1.cell? ⟨w.heap.size, 0, none⟩ = some (.string ⟨#[]⟩) := hz.cell 0
          have zf0 : w1.frozen? ⟨w.heap.size, 0, none⟩ = false := hz.frozen 0
          have zc1 : w1.cell? ⟨w.heap.size, 1, none⟩ = some (.string ⟨#[]⟩) := hz.cell 1
          have zf1 : w1.frozen? ⟨w.heap.size, 1, none⟩ = false := hz.frozen 1
          have zc2 : w1.cell? ⟨w.heap.size, 2, none⟩ = some (.int .i64 0) := hz.cell 2
          have zf2 : w1.frozen? ⟨w.heap.size, 2, none⟩ = false := hz.frozen 2
          have zc3 : w1.cell? ⟨w.heap.size, 3, none⟩ = some (.slice none 0 0) := hz.cell 3
          have zf3 : w1.frozen? ⟨w.heap.size, 3, none⟩ = false := hz.frozen 3
          have zc4 : w1.cell? ⟨w.heap.size, 4, none⟩ = some (.string ⟨#[]⟩) := hz.cell 4
          have zf4 : w1.frozen? ⟨w.heap.size, 4, none⟩ = false := hz.frozen 4
          have zlt : w.heap.size < w1.heap.size := hz.lt
          obtain ⟨b0, o0, e0, gl0, c0⟩ := HS.out.at_ (k := 0) (by simp)
          obtain ⟨b1, o1, e1, gl1, c1⟩ := HS.out.at_ (k := 1) (by simp)
          obtain ⟨b2, o2, e2, gl2, c2⟩ := HS.out.at_ (k := 2) (by simp)
          simp only [Option.some.injEq, Addr.mk.injEq, and_true] at e0 e1 e2
          obtain ⟨rfl, rfl⟩ := e0
          obtain ⟨rfl, rfl⟩ := e1
          obtain ⟨rfl, rfl⟩ := e2
          rw [Nat.zero_add] at c0 c1 c2
          simp only [List.getElem_cons_zero, List.getElem_cons_succ] at c0 c1 c2
          clear hz
          go_wp2_with fail
          refine (oct_Token m _ HM9.out).mono ?_
          rintro e wq ⟨rfl, rfl⟩
          rw [HTK.out]
          go_wp2_with fail
          refine (HVER.out _).mono ?_
          rintro e wq ⟨rfl, rfl⟩
          go_wp2_with fail
          go_quiet (first | (go_at_call 51; refine Calls.quiet_of_same (same_sym2 (st_target_n m t n _ HT.out HN0.out HT9.out))))
          go_wp2_with fail
          refine (as_set n w1.heap.size (.int .i64 0) _ (HE.out.fr (fr_alloc (fr_drewN (fr_refl _) _) _)) (Blk.new _ _ _)).mono ?_
          rintro e w5 ⟨rfl, hg5, hc5⟩
          have hZ5 := ((HZ.out.drewN nq).alloc (.cells #[.int .i64 0] 38)).grown hg5 (by have := HZ.out.lt; simp; omega)
          have hF5 := fr_only (fr_alloc (fr_drewN HW1.out nq) (.cells #[.int .i64 0] 38)) hg5 HW1.out.size
          clear hg5 zc0 zc1 zc2 zc3 zc4 zf0 zf1 zf2 zf3 zf4 zlt c0 c1 c2 gl0 gl1 gl2
          have yc0 : w5.cell? ⟨w.heap.size, 0, none⟩ = some (.string ⟨#[]⟩) := hZ5.cell 0
          have yf0 : w5.frozen? ⟨w.heap.size, 0, none⟩ = false := hZ5.frozen 0
          have yc1 : w5.cell? ⟨w.heap.size, 1, none⟩ = some (.string ⟨#[]⟩) := hZ5.cell 1
          have yf1 : w5.frozen? ⟨w.heap.size, 1, none⟩ = false := hZ5.frozen 1
          have yc2 : w5.cell? ⟨w.heap.size, 2, none⟩ = some (.int .i64 0) := hZ5.cell 2
          have yf2 : w5.frozen? ⟨w.heap.size, 2, none⟩ = false := hZ5.frozen 2
          have yc3 : w5.cell? ⟨w.heap.size, 3, none⟩ = some (.slice none 0 0) := hZ5.cell 3
          have yf3 : w5.frozen? ⟨w.heap.size, 3, none⟩ = false := hZ5.frozen 3
          have yc4 : w5.cell? ⟨w.heap.size, 4, none⟩ = some (.string ⟨#[]⟩) := hZ5.cell 4
          have yf4 : w5.frozen? ⟨w.heap.size, 4, none⟩ = false := hZ5.frozen 4
          have ylt : w.heap.size < w5.heap.size := hZ5.lt
          have hlt5 := World.block_lt_of_cell? _ _ hc5
          have HZ5 := Lib.hid hZ5; have HF5 := Lib.hid hF5
          have hne1 : ¬ w.heap.size = w1.heap.size := by have := HZ.out.lt; omega
          have hne2 : ¬ w1.heap.size = w.heap.size := by omega
          clear hZ5 hF5
          go_wp2_with fail
          go_region
          all_goals
            go_wp2
            refine bodyPost_ret (res_req (g := w.heap.size) (v0 := .string ⟨#[]⟩) (v1 := .string ⟨#[]⟩) (v2 := .int .i64 0) (v3 := .slice none 0 0) (v4 := .string ⟨#[]⟩) Tryd.results22 rfl ((((((HZ5.out.set_ 0 _).set_ 1 _).set_ 2 _).set_ 3 _).set_ 4 _).drew)) rfl ?_
            exact ⟨by unfold startR errV; rw [if_neg HN0.out]; rfl, fr_drew (fr_req HF5.out)⟩
      · obtain ⟨n, hn⟩ : ∃ n, versE v = n := ⟨_, rfl⟩
        have hn0 : n ≠ 0 := by rw [← hn]; exact hv0
        have hr : R = (n, ⟨#[]⟩, ⟨#[]⟩, 0) := by rw [HR2.out, if_pos hv0, hn]
        subst hr
        have HV := Lib.hid hn; have HN0 := Lib.hid hn0
        clear hv0 hn hn0 HR2
        go_enter Tryd.func22, Tryd.ntmps22
        go_wp2_with fail
        refine HSP.out.mono ?_
        rintro e w2 ⟨rfl, hw2⟩
        have hw2' := hw2.symm
        clear hw2 hW0'
        subst hw2'
        have hz := HZ.out
        have zc0 : w1.cell? ⟨w.heap.size, 0, none⟩ = some (.string ⟨#[]⟩) := hz.cell 0
        have zf0 : w1.frozen? ⟨w.heap.size, 0, none⟩ = false := hz.frozen 0
        have zc1 : w1.cell? ⟨w.heap.size, 1, none⟩ = some (.string ⟨#[]⟩) := hz.cell 1
        have zf1 : w1.frozen? ⟨w.heap.size, 1, none⟩ = false := hz.frozen 1
        have zc2 : w1.cell? ⟨w.heap.size, 2, none⟩ = some (.int .i64 0) := hz.cell 2
        have zf2 : w1.frozen? ⟨w.heap.size, 2, none⟩ = false := hz.frozen 2
        have zc3 : w1.cell? ⟨w.heap.size, 3, none⟩ = some (.slice none 0 0) := hz.cell 3
        have zf3 : w1.frozen? ⟨w.heap.size, 3, none⟩ = false := hz.frozen 3
        have zc4 : w1.cell? ⟨w.heap.size, 4, none⟩ = some (.string ⟨#[]⟩) := hz.cell 4
        have zf4 : w1.frozen? ⟨w.heap.size, 4, none⟩ = false := hz.frozen 4
        have zlt : w.heap.size < w1.heap.size := hz.lt
        obtain ⟨b0, o0, e0, gl0, c0⟩ := HS.out.at_ (k := 0) (by simp)
        obtain ⟨b1, o1, e1, gl1, c1⟩ := HS.out.at_ (k := 1) (by simp)
        obtain ⟨b2, o2, e2, gl2, c2⟩ := HS.out.at_ (k := 2) (by simp)
        simp only [Option.some.injEq, Addr.mk.injEq, and_true] at e0 e1 e2
        obtain ⟨rfl, rfl⟩ := e0
        obtain ⟨rfl, rfl⟩ := e1
        obtain ⟨rfl, rfl⟩ := e2
        rw [Nat.zero_add] at c0 c1 c2
        simp only [List.getElem_cons_zero, List.getElem_cons_succ] at c0 c1 c2
        clear hz
        go_wp2_with fail
        refine (oct_Token m _ HM9.out).mono ?_
        rintro e wq ⟨rfl, rfl⟩
        rw [HTK.out]
        go_wp2_with fail
        refine (st_version_n v n _ HV.out HN0.out).mono ?_
        rintro e wq ⟨rfl, rfl⟩
        go_wp2_with fail
        refine (as_set n w1.heap.size (.int .i64 0) _ (HE.out.fr (fr_alloc (fr_refl _) _)) (Blk.new _ _ _)).mono ?_
        rintro e w5 ⟨rfl, hg5, hc5⟩
        have hZ5 := (HZ.out.alloc (.cells #[.int .i64 0] 38)).grown hg5 (by have := HZ.out.lt; simp; omega)
        have hF5 := fr_only (fr_alloc HW1.out (.cells #[.int .i64 0] 38)) hg5 HW1.out.size
        clear hg5 zc0 zc1 zc2 zc3 zc4 zf0 zf1 zf2 zf3 zf4 zlt c0 c1 c2 gl0 gl1 gl2
        have yc0 : w5.cell? ⟨w.heap.size, 0, none⟩ = some (.string ⟨#[]⟩) := hZ5.cell 0
        have yf0 : w5.frozen? ⟨w.heap.size, 0, none⟩ = false := hZ5.frozen 0
        have yc1 : w5.cell? ⟨w.heap.size, 1, none⟩ = some (.string ⟨#[]⟩) := hZ5.cell 1
        have yf1 : w5.frozen? ⟨w.heap.size, 1, none⟩ = false := hZ5.frozen 1
        have yc2 : w5.cell? ⟨w.heap.size, 2, none⟩ = some (.int .i64 0) := hZ5.cell 2
        have yf2 : w5.frozen? ⟨w.heap.size, 2, none⟩ = false := hZ5.frozen 2
        have yc3 : w5.cell? ⟨w.heap.size, 3, none⟩ = some (.slice none 0 0) := hZ5.cell 3
        have yf3 : w5.frozen? ⟨w.heap.size, 3, none⟩ = false := hZ5.frozen 3
        have yc4 : w5.cell? ⟨w.heap.size, 4, none⟩ = some (.string ⟨#[]⟩) := hZ5.cell 4
        have yf4 : w5.frozen? ⟨w.heap.size, 4, none⟩ = false := hZ5.frozen 4
        have ylt : w.heap.size < w5.heap.size := hZ5.lt
        have hlt5 := World.block_lt_of_cell? _ _ hc5
        have HZ5 := Lib.hid hZ5; have HF5 := Lib.hid hF5
        have hne1 : ¬ w.heap.size = w1.heap.size := by have := HZ.out.lt; omega
        have hne2 : ¬ w1.heap.size = w.heap.size := by omega
        clear hZ5 hF5
        go_wp2_with fail
        go_region
        all_goals
          go_wp2
          refine bodyPost_ret (res_req (g := w.heap.size) (v0 := .string ⟨#[]⟩) (v1 := .string ⟨#[]⟩) (v2 := .int .i64 0) (v3 := .slice none 0 0) (v4 := .string ⟨#[]⟩) Tryd.results22 rfl ((((((HZ5.out.set_ 0 _).set_ 1 _).set_ 2 _).set_ 3 _).set_ 4 _).drew)) rfl ?_
          exact ⟨by unfold startR errV; rw [if_neg HN0.out]; rfl, fr_drew (fr_req HF5.out)⟩
    · have h16I : decide ((16 : Int) < (m.size : Int)) = true := by simp; omega
      have hr : R = (10, ⟨#[]⟩, ⟨#[]⟩, 0) := by
        rw [HR.out, if_pos]
        rw [ble_no h16, Bool.and_false]
      clear htk' h16
      subst hr
      go_enter Tryd.func22, Tryd.ntmps22
      go_wp2_with fail
      refine HSP.out.mono ?_
      rintro e w2 ⟨rfl, hw2⟩
      have hw2' := hw2.symm
      clear hw2 hW0'
      subst hw2'
      have hz := HZ.out
      have zc0 : w1.cell? ⟨w.heap.size, 0, none⟩ = some (.string ⟨#[]⟩) := hz.cell 0
      have zf0 : w1.frozen? ⟨w.heap.size, 0, none⟩ = false := hz.frozen 0
      have zc1 : w1.cell? ⟨w.heap.size, 1, none⟩ = some (.string ⟨#[]⟩) := hz.cell 1
      have zf1 : w1.frozen? ⟨w.heap.size, 1, none⟩ = false := hz.frozen 1
      have zc2 : w1.cell? ⟨w.heap.size, 2, none⟩ = some (.int .i64 0) := hz.cell 2
      have zf2 : w1.frozen? ⟨w.heap.size, 2, none⟩ = false := hz.frozen 2
      have zc3 : w1.cell? ⟨w.heap.size, 3, none⟩ = some (.slice none 0 0) := hz.cell 3
      have zf3 : w1.frozen? ⟨w.heap.size, 3, none⟩ = false := hz.frozen 3
      have zc4 : w1.cell? ⟨w.heap.size, 4, none⟩ = some (.string ⟨#[]⟩) := hz.cell 4
      have zf4 : w1.frozen? ⟨w.heap.size, 4, none⟩ = false := hz.frozen 4
      have zlt : w.heap.size < w1.heap.size := hz.lt
      obtain ⟨b0, o0, e0, gl0, c0⟩ := HS.out.at_ (k := 0) (by simp)
      obtain ⟨b1, o1, e1, gl1, c1⟩ := HS.out.at_ (k := 1) (by simp)
      obtain ⟨b2, o2, e2, gl2, c2⟩ := HS.out.at_ (k := 2) (by simp)
      simp only [Option.some.injEq, Addr.mk.injEq, and_true] at e0 e1 e2
      obtain ⟨rfl, rfl⟩ := e0
      obtain ⟨rfl, rfl⟩ := e1
      obtain ⟨rfl, rfl⟩ := e2
      rw [Nat.zero_add] at c0 c1 c2
      simp only [List.getElem_cons_zero, List.getElem_cons_succ] at c0 c1 c2
      clear hz
      go_wp2_with fail
      refine (oct_Token m _ HM9.out).mono ?_
      rintro e wq ⟨rfl, rfl⟩
      rw [HTK.out]
      go_wp2
      refine bodyPost_ret (res_req (g := w.heap.size) (v0 := .string ⟨#[]⟩) (v1 := .string ⟨#[]⟩) (v2 := .int .i64 0) (v3 := .slice none 0 0) (v4 := .string ⟨#[]⟩) Tryd.results22 rfl (((((HZ.out.set_ 0 _).set_ 1 _).set_ 2 _).set_ 3 _).set_ 4 _)) rfl ?_
      exact ⟨rfl, fr_req HW1.out⟩
  · have hr : R = (10, ⟨#[]⟩, ⟨#[]⟩, 0) := HNE.out hn3
    have hI : ((n : Int) != 3) = true := by simp; omega
    subst hr
    go_enter Tryd.func22, Tryd.ntmps22
    go_wp2_with fail
    refine HSP.out.mono ?_
    rintro e w2 ⟨rfl, hw2⟩
    have hw2' := hw2.symm
    clear hw2
    subst hw2'
    have hz := HZ.out
    have zc0 : w1.cell? ⟨w.heap.size, 0, none⟩ = some (.string ⟨#[]⟩) := hz.cell 0
    have zf0 : w1.frozen? ⟨w.heap.size, 0, none⟩ = false := hz.frozen 0
    have zc1 : w1.cell? ⟨w.heap.size, 1, none⟩ = some (.string ⟨#[]⟩) := hz.cell 1
    have zf1 : w1.frozen? ⟨w.heap.size, 1, none⟩ = false := hz.frozen 1
    have zc2 : w1.cell? ⟨w.heap.size, 2, none⟩ = some (.int .i64 0) := hz.cell 2
    have zf2 : w1.frozen? ⟨w.heap.size, 2, none⟩ = false := hz.frozen 2
    have zc3 : w1.cell? ⟨w.heap.size, 3, none⟩ = some (.slice none 0 0) := hz.cell 3
    have zf3 : w1.frozen? ⟨w.heap.size, 3, none⟩ = false := hz.frozen 3
    have zc4 : w1.cell? ⟨w.heap.size, 4, none⟩ = some (.string ⟨#[]⟩) := hz.cell 4
    have zf4 : w1.frozen? ⟨w.heap.size, 4, none⟩ = false := hz.frozen 4
    have zlt : w.heap.size < w1.heap.size := hz.lt
    clear hz
    go_wp2
    refine bodyPost_ret (res_req (g := w.heap.size) (v0 := .string ⟨#[]⟩) (v1 := .string ⟨#[]⟩) (v2 := .int .i64 0) (v3 := .slice none 0 0) (v4 := .string ⟨#[]⟩) Tryd.results22 rfl (((((HZ.out.set_ 0 _).set_ 1 _).set_ 2 _).set_ 3 _).set_ 4 _)) rfl ?_
    exact ⟨rfl, fr_req HW1.out⟩
end Go.Proofs.YtdagppbpeibdgaaDoor
