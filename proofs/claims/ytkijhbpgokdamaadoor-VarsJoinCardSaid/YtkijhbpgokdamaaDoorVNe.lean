/- conduitlaw15.VarsNever, for each of its eight names. -/
import Derived.Test.YtkijhbpgokdamaaDoorVz
namespace Go.Proofs.YtkijhbpgokdamaaDoor
set_option linter.unusedVariables false
set_option linter.unusedSimpArgs false
open Go.RowKit

def nvR (fl : List Pr) : Req := ⟨⟨#[71, 69, 84]⟩, ⟨#[47]⟩, 1, fl, ⟨#[]⟩⟩
def nvA : List Pr := buildE ⟨#[108, 111, 99, 97, 108]⟩ ⟨#[]⟩ ⟨#[49]⟩ ⟨#[56, 48]⟩ ⟨#[49]⟩ (nvR []) ⟨#[47, 115]⟩ ⟨#[]⟩ []
theorem nv_eq (fl : List Pr) : buildL ⟨#[108, 111, 99, 97, 108]⟩ 80 0 (nvR fl) ⟨#[47, 115]⟩ ⟨#[]⟩ [] = buildE ⟨#[108, 111, 99, 97, 108]⟩ ⟨#[]⟩ ⟨#[49]⟩ ⟨#[56, 48]⟩ ⟨#[49]⟩ (nvR fl) ⟨#[47, 115]⟩ ⟨#[]⟩ [] := build_E _ _ _ _ _ _ _ (.inl (by rw [toList_L]; rfl)) itoa1 itoa80 itoa1
theorem nvA_eq : buildL ⟨#[108, 111, 99, 97, 108]⟩ 80 0 ⟨⟨#[71, 69, 84]⟩, ⟨#[47]⟩, 1, [], ⟨#[]⟩⟩ ⟨#[47, 115]⟩ ⟨#[]⟩ [] = nvA := nv_eq []
theorem nvA_len : nvA.length = 10 := by kernel_rfl
theorem nvA_lt : nvA.length < 20 := by rw [nvA_len]; decide
def nvB (n v : ByteArray) (kept : Bool) : List Pr := if kept then nvA else nvA ++ [(n, v)]
theorem nvB_lt (n v : ByteArray) (k : Bool) : (nvB n v k).length < 20 := by unfold nvB; split; exact nvA_lt; rw [List.length_append, nvA_len]; show 10 + 1 < 20; decide
theorem nvB_f (n v : ByteArray) : (nvB n v false).length = 11 := by show (nvA ++ [(n, v)]).length = 11; rw [List.length_append, nvA_len]; rfl
theorem nvB_t (n v : ByteArray) : (nvB n v true).length = 10 := nvA_len
theorem sz_one {n v : ByteArray} (hn : n.size ≤ 100) (hv : v.size ≤ 100) : ∀ p ∈ [((n, v) : Pr)], p.1.size ≤ 1000000 ∧ p.2.size ≤ 1000000 := by
  intro p hp
  rw [List.mem_singleton] at hp
  subst hp
  exact ⟨by show n.size ≤ _; omega, by show v.size ≤ _; omega⟩
theorem nv_get {la lb : List Pr} {fl l : List Pr} (N v : ByteArray) (kept : Bool) (hl : l = nvB N v kept) (hb : buildL ⟨#[108, 111, 99, 97, 108]⟩ 80 0 (nvR fl) ⟨#[47, 115]⟩ ⟨#[]⟩ [] = l) (hpa : la.Perm nvA) (hpb : lb.Perm l) (i : Nat) (h : i < la.length) : getV lb la[i].1 = some la[i].2 := by
  have m : la[i] ∈ nvA := hpa.mem_iff.1 (List.getElem_mem h)
  have m2 : la[i] ∈ lb := hpb.mem_iff.2 (by
    rw [hl]; unfold nvB
    split
    · exact m
    · exact List.mem_append_left _ m)
  have hnd : (lb.map (·.1)).Nodup := ((hpb.map _).nodup_iff).2 (by rw [← hb]; exact buildL_nd _ _ _ _ _ _ _)
  exact mem_getV hnd m2
theorem two_set (w : World) (g i : Nat) (u : Value) : Two g none w (w.setCell ⟨g, i, none⟩ u) :=
  have hs := only_set (only_refl w (some g)) i u
  ⟨hs.os, hs.tape, hs.output, hs.size, fun k hk hg _ => hs.block k hk (fun e => hg (Option.some.inj e))⟩
theorem pairs_one (w : World) (p : Pr) (t : TypeId) : Pairs (w.alloc (.cells #[.string p.1, .string p.2] t)) (some ⟨w.heap.size, 0, none⟩) [p] := Pairs.new w [p] t
set_option maxRecDepth 100000 in
set_option maxHeartbeats 8000000 in
theorem never_walk (n N : ByteArray) (kept : Bool) (l : List Pr) (x : Int) (v : ByteArray) (w : World) (hT : Tab w) (x0 : 0 ≤ x) (x1 : x ≤ 255) (hv : v.size ≤ 100) (hnz : n.size ≤ 100)
    (hidx : ∀ W, (Sem.run Tryd.prog (Instr.index 40 (.agg #[.string ⟨#[83, 67, 82, 73, 80, 84, 95, 78, 65, 77, 69]⟩, .string ⟨#[82, 69, 77, 79, 84, 69, 95, 65, 68, 68, 82]⟩, .string ⟨#[80, 97, 116, 104, 45, 73, 110, 102, 111]⟩, .string ⟨#[83, 69, 82, 86, 69, 82, 95, 80, 79, 82, 84]⟩, .string ⟨#[71, 97, 116, 101, 119, 97, 121, 45, 73, 110, 116, 101, 114, 102, 97, 99, 101]⟩, .string ⟨#[82, 69, 81, 85, 69, 83, 84, 95, 77, 69, 84, 72, 79, 68]⟩, .string ⟨#[80, 114, 111, 120, 121]⟩, .string ⟨#[65, 117, 116, 104, 111, 114, 105, 122, 97, 116, 105, 111, 110]⟩]) (.int .u8 (x % 8)))) W = .ok (.string n) W)
    (hk : decide ((5 : Int) < x % 8) = kept) (hN : nmB n = N) (hl : l = nvB N v kept) (hB : buildL ⟨#[108, 111, 99, 97, 108]⟩ 80 0 (nvR [(n, v)]) ⟨#[47, 115]⟩ ⟨#[]⟩ [] = l) (hG : getVE l N = if kept then none else some v) :
    Calls Tryd.prog 4 #[.int .u8 x, .string v] w fun e w' => e = .returned (.bool true) ∧ Below w.heap.size w w' := by
  have HT := Lib.hid hT; have HV := Lib.hid hv; have HL := Lib.hid hl; have HBL := Lib.hid hB; have HGG := Lib.hid hG; have HN := Lib.hid hN; have HNZ := Lib.hid hnz
  have hv1 : (v.size : Int) ≤ 100 := by omega
  clear hT hv hl hB hG hN hnz
  cases kept
  · go_enter Tryd.func4, Tryd.ntmps4
    go_wp2_with fail
    refine (law15_known _ HT.out).mono ?_
    rintro e w1 ⟨rfl, hb1⟩
    have H1 := Lib.hid hb1
    clear hb1
    go_wp2_with fail
    change Code.wp _ _ _ _ (w1.alloc (.cells #[.string ⟨#[71, 69, 84]⟩, .string ⟨#[47]⟩, .int .i64 1, .slice none 0 0, .string ⟨#[]⟩] 25))
    obtain ⟨W1, hW1⟩ : ∃ x, w1.alloc (.cells #[.string ⟨#[71, 69, 84]⟩, .string ⟨#[47]⟩, .int .i64 1, .slice none 0 0, .string ⟨#[]⟩] 25) = x := ⟨_, rfl⟩
    have hX1 : Blk W1 w1.heap.size 25 #[.string ⟨#[71, 69, 84]⟩, .string ⟨#[47]⟩, .int .i64 1, .slice none 0 0, .string ⟨#[]⟩] := hW1 ▸ Blk.new w1 _ _
    have HWa := Lib.hid (show Below w.heap.size w W1 from hW1 ▸ fr_alloc H1.out _)
    rw [hW1]
    clear hW1
    have HX1 := Lib.hid hX1
    clear hX1
    have hKa : ∀ W', Below W1.heap.size W1 W' → (W'.cell? ⟨w1.heap.size, 0, none⟩ = some (.string ⟨#[71, 69, 84]⟩) ∧ W'.cell? ⟨w1.heap.size, 1, none⟩ = some (.string ⟨#[47]⟩) ∧ W'.cell? ⟨w1.heap.size, 2, none⟩ = some (.int .i64 1) ∧ W'.cell? ⟨w1.heap.size, 3, none⟩ = some (.slice none 0 0) ∧ W'.cell? ⟨w1.heap.size, 4, none⟩ = some (.string ⟨#[]⟩)) := fun W' h => ⟨(HX1.out.fr h).cell 0, (HX1.out.fr h).cell 1, (HX1.out.fr h).cell 2, (HX1.out.fr h).cell 3, (HX1.out.fr h).cell 4⟩
    have HKa := Lib.hid hKa
    clear hKa
    go_region_held3 (fun W' => (W'.cell? ⟨w1.heap.size, 0, none⟩ = some (.string ⟨#[71, 69, 84]⟩) ∧ W'.cell? ⟨w1.heap.size, 1, none⟩ = some (.string ⟨#[47]⟩) ∧ W'.cell? ⟨w1.heap.size, 2, none⟩ = some (.int .i64 1) ∧ W'.cell? ⟨w1.heap.size, 3, none⟩ = some (.slice none 0 0) ∧ W'.cell? ⟨w1.heap.size, 4, none⟩ = some (.string ⟨#[]⟩)))
      (first | (refine HKa.out _ ?_; first | exact fr_trans hbS hbB | exact hbS | exact fr_drew (fr_refl _) | exact fr_refl _))
      (first
      | (have hgg := hbS; go_at_call 6; refine (build_small _ _ 0 ⟨#[71, 69, 84]⟩ ⟨#[47]⟩ 1 [] ⟨#[]⟩ _ 0 0 ⟨#[47, 115]⟩ ⟨#[]⟩ none 0 0 [] _ _ nvA_eq nvA_lt (HT.out.fr (fr_trans HWa.out hbS)) rfl (by decide) (Pairs.nil _ _) (fun p hp => absurd hp (by simp)) rfl (by decide) (Pairs.nil _ _) (fun p hp => absurd hp (by simp)) (by decide) (by decide) (by decide) (by decide) (by decide) (by decide)).mono ?_; rintro e wB ⟨⟨A', n', c', l', rfl, hl', hP', hge', hp'⟩, hbB⟩)
      | (go_at_call 7; refine (ref11_Small _).mono ?_; rintro e wS ⟨⟨Ac, cc, rfl, hRS⟩, hbS0⟩; unfold confV; have hbS : Below W1.heap.size W1 wS := fr_trans (fr_drew (fr_refl _)) hbS0))
    obtain ⟨wA, rfl⟩ : ∃ x, x = wB := ⟨_, rfl⟩
    obtain ⟨Aa, rfl⟩ : ∃ x, x = A' := ⟨_, rfl⟩
    obtain ⟨na, rfl⟩ : ∃ x, x = n' := ⟨_, rfl⟩
    obtain ⟨ca, rfl⟩ : ∃ x, x = c' := ⟨_, rfl⟩
    obtain ⟨la, rfl⟩ : ∃ x, x = l' := ⟨_, rfl⟩
    have hna : na = 10 := by rw [← hl', hp'.length_eq, nvA_len]
    subst hna
    have hbA := fr_trans hbS hbB
    have hgea : ∀ x, Aa = some x → W1.heap.size ≤ x.block := fun x hx => Nat.le_trans hbS.size (hge' x hx)
    have HGA := Lib.hid hgea
    have HXA := Lib.hid (HX1.out.fr hbA); have HWA := Lib.hid (fr_trans HWa.out hbA); have HLA := Lib.hid hl'; have HPA := Lib.hid hP'; have HMA := Lib.hid hp'
    have hlW := HX1.out.lt
    clear hbA hbS hbS0 hbB hP' hl' hp' hRS HKa HX1 hge' hgea
    have dc3 : wA.cell? ⟨w1.heap.size, 3, none⟩ = some (.slice none 0 0) := HXA.out.cell 3
    have df3 : wA.frozen? ⟨w1.heap.size, 3, none⟩ = false := HXA.out.frozen 3
    have dlt : w1.heap.size < wA.heap.size := HXA.out.lt
    go_wp2_with fail
    have hP2 := Pairs.two HPA.out (two_set wA w1.heap.size 3 (.slice (some ⟨wA.heap.size, 0, none⟩) 1 1)) (fun y hy => ⟨by have := HGA.out y hy; omega, by simp⟩)
    have hx2 := (HXA.out.set_ 3 (.slice (some ⟨wA.heap.size, 0, none⟩) 1 1)).alloc (.cells #[.string n, .string v] 28)
    have hw2 := fr_alloc (fr_set HWA.out (p := ⟨w1.heap.size, 3, none⟩) H1.out.size (.slice (some ⟨wA.heap.size, 0, none⟩) 1 1)) (.cells #[.string n, .string v] 28)
    have hpf := pairs_one (wA.setCell ⟨w1.heap.size, 3, none⟩ (.slice (some ⟨wA.heap.size, 0, none⟩) 1 1)) (n, v) 28
    rw [World.size_setCell] at hpf
    have hp2 := hP2.fr (fr_alloc (fr_refl _) (.cells #[.string n, .string v] 28))
    obtain ⟨fb, hfb⟩ : ∃ k, wA.heap.size = k := ⟨_, rfl⟩
    rw [hfb] at hx2 hw2 hpf hp2
    rw [hfb]
    obtain ⟨W2, hW2⟩ : ∃ x, (wA.setCell ⟨w1.heap.size, 3, none⟩ (.slice (some ⟨fb, 0, none⟩) 1 1)).alloc (.cells #[.string n, .string v] 28) = x := ⟨_, rfl⟩
    rw [hW2] at hx2 hw2 hpf hp2
    rw [hW2]
    have HX2 := Lib.hid (show Blk W2 w1.heap.size 25 #[.string ⟨#[71, 69, 84]⟩, .string ⟨#[47]⟩, .int .i64 1, .slice (some ⟨fb, 0, none⟩) 1 1, .string ⟨#[]⟩] from hx2)
    have HWb := Lib.hid hw2; have HPF := Lib.hid hpf; have HPA2 := Lib.hid hp2
    clear hP2 hx2 hw2 hpf hp2 hW2 hfb HPA HXA HWA dc3 df3 dlt
    have hKb : ∀ W', Below W2.heap.size W2 W' → (W'.cell? ⟨w1.heap.size, 0, none⟩ = some (.string ⟨#[71, 69, 84]⟩) ∧ W'.cell? ⟨w1.heap.size, 1, none⟩ = some (.string ⟨#[47]⟩) ∧ W'.cell? ⟨w1.heap.size, 2, none⟩ = some (.int .i64 1) ∧ W'.cell? ⟨w1.heap.size, 3, none⟩ = some (.slice (some ⟨fb, 0, none⟩) 1 1) ∧ W'.cell? ⟨w1.heap.size, 4, none⟩ = some (.string ⟨#[]⟩)) := fun W' h => ⟨(HX2.out.fr h).cell 0, (HX2.out.fr h).cell 1, (HX2.out.fr h).cell 2, (HX2.out.fr h).cell 3, (HX2.out.fr h).cell 4⟩
    have HKb := Lib.hid hKb
    clear hKb
    go_region_held3 (fun W' => (W'.cell? ⟨w1.heap.size, 0, none⟩ = some (.string ⟨#[71, 69, 84]⟩) ∧ W'.cell? ⟨w1.heap.size, 1, none⟩ = some (.string ⟨#[47]⟩) ∧ W'.cell? ⟨w1.heap.size, 2, none⟩ = some (.int .i64 1) ∧ W'.cell? ⟨w1.heap.size, 3, none⟩ = some (.slice (some ⟨fb, 0, none⟩) 1 1) ∧ W'.cell? ⟨w1.heap.size, 4, none⟩ = some (.string ⟨#[]⟩)))
      (first | (refine HKb.out _ ?_; first | exact fr_trans hbS hbB | exact hbS | exact fr_drew (fr_refl _) | exact fr_refl _))
      (first
      | (have hgg := hbS; go_at_call 6; refine (build_small _ _ 0 ⟨#[71, 69, 84]⟩ ⟨#[47]⟩ 1 [(n, v)] ⟨#[]⟩ _ 1 1 ⟨#[47, 115]⟩ ⟨#[]⟩ none 0 0 [] _ _ HBL.out (by rw [HL.out]; exact nvB_lt _ _ _) (HT.out.fr (fr_trans HWb.out hbS)) rfl (by decide) (HPF.out.fr hbS) (sz_one HNZ.out HV.out) rfl (by decide) (Pairs.nil _ _) (fun p hp => absurd hp (by simp)) (by decide) (by decide) (by decide) (by decide) (by decide) (by decide)).mono ?_; rintro e wB ⟨⟨A', n', c', l', rfl, hl', hP', hge', hp'⟩, hbB⟩)
      | (go_at_call 7; refine (ref11_Small _).mono ?_; rintro e wS ⟨⟨Ac, cc, rfl, hRS⟩, hbS0⟩; unfold confV; have hbS : Below W2.heap.size W2 wS := fr_trans (fr_drew (fr_refl _)) hbS0))
    have hnb : n' = 11 := by rw [← hl', hp'.length_eq, HL.out, nvB_f]
    subst hnb
    have hbB2 := fr_trans hbS hbB
    have HPA3 := Lib.hid (HPA2.out.fr hbB2); have HWc := Lib.hid (fr_trans HWb.out hbB2); have HLB := Lib.hid hl'; have HPB := Lib.hid hP'; have HMB := Lib.hid hp'
    clear hbB2 hbS hbS0 hbB hP' hl' hp' hRS HKb HX2 hge' HPA2 HPF
    go_wp2_with fail
    go_loop [10] (fun i => ∃ k : Nat, k ≤ 10 ∧ i = .int .i64 k) (fun i => 10 - (intOf i).toNat)
    case atStart => exact ⟨0, Nat.zero_le _, rfl⟩
    case round =>
      obtain ⟨k, hk10, rfl⟩ := hrel
      by_cases hlt : k < 10
      · have hkl : k < la.length := by have := HLA.out; omega
        obtain ⟨b, off, rfl, hbl, hcell⟩ := HPA3.out (by omega)
        obtain ⟨h1, h2⟩ := hcell k hkl
        have hget := nv_get N v false HL.out HBL.out HMA.out HMB.out k hkl
        obtain ⟨⟨pn, pv⟩, hpe⟩ : ∃ p, la[k] = p := ⟨_, rfl⟩
        rw [hpe] at h1 h2 hget
        simp only at h1 h2 hget
        have HGET := Lib.hid hget
        have kI : (k : Int) < 10 := by omega
        have k0 : (0 : Int) ≤ (k : Int) := by omega
        clear hpe hcell hget
        go_wp2_with fail
        refine (get_yes pv HLB.out HPB.out (by omega) HGET.out).mono ?_
        rintro e w3 ⟨rfl, rfl⟩
        go_wp2
        go_round
        case measure => exact meas hlt .i64 .i64
        case rel => exact ⟨k + 1, by omega, by go_num⟩
      · have HGT := Lib.hid ((perm_get HBL.out HMB.out N).trans HGG.out)
        go_wp2_with fail
        refine (vars_Name_at n N _ HN.out (by have := HNZ.out; omega)).mono ?_
        rintro e w4 ⟨rfl, hb4⟩
        have HPC := Lib.hid (HPB.out.fr hb4); have HWd := Lib.hid (fr_trans HWc.out hb4)
        clear hb4
        go_wp2_with fail
        refine (get_yes v HLB.out HPC.out (by omega) HGT.out).mono ?_
        rintro e w5 ⟨rfl, rfl⟩
        go_wp2
        go_ret
        exact ⟨rfl, HWd.out⟩
  · go_enter Tryd.func4, Tryd.ntmps4
    go_wp2_with fail
    refine (law15_known _ HT.out).mono ?_
    rintro e w1 ⟨rfl, hb1⟩
    have H1 := Lib.hid hb1
    clear hb1
    go_wp2_with fail
    change Code.wp _ _ _ _ (w1.alloc (.cells #[.string ⟨#[71, 69, 84]⟩, .string ⟨#[47]⟩, .int .i64 1, .slice none 0 0, .string ⟨#[]⟩] 25))
    obtain ⟨W1, hW1⟩ : ∃ x, w1.alloc (.cells #[.string ⟨#[71, 69, 84]⟩, .string ⟨#[47]⟩, .int .i64 1, .slice none 0 0, .string ⟨#[]⟩] 25) = x := ⟨_, rfl⟩
    have hX1 : Blk W1 w1.heap.size 25 #[.string ⟨#[71, 69, 84]⟩, .string ⟨#[47]⟩, .int .i64 1, .slice none 0 0, .string ⟨#[]⟩] := hW1 ▸ Blk.new w1 _ _
    have HWa := Lib.hid (show Below w.heap.size w W1 from hW1 ▸ fr_alloc H1.out _)
    rw [hW1]
    clear hW1
    have HX1 := Lib.hid hX1
    clear hX1
    have hKa : ∀ W', Below W1.heap.size W1 W' → (W'.cell? ⟨w1.heap.size, 0, none⟩ = some (.string ⟨#[71, 69, 84]⟩) ∧ W'.cell? ⟨w1.heap.size, 1, none⟩ = some (.string ⟨#[47]⟩) ∧ W'.cell? ⟨w1.heap.size, 2, none⟩ = some (.int .i64 1) ∧ W'.cell? ⟨w1.heap.size, 3, none⟩ = some (.slice none 0 0) ∧ W'.cell? ⟨w1.heap.size, 4, none⟩ = some (.string ⟨#[]⟩)) := fun W' h => ⟨(HX1.out.fr h).cell 0, (HX1.out.fr h).cell 1, (HX1.out.fr h).cell 2, (HX1.out.fr h).cell 3, (HX1.out.fr h).cell 4⟩
    have HKa := Lib.hid hKa
    clear hKa
    go_region_held3 (fun W' => (W'.cell? ⟨w1.heap.size, 0, none⟩ = some (.string ⟨#[71, 69, 84]⟩) ∧ W'.cell? ⟨w1.heap.size, 1, none⟩ = some (.string ⟨#[47]⟩) ∧ W'.cell? ⟨w1.heap.size, 2, none⟩ = some (.int .i64 1) ∧ W'.cell? ⟨w1.heap.size, 3, none⟩ = some (.slice none 0 0) ∧ W'.cell? ⟨w1.heap.size, 4, none⟩ = some (.string ⟨#[]⟩)))
      (first | (refine HKa.out _ ?_; first | exact fr_trans hbS hbB | exact hbS | exact fr_drew (fr_refl _) | exact fr_refl _))
      (first
      | (have hgg := hbS; go_at_call 6; refine (build_small _ _ 0 ⟨#[71, 69, 84]⟩ ⟨#[47]⟩ 1 [] ⟨#[]⟩ _ 0 0 ⟨#[47, 115]⟩ ⟨#[]⟩ none 0 0 [] _ _ nvA_eq nvA_lt (HT.out.fr (fr_trans HWa.out hbS)) rfl (by decide) (Pairs.nil _ _) (fun p hp => absurd hp (by simp)) rfl (by decide) (Pairs.nil _ _) (fun p hp => absurd hp (by simp)) (by decide) (by decide) (by decide) (by decide) (by decide) (by decide)).mono ?_; rintro e wB ⟨⟨A', n', c', l', rfl, hl', hP', hge', hp'⟩, hbB⟩)
      | (go_at_call 7; refine (ref11_Small _).mono ?_; rintro e wS ⟨⟨Ac, cc, rfl, hRS⟩, hbS0⟩; unfold confV; have hbS : Below W1.heap.size W1 wS := fr_trans (fr_drew (fr_refl _)) hbS0))
    obtain ⟨wA, rfl⟩ : ∃ x, x = wB := ⟨_, rfl⟩
    obtain ⟨Aa, rfl⟩ : ∃ x, x = A' := ⟨_, rfl⟩
    obtain ⟨na, rfl⟩ : ∃ x, x = n' := ⟨_, rfl⟩
    obtain ⟨ca, rfl⟩ : ∃ x, x = c' := ⟨_, rfl⟩
    obtain ⟨la, rfl⟩ : ∃ x, x = l' := ⟨_, rfl⟩
    have hna : na = 10 := by rw [← hl', hp'.length_eq, nvA_len]
    subst hna
    have hbA := fr_trans hbS hbB
    have hgea : ∀ x, Aa = some x → W1.heap.size ≤ x.block := fun x hx => Nat.le_trans hbS.size (hge' x hx)
    have HGA := Lib.hid hgea
    have HXA := Lib.hid (HX1.out.fr hbA); have HWA := Lib.hid (fr_trans HWa.out hbA); have HLA := Lib.hid hl'; have HPA := Lib.hid hP'; have HMA := Lib.hid hp'
    have hlW := HX1.out.lt
    clear hbA hbS hbS0 hbB hP' hl' hp' hRS HKa HX1 hge' hgea
    have dc3 : wA.cell? ⟨w1.heap.size, 3, none⟩ = some (.slice none 0 0) := HXA.out.cell 3
    have df3 : wA.frozen? ⟨w1.heap.size, 3, none⟩ = false := HXA.out.frozen 3
    have dlt : w1.heap.size < wA.heap.size := HXA.out.lt
    go_wp2_with fail
    have hP2 := Pairs.two HPA.out (two_set wA w1.heap.size 3 (.slice (some ⟨wA.heap.size, 0, none⟩) 1 1)) (fun y hy => ⟨by have := HGA.out y hy; omega, by simp⟩)
    have hx2 := (HXA.out.set_ 3 (.slice (some ⟨wA.heap.size, 0, none⟩) 1 1)).alloc (.cells #[.string n, .string v] 28)
    have hw2 := fr_alloc (fr_set HWA.out (p := ⟨w1.heap.size, 3, none⟩) H1.out.size (.slice (some ⟨wA.heap.size, 0, none⟩) 1 1)) (.cells #[.string n, .string v] 28)
    have hpf := pairs_one (wA.setCell ⟨w1.heap.size, 3, none⟩ (.slice (some ⟨wA.heap.size, 0, none⟩) 1 1)) (n, v) 28
    rw [World.size_setCell] at hpf
    have hp2 := hP2.fr (fr_alloc (fr_refl _) (.cells #[.string n, .string v] 28))
    obtain ⟨fb, hfb⟩ : ∃ k, wA.heap.size = k := ⟨_, rfl⟩
    rw [hfb] at hx2 hw2 hpf hp2
    rw [hfb]
    obtain ⟨W2, hW2⟩ : ∃ x, (wA.setCell ⟨w1.heap.size, 3, none⟩ (.slice (some ⟨fb, 0, none⟩) 1 1)).alloc (.cells #[.string n, .string v] 28) = x := ⟨_, rfl⟩
    rw [hW2] at hx2 hw2 hpf hp2
    rw [hW2]
    have HX2 := Lib.hid (show Blk W2 w1.heap.size 25 #[.string ⟨#[71, 69, 84]⟩, .string ⟨#[47]⟩, .int .i64 1, .slice (some ⟨fb, 0, none⟩) 1 1, .string ⟨#[]⟩] from hx2)
    have HWb := Lib.hid hw2; have HPF := Lib.hid hpf; have HPA2 := Lib.hid hp2
    clear hP2 hx2 hw2 hpf hp2 hW2 hfb HPA HXA HWA dc3 df3 dlt
    have hKb : ∀ W', Below W2.heap.size W2 W' → (W'.cell? ⟨w1.heap.size, 0, none⟩ = some (.string ⟨#[71, 69, 84]⟩) ∧ W'.cell? ⟨w1.heap.size, 1, none⟩ = some (.string ⟨#[47]⟩) ∧ W'.cell? ⟨w1.heap.size, 2, none⟩ = some (.int .i64 1) ∧ W'.cell? ⟨w1.heap.size, 3, none⟩ = some (.slice (some ⟨fb, 0, none⟩) 1 1) ∧ W'.cell? ⟨w1.heap.size, 4, none⟩ = some (.string ⟨#[]⟩)) := fun W' h => ⟨(HX2.out.fr h).cell 0, (HX2.out.fr h).cell 1, (HX2.out.fr h).cell 2, (HX2.out.fr h).cell 3, (HX2.out.fr h).cell 4⟩
    have HKb := Lib.hid hKb
    clear hKb
    go_region_held3 (fun W' => (W'.cell? ⟨w1.heap.size, 0, none⟩ = some (.string ⟨#[71, 69, 84]⟩) ∧ W'.cell? ⟨w1.heap.size, 1, none⟩ = some (.string ⟨#[47]⟩) ∧ W'.cell? ⟨w1.heap.size, 2, none⟩ = some (.int .i64 1) ∧ W'.cell? ⟨w1.heap.size, 3, none⟩ = some (.slice (some ⟨fb, 0, none⟩) 1 1) ∧ W'.cell? ⟨w1.heap.size, 4, none⟩ = some (.string ⟨#[]⟩)))
      (first | (refine HKb.out _ ?_; first | exact fr_trans hbS hbB | exact hbS | exact fr_drew (fr_refl _) | exact fr_refl _))
      (first
      | (have hgg := hbS; go_at_call 6; refine (build_small _ _ 0 ⟨#[71, 69, 84]⟩ ⟨#[47]⟩ 1 [(n, v)] ⟨#[]⟩ _ 1 1 ⟨#[47, 115]⟩ ⟨#[]⟩ none 0 0 [] _ _ HBL.out (by rw [HL.out]; exact nvB_lt _ _ _) (HT.out.fr (fr_trans HWb.out hbS)) rfl (by decide) (HPF.out.fr hbS) (sz_one HNZ.out HV.out) rfl (by decide) (Pairs.nil _ _) (fun p hp => absurd hp (by simp)) (by decide) (by decide) (by decide) (by decide) (by decide) (by decide)).mono ?_; rintro e wB ⟨⟨A', n', c', l', rfl, hl', hP', hge', hp'⟩, hbB⟩)
      | (go_at_call 7; refine (ref11_Small _).mono ?_; rintro e wS ⟨⟨Ac, cc, rfl, hRS⟩, hbS0⟩; unfold confV; have hbS : Below W2.heap.size W2 wS := fr_trans (fr_drew (fr_refl _)) hbS0))
    have hnb : n' = 10 := by rw [← hl', hp'.length_eq, HL.out, nvB_t]
    subst hnb
    have hbB2 := fr_trans hbS hbB
    have HPA3 := Lib.hid (HPA2.out.fr hbB2); have HWc := Lib.hid (fr_trans HWb.out hbB2); have HLB := Lib.hid hl'; have HPB := Lib.hid hP'; have HMB := Lib.hid hp'
    clear hbB2 hbS hbS0 hbB hP' hl' hp' hRS HKb HX2 hge' HPA2 HPF
    go_wp2_with fail
    go_loop [10] (fun i => ∃ k : Nat, k ≤ 10 ∧ i = .int .i64 k) (fun i => 10 - (intOf i).toNat)
    case atStart => exact ⟨0, Nat.zero_le _, rfl⟩
    case round =>
      obtain ⟨k, hk10, rfl⟩ := hrel
      by_cases hlt : k < 10
      · have hkl : k < la.length := by have := HLA.out; omega
        obtain ⟨b, off, rfl, hbl, hcell⟩ := HPA3.out (by omega)
        obtain ⟨h1, h2⟩ := hcell k hkl
        have hget := nv_get N v true HL.out HBL.out HMA.out HMB.out k hkl
        obtain ⟨⟨pn, pv⟩, hpe⟩ : ∃ p, la[k] = p := ⟨_, rfl⟩
        rw [hpe] at h1 h2 hget
        simp only at h1 h2 hget
        have HGET := Lib.hid hget
        have kI : (k : Int) < 10 := by omega
        have k0 : (0 : Int) ≤ (k : Int) := by omega
        clear hpe hcell hget
        go_wp2_with fail
        refine (get_yes pv HLB.out HPB.out (by omega) HGET.out).mono ?_
        rintro e w3 ⟨rfl, rfl⟩
        go_wp2
        go_round
        case measure => exact meas hlt .i64 .i64
        case rel => exact ⟨k + 1, by omega, by go_num⟩
      · have HGT := Lib.hid ((perm_get HBL.out HMB.out N).trans HGG.out)
        go_wp2_with fail
        refine (vars_Name_at n N _ HN.out (by have := HNZ.out; omega)).mono ?_
        rintro e w4 ⟨rfl, hb4⟩
        have HPC := Lib.hid (HPB.out.fr hb4); have HWd := Lib.hid (fr_trans HWc.out hb4)
        clear hb4
        go_wp2_with fail
        refine (get_no HLB.out HPC.out (by omega) HGT.out).mono ?_
        rintro e w5 ⟨rfl, rfl⟩
        go_wp2
        go_ret
        exact ⟨rfl, HWd.out⟩
theorem law15_never (x : Int) (v : ByteArray) (w : World) (hT : Tab w) (x0 : 0 ≤ x) (x1 : x ≤ 255) :
    Calls Tryd.prog 4 #[.int .u8 x, .string v] w fun e w' => e = .returned (.bool true) ∧ Below w.heap.size w w' := by
  by_cases hv : v.size ≤ 100
  · have : x % 8 = 0 ∨ x % 8 = 1 ∨ x % 8 = 2 ∨ x % 8 = 3 ∨ x % 8 = 4 ∨ x % 8 = 5 ∨ x % 8 = 6 ∨ x % 8 = 7 := by omega
    rcases this with h | h | h | h | h | h | h | h
    · exact never_walk ⟨#[83, 67, 82, 73, 80, 84, 95, 78, 65, 77, 69]⟩ ⟨#[72, 84, 84, 80, 95, 83, 67, 82, 73, 80, 84, 95, 78, 65, 77, 69]⟩ false _ x v w hT x0 x1 hv (by decide) (fun W => by rw [h]; kernel_rfl) (by rw [h]; rfl) ((congrFun nmE_eq _).trans (by kernel_rfl)) rfl ((nv_eq _).trans (by kernel_rfl)) (by kernel_rfl)
    · exact never_walk ⟨#[82, 69, 77, 79, 84, 69, 95, 65, 68, 68, 82]⟩ ⟨#[72, 84, 84, 80, 95, 82, 69, 77, 79, 84, 69, 95, 65, 68, 68, 82]⟩ false _ x v w hT x0 x1 hv (by decide) (fun W => by rw [h]; kernel_rfl) (by rw [h]; rfl) ((congrFun nmE_eq _).trans (by kernel_rfl)) rfl ((nv_eq _).trans (by kernel_rfl)) (by kernel_rfl)
    · exact never_walk ⟨#[80, 97, 116, 104, 45, 73, 110, 102, 111]⟩ ⟨#[72, 84, 84, 80, 95, 80, 65, 84, 72, 95, 73, 78, 70, 79]⟩ false _ x v w hT x0 x1 hv (by decide) (fun W => by rw [h]; kernel_rfl) (by rw [h]; rfl) ((congrFun nmE_eq _).trans (by kernel_rfl)) rfl ((nv_eq _).trans (by kernel_rfl)) (by kernel_rfl)
    · exact never_walk ⟨#[83, 69, 82, 86, 69, 82, 95, 80, 79, 82, 84]⟩ ⟨#[72, 84, 84, 80, 95, 83, 69, 82, 86, 69, 82, 95, 80, 79, 82, 84]⟩ false _ x v w hT x0 x1 hv (by decide) (fun W => by rw [h]; kernel_rfl) (by rw [h]; rfl) ((congrFun nmE_eq _).trans (by kernel_rfl)) rfl ((nv_eq _).trans (by kernel_rfl)) (by kernel_rfl)
    · exact never_walk ⟨#[71, 97, 116, 101, 119, 97, 121, 45, 73, 110, 116, 101, 114, 102, 97, 99, 101]⟩ ⟨#[72, 84, 84, 80, 95, 71, 65, 84, 69, 87, 65, 89, 95, 73, 78, 84, 69, 82, 70, 65, 67, 69]⟩ false _ x v w hT x0 x1 hv (by decide) (fun W => by rw [h]; kernel_rfl) (by rw [h]; rfl) ((congrFun nmE_eq _).trans (by kernel_rfl)) rfl ((nv_eq _).trans (by kernel_rfl)) (by kernel_rfl)
    · exact never_walk ⟨#[82, 69, 81, 85, 69, 83, 84, 95, 77, 69, 84, 72, 79, 68]⟩ ⟨#[72, 84, 84, 80, 95, 82, 69, 81, 85, 69, 83, 84, 95, 77, 69, 84, 72, 79, 68]⟩ false _ x v w hT x0 x1 hv (by decide) (fun W => by rw [h]; kernel_rfl) (by rw [h]; rfl) ((congrFun nmE_eq _).trans (by kernel_rfl)) rfl ((nv_eq _).trans (by kernel_rfl)) (by kernel_rfl)
    · exact never_walk ⟨#[80, 114, 111, 120, 121]⟩ ⟨#[72, 84, 84, 80, 95, 80, 82, 79, 88, 89]⟩ true _ x v w hT x0 x1 hv (by decide) (fun W => by rw [h]; kernel_rfl) (by rw [h]; rfl) ((congrFun nmE_eq _).trans (by kernel_rfl)) rfl ((nv_eq _).trans (by kernel_rfl)) (by kernel_rfl)
    · exact never_walk ⟨#[65, 117, 116, 104, 111, 114, 105, 122, 97, 116, 105, 111, 110]⟩ ⟨#[72, 84, 84, 80, 95, 65, 85, 84, 72, 79, 82, 73, 90, 65, 84, 73, 79, 78]⟩ true _ x v w hT x0 x1 hv (by decide) (fun W => by rw [h]; kernel_rfl) (by rw [h]; rfl) ((congrFun nmE_eq _).trans (by kernel_rfl)) rfl ((nv_eq _).trans (by kernel_rfl)) (by kernel_rfl)
  · have hv1 : (100 : Int) < (v.size : Int) := by omega
    have HT := Lib.hid hT
    clear hT hv
    go_enter Tryd.func4, Tryd.ntmps4
    go_wp2_with fail
    refine (law15_known _ HT.out).mono ?_
    rintro e w1 ⟨rfl, hb1⟩
    go_wp2
    go_ret
    exact ⟨rfl, hb1⟩
end Go.Proofs.YtkijhbpgokdamaaDoor
