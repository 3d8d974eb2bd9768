/- conduitlaw15.known. -/
import Derived.Test.YtdlignhlliellaaDoorVz0
import Derived.Deep.DeepCutAuto
namespace Go.Proofs.YtdlignhlliellaaDoor
set_option linter.unusedVariables false
set_option linter.unusedSimpArgs false
open Go.RowKit

set_option maxHeartbeats 1000000 in
theorem build_small (Ac : Option Addr) (cc : Nat) (cl : Int) (m tg : ByteArray) (mn : Int) (fl : List Pr) (bd : ByteArray) (A : Option Addr) (n c : Nat) (sc inf : ByteArray) (An : Option Addr) (nn cn : Nat) (ns : List Pr) (w : World) (l : List Pr)
    (he : buildL ⟨#[108, 111, 99, 97, 108]⟩ 80 cl ⟨m, tg, mn, fl, bd⟩ sc inf ns = l) (hlen : l.length < 20)
    (hT : Tab w) (hn : fl.length = n) (hn9 : n ≤ 1000) (hp : Pairs w A fl) (hs : ∀ p ∈ fl, p.1.size ≤ 140737488351232 ∧ p.2.size ≤ 140737488351232) (hnn : ns.length = nn) (hnn9 : nn ≤ 1000) (hpn : Pairs w An ns) (hsn : ∀ p ∈ ns, p.1.size ≤ 140737488351232 ∧ p.2.size ≤ 140737488351232)
    (htz : tg.size ≤ 9223372036854775807) (hbz : bd.size ≤ 9223372036854775807) (hc1 : 0 ≤ cl) (hc2 : cl ≤ 1000000) (hm1 : -9223372036854775808 ≤ mn) (hm2 : mn ≤ 9223372036854775807) :
    Calls Tryd.prog 7 #[.agg #[.string ⟨#[108, 111, 99, 97, 108]⟩, .int .i64 80, .slice Ac 1 cc, .int .i64 1, .int .i64 2, .int .i64 2000, .int .i64 4000, .int .i64 8000, .int .i64 10, .int .i64 1], .int .i64 cl, .agg #[.string m, .string tg, .int .i64 mn, .slice A n c, .string bd], .agg #[.int .i64 0, .string sc, .string inf, .slice An nn cn]] w fun e w' => (∃ A' n' c' l', e = .returned (.slice A' n' c') ∧ l'.length = n' ∧ Pairs w' A' l' ∧ (∀ x, A' = some x → w.heap.size ≤ x.block) ∧ l'.Perm l) ∧ Below w.heap.size w w' := by
  subst he
  refine (vars_Build ⟨#[108, 111, 99, 97, 108]⟩ 80 Ac 1 cc 1 2 2000 4000 8000 10 1 cl m tg mn fl bd A n c 0 sc inf An nn cn ns w hT hn hn9 hp hs hnn hnn9 hpn hsn htz hbz (by omega) (by omega) hc1 hc2 hm1 hm2 (by omega)).mono fun e w' h => ?_
  obtain ⟨⟨A', n', c', l', h1, h2, h3, h4, h5, _⟩, hb⟩ := h
  exact ⟨⟨A', n', c', l', h1, h2, h3, h4, h5⟩, hb⟩
theorem get_at {A : Option Addr} {n c : Nat} {l : List Pr} {nm : ByteArray} {w : World} {o : Option ByteArray} (hn : l.length = n) (hp : Pairs w A l) (hn9 : n ≤ 4398046511103) (h : getV l nm = o) :
    Calls Tryd.prog 13 #[.slice A n c, .string nm] w fun e w' => e = .returned (getR o) ∧ w = w' := h ▸ law15_get A n c l nm w hn hp hn9
theorem get_yes {A : Option Addr} {n c : Nat} {l : List Pr} {nm : ByteArray} {w : World} (v : ByteArray) (hn : l.length = n) (hp : Pairs w A l) (hn9 : n ≤ 4398046511103) (h : getV l nm = some v) :
    Calls Tryd.prog 13 #[.slice A n c, .string nm] w fun e w' => e = .returned (.tuple #[.string v, .bool true]) ∧ w = w' := get_at hn hp hn9 h
theorem get_no {A : Option Addr} {n c : Nat} {l : List Pr} {nm : ByteArray} {w : World} (hn : l.length = n) (hp : Pairs w A l) (hn9 : n ≤ 4398046511103) (h : getV l nm = none) :
    Calls Tryd.prog 13 #[.slice A n c, .string nm] w fun e w' => e = .returned (.tuple #[.string ⟨#[]⟩, .bool false]) ∧ w = w' := get_at hn hp hn9 h
theorem kn_sz : ∀ p ∈ knR.fl, p.1.size ≤ 140737488351232 ∧ p.2.size ≤ 140737488351232 := by
  intro p hp
  have hp' : p ∈ [((⟨#[72, 111, 115, 116]⟩, ⟨#[72, 58, 49]⟩) : Pr), (⟨#[65, 99, 99, 101, 112, 116]⟩, ⟨#[120]⟩), (⟨#[97, 99, 99, 101, 112, 116]⟩, ⟨#[121]⟩), (⟨#[80, 114, 111, 120, 121]⟩, ⟨#[101, 118, 105, 108]⟩), (⟨#[67, 111, 110, 116, 101, 110, 116, 45, 84, 121, 112, 101]⟩, ⟨#[116]⟩)] := hp
  simp only [List.mem_cons, List.not_mem_nil, or_false] at hp'
  rcases hp' with rfl | rfl | rfl | rfl | rfl <;> decide
theorem id_sz : ∀ p ∈ [((⟨#[105, 100]⟩, ⟨#[55]⟩) : Pr)], p.1.size ≤ 140737488351232 ∧ p.2.size ≤ 140737488351232 := by
  intro p hp
  rw [List.mem_singleton] at hp
  subst hp
  decide
set_option maxRecDepth 100000 in
set_option maxHeartbeats 4000000 in
theorem law15_known (w : World) (hT : Tab w) : Calls Tryd.prog 5 #[] w fun e w' => e = .returned (.bool true) ∧ Below w.heap.size w w' := by
  have HT := Lib.hid hT
  clear hT
  have hw1 := fr_alloc (fr_alloc (fr_refl w) (.cells (pcells knR.fl).toArray 37)) (.cells #[.string ⟨#[80, 79, 83, 84]⟩, .string ⟨#[47, 97, 47, 98, 63, 113]⟩, .int .i64 1, .slice (some ⟨w.heap.size, 0, none⟩) 5 5, .string ⟨#[120, 121]⟩] 27)
  have hp1 := (Pairs.new w knR.fl 37).fr (fr_alloc (fr_refl _) (.cells #[.string ⟨#[80, 79, 83, 84]⟩, .string ⟨#[47, 97, 47, 98, 63, 113]⟩, .int .i64 1, .slice (some ⟨w.heap.size, 0, none⟩) 5 5, .string ⟨#[120, 121]⟩] 27))
  have hx1 := Box.new (w.alloc (.cells (pcells knR.fl).toArray 37)) [.string ⟨#[80, 79, 83, 84]⟩, .string ⟨#[47, 97, 47, 98, 63, 113]⟩, .int .i64 1, .slice (some ⟨w.heap.size, 0, none⟩) 5 5, .string ⟨#[120, 121]⟩] 27
  rw [World.size_alloc] at hx1
  have HW := Lib.hid hw1; have HP := Lib.hid hp1; have HX := Lib.hid hx1
  clear hw1 hp1 hx1
  go_enter Tryd.func5, Tryd.ntmps5
  go_wp2_with fail
  change Code.wp _ _ _ _ ((w.alloc (.cells (pcells knR.fl).toArray 37)).alloc (.cells [.string ⟨#[80, 79, 83, 84]⟩, .string ⟨#[47, 97, 47, 98, 63, 113]⟩, .int .i64 1, .slice (some ⟨w.heap.size, 0, none⟩) 5 5, .string ⟨#[120, 121]⟩].toArray 27))
  obtain ⟨W1, hW1⟩ : ∃ x, (w.alloc (.cells (pcells knR.fl).toArray 37)).alloc (.cells [.string ⟨#[80, 79, 83, 84]⟩, .string ⟨#[47, 97, 47, 98, 63, 113]⟩, .int .i64 1, .slice (some ⟨w.heap.size, 0, none⟩) 5 5, .string ⟨#[120, 121]⟩].toArray 27) = x := ⟨_, rfl⟩
  have HW' : Below w.heap.size w W1 := hW1 ▸ HW.out
  have HP' : Pairs W1 (some ⟨w.heap.size, 0, none⟩) knR.fl := hW1 ▸ HP.out
  have HX' : Box W1 (w.heap.size + 1) [.string ⟨#[80, 79, 83, 84]⟩, .string ⟨#[47, 97, 47, 98, 63, 113]⟩, .int .i64 1, .slice (some ⟨w.heap.size, 0, none⟩) 5 5, .string ⟨#[120, 121]⟩] := hW1 ▸ HX.out
  rw [hW1]
  clear HW HP HX hW1
  have HW := Lib.hid HW'; have HP := Lib.hid HP'
  have hK : ∀ W', Below W1.heap.size W1 W' → (W'.cell? ⟨w.heap.size + 1, 0, none⟩ = some (.string ⟨#[80, 79, 83, 84]⟩) ∧ W'.cell? ⟨w.heap.size + 1, 1, none⟩ = some (.string ⟨#[47, 97, 47, 98, 63, 113]⟩) ∧ W'.cell? ⟨w.heap.size + 1, 2, none⟩ = some (.int .i64 1) ∧ W'.cell? ⟨w.heap.size + 1, 3, none⟩ = some (.slice (some ⟨w.heap.size, 0, none⟩) 5 5) ∧ W'.cell? ⟨w.heap.size + 1, 4, none⟩ = some (.string ⟨#[120, 121]⟩)) := fun W' h => ⟨fr_cell h (HX'.2 0 _ rfl), fr_cell h (HX'.2 1 _ rfl), fr_cell h (HX'.2 2 _ rfl), fr_cell h (HX'.2 3 _ rfl), fr_cell h (HX'.2 4 _ rfl)⟩
  have HK := Lib.hid hK
  clear HW' HP' HX' hK
  go_region_held3 (fun W' => (W'.cell? ⟨w.heap.size + 1, 0, none⟩ = some (.string ⟨#[80, 79, 83, 84]⟩) ∧ W'.cell? ⟨w.heap.size + 1, 1, none⟩ = some (.string ⟨#[47, 97, 47, 98, 63, 113]⟩) ∧ W'.cell? ⟨w.heap.size + 1, 2, none⟩ = some (.int .i64 1) ∧ W'.cell? ⟨w.heap.size + 1, 3, none⟩ = some (.slice (some ⟨w.heap.size, 0, none⟩) 5 5) ∧ W'.cell? ⟨w.heap.size + 1, 4, none⟩ = some (.string ⟨#[120, 121]⟩)))
    (first | (refine HK.out _ ?_; first | exact fr_trans hbS hbB | exact fr_trans (fr_alloc hbS _) hbB | exact fr_alloc hbS _ | exact hbS | exact fr_alloc (fr_drew (fr_refl _)) _ | exact fr_drew (fr_refl _) | exact fr_refl _))
    (first
    | (have hgg := hbS; go_at_call 7; refine (build_small _ _ 2 ⟨#[80, 79, 83, 84]⟩ ⟨#[47, 97, 47, 98, 63, 113]⟩ 1 knR.fl ⟨#[120, 121]⟩ _ 5 5 ⟨#[47, 97]⟩ ⟨#[47, 98]⟩ _ 1 1 [(⟨#[105, 100]⟩, ⟨#[55]⟩)] _ knL kn_eq kn_len (by first | exact HT.out.fr (fr_trans HW.out hbS) | exact HT.out.fr (fr_trans HW.out (fr_alloc hbS _))) rfl (by decide) (by first | exact HP.out.fr hbS | exact HP.out.fr (fr_alloc hbS _)) kn_sz rfl (by decide) (by first | exact Pairs.new _ _ _ | exact (Pairs.new W1.drew [(⟨#[105, 100]⟩, ⟨#[55]⟩)] 37).fr hbS0) id_sz (by decide) (by decide) (by decide) (by decide) (by decide) (by decide)).mono ?_; rintro e wB ⟨⟨A', n', c', l', rfl, hl', hP', -, hp'⟩, hbB⟩)
    | (go_at_call 11; refine (ref11_Small _).mono ?_; rintro e wS ⟨⟨Ac, cc, rfl, hRS⟩, hbS0⟩; unfold confV; have hbS : Below W1.heap.size W1 wS := by (first | exact fr_trans (fr_drew (fr_refl _)) hbS0 | exact fr_trans (fr_alloc (fr_drew (fr_refl _)) _) hbS0)))
  all_goals
    have hwb : Below w.heap.size w wB := by first | exact fr_trans HW.out (fr_trans hbS hbB) | exact fr_trans HW.out (fr_trans (fr_alloc hbS _) hbB)
    have hn9 : n' ≤ 1000 := by rw [← hl', hp'.length_eq]; have := kn_len; omega
    have HB := Lib.hid hwb; have HPB := Lib.hid hP'; have HPM := Lib.hid hp'; have HL := Lib.hid hl'
    clear hP' hp' hl' hwb hbS hbS0 hbB
    go_wp2_with fail
    refine (get_yes ⟨#[120, 44, 32, 121]⟩ HL.out HPB.out (by omega) ((perm_get kn_eq HPM.out _).trans kn1)).mono ?_
    rintro e w2 ⟨rfl, rfl⟩
    go_wp2_with fail
    refine (get_yes ⟨#[104]⟩ HL.out HPB.out (by omega) ((perm_get kn_eq HPM.out _).trans kn2)).mono ?_
    rintro e w3 ⟨rfl, rfl⟩
    go_wp2_with fail
    refine (get_yes ⟨#[50]⟩ HL.out HPB.out (by omega) ((perm_get kn_eq HPM.out _).trans kn3)).mono ?_
    rintro e w4 ⟨rfl, rfl⟩
    go_wp2_with fail
    refine (get_no HL.out HPB.out (by omega) ((perm_get kn_eq HPM.out _).trans kn4)).mono ?_
    rintro e w5 ⟨rfl, rfl⟩
    go_wp2_with fail
    refine (get_yes ⟨#[49, 48, 46, 48, 46, 48, 46, 51]⟩ HL.out HPB.out (by omega) ((perm_get kn_eq HPM.out _).trans kn5)).mono ?_
    rintro e w6 ⟨rfl, rfl⟩
    go_wp2_with fail
    refine (get_yes ⟨#[55]⟩ HL.out HPB.out (by omega) ((perm_get kn_eq HPM.out _).trans kn6)).mono ?_
    rintro e w7 ⟨rfl, rfl⟩
    go_wp2_with fail
    refine (get_yes ⟨#[47, 98]⟩ HL.out HPB.out (by omega) ((perm_get kn_eq HPM.out _).trans kn7)).mono ?_
    rintro e w8 ⟨rfl, rfl⟩
    go_wp2_with fail
    refine (vars_Name_at ⟨#[88, 45, 97, 46, 98]⟩ ⟨#[72, 84, 84, 80, 95, 88, 95, 65, 95, 66]⟩ _ ((congrFun nmE_eq _).trans kn8) (by decide)).mono ?_
    rintro e w9 ⟨rfl, hb9⟩
    go_wp2
    go_ret
    exact ⟨rfl, fr_trans HB.out hb9⟩
end Go.Proofs.YtdlignhlliellaaDoor
