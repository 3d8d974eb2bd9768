/- conduitlaw6.FieldBytes: true. -/
import Derived.Test.YtdagppbpeibdgaaDoorF6L
import Derived.Deep.Cut
import Derived.Deep.DeepCutAuto
namespace Go.Proofs.YtdagppbpeibdgaaDoor
set_option linter.unusedVariables false
set_option linter.unusedSimpArgs false
open Go.RowKit

def gI (b : Int) : Bool := (decide (32 ≤ b) && (b != 127)) || (b == 9)
def tI (b : Int) : Bool := (((decide (97 ≤ b) && decide (b ≤ 122)) || (decide (65 ≤ b) && decide (b ≤ 90))) || (decide (48 ≤ b) && decide (b ≤ 57))) || (b == 96)
def smL : List Int := [33, 35, 36, 37, 38, 39, 42, 43, 45, 46, 94, 95, 124, 126]
theorem ble_I (a b : Nat) : Nat.ble a b = decide ((a : Int) ≤ (b : Int)) := by rw [Bool.eq_iff_iff]; simp
theorem beq_I (a b : Nat) : Nat.beq a b = ((a : Int) == (b : Int)) := by rw [Bool.eq_iff_iff, Nat.beq_eq, beq_iff_eq]; omega
theorem gI_eq (b : Nat) : fbGood b = gI (b : Int) := by
  unfold fbGood gI
  rw [ble_I, beq_I, beq_I]; rfl
theorem tI_eq (b : Nat) : fbTok b = (tI (b : Int) || smL.any (fun c => c == (b : Int))) := by
  unfold fbTok tI
  rw [ble_I, ble_I, ble_I, ble_I, ble_I, ble_I, beq_I]
  congr 1
  rw [Bool.eq_iff_iff]
  simp [fbSome, smL]
  omega
theorem fb_one (b : Nat) (hb : b < 256) :
    (b = 58 ∧ (parseS (fbP b)).1 = 0 ∧ (parseS (fbN b)).1 = 0) ∨
    (b ≠ 58 ∧ ((gI (b : Int) = true ∧ (parseS (fbP b)).1 = 0 ∧ (parseS (fbP b)).2.2 = ⟨#[120]⟩ ++ ⟨#[UInt8.ofNat b]⟩ ++ ⟨#[121]⟩) ∨ (gI (b : Int) = false ∧ (parseS (fbP b)).1 = 10)) ∧
      (((tI (b : Int) || smL.any (fun c => c == (b : Int))) = true ∧ (parseS (fbN b)).1 = 0) ∨ ((tI (b : Int) || smL.any (fun c => c == (b : Int))) = false ∧ (parseS (fbN b)).1 ≠ 0))) := by
  have h := List.all_eq_true.1 fbAll b (List.mem_range.2 hb)
  unfold fbChk at h
  rw [← parseK_eq, ← parseK_eq] at h
  rw [← gI_eq, ← tI_eq]
  by_cases h58 : b = 58
  · rw [if_pos (by rw [h58]; rfl), Bool.and_eq_true, beq_iff_eq, beq_iff_eq] at h
    exact .inl ⟨h58, h⟩
  · rw [if_neg (by intro hh; exact h58 (Nat.eq_of_beq_eq_true hh)), Bool.and_eq_true] at h
    refine .inr ⟨h58, ?_, ?_⟩
    · cases hg : fbGood b
      · rw [hg] at h; exact .inr ⟨rfl, beq_iff_eq.1 h.1⟩
      · rw [hg, if_pos rfl, Bool.and_eq_true, beq_iff_eq, beq_iff_eq] at h
        refine .inl ⟨rfl, h.1.1, L_inj (h.1.2.trans ?_)⟩
        rw [L_app, L_app, List.append_assoc]; rfl
    · cases hg : fbTok b
      · rw [hg] at h; exact .inr ⟨rfl, by have := h.2; simpa using this⟩
      · rw [hg] at h; exact .inl ⟨rfl, beq_iff_eq.1 h.2⟩
theorem any_take (l : List Int) (b : Int) (k : Nat) (h : k < l.length) : (l.take (k + 1)).any (fun c => c == b) = ((l.take k).any (fun c => c == b) || (l[k] == b)) := by
  rw [List.take_succ_eq_append_getElem h, List.any_append]; simp
theorem sm_at : ∀ (k : Nat) (h : k < 14), ((⟨#[33, 35, 36, 37, 38, 39, 42, 43, 45, 46, 94, 95, 124, 126]⟩ : ByteArray)[k]'h |>.toNat : Int) = smL[k]'h := by decide
set_option maxRecDepth 100000 in
set_option maxHeartbeats 4000000 in
theorem bytes6_walk (b : Nat) (w : World) (hm : MaxL w) (hb : b < 256) (e1 e2 : Int) (n1 v1 n2 v2 : ByteArray) (h1 : parseS (fbP b) = (e1, n1, v1)) (h2 : parseS (fbN b) = (e2, n2, v2)) :
    Calls Tryd.prog 4 #[.int .u8 (b : Int)] w fun e w' => e = .returned (.bool true) ∧ Below w.heap.size w w' := by
  have HM := Lib.hid hm
  clear hm
  have hzz : (⟨#[UInt8.ofNat ((b : Int)).toNat]⟩ : ByteArray) = ⟨#[UInt8.ofNat b]⟩ := by rw [Int.toNat_natCast]
  obtain ⟨z, hz⟩ : ∃ z : ByteArray, (⟨#[UInt8.ofNat b]⟩ : ByteArray) = z := ⟨_, rfl⟩
  have hp : ⟨#[65, 58, 32, 120]⟩ ++ z ++ ⟨#[121]⟩ = fbP b := by
    subst hz
    apply L_inj
    unfold fbP
    rw [L_mk, L_app, L_app, List.append_assoc]
    rfl
  have hn : ⟨#[65]⟩ ++ z ++ ⟨#[58, 32, 120]⟩ = fbN b := by
    subst hz
    apply L_inj
    unfold fbN
    rw [L_mk, L_app, L_app, List.append_assoc]
    rfl
  have hzs : z.size = 1 := by rw [← hz]; rfl
  rw [hz] at hzz
  have hv1 : ∀ (W : World) (g : Nat), W.cell? ⟨g, 0, none⟩ = some (.int .u8 (b : Int)) → (convert 36 9 (.slice (some ⟨g, 0, none⟩) 1 1)).run Tryd.prog W = .ok (.string z) W := fun W g h => by
    rw [← hzz]; exact conv1 W g (b : Int) _ _ _ 1 Tryd.underlying36 Tryd.underlying5 Tryd.underlying9 h
  have hv2 : ∀ W : World, (convert 36 9 (.slice (some ⟨W.heap.size, 0, none⟩) 1 1)).run Tryd.prog (W.alloc (.cells #[.int .u8 (b : Int)] 5)) = .ok (.string z) (W.alloc (.cells #[.int .u8 (b : Int)] 5)) := fun W => hv1 _ _ (by rw [World.cell?_alloc_mark]; rfl)
  have t1 : ¬ 9223372036854775807 < 4 + z.size := by omega
  have t2 : ¬ 9223372036854775807 < 4 + z.size + 1 := by omega
  have t3 : ¬ 9223372036854775807 < 1 + z.size := by omega
  have t4 : ¬ 9223372036854775807 < 1 + z.size + 3 := by omega
  have t5 : ¬ 9223372036854775807 < 1 + z.size + 1 := by omega
  have hone := fb_one b hb
  rw [h1, h2, hz] at hone
  simp only at hone
  have HONE := Lib.hid hone
  clear hone
  rw [← hp] at h1
  rw [← hn] at h2
  have hs1 : (⟨#[65, 58, 32, 120]⟩ ++ z ++ ⟨#[121]⟩).size ≤ 1000000000 := by rw [size_app, size_app, hzs]; decide
  have hs2 : (⟨#[65]⟩ ++ z ++ ⟨#[58, 32, 120]⟩).size ≤ 1000000000 := by rw [size_app, size_app, hzs]; decide
  have H1 := Lib.hid h1; have H2 := Lib.hid h2; have HS1 := Lib.hid hs1; have HS2 := Lib.hid hs2
  clear h1 h2 hs1 hs2 hp hn hz hzz hzs
  go_enter Tryd.func4, Tryd.ntmps4
  go_wp2_with fail
  refine (law6_known _ HM.out).mono ?_
  rintro e w1 ⟨rfl, hb1⟩
  have HW1 := Lib.hid (fr_alloc hb1 (.cells #[.int .u8 (b : Int)] 5))
  clear hb1
  go_wp2_with fail
  refine (parse_at _ _ _ H1.out HS1.out).mono ?_
  rintro e w2 ⟨rfl, hb2⟩
  unfold parseR
  have HB2 := Lib.hid (Box.new w2 [.string n1, .string v1] 23)
  have HW2 := Lib.hid (fr_alloc (fr_trans HW1.out hb2) (.cells #[.string n1, .string v1] 23))
  clear hb2
  go_wp2_with fail
  refine (parse_at _ _ _ H2.out HS2.out).mono ?_
  rintro e w3 ⟨rfl, hb3⟩
  unfold parseR
  have HB3 := Lib.hid ((HB2.out.fr hb3).fr (fr_alloc (fr_refl _) (.cells #[.string n2, .string v2] 23)))
  have HW3 := Lib.hid (fr_alloc (fr_trans HW2.out hb3) (.cells #[.string n2, .string v2] 23))
  clear hb3
  go_upto_region 6 with fail
  go_cut [8] (fun s8 wx => s8 = .bool (gI (b : Int)) ∧ wx = w3.alloc (.cells #[.string n2, .string v2] 23))
  case first =>
    have hG : gI (b : Int) = ((decide (32 ≤ (b : Int)) && ((b : Int) != 127)) || ((b : Int) == 9)) := rfl
    have HG := Lib.hid hG
    clear hG
    cases d1 : decide (32 ≤ (b : Int)) <;> cases d2 : ((b : Int) != 127) <;> cases d3 : ((b : Int) == 9)
    all_goals
      have D := Lib.hid (show gI (b : Int) = _ by rw [HG.out, d1, d2, d3])
      go_wp2
      go_meet
      exact ⟨by rw [D.out]; rfl, rfl⟩
  case rest =>
    obtain ⟨rfl, rfl⟩ := hcut
    go_upto_region 7 with fail
    go_cut [9] (fun s9 wx => s9 = .bool (tI (b : Int)) ∧ wx = w3.alloc (.cells #[.string n2, .string v2] 23))
    case first =>
      have hG : tI (b : Int) = ((((decide (97 ≤ (b : Int)) && decide ((b : Int) ≤ 122)) || (decide (65 ≤ (b : Int)) && decide ((b : Int) ≤ 90))) || (decide (48 ≤ (b : Int)) && decide ((b : Int) ≤ 57))) || ((b : Int) == 96)) := rfl
      have HG := Lib.hid hG
      clear hG
      have hcl : ((b : Int) < 48) ∨ (48 ≤ (b : Int) ∧ (b : Int) ≤ 57) ∨ (58 ≤ (b : Int) ∧ (b : Int) ≤ 64) ∨ (65 ≤ (b : Int) ∧ (b : Int) ≤ 90) ∨ (91 ≤ (b : Int) ∧ (b : Int) ≤ 95) ∨ ((b : Int) = 96) ∨ (97 ≤ (b : Int) ∧ (b : Int) ≤ 122) ∨ (123 ≤ (b : Int)) := by omega
      rcases hcl with h | h | h | h | h | h | h | h
      · have d0 : decide (97 ≤ (b : Int)) = false := decide_eq_false (by omega)
        have d1 : decide ((b : Int) ≤ 122) = true := decide_eq_true (by omega)
        have d2 : decide (65 ≤ (b : Int)) = false := decide_eq_false (by omega)
        have d3 : decide ((b : Int) ≤ 90) = true := decide_eq_true (by omega)
        have d4 : decide (48 ≤ (b : Int)) = false := decide_eq_false (by omega)
        have d5 : decide ((b : Int) ≤ 57) = true := decide_eq_true (by omega)
        have d6 : ((b : Int) == 96) = false := by simp; omega
        have D := Lib.hid (show tI (b : Int) = _ by rw [HG.out, d0, d1, d2, d3, d4, d5, d6])
        clear h
        go_wp2
        go_meet
        exact ⟨by rw [D.out]; rfl, rfl⟩
      · have d0 : decide (97 ≤ (b : Int)) = false := decide_eq_false (by omega)
        have d1 : decide ((b : Int) ≤ 122) = true := decide_eq_true (by omega)
        have d2 : decide (65 ≤ (b : Int)) = false := decide_eq_false (by omega)
        have d3 : decide ((b : Int) ≤ 90) = true := decide_eq_true (by omega)
        have d4 : decide (48 ≤ (b : Int)) = true := decide_eq_true (by omega)
        have d5 : decide ((b : Int) ≤ 57) = true := decide_eq_true (by omega)
        have d6 : ((b : Int) == 96) = false := by simp; omega
        have D := Lib.hid (show tI (b : Int) = _ by rw [HG.out, d0, d1, d2, d3, d4, d5, d6])
        clear h
        go_wp2
        go_meet
        exact ⟨by rw [D.out]; rfl, rfl⟩
      · have d0 : decide (97 ≤ (b : Int)) = false := decide_eq_false (by omega)
        have d1 : decide ((b : Int) ≤ 122) = true := decide_eq_true (by omega)
        have d2 : decide (65 ≤ (b : Int)) = false := decide_eq_false (by omega)
        have d3 : decide ((b : Int) ≤ 90) = true := decide_eq_true (by omega)
        have d4 : decide (48 ≤ (b : Int)) = true := decide_eq_true (by omega)
        have d5 : decide ((b : Int) ≤ 57) = false := decide_eq_false (by omega)
        have d6 : ((b : Int) == 96) = false := by simp; omega
        have D := Lib.hid (show tI (b : Int) = _ by rw [HG.out, d0, d1, d2, d3, d4, d5, d6])
        clear h
        go_wp2
        go_meet
        exact ⟨by rw [D.out]; rfl, rfl⟩
      · have d0 : decide (97 ≤ (b : Int)) = false := decide_eq_false (by omega)
        have d1 : decide ((b : Int) ≤ 122) = true := decide_eq_true (by omega)
        have d2 : decide (65 ≤ (b : Int)) = true := decide_eq_true (by omega)
        have d3 : decide ((b : Int) ≤ 90) = true := decide_eq_true (by omega)
        have d4 : decide (48 ≤ (b : Int)) = true := decide_eq_true (by omega)
        have d5 : decide ((b : Int) ≤ 57) = false := decide_eq_false (by omega)
        have d6 : ((b : Int) == 96) = false := by simp; omega
        have D := Lib.hid (show tI (b : Int) = _ by rw [HG.out, d0, d1, d2, d3, d4, d5, d6])
        clear h
        go_wp2
        go_meet
        exact ⟨by rw [D.out]; rfl, rfl⟩
      · have d0 : decide (97 ≤ (b : Int)) = false := decide_eq_false (by omega)
        have d1 : decide ((b : Int) ≤ 122) = true := decide_eq_true (by omega)
        have d2 : decide (65 ≤ (b : Int)) = true := decide_eq_true (by omega)
        have d3 : decide ((b : Int) ≤ 90) = false := decide_eq_false (by omega)
        have d4 : decide (48 ≤ (b : Int)) = true := decide_eq_true (by omega)
        have d5 : decide ((b : Int) ≤ 57) = false := decide_eq_false (by omega)
        have d6 : ((b : Int) == 96) = false := by simp; omega
        have D := Lib.hid (show tI (b : Int) = _ by rw [HG.out, d0, d1, d2, d3, d4, d5, d6])
        clear h
        go_wp2
        go_meet
        exact ⟨by rw [D.out]; rfl, rfl⟩
      · have d0 : decide (97 ≤ (b : Int)) = false := decide_eq_false (by omega)
        have d1 : decide ((b : Int) ≤ 122) = true := decide_eq_true (by omega)
        have d2 : decide (65 ≤ (b : Int)) = true := decide_eq_true (by omega)
        have d3 : decide ((b : Int) ≤ 90) = false := decide_eq_false (by omega)
        have d4 : decide (48 ≤ (b : Int)) = true := decide_eq_true (by omega)
        have d5 : decide ((b : Int) ≤ 57) = false := decide_eq_false (by omega)
        have d6 : ((b : Int) == 96) = true := by simp; omega
        have D := Lib.hid (show tI (b : Int) = _ by rw [HG.out, d0, d1, d2, d3, d4, d5, d6])
        clear h
        go_wp2
        go_meet
        exact ⟨by rw [D.out]; rfl, rfl⟩
      · have d0 : decide (97 ≤ (b : Int)) = true := decide_eq_true (by omega)
        have d1 : decide ((b : Int) ≤ 122) = true := decide_eq_true (by omega)
        have d2 : decide (65 ≤ (b : Int)) = true := decide_eq_true (by omega)
        have d3 : decide ((b : Int) ≤ 90) = false := decide_eq_false (by omega)
        have d4 : decide (48 ≤ (b : Int)) = true := decide_eq_true (by omega)
        have d5 : decide ((b : Int) ≤ 57) = false := decide_eq_false (by omega)
        have d6 : ((b : Int) == 96) = false := by simp; omega
        have D := Lib.hid (show tI (b : Int) = _ by rw [HG.out, d0, d1, d2, d3, d4, d5, d6])
        clear h
        go_wp2
        go_meet
        exact ⟨by rw [D.out]; rfl, rfl⟩
      · have d0 : decide (97 ≤ (b : Int)) = true := decide_eq_true (by omega)
        have d1 : decide ((b : Int) ≤ 122) = false := decide_eq_false (by omega)
        have d2 : decide (65 ≤ (b : Int)) = true := decide_eq_true (by omega)
        have d3 : decide ((b : Int) ≤ 90) = false := decide_eq_false (by omega)
        have d4 : decide (48 ≤ (b : Int)) = true := decide_eq_true (by omega)
        have d5 : decide ((b : Int) ≤ 57) = false := decide_eq_false (by omega)
        have d6 : ((b : Int) == 96) = false := by simp; omega
        have D := Lib.hid (show tI (b : Int) = _ by rw [HG.out, d0, d1, d2, d3, d4, d5, d6])
        clear h
        go_wp2
        go_meet
        exact ⟨by rw [D.out]; rfl, rfl⟩
    case rest =>
      obtain ⟨rfl, rfl⟩ := hcut
      obtain ⟨W3, hW3⟩ : ∃ W, w3.alloc (.cells #[.string n2, .string v2] 23) = W := ⟨_, rfl⟩
      rw [hW3] at HB3 HW3
      rw [hW3]
      go_wp2
      go_loop [9, 11] (fun s i => ∃ k : Nat, k ≤ 14 ∧ i = .int .i64 k ∧ s = .bool (tI (b : Int) || (smL.take k).any (fun c => c == (b : Int)))) (fun _ i => 14 - (intOf i).toNat)
      case atStart => exact ⟨0, Nat.zero_le _, rfl, by simp⟩
      case round =>
        obtain ⟨k, hk, rfl, rfl⟩ := hrel
        by_cases hlt : k < 14
        · have hkl : k < smL.length := hlt
          have hat := any_take smL (b : Int) k hkl
          have hidx : k < (⟨#[33, 35, 36, 37, 38, 39, 42, 43, 45, 46, 94, 95, 124, 126]⟩ : ByteArray).size := hlt
          have hcI : ((⟨#[33, 35, 36, 37, 38, 39, 42, 43, 45, 46, 94, 95, 124, 126]⟩ : ByteArray)[k].toNat : Int) = smL[k]'hkl := sm_at k hlt
          obtain ⟨c, hc⟩ : ∃ c, smL[k]'hkl = c := ⟨_, rfl⟩
          rw [hc] at hat hcI
          have kI : (k : Int) < 14 := by omega
          have k0 : (0 : Int) ≤ (k : Int) := by omega
          obtain ⟨tk, htk⟩ : ∃ tk, (tI (b : Int) || (smL.take k).any (fun c => c == (b : Int))) = tk := ⟨_, rfl⟩
          rw [htk]
          have HA := Lib.hid (show (tI (b : Int) || (smL.take (k + 1)).any (fun c => c == (b : Int))) = (tk || (c == (b : Int))) by rw [hat, ← Bool.or_assoc, htk])
          have ix : ∀ W : World, (Instr.index 9 (.string ⟨#[33, 35, 36, 37, 38, 39, 42, 43, 45, 46, 94, 95, 124, 126]⟩) (.int .i64 (k : Int))).run Tryd.prog W = .ok (.int .u8 c) W := fun W => by
            rw [run_index_string W 9 _ .i64 (k : Int) Tryd.underlying9]
            rw [dif_pos ⟨k0, by show (k : Int) < 14; omega⟩, ← hcI]
            rfl
          clear hat htk hc hcI
          cases tk
          · cases hq : (c == (b : Int))
            all_goals
              have HQ := Lib.hid (show (false || (c == (b : Int))) = _ by rw [hq])
              go_wp2
              go_round
              case measure => exact meas hlt .i64 .i64
              case rel => exact ⟨k + 1, by omega, by go_num, by rw [HA.out, HQ.out]; rfl⟩
          · go_wp2
            go_round
            case measure => exact meas hlt .i64 .i64
            case rel => exact ⟨k + 1, by omega, by go_num, by rw [HA.out]; rfl⟩
        · obtain rfl : k = 14 := by omega
          rw [show smL.take 14 = smL from rfl]
          have hx3 := HB3.out
          have qc0 : W3.cell? ⟨w2.heap.size, 0, none⟩ = some (.string n1) := hx3.2 0 _ rfl
          have qc1 : W3.cell? ⟨w2.heap.size, 1, none⟩ = some (.string v1) := hx3.2 1 _ rfl
          have qlt : w2.heap.size < W3.heap.size := hx3.1
          clear hx3
          obtain ⟨T, hT⟩ : ∃ T, (tI (b : Int) || smL.any (fun c => c == (b : Int))) = T := ⟨_, rfl⟩
          obtain ⟨G, hG⟩ : ∃ G, gI (b : Int) = G := ⟨_, rfl⟩
          have hone := HONE.out
          rw [hT, hG] at hone
          rw [hT, hG]
          clear hT hG
          rcases hone with ⟨h58, he1, he2⟩ | ⟨h58, hA, hB⟩
          · subst he1 he2
            have k58 : ((b : Int) == 58) = true := by rw [h58]; rfl
            clear h58
            unfold errV
            go_wp2
            go_ret
            exact ⟨rfl, HW3.out⟩
          · have k58 : ((b : Int) == 58) = false := by simp; omega
            clear h58
            rcases hB with ⟨hT, he2⟩ | ⟨hT, he2⟩
            · subst hT he2
              rcases hA with ⟨hG, he1, hv⟩ | ⟨hG, he1⟩
              · subst hG he1 hv
                unfold errV
                go_wp2
                go_ret
                exact ⟨rfl, HW3.out⟩
              · subst hG he1
                unfold errV
                go_wp2_with fail
                refine (is_errno 10 10 _).mono ?_
                rintro e wq ⟨rfl, rfl⟩
                go_wp2
                go_ret
                exact ⟨rfl, HW3.out⟩
            · subst hT
              have hev : errV e2 = .iface 38 (.int .i64 e2) := by unfold errV; rw [if_neg he2]
              rw [hev]
              clear hev he2
              rcases hA with ⟨hG, he1, hv⟩ | ⟨hG, he1⟩
              · subst hG he1 hv
                unfold errV
                go_wp2
                go_ret
                exact ⟨rfl, HW3.out⟩
              · subst hG he1
                unfold errV
                go_wp2_with fail
                refine (is_errno 10 10 _).mono ?_
                rintro e wq ⟨rfl, rfl⟩
                go_wp2
                go_ret
                exact ⟨rfl, HW3.out⟩
theorem law6_bytes (x : Int) (w : World) (hm : MaxL w) (x0 : 0 ≤ x) (x1 : x ≤ 255) :
    Calls Tryd.prog 4 #[.int .u8 x] w fun e w' => e = .returned (.bool true) ∧ Below w.heap.size w w' := by
  obtain ⟨b, rfl⟩ : ∃ b : Nat, x = (b : Int) := ⟨x.toNat, by omega⟩
  exact bytes6_walk b w hm (by omega) _ _ _ _ _ _ rfl rfl
end Go.Proofs.YtdagppbpeibdgaaDoor
