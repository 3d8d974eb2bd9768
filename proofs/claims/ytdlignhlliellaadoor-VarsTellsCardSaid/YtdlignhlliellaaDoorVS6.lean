/- slices.stableCmpFunc, SortStableFunc at pairs of whatever number: the same pairs, sorted. -/
import Derived.Test.YtdlignhlliellaaDoorVSm
namespace Go.Proofs.YtdlignhlliellaaDoor
set_option linter.unusedVariables false
set_option linter.unusedSimpArgs false
open Go.RowKit

theorem FB.one {k : Nat} {S W : List Pr} (h : FB k S) (hW : W.length = k) (s : Srt W) : FB k (S ++ W) := .snoc S W h hW s
set_option maxRecDepth 100000 in
set_option maxHeartbeats 4000000 in
theorem stable_all (base g n cap : Nat) (l : List Pr) (w : World) (hn9 : n ≤ 10000) (h : Row w base g n cap l) :
    Calls Tryd.prog 40 #[.slice (some ⟨g, 0, none⟩) n cap, .int .i64 n, cmpV] w fun e w' => e = .returned (.tuple #[]) ∧ ∃ l', l'.Perm l ∧ Srt l' ∧ Row w' base g n cap l' ∧ w.grownBy w' (some g) := by
  have hl := h.len
  have H := Lib.hid h; have HL := Lib.hid hl
  have HN := Lib.hid hn9
  clear h hl
  unfold cmpV
  go_enter Tryd.func40, Tryd.ntmps40
  go_wp2
  go_loopw [7, 8] (fun a b wr => ∃ (p q : Nat) (S R : List Pr), q = p + 20 ∧ p ≤ n ∧ S.length = p ∧ FB 20 S ∧ (S ++ R).Perm l ∧ a = .int .i64 p ∧ b = .int .i64 q ∧ w.grownBy wr (some g) ∧ Row wr base g n cap (S ++ R)) (fun _ b _ => n + 20 - (intOf b).toNat)
  case atStart => exact ⟨0, 20, [], l, rfl, Nat.zero_le _, rfl, .nil, .refl _, rfl, rfl, only_refl _ _, H.out⟩
  case round =>
    obtain ⟨p, q, S, R, hq, hpn, hS, hF, hP, rfl, rfl, hg, hrow⟩ := hrel
    have hln : S.length + R.length = n := by have := hrow.len; rwa [List.length_append] at this
    have HG := Lib.hid hg; have HR := Lib.hid hrow; have HS := Lib.hid hS; have HF := Lib.hid hF; have HP := Lib.hid hP; have HQ := Lib.hid hq; have HLN := Lib.hid hln
    clear hg hrow hS hF hP hln
    by_cases hle : q ≤ n
    · obtain ⟨U, R', eR, l1, l2⟩ := split_at_len R 20 (by have := HLN.out; have := HS.out; omega)
      have hc := ins_part base g n cap p q S U R' wr HS.out (by omega) (by omega) (by rw [← eR]; exact HR.out)
      have HC := Lib.hid hc; have HER := Lib.hid eR; have HL1 := Lib.hid l1
      have HQW := Lib.hid (show wrap64 ((q : Int) + 20) = (q : Int) + 20 from IntWalk.wrap64_in _ (by omega))
      have hleI : (q : Int) ≤ (n : Int) := by omega
      clear hc eR l1 l2 hq hn9
      go_wp2_with fail
      refine HC.out.mono ?_
      rintro e w1 ⟨rfl, M, m1, m2, m3, hr1, hg1⟩
      have HR1 := Lib.hid hr1; have HG1 := Lib.hid (only_trans HG.out hg1); have HM := Lib.hid (And.intro m1 (And.intro m2 m3))
      clear hr1 hg1 m1 m2 m3
      go_wp2
      go_roundw
      case measure => rw [HQW.out]; show n + 20 - ((q : Int) + 20).toNat < n + 20 - ((q : Int)).toNat; omega
      case rel =>
        refine ⟨q, q + 20, S ++ M, R', rfl, hle, by rw [List.length_append, HS.out, HM.out.2.1, HL1.out, HQ.out], HF.out.one (by rw [HM.out.2.1, HL1.out]) HM.out.2.2, ?_, rfl, by rw [HQW.out]; rfl, HG1.out, by rw [List.append_assoc]; exact HR1.out⟩
        refine List.Perm.trans ?_ HP.out
        rw [HER.out, List.append_assoc]
        exact List.Perm.append_left S (List.Perm.append_right R' HM.out.1)
    · have hleI : ¬ (q : Int) ≤ (n : Int) := by omega
      have hc := ins_part base g n cap p n S R [] wr HS.out (by have := HLN.out; have := HS.out; omega) (by omega) (by rw [List.append_nil]; exact HR.out)
      have HC := Lib.hid hc
      clear hc hq hn9
      go_wp2_with fail
      refine HC.out.mono ?_
      rintro e w1 ⟨rfl, M, m1, m2, m3, hr1, hg1⟩
      rw [List.append_nil] at hr1
      have HR1 := Lib.hid hr1; have HG1 := Lib.hid (only_trans HG.out hg1)
      have HB1 := Lib.hid (show Bl 20 (S ++ M) from HF.out.bl (.last M (by have := HLN.out; have := HS.out; have := HQ.out; omega) m3))
      have HP1 := Lib.hid (show (S ++ M).Perm l from (List.Perm.append_left S m1).trans HP.out)
      clear hr1 hg1 m1 m2 m3
      go_wp2
      go_loopw [6] (fun bs wr => ∃ (k : Nat) (L : List Pr), bs = .int .i64 k ∧ 20 ≤ k ∧ Bl k L ∧ L.Perm l ∧ w.grownBy wr (some g) ∧ Row wr base g n cap L) (fun bs _ => n - (intOf bs).toNat)
      case atStart => exact ⟨20, S ++ M, rfl, Nat.le_refl _, HB1.out, HP1.out, HG1.out, HR1.out⟩
      case round =>
        obtain ⟨k, L, rfl, hk20, hB, hPL, hg2, hr2⟩ := hrel
        clear HG HR HS HF HP HQ HLN HC HR1 HG1 HB1 HP1
        have HG2 := Lib.hid hg2; have HR2 := Lib.hid hr2; have HB2 := Lib.hid hB; have HP2 := Lib.hid hPL
        clear hg2 hr2 hB hPL
        by_cases hkn : k < n
        · have hknI : (k : Int) < (n : Int) := by omega
          obtain ⟨kk, hkk⟩ : ∃ kk, kk = 2 * k := ⟨_, rfl⟩
          have hkI : (2 : Int) * (k : Int) = (kk : Int) := by omega
          have hkI2 : (k : Int) * 2 = (kk : Int) := by omega
          have HKW := Lib.hid (wrap_nat kk (by have := HN.out; omega))
          have HKK := Lib.hid hkk
          clear hkk
          go_wp2
          rw [HKW.out]
          go_loopw [7, 8] (fun a b wr => ∃ (p q : Nat) (S R : List Pr), q = p + kk ∧ p ≤ n ∧ S.length = p ∧ FB kk S ∧ Bl k R ∧ (S ++ R).Perm l ∧ a = .int .i64 p ∧ b = .int .i64 q ∧ w.grownBy wr (some g) ∧ Row wr base g n cap (S ++ R)) (fun _ b _ => n + kk - (intOf b).toNat)
          case atStart => exact ⟨0, kk, [], L, by omega, Nat.zero_le _, rfl, .nil, HB2.out, HP2.out, rfl, rfl, HG2.out, HR2.out⟩
          case round =>
            obtain ⟨p, q, S, R, hq, hpn, hS, hF, hBR, hP, rfl, rfl, hg, hrow⟩ := hrel
            clear HG2 HR2 HB2 HP2
            have hln : S.length + R.length = n := by have := hrow.len; rwa [List.length_append] at this
            have HG := Lib.hid hg; have HR := Lib.hid hrow; have HS := Lib.hid hS; have HF := Lib.hid hF; have HP := Lib.hid hP; have HQ := Lib.hid hq; have HLN := Lib.hid hln; have HBR := Lib.hid hBR
            clear hg hrow hS hF hP hln hBR
            obtain ⟨m, hm⟩ : ∃ m, m = p + k := ⟨_, rfl⟩
            have hmI : (p : Int) + (k : Int) = (m : Int) := by omega
            have HMW := Lib.hid (wrap_nat m (by have := HN.out; omega))
            have HM := Lib.hid hm
            obtain ⟨qk, hqk⟩ : ∃ qk, q + kk = qk := ⟨_, rfl⟩
            have hqI : (q : Int) + (kk : Int) = (qk : Int) := by omega
            have HQK := Lib.hid hqk
            have HQW := Lib.hid (wrap_nat qk (by have := HKK.out; have := HN.out; omega))
            clear hqk
            by_cases hle : q ≤ n
            · have hleI : (q : Int) ≤ (n : Int) := by omega
              obtain ⟨U, V, R', eR, l1, l2, s1, s2, hB'⟩ := HBR.out.two (by have := HLN.out; have := HS.out; have := HKK.out; omega) (by omega)
              have hc := sym_merge base g n cap HN.out (U.length + V.length) p m q S U V R' wr (Nat.le_refl _) HS.out (by omega) (by have := HKK.out; omega) (by omega) (by omega) s1 s2 (by rw [← eR]; exact HR.out)
              have HC := Lib.hid hc; have HER := Lib.hid eR; have HL1 := Lib.hid (And.intro l1 l2); have HB' := Lib.hid hB'
              clear hc eR l1 l2 s1 s2 hB' hq hm
              have hmw := HMW.out
              go_wp2_with fail
              refine HC.out.mono ?_
              rintro e w1 ⟨rfl, M, m1, m2, hr1, hg1⟩
              clear hmw
              have hkw := HKW.out
              have HR1 := Lib.hid hr1; have HG1 := Lib.hid (only_trans HG.out hg1); have HMM := Lib.hid (And.intro m1 m2)
              clear hr1 hg1 m1 m2
              go_wp2
              clear hkw
              go_roundw
              case measure => rw [HQW.out]; show n + kk - ((qk : Int)).toNat < n + kk - ((q : Int)).toNat; have := HKK.out; have := HQK.out; omega
              case rel =>
                have hml : M.length = kk := by have := HMM.out.1.length_eq; rw [List.length_append] at this; have := HL1.out; have := HKK.out; omega
                refine ⟨q, qk, S ++ M, R', HQK.out.symm, hle, by rw [List.length_append, HS.out, hml, HQ.out], HF.out.one hml HMM.out.2, HB'.out, ?_, rfl, by rw [HQW.out], HG1.out, by rw [List.append_assoc]; exact HR1.out⟩
                refine List.Perm.trans ?_ HP.out
                rw [HER.out, List.append_assoc, ← List.append_assoc U V R']
                exact List.Perm.append_left S (List.Perm.append_right R' HMM.out.1)
            · have hleI : ¬ (q : Int) ≤ (n : Int) := by omega
              by_cases hmn : m < n
              · have hmnI : (m : Int) < (n : Int) := by omega
                obtain ⟨U, V, eR, l1, l2, s1, s2⟩ := HBR.out.more (by have := HLN.out; have := HS.out; omega) (by have := HLN.out; have := HS.out; have := HKK.out; omega)
                have hUV : R.length = U.length + V.length := by rw [eR, List.length_append]
                have hc := sym_merge base g n cap HN.out (U.length + V.length) p m n S U V [] wr (Nat.le_refl _) HS.out (by omega) (by have := HLN.out; have := HS.out; omega) (by omega) (by omega) s1 s2 (by rw [List.append_nil, ← eR]; exact HR.out)
                have HC := Lib.hid hc; have HER := Lib.hid eR; have HUV := Lib.hid hUV
                clear hc eR l1 l2 s1 s2 hq hm hUV
                have hmw := HMW.out
                go_wp2_with fail
                refine HC.out.mono ?_
                rintro e w1 ⟨rfl, M, m1, m2, hr1, hg1⟩
                clear hmw
                rw [List.append_nil] at hr1
                have HR1 := Lib.hid hr1; have HG1 := Lib.hid (only_trans HG.out hg1); have HMM := Lib.hid (And.intro m1 m2)
                clear hr1 hg1 m1 m2
                go_wp2
                go_roundw
                case measure => rw [HKW.out]; show n - ((kk : Int)).toNat < n - ((k : Int)).toNat; have := HKK.out; omega
                case rel =>
                  have hml : M.length = U.length + V.length := by have := HMM.out.1.length_eq; rwa [List.length_append] at this
                  refine ⟨kk, S ++ M, by rw [HKW.out], by have := HKK.out; omega, HF.out.bl (.last M (by have := HLN.out; have := HS.out; have := HQ.out; have := HUV.out; omega) HMM.out.2), ?_, HG1.out, HR1.out⟩
                  refine List.Perm.trans ?_ HP.out
                  rw [HER.out]
                  exact List.Perm.append_left S HMM.out.1
              · have hmnI : ¬ (m : Int) < (n : Int) := by omega
                have HW := Lib.hid (HBR.out.whole (by have := HLN.out; have := HS.out; omega))
                clear hq hm
                have hmw := HMW.out
                go_wp2
                clear hmw
                go_roundw
                case measure => rw [HKW.out]; show n - ((kk : Int)).toNat < n - ((k : Int)).toNat; have := HKK.out; omega
                case rel =>
                  exact ⟨kk, S ++ R, by rw [HKW.out], by have := HKK.out; omega, HF.out.bl (.last R (by have := HLN.out; have := HS.out; have := HQ.out; omega) HW.out), HP.out, HG.out, HR.out⟩
        · have hknI : ¬ (k : Int) < (n : Int) := by omega
          go_wp2
          go_end0
          exact ⟨rfl, L, HP2.out, HB2.out.whole (by have := HR2.out.len; omega), HR2.out, HG2.out⟩
theorem sort_all (base g n cap : Nat) (l : List Pr) (w : World) (hn9 : n ≤ 10000) (h : Row w base g n cap l) :
    Calls Tryd.prog 22 #[.slice (some ⟨g, 0, none⟩) n cap, cmpV] w fun e w' => e = .returned (.tuple #[]) ∧ ∃ l', l'.Perm l ∧ Srt l' ∧ Row w' base g n cap l' ∧ w.grownBy w' (some g) := by
  have HI := Lib.hid (stable_all base g n cap l w hn9 h)
  clear h hn9
  unfold cmpV at HI ⊢
  go_enter Tryd.func22, Tryd.ntmps22
  go_wp2_with fail
  refine HI.out.mono ?_
  rintro e w1 ⟨rfl, l', hp, hs, hr, hg⟩
  have HP := Lib.hid hp; have HPP := Lib.hid hs; have HR := Lib.hid hr; have HG := Lib.hid hg
  clear hp hs hr hg
  go_wp2
  go_end0
  exact ⟨rfl, l', HP.out, HPP.out, HR.out, HG.out⟩
end Go.Proofs.YtdlignhlliellaaDoor
