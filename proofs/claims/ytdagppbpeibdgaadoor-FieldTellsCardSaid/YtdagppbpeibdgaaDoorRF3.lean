/- conduitref6.Parse. -/
import Derived.Test.YtdagppbpeibdgaaDoorRF1
import Derived.Deep.RegionWith
namespace Go.Proofs.YtdagppbpeibdgaaDoor
set_option linter.unusedVariables false
set_option linter.unusedSimpArgs false
open Go.RowKit

def parseQ (r : Int × ByteArray × ByteArray) : Value := .tuple #[.agg #[.string r.2.1, .string r.2.2], .int .i64 r.1]
theorem parse_none {line a b : ByteArray} (h : cutS line 58 = (a, b, false)) : parseS line = (10, ⟨#[]⟩, ⟨#[]⟩) := by
  unfold parseS; rw [h]; rfl
theorem parse_of {line n v0 : ByteArray} (h : cutS line 58 = (n, v0, true)) : parseS line = if allB isTokB n = false then (10, ⟨#[]⟩, ⟨#[]⟩) else if (L v0).all valB = false then (10, ⟨#[]⟩, ⟨#[]⟩)
    else if 64 < n.size then (12, ⟨#[]⟩, ⟨#[]⟩) else if 512 < (octTrim v0).size then (12, ⟨#[]⟩, ⟨#[]⟩) else (0, n, octTrim v0) := by
  have e1 : nameE n = if allB isTokB n = false then 10 else if 64 < n.size then 12 else 0 := rfl
  have e2 : valE (octTrim v0) = if (L v0).all valB = false then 10 else if 512 < (octTrim v0).size then 12 else 0 := by unfold valE; rw [trim_val]
  unfold parseS
  rw [h]
  simp only []
  rw [e1, e2]
  cases allB isTokB n
  · simp
  · cases (L v0).all valB
    · simp
    · by_cases h1 : 64 < n.size
      · by_cases h2 : 512 < (octTrim v0).size
        · simp [h1, h2]
        · simp [h1, h2]
      · by_cases h2 : 512 < (octTrim v0).size
        · simp [h1, h2]
        · simp [h1, h2]
theorem ref6_plain_at (s : ByteArray) (b : Bool) (w : World) (h : (L s).all valB = b) (hs : s.size ≤ 9223372036854775807) : Calls Tryd.prog 57 #[.string s] w fun e w' => e = .returned (.bool b) ∧ w = w' := h ▸ ref6_plain s w hs
theorem ref1_Tok_at (s : ByteArray) (b : Bool) (w : World) (h : allB isTokB s = b) (hs : s.size ≤ 9223372036854775807) : Calls Tryd.prog 54 #[.string s] w fun e w' => e = .returned (.bool b) ∧ w = w' := h ▸ ref1_Token s w hs
theorem ref1_Trim_at (s x : ByteArray) (w : World) (h : octTrim s = x) (hs : s.size ≤ 9223372036854775807) : Calls Tryd.prog 58 #[.string s] w fun e w' => e = .returned (.string x) ∧ w = w' := h ▸ ref1_Trim s w hs
set_option maxRecDepth 100000 in
set_option maxHeartbeats 4000000 in
theorem ref6_Parse (t : ByteArray) (w : World) (hs : t.size ≤ 1000000000) : Calls Tryd.prog 30 #[.string t] w fun e w' => e = .returned (parseQ (parseS t)) ∧ Below w.heap.size w w' := by
  have hlen : (L t).length = t.size := rfl
  have hyes : ∀ k (hk : k < t.size), (58 : UInt8) ∉ (L t).take k → t[k] = 58 → cutS t 58 = (t.extract 0 k, t.extract (k + 1) t.size, true) := fun k hk hn hc => by
    have e : L t = (L t).take k ++ 58 :: (L t).drop (k + 1) := by
      rw [← hc, ← L_at t k hk, ← List.drop_eq_getElem_cons (by exact hk), List.take_append_drop]
    rw [cutS_yes hn e]
    congr 1
    · apply L_inj; rw [L_mk, L_ext]; simp
    · congr 1; apply L_inj; rw [L_mk, L_end]
  have hno : (58 : UInt8) ∉ (L t).take t.size → parseS t = (10, ⟨#[]⟩, ⟨#[]⟩) := fun hn => parse_none (cutS_no (by rwa [List.take_of_length_le (Nat.le_of_eq hlen)] at hn))
  have hnext : ∀ k (hk : k < t.size), (58 : UInt8) ∉ (L t).take k → t[k] ≠ 58 → (58 : UInt8) ∉ (L t).take (k + 1) := fun k hk hn hc => by
    rw [List.take_succ_eq_append_getElem (show k < (L t).length from hk), L_at t k hk]
    simp only [List.mem_append, List.mem_singleton, not_or]
    exact ⟨hn, fun h => hc h.symm⟩
  have h0 : (58 : UInt8) ∉ (L t).take 0 := by simp
  obtain ⟨P, hP⟩ : ∃ P : Nat → Prop, ∀ k, P k = ((58 : UInt8) ∉ (L t).take k) := ⟨_, fun _ => rfl⟩
  simp only [← hP] at hyes hno hnext h0
  have hof : ∀ k (hk : k < t.size), P k → t[k] = 58 → parseS t = if allB isTokB (t.extract 0 k) = false then (10, ⟨#[]⟩, ⟨#[]⟩) else if (L (t.extract (k + 1) t.size)).all valB = false then (10, ⟨#[]⟩, ⟨#[]⟩)
    else if 64 < (t.extract 0 k).size then (12, ⟨#[]⟩, ⟨#[]⟩) else if 512 < (octTrim (t.extract (k + 1) t.size)).size then (12, ⟨#[]⟩, ⟨#[]⟩) else (0, t.extract 0 k, octTrim (t.extract (k + 1) t.size)) := fun k hk hp hc => parse_of (hyes k hk hp hc)
  obtain ⟨R, hR⟩ : ∃ R, parseS t = R := ⟨_, rfl⟩
  rw [hR] at hno hof ⊢
  have HNO := Lib.hid hno; have HX := Lib.hid hnext; have H0 := Lib.hid h0; have HOF := Lib.hid hof
  have hZ := Blk.new w 23 #[.string ⟨#[]⟩, .string ⟨#[]⟩]
  have zc0 : (w.alloc (.cells #[.string ⟨#[]⟩, .string ⟨#[]⟩] 23)).cell? ⟨w.heap.size, 0, none⟩ = some (.string ⟨#[]⟩) := hZ.cell 0
  have zc1 : (w.alloc (.cells #[.string ⟨#[]⟩, .string ⟨#[]⟩] 23)).cell? ⟨w.heap.size, 1, none⟩ = some (.string ⟨#[]⟩) := hZ.cell 1
  have zf0 : (w.alloc (.cells #[.string ⟨#[]⟩, .string ⟨#[]⟩] 23)).frozen? ⟨w.heap.size, 0, none⟩ = false := hZ.frozen 0
  have zf1 : (w.alloc (.cells #[.string ⟨#[]⟩, .string ⟨#[]⟩] 23)).frozen? ⟨w.heap.size, 1, none⟩ = false := hZ.frozen 1
  have HZ := Lib.hid hZ; clear hZ
  clear hyes hno hnext h0 hlen hP hR hof
  go_enter Tryd.func30, Tryd.ntmps30
  go_wp2
  go_loop [4, 5] (fun at_ i => ∃ k : Nat, k ≤ t.size ∧ i = .int .i64 k ∧ ((at_ = .int .i64 (-1) ∧ P k) ∨ ∃ (j : Nat) (hj : j < t.size), k = j + 1 ∧ at_ = .int .i64 j ∧ P j ∧ t[j] = 58)) (fun _ i => t.size - (intOf i).toNat)
  case atStart => exact ⟨0, Nat.zero_le _, rfl, .inl ⟨rfl, H0.out⟩⟩
  case round =>
    obtain ⟨k, hk, rfl, ⟨rfl, hall⟩ | ⟨j, hj, rfl, rfl, hpj, hcj⟩⟩ := hrel
    · by_cases hlt : k < t.size
      · have hxk := HX.out k hlt hall
        obtain ⟨c, hc0⟩ : ∃ c, t[k] = c := ⟨_, rfl⟩
        rw [hc0] at hxk
        by_cases hc : c = 58
        · have hq : ((c.toNat : Int) == 58) = true := by rw [hc]; rfl
          have HC0 := Lib.hid hc0; have HC := Lib.hid hc; have HALL := Lib.hid hall
          have hc1 : t[k] = c := hc0
          clear hxk hall hc
          go_wp2
          go_round
          case measure => exact meas hlt .i64 .i64
          case rel => exact ⟨k + 1, by omega, by go_num, .inr ⟨k, hlt, rfl, rfl, HALL.out, by rw [HC0.out, HC.out]⟩⟩
        · have hq : ((c.toNat : Int) == 58) = false := by
            simp; intro h; exact hc (UInt8.toNat_inj.1 (by show c.toNat = 58; omega))
          have HE := Lib.hid (hxk hc)
          clear hxk hall hc
          go_wp2
          go_round
          case measure => exact meas hlt .i64 .i64
          case rel => exact ⟨k + 1, by omega, by go_num, .inl ⟨rfl, HE.out⟩⟩
      · obtain rfl : k = t.size := by omega
        have HE := Lib.hid (HNO.out hall); clear hall
        go_wp2
        refine bodyPost_ret (res_pair (g := w.heap.size) (v0 := .string ⟨#[]⟩) (v1 := .string ⟨#[]⟩) Tryd.results30 rfl HZ.out) rfl ?_
        exact ⟨by rw [HE.out]; rfl, fr_alloc (fr_refl w) _⟩
    · have hr := HOF.out j hj hpj hcj
      clear hpj hcj HX H0 HNO HOF
      have q1 : 0 ≤ (j : Int) := by omega
      have q2 : (j : Int) ≤ (t.size : Int) := by omega
      have q3 : ((j : Int) + 1).toNat = j + 1 := by omega
      have q4 : 0 ≤ (j : Int) + 1 := by omega
      have q5 : (j : Int) + 1 ≤ (t.size : Int) := by omega
      have q6 : decide ((j : Int) < 0) = false := by simp
      have q7 : IntKind.i64.wrap ((j : Int) + 1) = (j : Int) + 1 := IntWalk.i64_in _ (by omega)
      obtain ⟨n, hn⟩ : ∃ n, t.extract 0 j = n := ⟨_, rfl⟩
      obtain ⟨v0, hv0⟩ : ∃ v0, t.extract (j + 1) t.size = v0 := ⟨_, rfl⟩
      have hn9 : n.size ≤ 9223372036854775807 := by rw [← hn, ByteArray.size_extract]; omega
      have hv9 : v0.size ≤ 9223372036854775807 := by rw [← hv0, ByteArray.size_extract]; omega
      rw [hn, hv0] at hr
      have HR := Lib.hid hr; have HN9 := Lib.hid hn9; have HV9 := Lib.hid hv9; have HNE := Lib.hid hn; have HVE := Lib.hid hv0
      clear hr hn9 hv9
      have hex : decide ((j + 1 : Int) < (t.size : Int)) = true ∨ decide ((j + 1 : Int) < (t.size : Int)) = false := by cases decide ((j + 1 : Int) < (t.size : Int)) <;> simp
      cases htk : allB isTokB n
      · have hr : R = (10, ⟨#[]⟩, ⟨#[]⟩) := by rw [HR.out, if_pos htk]
        have HTK := Lib.hid htk
        clear htk HR
        subst hr
        rcases hex with hex | hex
        all_goals
          go_wp2_with fail
          refine (ref1_Tok_at n _ _ HTK.out HN9.out).mono ?_
          rintro e w1 ⟨rfl, rfl⟩
          go_wp2
          refine bodyPost_ret (res_pair (g := w.heap.size) (v0 := .string ⟨#[]⟩) (v1 := .string ⟨#[]⟩) Tryd.results30 rfl HZ.out) rfl ?_
          exact ⟨rfl, fr_alloc (fr_refl w) _⟩
      · cases hpl : (L v0).all valB
        · have hr : R = (10, ⟨#[]⟩, ⟨#[]⟩) := by rw [HR.out, if_neg (by rw [htk]; decide), if_pos hpl]
          have HTK := Lib.hid htk; have HPL := Lib.hid hpl
          clear htk HR hpl
          subst hr
          rcases hex with hex | hex
          all_goals
            go_wp2_with fail
            refine (ref1_Tok_at n _ _ HTK.out HN9.out).mono ?_
            rintro e w1 ⟨rfl, rfl⟩
            go_wp2_with fail
            refine (ref6_plain_at v0 _ _ HPL.out HV9.out).mono ?_
            rintro e w1 ⟨rfl, rfl⟩
            go_wp2
            refine bodyPost_ret (res_pair (g := w.heap.size) (v0 := .string ⟨#[]⟩) (v1 := .string ⟨#[]⟩) Tryd.results30 rfl HZ.out) rfl ?_
            exact ⟨rfl, fr_alloc (fr_refl w) _⟩
        · obtain ⟨x, hx⟩ : ∃ x, octTrim v0 = x := ⟨_, rfl⟩
          have hr : R = if 64 < n.size then (12, ⟨#[]⟩, ⟨#[]⟩) else if 512 < x.size then (12, ⟨#[]⟩, ⟨#[]⟩) else (0, n, x) := by rw [HR.out, if_neg (by rw [htk]; decide), if_neg (by rw [hpl]; decide), hx]
          have HTK := Lib.hid htk; have HPL := Lib.hid hpl; have HTX := Lib.hid hx
          clear htk HR hpl hx
          have hcs : ((64 : Int) < (n.size : Int) ∧ R = (12, ⟨#[]⟩, ⟨#[]⟩)) ∨ (decide ((64 : Int) < (n.size : Int)) = false ∧ (512 : Int) < (x.size : Int) ∧ R = (12, ⟨#[]⟩, ⟨#[]⟩)) ∨ (decide ((64 : Int) < (n.size : Int)) = false ∧ decide ((512 : Int) < (x.size : Int)) = false ∧ R = (0, n, x)) := by
            by_cases h1 : 64 < n.size
            · rw [if_pos h1] at hr; exact .inl ⟨by omega, hr⟩
            · rw [if_neg h1] at hr
              by_cases h2 : 512 < x.size
              · rw [if_pos h2] at hr; exact .inr (.inl ⟨by simp; omega, by omega, hr⟩)
              · rw [if_neg h2] at hr; exact .inr (.inr ⟨by simp; omega, by simp; omega, hr⟩)
          clear hr
          obtain ⟨W0, hW0⟩ : ∃ W0, w.alloc (.cells #[.string ⟨#[]⟩, .string ⟨#[]⟩] 23) = W0 := ⟨_, rfl⟩
          have hzd0 : Blk W0 w.heap.size 23 #[.string ⟨#[]⟩, .string ⟨#[]⟩] := hW0 ▸ HZ.out
          have hfd : Below w.heap.size w W0 := hW0 ▸ fr_alloc (fr_refl w) _
          rw [hW0] at zc0 zc1 zf0 zf1
          have HW0 := Lib.hid hW0
          rcases hex with hex | hex
          all_goals
            go_wp2_with fail
            refine (ref1_Tok_at n _ _ HTK.out HN9.out).mono ?_
            rintro e w1 ⟨rfl, rfl⟩
            go_wp2_with fail
            refine (ref6_plain_at v0 _ _ HPL.out HV9.out).mono ?_
            rintro e w1 ⟨rfl, rfl⟩
            go_wp2_with fail
            go_region_with (first | (go_at_call 58; refine (ref1_Trim_at v0 x _ HTX.out HV9.out).mono ?_; rintro e w1 ⟨rfl, rfl⟩))
            all_goals
              have hN := (Blk.new W0 23 #[.string n, .string x]).drew
              have hZ := (hzd0.alloc (.cells #[.string n, .string x] 23)).drew
              have hF := fr_drew (fr_alloc hfd (.cells #[.string n, .string x] 23))
              obtain ⟨W3, hW3⟩ : ∃ W3, (W0.alloc (.cells #[.string n, .string x] 23)).drew = W3 := ⟨_, rfl⟩
              rw [hW3] at hN hZ hF ⊢
              clear hW3
              have nc0 : W3.cell? ⟨W0.heap.size, 0, none⟩ = some (.string n) := hN.cell 0
              have nc1 : W3.cell? ⟨W0.heap.size, 1, none⟩ = some (.string x) := hN.cell 1
              have yc0 : W3.cell? ⟨w.heap.size, 0, none⟩ = some (.string ⟨#[]⟩) := hZ.cell 0
              have yc1 : W3.cell? ⟨w.heap.size, 1, none⟩ = some (.string ⟨#[]⟩) := hZ.cell 1
              have yf0 : W3.frozen? ⟨w.heap.size, 0, none⟩ = false := hZ.frozen 0
              have yf1 : W3.frozen? ⟨w.heap.size, 1, none⟩ = false := hZ.frozen 1
              have HZ6 := Lib.hid hZ; have HF6 := Lib.hid hF
              clear hN hZ hF
              rcases hcs with ⟨h1, rfl⟩ | ⟨h1, h2, rfl⟩ | ⟨h1, h2, rfl⟩
              · go_wp2
                refine bodyPost_ret (res_pair (g := w.heap.size) (v0 := .string ⟨#[]⟩) (v1 := .string ⟨#[]⟩) Tryd.results30 rfl ((HZ6.out.set_ 0 _).set_ 1 _)) rfl ?_
                exact ⟨rfl, fr_set (fr_set HF6.out (Nat.le_refl _) _) (Nat.le_refl _) _⟩
              · go_wp2
                refine bodyPost_ret (res_pair (g := w.heap.size) (v0 := .string ⟨#[]⟩) (v1 := .string ⟨#[]⟩) Tryd.results30 rfl ((HZ6.out.set_ 0 _).set_ 1 _)) rfl ?_
                exact ⟨rfl, fr_set (fr_set HF6.out (Nat.le_refl _) _) (Nat.le_refl _) _⟩
              · go_wp2
                refine bodyPost_ret (res_pair (g := w.heap.size) (v0 := .string n) (v1 := .string x) Tryd.results30 rfl ((HZ6.out.set_ 0 _).set_ 1 _)) rfl ?_
                exact ⟨rfl, fr_set (fr_set HF6.out (Nat.le_refl _) _) (Nat.le_refl _) _⟩
end Go.Proofs.YtdagppbpeibdgaaDoor
