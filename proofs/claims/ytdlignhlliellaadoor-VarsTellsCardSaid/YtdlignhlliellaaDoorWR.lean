/- The document's small functions that Vars calls: nat, Dec, Get, Host, Split, SamePairs of like rows. -/
import Derived.Test.YtdlignhlliellaaDoorNum
import Derived.Test.YtdlignhlliellaaDoorVs
import Derived.Test.YtdlignhlliellaaDoorTxt
import Derived.Deep.RegionWith
import Derived.BigQuiet
import Derived.IntWalk
namespace Go.Proofs.YtdlignhlliellaaDoor
set_option linter.unusedVariables false
set_option linter.unusedSimpArgs false
open Go.RowKit

set_option maxHeartbeats 400000 in
theorem nat_core (u q r : Nat) (d z : ByteArray) (w : World) (hu : ¬ (u : Int) < 10) (hu0 : (u : Int) ≤ 18446744073709551615) (hdz : d.size ≤ 4611686018427387904) (hz : z.size ≤ 1)
    (e1 : IntKind.u64.wrap ((u : Int) / 10) = (q : Int)) (e2 : (u : Int).tmod 10 = (r : Int)) (e3 : IntKind.u64.wrap (48 + (r : Int)) = 48 + (r : Int)) (e4 : IntKind.u8.wrap (48 + (r : Int)) = 48 + (r : Int))
    (hcv : ∀ W : World, (convert 68 9 (.slice (some ⟨W.heap.size, 0, none⟩) 1 1)).run Tryd.prog (W.alloc (.cells #[.int .u8 (48 + (r : Int))] 5)) = .ok (.string z) (W.alloc (.cells #[.int .u8 (48 + (r : Int))] 5)))
    (hcv2 : ∀ (W : World) (g : Nat), W.cell? ⟨g, 0, none⟩ = some (.int .u8 (48 + (r : Int))) → (convert 68 9 (.slice (some ⟨g, 0, none⟩) 1 1)).run Tryd.prog W = .ok (.string z) W)
    (hc : ∀ w, Calls Tryd.prog 42 #[.int .u64 (q : Int)] w fun e w' => e = .returned (.string d) ∧ Below w.heap.size w w') :
    Calls Tryd.prog 42 #[.int .u64 (u : Int)] w fun e w' => e = .returned (.string (d ++ z)) ∧ Below w.heap.size w w' := by
  have HC := Lib.hid hc; clear hc
  go_enter Tryd.func42, Tryd.ntmps42
  go_wp2_with fail
  go_region_with (go_at_call 42; refine (HC.out _).mono ?_; rintro e w1 ⟨rfl, hb1⟩; obtain ⟨hc1, hf1⟩ := fr_cells hb1)
  all_goals
    go_wp2
    go_ret
    refine ⟨rfl, ?_⟩
  all_goals first | exact fr_alloc (fr_trans (fr_drew (fr_refl _)) hb1) _ | exact fr_trans (fr_alloc (fr_drew (fr_refl _)) _) hb1 | exact fr_trans (fr_drew (fr_alloc (fr_refl _) _)) hb1
set_option maxHeartbeats 400000 in
theorem ref6_nat : ∀ (u : Nat) (n : Int) (w : World), n = (u : Int) → u < 18446744073709551616 →
    Calls Tryd.prog 42 #[.int .u64 n] w fun e w' => e = .returned (.string (decB u)) ∧ Below w.heap.size w w' := by
  intro u
  induction u using Nat.strongRecOn with
  | ind u ih =>
    intro n w hn hu
    subst hn
    by_cases h : u < 10
    · have hcv := fun (W : World) (x : Int) => conv1_new (P := Tryd.prog) W x 68 9 5 Tryd.underlying68 Tryd.underlying5 Tryd.underlying9
      go_enter Tryd.func42, Tryd.ntmps42
      go_wp2
      go_ret
      refine ⟨?_, fr_alloc (fr_refl _) _⟩
      rw [decB_small u h]; rfl
    · rw [decB_big u h]
      have hz := decB_size (u / 10) (by omega)
      exact nat_core u (u / 10) (u % 10) _ _ w (by omega) (by omega) (by omega) (Nat.le_refl _) (IntWalk.u64_in _ (by omega)) (IntWalk.rem_in _ _ (by omega)) (IntWalk.u64_in _ (by omega)) (IntWalk.u8_in _ (by omega))
        (fun W => conv1_new W _ _ _ _ Tryd.underlying68 Tryd.underlying5 Tryd.underlying9) (fun W g h => conv1 W g _ _ _ _ _ Tryd.underlying68 Tryd.underlying5 Tryd.underlying9 h) (fun w => ih (u / 10) (by omega) _ w rfl (by omega))
set_option maxHeartbeats 400000 in
theorem ref6_Dec (n : Int) (w : World) (h0 : -9223372036854775808 ≤ n) (h1 : n ≤ 9223372036854775807) :
    Calls Tryd.prog 27 #[.int .i64 n] w fun e w' => e = .returned (.string (itoaB n)) ∧ Below w.heap.size w w' := by
  by_cases h : n < 0
  · obtain ⟨u, hu⟩ : ∃ u : Nat, n = -(u : Int) := ⟨n.natAbs, by omega⟩
    subst hu
    have hz := decB_size u (by omega)
    go_enter Tryd.func27, Tryd.ntmps27
    go_wp2_with fail
    refine (ref6_nat u _ _ (by omega) (by omega)).mono ?_
    rintro e w1 ⟨rfl, hb1⟩
    go_wp2
    go_ret
    exact ⟨by rw [itoaB_neg u (by omega)]; rfl, hb1⟩
  · obtain ⟨u, rfl⟩ : ∃ u : Nat, n = (u : Int) := ⟨n.toNat, by omega⟩
    go_enter Tryd.func27, Tryd.ntmps27
    go_wp2_with fail
    refine (ref6_nat u _ _ rfl (by omega)).mono ?_
    rintro e w1 ⟨rfl, hb1⟩
    go_wp2
    go_ret
    exact ⟨by rw [itoaB_nat u]; rfl, hb1⟩
set_option maxHeartbeats 1000000 in
theorem ref6_Get (A : Option Addr) (c n : Nat) (l : List Pr) (name : ByteArray) (w : World) (hnl : l.length = n) (hl : n ≤ 4398046511103) (hp : Pairs w A l) (hn : name.size ≤ 9223372036854775807)
    (hs : ∀ p ∈ l, p.1.size ≤ 9223372036854775807) :
    Calls Tryd.prog 28 #[.slice A n c, .string name] w fun e w' => (∃ A' c', e = .returned (.slice A' (getS l name).length c') ∧ Strs w' A' (getS l name)) ∧ Below w.heap.size w w' := by
  obtain ⟨i0, hi, hz0, hz1, hz2⟩ := info_parts str_info
  have H := Lib.hid hp; clear hp
  have HS := Lib.hid hs; clear hs
  have HN := Lib.hid hnl; clear hnl
  go_enter Tryd.func28, Tryd.ntmps28
  go_wp2
  go_loopw [5, 6] (fun v i wr => ∃ k : Nat, k ≤ n ∧ i = .int .i64 k ∧ Below w.heap.size w wr ∧ wr.ownsRow w.heap.size 9 1 v (getS (l.take k) name).length (scells (getS (l.take k) name))) (fun _ i _ => n - (intOf i).toNat)
  case atStart => exact ⟨0, Nat.zero_le _, rfl, Below.refl _ _, World.ownsRow_nil _ _ _ _⟩
  case round =>
    obtain ⟨k, hk, rfl, hb, hown⟩ := hrel
    by_cases hlt : k < n
    · have hkl : k < l.length := by have := HN.out; omega
      obtain ⟨b, off, rfl, hbl, hcell⟩ := H.out (by omega)
      obtain ⟨h1, h2⟩ := hcell k hkl
      rw [← hb.cell (p := ⟨b, _, none⟩) hbl] at h1 h2
      clear hcell
      have hs1 := HS.out l[k] (List.getElem_mem hkl)
      have hy := fun h => getS_yes l name k hkl h
      have hno := fun h => getS_no l name k hkl h
      have hlen : (getS (l.take k) name).length ≤ k := Nat.le_trans (getS_len _ _) (List.length_take_le _ _)
      obtain ⟨⟨pn, pv⟩, hpe⟩ : ∃ p, l[k] = p := ⟨_, rfl⟩
      rw [hpe] at h1 h2 hs1 hy hno
      simp only at h1 h2 hs1 hy hno
      obtain ⟨o, ho⟩ : ∃ o, getS (l.take k) name = o := ⟨_, rfl⟩
      rw [ho] at hy hno hlen hown
      have HY := Lib.hid hy; have HNO := Lib.hid hno
      clear hy hno hpe ho
      have kI : (k : Int) < (n : Int) := by omega
      have k0 : (0 : Int) ≤ (k : Int) := by omega
      have hblr : b < wr.heap.size := Nat.lt_of_lt_of_le hbl hb.size
      go_wp2_with fail
      refine (ref1_Lower pn _ hs1).mono ?_
      rintro e w1 ⟨rfl, hb1⟩
      have h1' := fr_cell hb1 h1
      have h2' := fr_cell hb1 h2
      go_wp2_with fail
      refine (ref1_Lower name _ hn).mono ?_
      rintro e w2 ⟨rfl, hb2⟩
      have h1'' := fr_cell hb2 h1'
      have h2'' := fr_cell hb2 h2'
      have hbw : Below w.heap.size w w2 := fr_trans (fr_trans hb hb1) hb2
      have hown1 := own_fr (own_fr hown hb1) hb2
      clear hb1 hb2 hown h1 h2 h1' h2'
      cases hq : eqB (lowB pn) (lowB name)
      · have HQ := Lib.hid hq
        unfold eqB at hq
        go_wp2_with fail
        go_roundw
        case measure => exact meas hlt _ _
        case rel => exact ⟨k + 1, by omega, by go_num, hbw, by rw [HNO.out HQ.out]; exact hown1⟩
      · have HQ := Lib.hid hq
        unfold eqB at hq
        have HO := Lib.hid hown1; clear hown1
        go_wp2_with (first
          | (at_builtin
             refine wpList_append_own _ rfl (.tmp 22) (.tmp 28) _ rfl w.heap.size 9 i0 _ 1 16 Tryd.underlying49 hi hz0 hz1 hz2 rfl (by decide) _ _ _ rfl (HO.out.alloc _) ⟨w2.heap.size, 0, none⟩ 1 1 [.string pv] rfl rfl (new_cells _ _ _) (scell_one _) (by simp only [maxLen]; omega) (by omega) (Nat.le_trans hbw.size (by simp)) ?_
             intro v2 w3 hown2 hg2 _))
        go_roundw
        case measure => exact meas hlt _ _
        case rel =>
          refine ⟨k + 1, by omega, by go_num, fr_grown (fr_alloc hbw _) hg2 (own_ge HO.out), ?_⟩
          rw [HY.out HQ.out, List.length_append, scells_snoc]
          exact hown2
    · have e : l.take k = l := List.take_of_length_le (by have := HN.out; omega)
      rw [e] at hown
      obtain ⟨A2, c2, rfl, -, hS2, -⟩ := Strs.own hown
      have HS2 := Lib.hid hS2
      clear hS2 hown e
      go_wp2
      go_ret
      exact ⟨⟨A2, c2, rfl, HS2.out⟩, hb⟩
set_option maxHeartbeats 2000000 in
theorem ref11_Host (s : ByteArray) (w : World) (hs : s.size ≤ 9223372036854775807) : Calls Tryd.prog 29 #[.string s] w fun e w' => e = .returned (.string (hostS s)) ∧ Below w.heap.size w w' := by
  have hyes : ∀ k (h : k < s.size), (58 : UInt8) ∉ (L s).take k → s[k] = 58 → hostS s = lowB (s.extract 0 k) := fun k h h1 h2 => by
    have hk : k < (L s).length := h
    have e : L s = (L s).take k ++ 58 :: (L s).drop (k + 1) := by
      conv => lhs; rw [← List.take_append_drop k (L s), List.drop_eq_getElem_cons hk]
      rw [show (L s)[k]'hk = s[k] from rfl, h2]
    unfold hostS
    rw [cutS_yes h1 e]
    congr 1
    apply L_inj
    rw [L_mk, L_ext, List.drop_zero]
  have hno : (58 : UInt8) ∉ L s → hostS s = lowB s := fun h => by unfold hostS; rw [cutS_no h]
  have HY := Lib.hid hyes; have HNO := Lib.hid hno
  clear hyes hno
  go_enter Tryd.func29, Tryd.ntmps29
  go_wp2
  go_loopw [3] (fun i wr => ∃ k : Nat, k ≤ s.size ∧ i = .int .i64 k ∧ (58 : UInt8) ∉ (L s).take k ∧ w = wr) (fun i _ => s.size - (intOf i).toNat)
  case atStart => exact ⟨0, Nat.zero_le _, rfl, by simp, rfl⟩
  case round =>
    obtain ⟨k, hk, rfl, hn, rfl⟩ := hrel
    by_cases hlt : k < s.size
    · by_cases hc : s[k] = 58
      · have hcI : ((s[k].toNat : Int) == 58) = true := by rw [hc]; rfl
        have HE := Lib.hid (HY.out k hlt hn hc)
        have hz : (s.extract 0 k).size ≤ 9223372036854775807 := by rw [ByteArray.size_extract]; omega
        clear hn hc
        go_wp2_with fail
        refine (ref1_Lower (s.extract 0 k) _ hz).mono ?_
        rintro e w1 ⟨rfl, hb⟩
        go_wp2
        go_ret
        exact ⟨by rw [HE.out]; rfl, hb⟩
      · have hcI : ((s[k].toNat : Int) == 58) = false := by
          simp; intro h; exact hc (UInt8.toNat_inj.1 (by show s[k].toNat = 58; omega))
        have hn2 : (58 : UInt8) ∉ (L s).take (k + 1) := by
          rw [List.take_succ_eq_append_getElem (show k < (L s).length from hlt), List.mem_append, not_or]
          refine ⟨hn, fun h => hc ?_⟩
          have := List.mem_singleton.1 h
          exact this.symm
        have HN := Lib.hid hn2
        clear hn hn2 hc
        go_wp2_with fail
        go_roundw
        case measure => exact meas hlt .i64 .i64
        case rel => exact ⟨k + 1, by omega, by go_num, HN.out, trivial⟩
    · have e : (L s).take k = L s := List.take_of_length_le (by rw [L_len]; omega)
      rw [e] at hn
      have HE := Lib.hid (HNO.out hn)
      clear hn e
      go_wp2_with fail
      refine (ref1_Lower s _ hs).mono ?_
      rintro e w1 ⟨rfl, hb⟩
      go_wp2
      go_ret
      exact ⟨by rw [HE.out]; rfl, hb⟩
set_option maxHeartbeats 2000000 in
theorem ref6_Split (t : ByteArray) (w : World) (hs : t.size ≤ 1000000000) : Calls Tryd.prog 25 #[.string t] w fun e w' => e = .returned (.tuple #[.string (cutS t 63).1, .string (cutS t 63).2.1]) ∧ Below w.heap.size w w' := by
  have hlen : (L t).length = t.size := rfl
  have hyes : ∀ k (hk : k < t.size), (63 : UInt8) ∉ (L t).take k → t[k] = 63 → cutS t 63 = (t.extract 0 k, t.extract (k + 1) t.size, true) := fun k hk hn hc => by
    have e : L t = (L t).take k ++ 63 :: (L t).drop (k + 1) := by
      rw [← hc, ← L_at t k hk, ← List.drop_eq_getElem_cons (by exact hk), List.take_append_drop]
    rw [cutS_yes hn e]
    congr 1
    · apply L_inj; rw [L_mk, L_ext]; simp
    · congr 1; apply L_inj; rw [L_mk, L_end]
  have hno : (63 : UInt8) ∉ (L t).take t.size → cutS t 63 = (t, ⟨#[]⟩, false) := fun hn => cutS_no (by rwa [List.take_of_length_le (Nat.le_of_eq hlen)] at hn)
  have hnext : ∀ k (hk : k < t.size), (63 : UInt8) ∉ (L t).take k → t[k] ≠ 63 → (63 : UInt8) ∉ (L t).take (k + 1) := fun k hk hn hc => by
    rw [List.take_succ_eq_append_getElem (show k < (L t).length from hk), L_at t k hk]
    simp only [List.mem_append, List.mem_singleton, not_or]
    exact ⟨hn, fun h => hc h.symm⟩
  have h0 : (63 : UInt8) ∉ (L t).take 0 := by simp
  obtain ⟨P, hP⟩ : ∃ P : Nat → Prop, ∀ k, P k = ((63 : UInt8) ∉ (L t).take k) := ⟨_, fun _ => rfl⟩
  simp only [← hP] at hyes hno hnext h0
  obtain ⟨z, hz⟩ : ∃ z, cutS t 63 = z := ⟨_, rfl⟩
  rw [hz] at hyes hno ⊢
  have HY := Lib.hid hyes; have HNO := Lib.hid hno; have HX := Lib.hid hnext; have H0 := Lib.hid h0
  clear hyes hno hnext h0 hlen hP hz
  go_enter Tryd.func25, Tryd.ntmps25
  go_wp2
  go_loop [4] (fun i => ∃ k : Nat, k ≤ t.size ∧ i = .int .i64 k ∧ P k) (fun i => t.size - (intOf i).toNat)
  case atStart => exact ⟨0, Nat.zero_le _, rfl, H0.out⟩
  case round =>
    obtain ⟨k, hk, rfl, hall⟩ := hrel
    by_cases hlt : k < t.size
    · have hxk := HX.out k hlt hall
      have hyk := HY.out k hlt hall
      have ht : ((k : Int) + 1).toNat = k + 1 := by omega
      have h1 : 0 ≤ (k : Int) + 1 := by omega
      have h2 : (k : Int) + 1 ≤ (t.size : Int) := by omega
      have ew : IntKind.i64.wrap ((k : Int) + 1) = (k : Int) + 1 := IntWalk.i64_in _ (by omega)
      by_cases hc : t[k] = 63
      · have hq : ((t[k].toNat : Int) == 63) = true := by rw [hc]; rfl
        have HE := Lib.hid (hyk hc)
        clear hxk hyk hc hall
        go_wp2_with fail
        go_quiet (fail)
        go_wp2
        go_ret2
        exact ⟨by rw [HE.out]; rfl, fr_drewN (fr_refl _) _⟩
      · have hq : ((t[k].toNat : Int) == 63) = false := by
          simp; intro h; exact hc (UInt8.toNat_inj.1 (by show t[k].toNat = 63; omega))
        have HE := Lib.hid (hxk hc)
        clear hxk hyk hc hall ht h1 h2 ew
        go_wp2
        go_round
        case measure => exact meas hlt .i64 .i64
        case rel => exact ⟨k + 1, by omega, by go_num, HE.out⟩
    · obtain rfl : k = t.size := by omega
      have HE := Lib.hid (HNO.out hall); clear hall
      go_wp2
      go_ret2
      exact ⟨by rw [HE.out]; rfl, fr_refl _⟩
set_option maxHeartbeats 2000000 in
theorem ref1_SamePairs (A B : Option Addr) (n c d : Nat) (l : List Pr) (w : World) (hn : l.length = n) (hA : Pairs w A l) (hB : Pairs w B l) (hn9 : n ≤ 9223372036854775807) :
    Calls Tryd.prog 6 #[.slice A n c, .slice B n d] w fun e w' => e = .returned (.bool true) ∧ Below w.heap.size w w' := by
  have HA := Lib.hid hA; have HB := Lib.hid hB; have HN := Lib.hid hn
  clear hA hB hn
  go_enter Tryd.func6, Tryd.ntmps6
  go_wp2
  go_loopw [5] (fun i wr => ∃ k : Nat, k ≤ n ∧ i = .int .i64 k ∧ Below w.heap.size w wr) (fun i _ => n - (intOf i).toNat)
  case atStart => exact ⟨0, Nat.zero_le _, rfl, fr_refl _⟩
  case round =>
    obtain ⟨k, hk, rfl, hb⟩ := hrel
    by_cases hlt : k < n
    · have kx : k < l.length := by have := HN.out; omega
      obtain ⟨b1, o1, rfl, l1, c1⟩ := (HA.out.fr hb) (by omega)
      obtain ⟨b2, o2, rfl, l2, c2⟩ := (HB.out.fr hb) (by omega)
      obtain ⟨p1, p2⟩ := c1 k kx
      obtain ⟨q1, q2⟩ := c2 k kx
      obtain ⟨⟨x, y⟩, hx⟩ : ∃ x, l[k] = x := ⟨_, rfl⟩
      rw [hx] at p1 p2 q1 q2
      simp only at p1 p2 q1 q2
      have hkI : (k : Int) < (n : Int) := by omega
      have hk0 : (0 : Int) ≤ (k : Int) := by omega
      have HBW := Lib.hid hb
      have e1 : (x.toList == x.toList) = true := by simp
      have e2 : (y.toList == y.toList) = true := by simp
      clear c1 c2 hx hb
      go_wp2_with fail
      go_quiet (fail)
      go_wp2
      go_roundw
      case measure => exact meas hlt .i64 .i64
      case rel => exact ⟨k + 1, by omega, by go_num, fr_drewN HBW.out _⟩
    · go_wp2
      go_ret
      exact ⟨rfl, hb⟩
end Go.Proofs.YtdlignhlliellaaDoor
