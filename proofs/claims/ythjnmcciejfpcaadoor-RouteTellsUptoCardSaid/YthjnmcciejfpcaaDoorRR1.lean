/- conduitref11.Host, bare, ext, weight, SameRoute; conduitref1.SamePairs of like rows. -/
import Derived.Test.YthjnmcciejfpcaaDoorRefC
import Derived.Test.YthjnmcciejfpcaaDoorRoute3
import Derived.Test.YthjnmcciejfpcaaDoorRI0
import Derived.Test.YthjnmcciejfpcaaDoorMI
namespace Go.Proofs.YthjnmcciejfpcaaDoor
set_option linter.unusedVariables false
set_option linter.unusedSimpArgs false
open Go.RowKit

set_option maxHeartbeats 2000000 in
theorem ref11_Host (s : ByteArray) (w : World) (hs : s.size ≤ 9223372036854775807) : Calls Tryd.prog 18 #[.string s] w fun e w' => e = .returned (.string (hostS s)) ∧ Below w.heap.size w w' := by
  have hyes : ∀ k (h : k < s.size), (58 : UInt8) ∉ (L s).take k → s[k] = 58 → hostS s = lowB (s.extract 0 k) := fun k h h1 h2 => by
    have hk : k < (L s).length := h
    have e : L s = (L s).take k ++ 58 :: (L s).drop (k + 1) := by
      conv => lhs; rw [← List.take_append_drop k (L s), List.drop_eq_getElem_cons hk]
      rw [show (L s)[k]'hk = s[k] from rfl, h2]
    unfold hostS
    rw [cutS_yes h1 e]
    congr 1
    apply L_inj
    rw [L_mk, L_ext, List.drop_zero]
  have hno : (58 : UInt8) ∉ L s → hostS s = lowB s := fun h => by unfold hostS; rw [cutS_no h]
  have HY := Lib.hid hyes; have HNO := Lib.hid hno
  clear hyes hno
  go_enter Tryd.func18, Tryd.ntmps18
  go_wp2
  go_loopw [3] (fun i wr => ∃ k : Nat, k ≤ s.size ∧ i = .int .i64 k ∧ (58 : UInt8) ∉ (L s).take k ∧ w = wr) (fun i _ => s.size - (intOf i).toNat)
  case atStart => exact ⟨0, Nat.zero_le _, rfl, by simp, rfl⟩
  case round =>
    obtain ⟨k, hk, rfl, hn, rfl⟩ := hrel
    by_cases hlt : k < s.size
    · by_cases hc : s[k] = 58
      · have hcI : ((s[k].toNat : Int) == 58) = true := by rw [hc]; rfl
        have HE := Lib.hid (HY.out k hlt hn hc)
        have hz : (s.extract 0 k).size ≤ 9223372036854775807 := by rw [ByteArray.size_extract]; omega
        clear hn hc
        go_wp2_with fail
        refine (ref1_Lower (s.extract 0 k) _ hz).mono ?_
        rintro e w1 ⟨rfl, hb⟩
        go_wp2
        go_ret
        exact ⟨by rw [HE.out]; rfl, hb⟩
      · have hcI : ((s[k].toNat : Int) == 58) = false := by
          simp; intro h; exact hc (UInt8.toNat_inj.1 (by show s[k].toNat = 58; omega))
        have hn2 : (58 : UInt8) ∉ (L s).take (k + 1) := by
          rw [List.take_succ_eq_append_getElem (show k < (L s).length from hlt), List.mem_append, not_or]
          refine ⟨hn, fun h => hc ?_⟩
          have := List.mem_singleton.1 h
          exact this.symm
        have HN := Lib.hid hn2
        clear hn hn2 hc
        go_wp2_with fail
        go_roundw
        case measure => exact meas hlt .i64 .i64
        case rel => exact ⟨k + 1, by omega, by go_num, HN.out, trivial⟩
    · have e : (L s).take k = L s := List.take_of_length_le (by rw [L_len]; omega)
      rw [e] at hn
      have HE := Lib.hid (HNO.out hn)
      clear hn e
      go_wp2_with fail
      refine (ref1_Lower s _ hs).mono ?_
      rintro e w1 ⟨rfl, hb⟩
      go_wp2
      go_ret
      exact ⟨by rw [HE.out]; rfl, hb⟩
theorem L_bare (s : ByteArray) : L (bareS s) = Lib.trimSuffix (L s) [47] := by unfold bareS; simp [L]
theorem bare_yes {s : ByteArray} (h : 0 < s.size) (hc : s[s.size - 1] = 47) : bareS s = s.extract 0 (s.size - 1) := L_inj (by
  have hl : s.size - 1 < (L s).length := by rw [L_len]; omega
  have e : L s = (L s).take (s.size - 1) ++ [47] := by
    conv => lhs; rw [← List.take_append_drop (s.size - 1) (L s), List.drop_eq_getElem_cons hl]
    rw [show (L s)[s.size - 1]'hl = s[s.size - 1] from rfl, hc, List.drop_eq_nil_of_le (by rw [L_len]; omega)]
  have hsf : ([47] : List UInt8).isSuffixOf (L s) = true := List.isSuffixOf_iff_suffix.2 ⟨_, e.symm⟩
  rw [L_bare, L_ext, List.drop_zero]
  unfold Lib.trimSuffix Lib.hasSuffix
  rw [if_pos hsf, L_len]; rfl)
theorem bare_no {s : ByteArray} (h : s.size = 0 ∨ ∃ h : 0 < s.size, s[s.size - 1] ≠ 47) : bareS s = s := L_inj (by
  have hsf : ([47] : List UInt8).isSuffixOf (L s) = false := by
    cases hb : ([47] : List UInt8).isSuffixOf (L s) with
    | false => rfl
    | true =>
      obtain ⟨y, hy⟩ := List.isSuffixOf_iff_suffix.1 hb
      exfalso
      have hz : s.size = y.length + 1 := by rw [← L_len, ← hy]; simp
      rcases h with h | ⟨h0, h1⟩
      · omega
      · apply h1
        have hl : s.size - 1 < (L s).length := by rw [L_len]; omega
        have e2 : (L s)[s.size - 1]'hl = s[s.size - 1] := rfl
        rw [← e2]
        have : (L s)[s.size - 1]? = some 47 := by
          rw [← hy, List.getElem?_append_right (by omega), show s.size - 1 - y.length = 0 by omega]; rfl
        exact (List.getElem?_eq_some_iff.1 this).2
  rw [L_bare]
  unfold Lib.trimSuffix Lib.hasSuffix
  rw [if_neg (by rw [hsf]; decide)])
theorem ref11_bare (s : ByteArray) (w : World) (hs : s.size ≤ 9223372036854775807) : Calls Tryd.prog 26 #[.string s] w fun e w' => e = .returned (.string (bareS s)) ∧ w = w' := by
  by_cases h0 : 0 < s.size
  · have h0I : (0 : Int) < (s.size : Int) := by omega
    by_cases hc : s[s.size - 1] = 47
    · have HE := Lib.hid (bare_yes h0 hc)
      obtain ⟨q, hq⟩ : ∃ q, s.size - 1 = q := ⟨_, rfl⟩
      have hqI : (s.size : Int) - 1 = (q : Int) := by omega
      have hql : q < s.size := by omega
      have hcI : ((s[q].toNat : Int) == 47) = true := by subst hq; rw [hc]; rfl
      have HQ := Lib.hid hq
      clear hc hq
      go_enter Tryd.func26, Tryd.ntmps26
      go_wp2
      go_ret
      exact ⟨by rw [HE.out, HQ.out]; rfl, rfl⟩
    · have HE := Lib.hid (bare_no (.inr ⟨h0, hc⟩))
      obtain ⟨q, hq⟩ : ∃ q, s.size - 1 = q := ⟨_, rfl⟩
      have hqI : (s.size : Int) - 1 = (q : Int) := by omega
      have hql : q < s.size := by omega
      have hcI : ((s[q].toNat : Int) == 47) = false := by
        subst hq
        simp; intro h; exact hc (UInt8.toNat_inj.1 (by show s[s.size - 1].toNat = 47; omega))
      clear hc hq
      go_enter Tryd.func26, Tryd.ntmps26
      go_wp2
      go_ret
      exact ⟨by rw [HE.out]; rfl, rfl⟩
  · have h0I : ¬ (0 : Int) < (s.size : Int) := by omega
    have HE := Lib.hid (bare_no (.inl (show s.size = 0 by omega)))
    clear h0
    go_enter Tryd.func26, Tryd.ntmps26
    go_wp2
    go_ret
    exact ⟨by rw [HE.out]; rfl, rfl⟩
/-- what the reference's Match answers: where it is none, the route is left open -/
def MatchR (w0 : World) (o : Option RT) (e : Ending) (w' : World) : Prop :=
  (∃ sc inf nm A c, e = .returned (.tuple #[.agg #[.int .i64 0, .string sc, .string inf, .slice A (nm : List Pr).length c], .bool o.isSome]) ∧ (∀ t, o = some t → t = (sc, inf, nm)) ∧ FPairs w0.heap.size w' A nm) ∧ Below w0.heap.size w0 w'
theorem MatchR.none_ {w0 w' : World} {o : Option RT} {a b : ByteArray} (h : o = none) (hb : Below w0.heap.size w0 w') :
    MatchR w0 o (.returned (.tuple #[.agg #[.int .i64 0, .string a, .string b, .slice none 0 0], .bool false])) w' := by
  subst h; exact ⟨⟨a, b, [], none, 0, rfl, (fun t ht => by cases ht), FPairs.nil _ _ _⟩, hb⟩
theorem MatchR.some_ {w0 w' : World} {o : Option RT} {a b : ByteArray} {l : List Pr} {A : Option Addr} {n c : Nat} (h : o = some (a, b, l)) (hn : n = l.length) (hp : FPairs w0.heap.size w' A l) (hb : Below w0.heap.size w0 w') :
    MatchR w0 o (.returned (.tuple #[.agg #[.int .i64 0, .string a, .string b, .slice A n c], .bool true])) w' := by
  subst h hn; exact ⟨⟨a, b, l, A, c, rfl, (fun t ht => by injection ht with ht; exact ht.symm), hp⟩, hb⟩
theorem ext_suffix {e p : ByteArray} {f z : Nat} (hz : z ≤ p.size) (hf : 1 ≤ f) (hfz : f ≤ z) (h : e.size < z - f) : extB e p (f - 1) z = ((p.extract (z - e.size) z).toList == e.toList) := by
  have hx : (p.extract (f - 1 + 1) z).size = z - f := by rw [ByteArray.size_extract]; omega
  unfold extB
  rw [hx, decide_eq_true h, Bool.true_and, toList_L, toList_L]
  have hL : L (p.extract (f - 1 + 1) z) = ((L p).take z).drop f := by rw [L_ext, show f - 1 + 1 = f by omega]
  have hlen : (((L p).take z).drop f).length = z - f := by rw [List.length_drop, List.length_take, L_len]; omega
  have hel : (L e).length = e.size := rfl
  have hd : L (p.extract (z - e.size) z) = (((L p).take z).drop f).drop (z - f - e.size) := by
    rw [L_ext, List.drop_drop]; congr 1; omega
  rw [hL, hd]
  obtain ⟨q, hq⟩ : ∃ q, ((L p).take z).drop f = q := ⟨_, rfl⟩
  rw [hq] at hlen ⊢
  rw [Bool.eq_iff_iff]
  unfold Lib.hasSuffix
  rw [List.isSuffixOf_iff_suffix, beq_iff_eq]
  constructor
  · rintro ⟨y, hy⟩
    have hyl : y.length = z - f - e.size := by rw [← hlen, ← hy, List.length_append, hel]; omega
    rw [← hy, ← hyl, List.drop_left]
  · intro h
    exact ⟨q.take (z - f - e.size), by rw [← h]; exact List.take_append_drop _ _⟩
theorem ext_small {e p : ByteArray} {f z : Nat} (hz : z ≤ p.size) (hf : 1 ≤ f) (hfz : f ≤ z) (h : ¬ e.size < z - f) : extB e p (f - 1) z = false := by
  have hx : (p.extract (f - 1 + 1) z).size = z - f := by rw [ByteArray.size_extract]; omega
  unfold extB
  rw [hx, decide_eq_false h, Bool.false_and]
set_option maxRecDepth 100000 in
set_option maxHeartbeats 4000000 in
theorem ref11_ext (rp p : ByteArray) (w : World) (hrp : rp.size ≤ 1000000000) (hp : p.size ≤ 1000000000) :
    Calls Tryd.prog 28 #[.string rp, .string p] w (MatchR w ((extS rp p).map fun z => (p.extract 0 z, p.extract z p.size, []))) := by
  have HT := Lib.hid (Blk.new w 29 routeZ)
  have HX := Lib.hid (extS_at rp p)
  have HSTEP := Lib.hid (fun (a z : Nat) => ext_step (e := rp) (p := p) (a := a) (z := z))
  have HSUF := Lib.hid (fun (f z : Nat) => ext_suffix (e := rp) (p := p) (f := f) (z := z))
  have HSMA := Lib.hid (fun (f z : Nat) => ext_small (e := rp) (p := p) (f := f) (z := z))
  go_enter Tryd.func28, Tryd.ntmps28
  go_wp2
  go_loop [6, 7] (fun fr i => ∃ f z : Nat, 1 ≤ f ∧ f ≤ z ∧ z ≤ p.size + 1 ∧ (z ≤ p.size ∨ f = z) ∧ i = .int .i64 z ∧ fr = .int .i64 f ∧ (∀ j (h : j < p.size), f ≤ j → j < z → p[j] ≠ 47) ∧ extS rp p = extAt rp p (f - 1)) (fun _ i => p.size + 1 - (intOf i).toNat)
  case atStart => exact ⟨1, 1, by omega, by omega, by omega, .inr rfl, rfl, rfl, fun j h a b => by omega, HX.out⟩
  case round =>
    obtain ⟨f, z, hf1, hfz, hz1, hzf, rfl, rfl, hno, hinv⟩ := hrel
    have HNO := Lib.hid hno; have HI := Lib.hid hinv
    clear hno hinv
    by_cases hlt : z < p.size + 1
    · by_cases hcon : ∃ h : z < p.size, p[z] ≠ 47
      · obtain ⟨hzl, hc⟩ := hcon
        have hcI : ((p[z].toNat : Int) != 47) = true := by
          simp; intro h; exact hc (UInt8.toNat_inj.1 (by show p[z].toNat = 47; omega))
        have HN2 := Lib.hid (show ∀ j (h : j < p.size), f ≤ j → j < z + 1 → p[j] ≠ 47 from fun j h a b => by
          by_cases e : j = z
          · subst e; exact hc
          · exact HNO.out j h a (by omega))
        clear hc
        go_wp2_with fail
        go_round
        case measure => exact meas hlt .i64 .i64
        case rel => exact ⟨f, z + 1, hf1, by omega, by omega, .inl (by omega), by go_num, rfl, HN2.out, HI.out⟩
      · have hat : ∀ h : z < p.size, p[z] = 47 := fun h => by
          apply Decidable.byContradiction
          intro hc; exact hcon ⟨h, hc⟩
        have hst := HSTEP.out (f - 1) z (by omega) (by omega) (by omega) (fun j h a b => HNO.out j h (by omega) b) hat
        have HST := Lib.hid (HI.out.trans hst)
        have hds : (¬ (z : Int) < (p.size : Int)) ∨ (∃ h : z < p.size, ((p[z].toNat : Int) != 47) = false) := by
          by_cases h : z < p.size
          · exact .inr ⟨h, by rw [hat h]; rfl⟩
          · exact .inl (by omega)
        clear hst hat hcon
        obtain ⟨n, hn⟩ : ∃ n, z - f = n := ⟨_, rfl⟩
        have hnI : (z : Int) - (f : Int) = (n : Int) := by omega
        have HRN := Lib.hid (show ∀ j (h : j < p.size), z + 1 ≤ j → j < z + 1 → p[j] ≠ 47 from fun j h a b => by omega)
        by_cases hgt : rp.size < n
        · have hgI : (rp.size : Int) < (n : Int) := by omega
          have hsu := HSUF.out f z (by omega) hf1 hfz (by omega)
          obtain ⟨q, hq⟩ : ∃ q, z - rp.size = q := ⟨_, rfl⟩
          have hqI : (z : Int) - (rp.size : Int) = (q : Int) := by omega
          have hqz : (q : Int) ≤ (z : Int) := by omega
          have hzp : (z : Int) ≤ (p.size : Int) := by omega
          rw [hq] at hsu
          have HSU := Lib.hid hsu
          clear hsu hq hn hgt
          cases hbb : ((p.extract q z).toList == rp.toList)
          · have HBB := Lib.hid hbb
            rcases hds with hd | ⟨hzl, hd⟩
            all_goals
              go_wp2_with fail
              go_round
              case measure => exact meas hlt .i64 .i64
              case rel => exact ⟨z + 1, z + 1, by omega, by omega, by omega, .inr rfl, by go_num, by go_num, HRN.out, by rw [HST.out, HSU.out, HBB.out]; rfl⟩
          · have HBB := Lib.hid hbb
            rcases hds with hd | ⟨hzl, hd⟩
            all_goals
              go_wp2_with fail
              go_region
              go_wp2_with fail
              refine bodyPost_ret (res_route (g := w.heap.size) Tryd.results28 rfl (Blk.new w 29 _).drew) rfl (MatchR.some_ (l := []) ?_ rfl (FPairs.nil _ _ _) ?_)
              · rw [HST.out, HSU.out, HBB.out]; simp
              · exact fr_drew (fr_alloc (fr_refl _) _)
        · have hgI : ¬ (rp.size : Int) < (n : Int) := by omega
          have hgD : decide ((rp.size : Int) < (n : Int)) = false := by simpa using hgI
          have HSM := Lib.hid (HSMA.out f z (by omega) hf1 hfz (by omega))
          clear hn hgt
          rcases hds with hd | ⟨hzl, hd⟩
          all_goals
            go_wp2_with fail
            go_round
            case measure => exact meas hlt .i64 .i64
            case rel => exact ⟨z + 1, z + 1, by omega, by omega, by omega, .inr rfl, by go_num, by go_num, HRN.out, by rw [HST.out, HSM.out]; rfl⟩
    · have HNN := Lib.hid (show (extS rp p) = none by
        rw [HI.out]
        unfold extAt; rw [if_neg (by omega)])
      go_wp2_with fail
      refine bodyPost_ret (res_route (g := w.heap.size) (v0 := .int .i64 0) (v1 := .string ⟨#[]⟩) (v2 := .string ⟨#[]⟩) (v3 := .slice none 0 0) Tryd.results28 rfl (Blk.new w 29 _)) rfl (MatchR.none_ ?_ ?_)
      · rw [HNN.out]; rfl
      · exact fr_alloc (fr_refl _) _
def wK (k : Int) (ws : List ByteArray) (j : Nat) : Nat := if k = 3 then j else if k = 2 then wN ws j else 0
theorem weightS_K (k : Int) (rp : ByteArray) : weightS k rp = wK k (segs rp) (segs rp).length := by
  unfold weightS wK wN
  by_cases k2 : k = 2
  · rw [if_pos k2, if_neg (by omega), if_pos k2, List.take_length]
  · by_cases k3 : k = 3
    · rw [if_neg k2, if_pos k3, if_pos k3]
    · rw [if_neg k2, if_neg k3, if_neg k3, if_neg k2]
theorem wK_le (k : Int) (ws : List ByteArray) (j : Nat) : wK k ws j ≤ j := by
  have := wN_le ws j
  unfold wK; split
  · omega
  · split <;> omega
set_option maxRecDepth 100000 in
set_option maxHeartbeats 4000000 in
theorem ref11_weight (k : Int) (h0 rp : ByteArray) (b0 : Int) (wA : Option Addr) (wn wc : Nat) (w : World) (hrp : rp.size ≤ 1000000000) :
    Calls Tryd.prog 37 #[.agg #[.int .i64 k, .string h0, .string rp, .int .i64 b0, .slice wA wn wc]] w fun e w' => e = .returned (.int .i64 (weightS k rp : Int)) ∧ Below w.heap.size w w' := by
  have hw0 := fr_alloc (fr_refl w) (.cells #[.int .i64 k, .string h0, .string rp, .int .i64 b0, .slice wA wn wc] 36)
  have HW0 := Lib.hid hw0
  have HB0 := Lib.hid (Box.new w [.int .i64 k, .string h0, .string rp, .int .i64 b0, .slice wA wn wc] 36)
  rw [weightS_K]
  have hlen := segs_len rp
  have hpS := fun (n : Nat) (W : World) (hn : (segs rp).length = n) => segs_ref rp n W hn (by omega)
  have hfl : ∀ x ∈ segs rp, 0 < x.size := fun x hx => segs_full hx
  obtain ⟨l, hl⟩ : ∃ l, segs rp = l := ⟨_, rfl⟩
  rw [hl] at hlen hpS hfl ⊢
  obtain ⟨n, hn⟩ : ∃ n, l.length = n := ⟨_, rfl⟩
  rw [hn] at hlen ⊢
  have HLC := Lib.hid (fun W => hpS n W hn)
  have HN := Lib.hid hn; have HFL := Lib.hid hfl
  have hn9 : n ≤ 1000000001 := by omega
  clear hl hn hpS hfl hw0 hlen
  go_enter Tryd.func37, Tryd.ntmps37
  go_wp2_with fail
  refine (HLC.out _).mono ?_
  rintro e w1 ⟨⟨A1, c1', rfl, hS, hcc⟩, hb1⟩
  have x1 := HB0.out.fr hb1
  have qc0 : w1.cell? ⟨w.heap.size, 0, none⟩ = some (.int .i64 k) := x1.2 0 _ rfl
  have qc1 : w1.cell? ⟨w.heap.size, 1, none⟩ = some (.string h0) := x1.2 1 _ rfl
  have qc2 : w1.cell? ⟨w.heap.size, 2, none⟩ = some (.string rp) := x1.2 2 _ rfl
  have qc3 : w1.cell? ⟨w.heap.size, 3, none⟩ = some (.int .i64 b0) := x1.2 3 _ rfl
  have qc4 : w1.cell? ⟨w.heap.size, 4, none⟩ = some (.slice wA wn wc) := x1.2 4 _ rfl
  have qlt : w.heap.size < w1.heap.size := x1.1
  have HS := Lib.hid hS; have HB1 := Lib.hid (fr_trans HW0.out hb1)
  clear hS hb1 hcc x1
  go_wp2
  go_loopw [4, 5] (fun m i wr => ∃ j : Nat, j ≤ n ∧ i = .int .i64 j ∧ m = .int .i64 (wK k l j : Nat) ∧ w1 = wr) (fun _ i _ => n - (intOf i).toNat)
  case atStart =>
    refine ⟨0, Nat.zero_le _, rfl, ?_, rfl⟩
    have : wK k l 0 = 0 := by have := wK_le k l 0; omega
    rw [this]; rfl
  case round =>
    obtain ⟨j, hj, rfl, rfl, rfl⟩ := hrel
    have hwl := wK_le k l j
    by_cases hlt : j < n
    · have kx : j < l.length := by have := HN.out; omega
      obtain ⟨b1, o1, rfl, l1, c1⟩ := HS.out.at_ kx
      have hx0 := HFL.out l[j] (List.getElem_mem kx)
      have hsu := wN_succ kx
      obtain ⟨x, hx⟩ : ∃ x, l[j] = x := ⟨_, rfl⟩
      rw [hx] at c1 hx0 hsu
      have hcx : hasC x = ((x[0].toNat : Int) == 58) := hasP_iff hx0
      have HSU := Lib.hid hsu
      have hjI : (j : Int) < (n : Int) := by omega
      have hj0 : (0 : Int) ≤ (j : Int) := by omega
      by_cases k3 : k = 3
      · subst k3
        have HK := Lib.hid (show wK 3 l (j + 1) = wK 3 l j + 1 by unfold wK; rw [if_pos rfl, if_pos rfl])
        clear hsu hx hcx
        go_wp2_with fail
        go_roundw
        case measure => exact meas hlt .i64 .i64
        case rel => exact ⟨j + 1, by omega, by go_num, by rw [HK.out]; go_num, trivial⟩
      · have n3 : (k == 3) = false := by simpa using k3
        by_cases k2 : k = 2
        · subst k2
          cases hq : hasC x
          · have hcI : ((x[0].toNat : Int) != 58) = true := by rw [hq] at hcx; simp only [bne, ← hcx]; rfl
            have HK := Lib.hid (show wK 2 l (j + 1) = wK 2 l j + 1 by unfold wK; rw [if_neg (by decide), if_pos rfl, if_neg (by decide), if_pos rfl, hsu, hq]; rfl)
            clear hsu hx hcx hq
            go_wp2_with fail
            go_roundw
            case measure => exact meas hlt .i64 .i64
            case rel => exact ⟨j + 1, by omega, by go_num, by rw [HK.out]; go_num, trivial⟩
          · have hcI : ((x[0].toNat : Int) != 58) = false := by rw [hq] at hcx; simp only [bne, ← hcx]; rfl
            have HK := Lib.hid (show wK 2 l (j + 1) = wK 2 l j by unfold wK; rw [if_neg (by decide), if_pos rfl, if_neg (by decide), if_pos rfl, hsu, hq]; rfl)
            clear hsu hx hcx hq
            go_wp2_with fail
            go_roundw
            case measure => exact meas hlt .i64 .i64
            case rel => exact ⟨j + 1, by omega, by go_num, by rw [HK.out], trivial⟩
        · have n2 : (k == 2) = false := by simpa using k2
          have HK := Lib.hid (show wK k l (j + 1) = wK k l j by unfold wK; rw [if_neg k3, if_neg k2, if_neg k3, if_neg k2])
          clear hsu hx hcx
          go_wp2_with fail
          go_roundw
          case measure => exact meas hlt .i64 .i64
          case rel => exact ⟨j + 1, by omega, by go_num, by rw [HK.out], trivial⟩
    · obtain rfl : j = n := by omega
      go_wp2
      go_ret
      exact ⟨rfl, HB1.out⟩
set_option maxHeartbeats 2000000 in
theorem ref1_SamePairs (A B : Option Addr) (n c d : Nat) (l : List Pr) (w : World) (hn : l.length = n) (hA : Pairs w A l) (hB : Pairs w B l) (hn9 : n ≤ 9223372036854775807) :
    Calls Tryd.prog 20 #[.slice A n c, .slice B n d] w fun e w' => e = .returned (.bool true) ∧ Below w.heap.size w w' := by
  have HA := Lib.hid hA; have HB := Lib.hid hB; have HN := Lib.hid hn
  clear hA hB hn
  go_enter Tryd.func20, Tryd.ntmps20
  go_wp2
  go_loopw [5] (fun i wr => ∃ k : Nat, k ≤ n ∧ i = .int .i64 k ∧ Below w.heap.size w wr) (fun i _ => n - (intOf i).toNat)
  case atStart => exact ⟨0, Nat.zero_le _, rfl, fr_refl _⟩
  case round =>
    obtain ⟨k, hk, rfl, hb⟩ := hrel
    by_cases hlt : k < n
    · have kx : k < l.length := by have := HN.out; omega
      obtain ⟨b1, o1, rfl, l1, c1⟩ := (HA.out.fr hb) (by omega)
      obtain ⟨b2, o2, rfl, l2, c2⟩ := (HB.out.fr hb) (by omega)
      obtain ⟨p1, p2⟩ := c1 k kx
      obtain ⟨q1, q2⟩ := c2 k kx
      obtain ⟨⟨x, y⟩, hx⟩ : ∃ x, l[k] = x := ⟨_, rfl⟩
      rw [hx] at p1 p2 q1 q2
      simp only at p1 p2 q1 q2
      have hkI : (k : Int) < (n : Int) := by omega
      have hk0 : (0 : Int) ≤ (k : Int) := by omega
      have HBW := Lib.hid hb
      have e1 : (x.toList == x.toList) = true := by simp
      have e2 : (y.toList == y.toList) = true := by simp
      clear c1 c2 hx hb
      go_wp2_with fail
      go_quiet (fail)
      go_wp2
      go_roundw
      case measure => exact meas hlt .i64 .i64
      case rel => exact ⟨k + 1, by omega, by go_num, fr_drewN HBW.out _⟩
    · go_wp2
      go_ret
      exact ⟨rfl, hb⟩
set_option maxHeartbeats 2000000 in
theorem ref11_SameRoute (ru : Int) (sc inf : ByteArray) (A B : Option Addr) (n c d : Nat) (l : List Pr) (w : World) (hn : l.length = n) (hA : Pairs w A l) (hB : Pairs w B l) (hn9 : n ≤ 9223372036854775807) :
    Calls Tryd.prog 10 #[.agg #[.int .i64 ru, .string sc, .string inf, .slice A n c], .agg #[.int .i64 ru, .string sc, .string inf, .slice B n d]] w fun e w' => e = .returned (.bool true) ∧ Below w.heap.size w w' := by
  have hw0 := fr_alloc (fr_alloc (fr_refl w) (.cells #[.int .i64 ru, .string sc, .string inf, .slice A n c] 29)) (.cells #[.int .i64 ru, .string sc, .string inf, .slice B n d] 29)
  have HW0 := Lib.hid hw0
  have HA := Lib.hid (hA.fr hw0); have HB := Lib.hid (hB.fr hw0)
  have e1 : (sc.toList == sc.toList) = true := by simp
  have e2 : (inf.toList == inf.toList) = true := by simp
  clear hA hB hw0
  go_enter Tryd.func10, Tryd.ntmps10
  go_wp2_with fail
  refine (ref1_SamePairs A B n c d l _ hn HA.out HB.out hn9).mono ?_
  rintro e w1 ⟨rfl, hb1⟩
  have HB1 := Lib.hid (fr_trans HW0.out hb1); clear hb1
  go_wp2
  go_ret
  exact ⟨rfl, HB1.out⟩
end Go.Proofs.YthjnmcciejfpcaaDoor
