/- conduitlaw6.FieldCases: true. -/
import Derived.Test.YtdagppbpeibdgaaDoorF6
import Derived.Test.YtdagppbpeibdgaaDoorFB
import Derived.Lib.SlBytesConst
namespace Go.Proofs.YtdagppbpeibdgaaDoor
set_option linter.unusedVariables false
set_option linter.unusedSimpArgs false
open Go.RowKit

theorem getS_app (a b : List Pr) (n : ByteArray) : getS (a ++ b) n = getS a n ++ getS b n := by unfold getS; rw [List.filter_append, List.map_append]
theorem getS_cong (l : List Pr) {n m : ByteArray} (h : lowB n = lowB m) : getS l n = getS l m := by unfold getS; rw [h]
theorem dropL_cong (l : List Pr) {n m : ByteArray} (h : lowB n = lowB m) : dropL l n = dropL l m := by unfold dropL keep; rw [h]
theorem dropL_idem (l : List Pr) (n : ByteArray) : dropL (dropL l n) n = dropL l n := by unfold dropL; rw [List.filter_filter]; congr 1; funext p; simp
def ctB : ByteArray := ⟨#[99, 111, 110, 116, 101, 110, 116, 45, 116, 121, 112, 101]⟩
theorem low1c : lowB ⟨#[67, 111, 110, 116, 101, 110, 116, 45, 84, 121, 112, 101]⟩ = ctB := by kernel_rfl
theorem low2c : lowB ⟨#[67, 79, 78, 84, 69, 78, 84, 45, 84, 89, 80, 69]⟩ = ctB := by kernel_rfl
theorem low3c : lowB ⟨#[99, 111, 110, 116, 101, 110, 116, 45, 84, 89, 80, 69]⟩ = ctB := by kernel_rfl
theorem low4c : lowB ⟨#[99, 111, 110, 116, 101, 110, 116, 45, 116, 121, 112, 101]⟩ = ctB := by kernel_rfl
theorem lowz (u : Nat → Bool) (k : Nat) : lowB (mk (ctN u k)) = ctB := by
  have h : lowB (mk (ctN u k)) = mk (lowL (L (mk (ctN u k)))) := rfl
  rw [h, L_mk, ct_low]; rfl
def ds6 (l : List Pr) (z : ByteArray) : List Pr := dropL l ⟨#[67, 111, 110, 116, 101, 110, 116, 45, 84, 121, 112, 101]⟩ ++ [(z, ⟨#[120, 44, 32, 89]⟩)]
theorem ds_get (l : List Pr) (z name : ByteArray) (hz : lowB z = ctB) (hn : lowB name = ctB) : getS (ds6 l z) name = [⟨#[120, 44, 32, 89]⟩] := by
  unfold ds6
  rw [getS_app, getS_cong _ (hn.trans low1c.symm), get_drop, List.nil_append, getS_cong _ (hn.trans hz.symm)]
  unfold getS
  simp [eqB_refl]
theorem any_y : (listS ⟨#[120, 44, 32, 89]⟩).any (isW ⟨#[121]⟩) = true := by
  have h : isW ⟨#[121]⟩ = fun x => sameE x ⟨#[121]⟩ := by funext x; exact sameE_eq _ _
  rw [listK_eq, h]
  show ((listK ⟨#[120, 44, 32, 89]⟩).any fun x => sameE x ⟨#[121]⟩) = true
  kernel_rfl
theorem any_z : (listS ⟨#[120, 44, 32, 89]⟩).any (isW ⟨#[122]⟩) = false := by
  have h : isW ⟨#[122]⟩ = fun x => sameE x ⟨#[122]⟩ := by funext x; exact sameE_eq _ _
  rw [listK_eq, h]
  show ((listK ⟨#[120, 44, 32, 89]⟩).any fun x => sameE x ⟨#[122]⟩) = false
  kernel_rfl
theorem ds_hasY (l : List Pr) (z : ByteArray) (hz : lowB z = ctB) : hasS (ds6 l z) ⟨#[99, 111, 110, 116, 101, 110, 116, 45, 84, 89, 80, 69]⟩ ⟨#[121]⟩ = true := by
  unfold hasS; rw [ds_get l z _ hz low3c]; simp [any_y]
theorem ds_hasZ (l : List Pr) (z : ByteArray) (hz : lowB z = ctB) : hasS (ds6 l z) ⟨#[99, 111, 110, 116, 101, 110, 116, 45, 116, 121, 112, 101]⟩ ⟨#[122]⟩ = false := by
  unfold hasS; rw [ds_get l z _ hz low4c]; simp [any_z]
theorem ds_drop (l : List Pr) (z : ByteArray) (hz : lowB z = ctB) : (dropL (ds6 l z) ⟨#[99, 111, 110, 116, 101, 110, 116, 45, 116, 121, 112, 101]⟩).length = (dropL l ⟨#[67, 111, 110, 116, 101, 110, 116, 45, 84, 121, 112, 101]⟩).length := by
  unfold ds6
  rw [dropL_cong _ (low4c.trans low1c.symm)]
  have h1 : dropL (dropL l ⟨#[67, 111, 110, 116, 101, 110, 116, 45, 84, 121, 112, 101]⟩ ++ [(z, ⟨#[120, 44, 32, 89]⟩)]) ⟨#[67, 111, 110, 116, 101, 110, 116, 45, 84, 121, 112, 101]⟩ = dropL (dropL l ⟨#[67, 111, 110, 116, 101, 110, 116, 45, 84, 121, 112, 101]⟩) ⟨#[67, 111, 110, 116, 101, 110, 116, 45, 84, 121, 112, 101]⟩ := dropL_no _ _ _ (by rw [hz, low1c]; exact eqB_refl _)
  rw [h1, dropL_idem]
theorem Buf.lit {w : World} {g n m : Nat} {l : List UInt8} {t : TypeId} (hg : g = w.heap.size) (hn : l.length ≤ n) : Buf (w.alloc (.cells (ucells l).toArray t (n, m))) g l := by
  subst hg
  refine ⟨by simp, fun j h => ⟨?_, ?_⟩⟩
  · rw [World.cell?_alloc_mark]; simp [ucells, h]
  · rw [World.frozen?_alloc_mark]; simp only [Bool.and_eq_false_imp, decide_eq_true_eq, decide_eq_false_iff_not]; omega
theorem sub32 (k : Nat) (hk : k < 12) (hc : ctL.getD k 0 ≠ 45) : ((ctL.getD k 0).toNat : Int) - 32 = ((ctL.getD k 0 - 32).toNat : Int) ∧ 32 ≤ ((ctL.getD k 0).toNat : Int) := by
  have h : ∀ k : Nat, k < 12 → ctL.getD k 0 ≠ 45 → ((ctL.getD k 0).toNat : Int) - 32 = ((ctL.getD k 0 - 32).toNat : Int) ∧ 32 ≤ ((ctL.getD k 0).toNat : Int) := by decide
  exact h k hk hc
set_option maxRecDepth 100000 in
set_option maxHeartbeats 8000000 in
theorem cases6_walk (y : Int) (A : Option Addr) (n c : Nat) (l : List Pr) (w : World) (hm : MaxL w) (hn : l.length = n) (hp : Pairs w A l) (hs : ∀ p ∈ l, p.1.size ≤ 9223372036854775807) (hnm : n ≤ 9223372036854775807) (y0 : 0 ≤ y) (y1 : y ≤ 65535) :
    Calls Tryd.prog 6 #[.int .u16 y, .slice A n c] w fun e w' => e = .returned (.bool true) ∧ Below w.heap.size w w' := by
  have HM := Lib.hid hm; have HP := Lib.hid hp; have HN := Lib.hid hn; have HS := Lib.hid hs
  clear hm hp hn hs
  by_cases h10 : 10 < n
  · have hI : decide ((10 : Int) < (n : Int)) = true := by simp; omega
    go_enter Tryd.func6, Tryd.ntmps6
    go_wp2_with fail
    refine (law6_known _ HM.out).mono ?_
    rintro e w1 ⟨rfl, hb1⟩
    go_wp2
    go_ret
    exact ⟨rfl, hb1⟩
  have hI : decide ((10 : Int) < (n : Int)) = false := by simp; omega
  obtain ⟨b, hbE⟩ : ∃ b : Nat → Bool, ∀ k : Nat, (bits BinOp.and IntKind.u16 (y / 2 ^ k) 1 == 1) = b k := ⟨fun k => (bits BinOp.and IntKind.u16 (y / 2 ^ k) 1 == 1), fun k => rfl⟩
  have HBE := Lib.hid hbE; clear hbE
  obtain ⟨i0, hi, hz0, hz1, hz2⟩ := info_parts pair_info
  have kc := fun (w : World) (C : Array Value) (n c : Nat) => Lib.run_convert_bytes_const (P := Tryd.prog) w 36 5 C n c Tryd.underlying36 Tryd.underlying5
  go_enter Tryd.func6, Tryd.ntmps6
  go_wp2_with fail
  refine (law6_known _ HM.out).mono ?_
  rintro e w1 ⟨rfl, hb1⟩
  have HB0 := Lib.hid (Buf.lit (w := w1) (g := w1.heap.size) (n := 12) (m := 13) (l := ctL) (t := 5) rfl (by decide))
  have H1 := Lib.hid hb1
  have HF0 := Lib.hid (fr_alloc (fr_refl w1) (.cells (ucells ctL).toArray 5 (12, 13)))
  clear hb1
  go_wp2
  clear kc
  go_loopw [6] (fun i wr => ∃ k : Nat, k ≤ 12 ∧ i = .int .i64 k ∧ Below w1.heap.size w1 wr ∧ Buf wr w1.heap.size (ctN b k)) (fun i _ => 12 - (intOf i).toNat)
  case atStart => exact ⟨0, Nat.zero_le _, rfl, HF0.out, by rw [ctN_0]; exact HB0.out⟩
  case round =>
    obtain ⟨k, hk, rfl, hb, hbuf⟩ := hrel
    have HB := Lib.hid hb; have HBU := Lib.hid hbuf
    clear hb
    by_cases hlt : k < 12
    · obtain ⟨hc, hf⟩ := hbuf.2 k (by rw [ctN_len]; exact hlt)
      rw [ctN_at b k k hlt, ctC_here] at hc
      have hblt := hbuf.1
      have hbj := HBE.out k
      have kI : (k : Int) < 12 := by omega
      have k0 : (0 : Int) ≤ (k : Int) := by omega
      have hyes := fun h1 h2 => ctN_yes b k hlt h1 h2
      have hno := fun h => ctN_no b k h
      have hsub := fun h => sub32 k hlt h
      obtain ⟨cc, hcc⟩ : ∃ cc, ctL.getD k 0 = cc := ⟨_, rfl⟩
      rw [hcc] at hc hyes hno hsub
      have HY := Lib.hid hyes; have HNO := Lib.hid hno
      clear hbuf hyes hno hcc
      cases hbv : b k
      · rw [hbv] at hbj
        have hn2 := HNO.out (by rw [hbv]; simp)
        have HN2 := Lib.hid hn2
        clear hn2 hsub
        go_wp2
        go_roundw
        case measure => exact meas hlt .i64 .i64
        case rel => exact ⟨k + 1, by omega, by go_num, HB.out, by rw [HN2.out]; exact HBU.out⟩
      · rw [hbv] at hbj
        by_cases h45 : cc = 45
        · have hI45 : ((cc.toNat : Int) != 45) = false := by rw [h45]; rfl
          have hn2 := HNO.out (by simp [h45])
          have HN2 := Lib.hid hn2
          clear hn2 hsub
          go_wp2
          go_roundw
          case measure => exact meas hlt .i64 .i64
          case rel => exact ⟨k + 1, by omega, by go_num, HB.out, by rw [HN2.out]; exact HBU.out⟩
        · have hI45 : ((cc.toNat : Int) != 45) = true := by
            have : ¬ (cc.toNat : Int) = 45 := fun h => h45 (UInt8.toNat_inj.1 (show cc.toNat = (45 : UInt8).toNat by show cc.toNat = 45; omega))
            simpa using this
          obtain ⟨hs1, hs2⟩ := hsub h45
          have hn2 := HY.out hbv h45
          have HN2 := Lib.hid hn2; have HS1 := Lib.hid hs1
          have hc255 := cc.toNat_lt
          clear hn2 hsub h45
          go_wp2
          go_roundw
          case measure => exact meas hlt .i64 .i64
          case rel => exact ⟨k + 1, by omega, by go_num, fr_set HB.out (Nat.le_refl _) _, by rw [HN2.out]; exact HBU.out.set (by rw [ctN_len]; exact hlt) (by rw [← HS1.out])⟩
    · obtain rfl : k = 12 := by omega
      clear hbuf
      have HW := Lib.hid (fr_trans H1.out HB.out)
      have HZL := Lib.hid (lowz b 12)
      obtain ⟨z, hz⟩ : ∃ z, mk (ctN b 12) = z := ⟨_, rfl⟩
      rw [hz] at HZL
      have hzs : z.size = 12 := by rw [← hz, mk_size, ctN_len]
      have HZZ := Lib.hid hz
      have HZS := Lib.hid hzs
      clear hz hzs
      go_wp2_with fail
      refine (drop_at A c n l _ (dropL l ⟨#[67, 111, 110, 116, 101, 110, 116, 45, 84, 121, 112, 101]⟩) _ _ rfl rfl HN.out (by omega) (HP.out.fr HW.out) (by decide) HS.out).mono ?_
      rintro e w2 ⟨⟨v2, rfl, hown2⟩, hb2⟩
      have hdl : (dropL l ⟨#[67, 111, 110, 116, 101, 110, 116, 45, 84, 121, 112, 101]⟩).length ≤ 10 := by
        have := List.length_filter_le (keep ⟨#[67, 111, 110, 116, 101, 110, 116, 45, 84, 121, 112, 101]⟩) l
        have h2 := HN.out
        unfold dropL; omega
      have hds : ∀ p ∈ ds6 l z, p.1.size ≤ 9223372036854775807 := by
        intro p hp
        unfold ds6 dropL at hp
        rcases List.mem_append.1 hp with hp | hp
        · exact HS.out p (List.mem_filter.1 hp).1
        · rw [List.mem_singleton.1 hp]; have := HZS.out; show z.size ≤ _; omega
      have HDS := Lib.hid hds
      have HG1 := Lib.hid (ds_get l z _ HZL.out low2c)
      have HG2 := Lib.hid (ds_hasY l z HZL.out)
      have HG3 := Lib.hid (ds_hasZ l z HZL.out)
      have HG4 := Lib.hid (ds_drop l z HZL.out)
      have HGV := Lib.hid (fun name (h : lowB name = ctB) => ds_get l z name HZL.out h)
      have hdef : pcells (ds6 l z) = pcells (dropL l ⟨#[67, 111, 110, 116, 101, 110, 116, 45, 84, 121, 112, 101]⟩) ++ [.string z, .string ⟨#[120, 44, 32, 89]⟩] := pcells_snoc _ _
      have hdlen : (ds6 l z).length = (dropL l ⟨#[67, 111, 110, 116, 101, 110, 116, 45, 84, 121, 112, 101]⟩).length + 1 := by unfold ds6; rw [List.length_append]; rfl
      obtain ⟨dl, hdle⟩ : ∃ d, dropL l ⟨#[67, 111, 110, 116, 101, 110, 116, 45, 84, 121, 112, 101]⟩ = d := ⟨_, rfl⟩
      rw [hdle] at hdl hown2 HG4 hdef hdlen
      obtain ⟨D, hD⟩ : ∃ d, ds6 l z = d := ⟨_, rfl⟩
      rw [hD] at HDS HG1 HG2 HG3 HG4 HGV hdef hdlen
      obtain ⟨q, hq⟩ : ∃ q, dl.length = q := ⟨_, rfl⟩
      rw [hq] at hdl hown2 HG4 hdlen
      have HB2 := Lib.hid hb2
      have hbu2 := HBU.out.fr hb2
      have hcv : (convert 36 9 (.slice (some ⟨w1.heap.size, 0, none⟩) 12 12)).run Tryd.prog w2 = .ok (.string z) w2 := by
        have h := hbu2.back (P := Tryd.prog) (n := 12) (by rw [ctN_len]) 36 9 5 12 Tryd.underlying36 Tryd.underlying5 Tryd.underlying9
        have he : (⟨(ctN b 12).toArray⟩ : ByteArray) = z := HZZ.out
        rw [he] at h
        exact h
      have HO2 := Lib.hid hown2
      have HDEF := Lib.hid hdef; have HDL := Lib.hid hdlen
      have HW2 := Lib.hid (fr_trans HW.out hb2)
      have q10 : q ≤ 10 := hdl
      clear hb2 hbu2 hown2 hdef hdlen hdle hD hq hds hdl
      go_wp2_with (first
        | (at_builtin
           refine wpList_append_own _ rfl (.tmp 45) (.tmp 49) _ rfl wr.heap.size 23 i0 _ 2 32 Tryd.underlying24 hi hz0 hz1 hz2 rfl (by decide) _ _ _ rfl (HO2.out.alloc _) ⟨w2.heap.size, 0, none⟩ 1 1 [.string z, .string ⟨#[120, 44, 32, 89]⟩] rfl rfl (new_cells _ _ _) ?c1 ?c2 ?c3 ?c4 ?_
           rotate_left 4
           intro v3 w3 hown3 hg3 _
           clear hcv))
      case c1 => intro u hu; simp at hu; rcases hu with rfl | rfl <;> rfl
      case c2 => simp only [maxLen]; omega
      case c3 => omega
      case c4 => exact Nat.le_trans HB2.out.size (by simp)
      rw [← HDEF.out] at hown3
      obtain ⟨A3, c3, rfl, -, hP3⟩ := Pairs.own hown3
      rw [HDL.out]
      have HW3 := Lib.hid (fr_grown (fr_alloc HW2.out _) hg3 (fun k hk => Nat.le_trans HW.out.size (own_ge HO2.out k hk)))
      have HP3 := Lib.hid hP3
      clear hown3 hg3 hP3
      refine (get_at A3 c3 (q + 1) D _ [⟨#[120, 44, 32, 89]⟩] 1 _ HG1.out rfl HDL.out (by omega) HP3.out (by decide) HDS.out).mono ?_
      rintro e w4 ⟨⟨A4, c4, rfl, hS4⟩, hb4⟩
      obtain ⟨b4, o4, rfl, gl4, cc4⟩ := hS4.at_ (k := 0) (by simp)
      simp only [List.getElem_cons_zero, Nat.add_zero] at cc4
      have HW4 := Lib.hid (fr_trans HW3.out hb4); have HP4 := Lib.hid (HP3.out.fr hb4)
      clear hb4 hS4
      go_wp2_with fail
      refine (has_at A3 c3 (q + 1) D _ _ true _ HG2.out HDL.out (by omega) HP4.out (by decide) (by decide) HDS.out (by rw [HGV.out _ low3c]; intro v hv; rw [List.mem_singleton.1 hv]; decide) (HM.out.fr HW4.out)).mono ?_
      rintro e w5 ⟨rfl, hb5⟩
      have HW5 := Lib.hid (fr_trans HW4.out hb5); have HP5 := Lib.hid (HP4.out.fr hb5)
      clear hb5 cc4 gl4
      go_wp2_with fail
      refine (has_at A3 c3 (q + 1) D _ _ false _ HG3.out HDL.out (by omega) HP5.out (by decide) (by decide) HDS.out (by rw [HGV.out _ low4c]; intro v hv; rw [List.mem_singleton.1 hv]; decide) (HM.out.fr HW5.out)).mono ?_
      rintro e w6 ⟨rfl, hb6⟩
      have HW6 := Lib.hid (fr_trans HW5.out hb6); have HP6 := Lib.hid (HP5.out.fr hb6)
      clear hb6
      go_wp2_with fail
      refine (drop_at A3 c3 (q + 1) D _ _ q _ rfl HG4.out HDL.out (by omega) HP6.out (by decide) HDS.out).mono ?_
      rintro e w7 ⟨⟨v7, rfl, hown7⟩, hb7⟩
      obtain ⟨A7, c7, rfl⟩ := own_slice hown7
      have HW7 := Lib.hid (fr_trans HW6.out hb7)
      clear hb7 hown7
      go_wp2
      go_ret
      exact ⟨rfl, HW7.out⟩
theorem law6_cases (y : Int) (A : Option Addr) (n c : Nat) (l : List Pr) (w : World) (hm : MaxL w) (hn : l.length = n) (hp : Pairs w A l) (hs : ∀ p ∈ l, p.1.size ≤ 9223372036854775807) (hnm : n ≤ 9223372036854775807) (y0 : 0 ≤ y) (y1 : y ≤ 65535) :
    Calls Tryd.prog 6 #[.int .u16 y, .slice A n c] w fun e w' => e = .returned (.bool true) ∧ Below w.heap.size w w' := cases6_walk y A n c l w hm hn hp hs hnm y0 y1
end Go.Proofs.YtdagppbpeibdgaaDoor
