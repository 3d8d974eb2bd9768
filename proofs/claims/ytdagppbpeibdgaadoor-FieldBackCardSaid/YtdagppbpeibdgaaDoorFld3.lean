/- conduitlaw6.same; field.Has. -/
import Derived.Test.YtdagppbpeibdgaaDoorFld2
import Derived.Test.YtdagppbpeibdgaaDoorRuD
namespace Go.Proofs.YtdagppbpeibdgaaDoor
set_option linter.unusedVariables false
set_option linter.unusedSimpArgs false
open Go.RowKit

set_option maxHeartbeats 1000000 in
theorem law6_same (A B : Option Addr) (n m c d : Nat) (xs ys : List ByteArray) (w : World) (hn : xs.length = n) (hm : ys.length = m) (hA : Strs w A xs) (hB : Strs w B ys) (h1 : n ≤ 9223372036854775807) (h2 : m ≤ 9223372036854775807) :
    Calls Tryd.prog 32 #[.slice A n c, .slice B m d] w fun e w' => e = .returned (.bool (decide (xs = ys))) ∧ Below w.heap.size w w' := by
  have HA := Lib.hid hA; have HB := Lib.hid hB; have HN := Lib.hid hn; have HM := Lib.hid hm
  clear hA hB hn hm
  by_cases hnm : n = m
  · subst hnm
    go_enter Tryd.func32, Tryd.ntmps32
    go_wp2
    go_loopw [5] (fun i wr => ∃ k : Nat, k ≤ n ∧ i = .int .i64 k ∧ Below w.heap.size w wr ∧ xs.take k = ys.take k) (fun i _ => n - (intOf i).toNat)
    case atStart => exact ⟨0, Nat.zero_le _, rfl, Below.refl _ _, rfl⟩
    case round =>
      obtain ⟨k, hk, rfl, hb, he⟩ := hrel
      by_cases hlt : k < n
      · have kx : k < xs.length := by have := HN.out; omega
        have ky : k < ys.length := by have := HM.out; omega
        obtain ⟨b1, o1, rfl, l1, c1⟩ := HA.out.at_ kx
        obtain ⟨b2, o2, rfl, l2, c2⟩ := HB.out.at_ ky
        obtain ⟨x, hx⟩ : ∃ x, xs[k] = x := ⟨_, rfl⟩
        obtain ⟨y, hy⟩ : ∃ y, ys[k] = y := ⟨_, rfl⟩
        rw [hx] at c1; rw [hy] at c2
        have c1' := fr_cell hb c1
        have c2' := fr_cell hb c2
        have q1 := World.block_lt_of_cell? wr _ c1'
        have q2 := World.block_lt_of_cell? wr _ c2'
        have hkI : (k : Int) < (n : Int) := by omega
        have hk0 : (0 : Int) ≤ (k : Int) := by omega
        have HX := Lib.hid hx; have HY := Lib.hid hy; have HE := Lib.hid he; have HBW := Lib.hid hb
        clear c1 c2 hx hy he hb l1 l2
        cases hq : eqB x y
        all_goals
          have HQ := Lib.hid hq
          unfold eqB at hq
          go_wp2_with fail
          go_quiet (fail)
          go_wp2
        · go_ret
          refine ⟨?_, fr_drewN HBW.out _⟩
          have : xs ≠ ys := fun h => by
            have h1 : x = y := by rw [← HX.out, ← HY.out]; subst h; rfl
            exact eqB_no.1 HQ.out h1
          simp [this]
        · go_roundw
          case measure => exact meas hlt .i64 .i64
          case rel => exact ⟨k + 1, by omega, by go_num, fr_drewN HBW.out _, by rw [List.take_succ_eq_append_getElem kx, List.take_succ_eq_append_getElem ky, HE.out, HX.out, HY.out, eqB_iff.1 HQ.out]⟩
      · have hxy : xs = ys := by
          rw [List.take_of_length_le (by have := HN.out; omega), List.take_of_length_le (by have := HM.out; omega)] at he
          exact he
        have HXY := Lib.hid hxy; clear hxy he
        go_wp2
        go_ret
        exact ⟨by simp [HXY.out], hb⟩
  · have hne : ¬ (n : Int) = (m : Int) := by omega
    have hxy : ¬ xs = ys := fun h => hnm (by rw [← HN.out, ← HM.out, h])
    have HXY := Lib.hid hxy; clear hxy hnm
    go_enter Tryd.func32, Tryd.ntmps32
    go_wp2
    go_ret
    exact ⟨by simp [HXY.out], fr_refl _⟩


def isW (word x : ByteArray) : Bool := eqB (lowB x) (lowB word)
set_option maxHeartbeats 1000000 in
theorem has_fn (word x : ByteArray) (g : Nat) (w : World) (hg : w.cell? ⟨g, 0, none⟩ = some (.string word)) (hw : word.size ≤ 9223372036854775807) (hx : x.size ≤ 9223372036854775807) :
    Calls Tryd.prog 47 #[.string x, .pointer (some ⟨g, 0, none⟩)] w fun e w' => e = .returned (.bool (isW word x)) ∧ Below w.heap.size w w' := by
  go_enter Tryd.func47, Tryd.ntmps47
  go_wp2_with fail
  refine (field_same x word _ hx hw).mono ?_
  rintro e w1 ⟨rfl, hb1⟩
  go_wp2
  go_ret
  exact ⟨rfl, hb1⟩
set_option maxRecDepth 100000 in
set_option maxHeartbeats 2000000 in
theorem idx_has (word : ByteArray) (g : Nat) (A : Option Addr) (n c : Nat) (l : List ByteArray) (w : World) (hn : l.length = n) (hS : Strs w A l) (hg : w.cell? ⟨g, 0, none⟩ = some (.string word)) (hw : word.size ≤ 9223372036854775807)
    (hl : ∀ x ∈ l, x.size ≤ 9223372036854775807) (hn9 : n ≤ 4398046511103) :
    Calls Tryd.prog 65 #[.slice A n c, .func (.func 47) #[] #[.pointer (some ⟨g, 0, none⟩)]] w fun e w' => (∃ i : Int, e = .returned (.int .i64 i) ∧ decide (0 ≤ i) = l.any (isW word)) ∧ Below w.heap.size w w' := by
  have HN := Lib.hid hn; have HS := Lib.hid hS; have HL := Lib.hid hl; have HG := Lib.hid hg
  clear hn hS hl hg
  go_enter Tryd.func65, Tryd.ntmps65
  go_wp2
  go_loopw [8] (fun i wr => ∃ k : Nat, k ≤ n ∧ i = .int .i64 k ∧ Below w.heap.size w wr ∧ (l.take k).any (isW word) = false) (fun i _ => n - (intOf i).toNat)
  case atStart => exact ⟨0, Nat.zero_le _, rfl, fr_refl _, rfl⟩
  case round =>
    obtain ⟨k, hk, rfl, hb, hall⟩ := hrel
    have HB := Lib.hid hb; have HA := Lib.hid hall
    clear hb hall
    by_cases hlt : k < n
    · have hkl : k < l.length := by have := HN.out; omega
      obtain ⟨b, off, rfl, hbl, hc⟩ := (HS.out.fr HB.out).at_ hkl
      have hxm := HL.out l[k] (List.getElem_mem hkl)
      obtain ⟨x, hx⟩ : ∃ x, l[k] = x := ⟨_, rfl⟩
      rw [hx] at hc hxm
      have HX := Lib.hid hx
      have kI : (k : Int) < (n : Int) := by omega
      have k0 : (0 : Int) ≤ (k : Int) := by omega
      clear hx
      cases hq : isW word x
      · have HQ := Lib.hid hq
        go_wp2_with fail
        refine (has_fn word x g _ (fr_cell HB.out HG.out) hw hxm).mono ?_
        rintro e w1 ⟨rfl, hb1⟩
        rw [HQ.out]
        have HB1 := Lib.hid (fr_trans HB.out hb1)
        clear hb1
        go_wp2
        go_roundw
        case measure => exact meas hlt .i64 .i64
        case rel => exact ⟨k + 1, by omega, by go_num, HB1.out, by rw [List.take_succ_eq_append_getElem hkl, List.any_append, HA.out, HX.out]; simp [HQ.out]⟩
      · have HQ := Lib.hid hq
        go_wp2_with fail
        refine (has_fn word x g _ (fr_cell HB.out HG.out) hw hxm).mono ?_
        rintro e w1 ⟨rfl, hb1⟩
        rw [HQ.out]
        have HB1 := Lib.hid (fr_trans HB.out hb1)
        clear hb1
        go_wp2
        go_ret
        refine ⟨⟨(k : Int), rfl, ?_⟩, HB1.out⟩
        have : l.any (isW word) = true := List.any_eq_true.2 ⟨x, by rw [← HX.out]; exact List.getElem_mem hkl, HQ.out⟩
        rw [this]; simp
    · have e : l.take k = l := List.take_of_length_le (by have := HN.out; omega)
      have ha := HA.out
      rw [e] at ha
      have HA2 := Lib.hid ha
      clear e ha
      go_wp2
      go_ret
      exact ⟨⟨-1, rfl, by rw [HA2.out]; rfl⟩, HB.out⟩
theorem listS_len (s : ByteArray) : (listS s).length ≤ s.size + 1 := Nat.le_trans (lN_len _ _) (cutB_len s 44)
theorem listS_mem {s x : ByteArray} (h : x ∈ listS s) : x.size ≤ s.size := by
  unfold listS lN at h
  obtain ⟨y, hy, rfl⟩ := List.mem_map.1 (List.mem_filter.1 h).1
  exact Nat.le_trans (trimB_size _ _) (cutB_mem (List.mem_of_mem_take hy))
theorem cont_has (word : ByteArray) (g : Nat) (A : Option Addr) (n c : Nat) (l : List ByteArray) (w : World) (hn : l.length = n) (hS : Strs w A l) (hg : w.cell? ⟨g, 0, none⟩ = some (.string word)) (hw : word.size ≤ 9223372036854775807)
    (hl : ∀ x ∈ l, x.size ≤ 9223372036854775807) (hn9 : n ≤ 4398046511103) :
    Calls Tryd.prog 45 #[.slice A n c, .func (.func 47) #[] #[.pointer (some ⟨g, 0, none⟩)]] w fun e w' => e = .returned (.bool (l.any (isW word))) ∧ Below w.heap.size w w' := by
  have HC := Lib.hid (idx_has word g A n c l w hn hS hg hw hl hn9)
  clear hn hS hg hw hl hn9
  go_enter Tryd.func45, Tryd.ntmps45
  go_wp2_with fail
  refine HC.out.mono ?_
  rintro e w1 ⟨⟨i, rfl, hi⟩, hb1⟩
  go_wp2
  go_ret
  exact ⟨by first | exact congrArg (fun b => Ending.returned (Value.bool b)) hi | (rw [← hi]; rfl), hb1⟩
def hasS (l : List Pr) (name word : ByteArray) : Bool := (getS l name).any fun v => (listS v).any (isW word)
set_option maxRecDepth 100000 in
set_option maxHeartbeats 4000000 in
theorem field_Has (A : Option Addr) (c n : Nat) (l : List Pr) (name word : ByteArray) (w : World) (hn : l.length = n) (hl : n ≤ 4398046511103) (hp : Pairs w A l) (hz : name.size ≤ 9223372036854775807) (hw : word.size ≤ 9223372036854775807)
    (hs : ∀ p ∈ l, p.1.size ≤ 9223372036854775807) (hv : ∀ v ∈ getS l name, v.size ≤ 1000000000) (hm : MaxL w) :
    Calls Tryd.prog 20 #[.slice A n c, .string name, .string word] w fun e w' => e = .returned (.bool (hasS l name word)) ∧ Below w.heap.size w w' := by
  have hw0 := fr_alloc (fr_refl w) (.cells #[.string word] 9)
  have hg0 := (Box.new w [.string word] 9).at_ 0 (.string word)
  have hget := fun W hp => field_Get A c n l name W hn hl hp hz hs
  have hlen : (getS l name).length ≤ n := by rw [← hn]; exact getS_len l name
  have hH : hasS l name word = (getS l name).any fun v => (listS v).any (isW word) := rfl
  obtain ⟨vs, hvs⟩ : ∃ v, getS l name = v := ⟨_, rfl⟩
  rw [hvs] at hget hlen hv hH
  obtain ⟨m, hmm⟩ : ∃ m, vs.length = m := ⟨_, rfl⟩
  rw [hmm] at hget hlen
  have HGET := Lib.hid (hget _ (hp.fr hw0)); have HV := Lib.hid hv; have HH := Lib.hid hH; have HMM := Lib.hid hmm; have HM := Lib.hid (hm.fr hw0)
  have HG0 := Lib.hid hg0; have HW0 := Lib.hid hw0
  have hm9 : m ≤ 4398046511103 := by omega
  clear hw0 hg0 hget hlen hv hH hvs hmm hm hp hs hn hl
  go_enter Tryd.func20, Tryd.ntmps20
  go_wp2_with fail
  refine HGET.out.mono ?_
  rintro e w1 ⟨⟨A1, c1, rfl, hS⟩, hb1⟩
  have HS := Lib.hid hS; have H1 := Lib.hid (fr_trans HW0.out hb1); have HG1 := Lib.hid (fr_cell hb1 HG0.out); have HM1 := Lib.hid (HM.out.fr hb1)
  clear hS hb1
  go_wp2
  go_loopw [13] (fun i wr => ∃ k : Nat, k ≤ m ∧ i = .int .i64 k ∧ Below w1.heap.size w1 wr ∧ ((vs.take k).any fun v => (listS v).any (isW word)) = false) (fun i _ => m - (intOf i).toNat)
  case atStart => exact ⟨0, Nat.zero_le _, rfl, fr_refl _, rfl⟩
  case round =>
    obtain ⟨k, hk, rfl, hb, hall⟩ := hrel
    have HB := Lib.hid hb; have HA := Lib.hid hall
    clear hb hall
    by_cases hlt : k < m
    · have hkl : k < vs.length := by have := HMM.out; omega
      obtain ⟨b, off, rfl, hbl, hc⟩ := (HS.out.fr HB.out).at_ hkl
      have hxm := HV.out vs[k] (List.getElem_mem hkl)
      obtain ⟨x, hx⟩ : ∃ x, vs[k] = x := ⟨_, rfl⟩
      rw [hx] at hc hxm
      have HX := Lib.hid hx
      have hll := listS_len x
      have hlm : ∀ y ∈ listS x, y.size ≤ 9223372036854775807 := fun y hy => by have := listS_mem hy; omega
      have hlist := fun W hm => oct_List x W hm hxm
      obtain ⟨ls, hls⟩ : ∃ l, listS x = l := ⟨_, rfl⟩
      rw [hls] at hll hlm hlist
      obtain ⟨q, hq⟩ : ∃ q, ls.length = q := ⟨_, rfl⟩
      rw [hq] at hll hlist
      have kI : (k : Int) < (m : Int) := by omega
      have k0 : (0 : Int) ≤ (k : Int) := by omega
      have hq9 : q ≤ 4398046511103 := by omega
      have HLM := Lib.hid hlm; have HLI := Lib.hid hlist; have HLS := Lib.hid hls; have HQ := Lib.hid hq
      clear hx hlm hlist hls hq hll hxm
      cases hany : ls.any (isW word)
      all_goals
        have HANY := Lib.hid hany
        clear hany
        go_wp2_with fail
        refine (HLI.out _ (HM1.out.fr HB.out)).mono ?_
        rintro e w2 ⟨⟨A2, c2, rfl, hS2⟩, hb2⟩
        have HS2 := Lib.hid hS2; have HB2 := Lib.hid (fr_trans HB.out hb2)
        clear hS2 hb2
        go_wp2_with fail
        refine (cont_has word w.heap.size A2 q c2 ls _ HQ.out HS2.out (fr_cell HB2.out HG1.out) hw HLM.out hq9).mono ?_
        rintro e w3 ⟨rfl, hb3⟩
        rw [HANY.out]
        have HB3 := Lib.hid (fr_trans HB2.out hb3)
        clear hb3 hc
      · go_wp2
        go_roundw
        case measure => exact meas hlt .i64 .i64
        case rel => exact ⟨k + 1, by omega, by go_num, HB3.out, by rw [List.take_succ_eq_append_getElem hkl, List.any_append, HA.out, HX.out]; simp [HLS.out, HANY.out]⟩
      · go_wp2
        go_ret
        refine ⟨?_, fr_trans H1.out HB3.out⟩
        rw [HH.out]
        have : (vs.any fun v => (listS v).any (isW word)) = true := List.any_eq_true.2 ⟨x, by rw [← HX.out]; exact List.getElem_mem hkl, by rw [HLS.out]; exact HANY.out⟩
        rw [this]; rfl
    · have e : vs.take k = vs := List.take_of_length_le (by have := HMM.out; omega)
      have ha := HA.out
      rw [e] at ha
      have HA2 := Lib.hid ha
      clear e ha
      go_wp2
      go_ret
      exact ⟨by rw [HH.out, HA2.out]; rfl, fr_trans H1.out HB.out⟩
end Go.Proofs.YtdagppbpeibdgaaDoor
