/- octet.List; rule.isMethods, isSegs, isPath. -/
import Derived.Test.YtfmnmgiefekjfaaGreatDoorRuC
import Derived.OwnWalk
import Derived.IntWalk
namespace Go.Proofs.YtfmnmgiefekjfaaGreatDoor
set_option linter.unusedVariables false
set_option linter.unusedSimpArgs false
open Go.RowKit

theorem cutB_mem {s x : ByteArray} {c : UInt8} (h : x ∈ cutB s c) : x.size ≤ s.size := by
  have h1 := cutC_sum c (L s)
  obtain ⟨y, hy, rfl⟩ := List.mem_map.1 h
  have h2 : y.length ≤ ((cutC c (L s)).map List.length).sum := by
    obtain ⟨a, b, e⟩ := List.append_of_mem hy
    rw [e]; simp; omega
  have h3 : 0 < (cutC c (L s)).length := List.length_pos_iff.2 (cutC_ne _ _)
  rw [mk_size]
  have : (L s).length = s.size := rfl
  omega
def lN (l : List ByteArray) (k : Nat) : List ByteArray := ((l.take k).map octTrim).filter full
theorem lN_succ {l : List ByteArray} {k : Nat} (h : k < l.length) : lN l (k + 1) = lN l k ++ (if full (octTrim l[k]) then [octTrim l[k]] else []) := by
  unfold lN
  rw [List.take_succ_eq_append_getElem h, List.map_append, List.filter_append]
  congr 1
  show List.filter full [octTrim l[k]] = _
  rw [List.filter_cons]; rfl
theorem lN_len (l : List ByteArray) (k : Nat) : (lN l k).length ≤ l.length := by
  unfold lN
  refine Nat.le_trans (List.length_filter_le _ _) ?_
  rw [List.length_map, List.length_take]; omega
def listS (s : ByteArray) : List ByteArray := lN (cutB s 44) (cutB s 44).length
set_option maxRecDepth 100000 in
set_option maxHeartbeats 2000000 in
theorem oct_List (s : ByteArray) (w : World) (hm : MaxL w) (hs : s.size ≤ 1000000000) :
    Calls Tryz.prog 54 #[.string s] w fun e w' => (∃ A c, e = .returned (.slice A (listS s).length c) ∧ Strs w' A (listS s)) ∧ Below w.heap.size w w' := by
  obtain ⟨i0, hi, hz0, hz1, hz2⟩ := info_parts str_info
  have hL : listS s = lN (cutB s 44) (cutB s 44).length := rfl
  have hcl := cutB_len s 44
  have hms : ∀ x ∈ cutB s 44, x.size ≤ 9223372036854775807 := fun x hx => by have := cutB_mem hx; omega
  have hspl := lib_Split s 44 w hm (by omega)
  have hS := Strs.new w (cutB s 44) 9
  obtain ⟨l, hl⟩ : ∃ l, cutB s 44 = l := ⟨_, rfl⟩
  rw [hl] at hL hcl hms hspl hS
  have hw1 : Below w.heap.size w (w.alloc (.cells (l.map Value.string).toArray 9)) := fr_alloc (fr_refl _) _
  obtain ⟨w1, hw1e⟩ : ∃ w1, w.alloc (.cells (l.map Value.string).toArray 9) = w1 := ⟨_, rfl⟩
  rw [hw1e] at hspl hS hw1
  obtain ⟨n, hn⟩ : ∃ n, l.length = n := ⟨_, rfl⟩
  rw [hn] at hL hspl
  have HL := Lib.hid hL; have HM := Lib.hid hms; have HSP := Lib.hid hspl; have HS := Lib.hid hS; have HW1 := Lib.hid hw1; have HN := Lib.hid hn
  have HNB := Lib.hid (show n ≤ 1000000001 by omega)
  clear hL hms hspl hS hw1 hn hl hcl hw1e
  go_enter Tryz.func54, Tryz.ntmps54
  go_wp2_with fail
  refine HSP.out.mono ?_
  rintro e w2 ⟨rfl, hw2⟩
  have hw2' := hw2.symm
  clear hw2
  subst hw2'
  go_wp2
  go_loopw [3, 9] (fun v i wr => ∃ k : Nat, k ≤ n ∧ i = .int .i64 k ∧ Below w1.heap.size w1 wr ∧ wr.ownsRow w1.heap.size 9 1 v (lN l k).length (scells (lN l k))) (fun _ i _ => n - (intOf i).toNat)
  case atStart => exact ⟨0, Nat.zero_le _, rfl, Below.refl _ _, World.ownsRow_nil _ _ _ _⟩
  case round =>
    obtain ⟨k, hk, rfl, hb, hown⟩ := hrel
    by_cases hlt : k < n
    · have kx : k < l.length := by have := HN.out; omega
      obtain ⟨b1, o1, hA1, l1, c1⟩ := (HS.out.fr hb).at_ kx
      injection hA1 with hA1
      injection hA1 with hA1 hA2
      subst hA1 hA2
      rw [Nat.zero_add] at c1
      have hnx := lN_succ kx
      have hxm := HM.out l[k] (List.getElem_mem kx)
      have hll := lN_len l k
      obtain ⟨x, hx⟩ : ∃ x, l[k] = x := ⟨_, rfl⟩
      rw [hx] at c1 hnx hxm
      obtain ⟨y, hy⟩ : ∃ y, octTrim x = y := ⟨_, rfl⟩
      have htr : ∀ W : World, Calls Tryz.prog 57 #[.string x] W fun e w' => e = .returned (.string y) ∧ Below W.heap.size W w' := fun W => by rw [← hy]; exact oct_Trim x W hxm
      rw [hy] at hnx
      have hkI : (k : Int) < (n : Int) := by omega
      have hk0 : (0 : Int) ≤ (k : Int) := by omega
      have hwr : wrap64 ((k : Int) + 1) = (k : Int) + 1 := IntWalk.wrap64_in _ (by have := HNB.out; omega)
      have HT := Lib.hid htr; have HB := Lib.hid hb; have HO := Lib.hid hown; have HNX := Lib.hid hnx
      have hll2 : (lN l k).length ≤ 1000000001 := by have := HN.out; have := HNB.out; omega
      obtain ⟨o, ho⟩ : ∃ o, lN l k = o := ⟨_, rfl⟩
      rw [ho] at HO HNX hll2
      have HLL := Lib.hid hll2
      clear htr hb hown hnx hxm hy hx kx ho hll hll2
      go_wp2_with fail
      refine (HT.out _).mono ?_
      rintro e w3 ⟨rfl, hb3⟩
      have HO3 := Lib.hid (own_fr HO.out hb3)
      have HB3 := Lib.hid (fr_trans HB.out hb3)
      clear hb3 c1 l1
      cases hq : y.toList.isEmpty
      all_goals
        have HQ := Lib.hid hq
      · go_wp2_with (first
          | (at_builtin
             refine wpList_append_own _ rfl (.tmp 17) (.tmp 19) _ rfl w1.heap.size 9 i0 _ 1 16 Tryz.underlying80 hi hz0 hz1 hz2 rfl (by decide) _ _ _ rfl (HO3.out.alloc _) ⟨w3.heap.size, 0, none⟩ 1 1 [.string y] rfl rfl (new_cells _ _ _) (scell_one _) (by simp only [maxLen]; have := HLL.out; omega) (by have := HLL.out; omega) (Nat.le_trans HB3.out.size (by simp)) ?_
             intro v2 w4 hown2 hg2 _))
        go_roundw
        case measure => rw [hwr]; exact meas hlt .i64 .i64
        case rel =>
          refine ⟨k + 1, by omega, by go_num, fr_grown (fr_alloc HB3.out _) hg2 (own_ge HO3.out), ?_⟩
          rw [HNX.out]
          unfold full
          rw [HQ.out]
          simp only [Bool.not_false, if_true]
          rw [List.length_append, scells_snoc]
          exact hown2
      · go_wp2_with fail
        go_roundw
        case measure => rw [hwr]; exact meas hlt .i64 .i64
        case rel =>
          refine ⟨k + 1, by omega, by go_num, HB3.out, ?_⟩
          rw [HNX.out]
          unfold full
          rw [HQ.out]
          simp only [Bool.not_true, Bool.false_eq_true, if_false, List.append_nil]
          exact HO3.out
    · obtain rfl : k = n := by omega
      obtain ⟨A, c, rfl, -, hS2, -⟩ := Strs.own hown
      have HS2 := Lib.hid hS2
      have HB := Lib.hid (fr_trans HW1.out hb)
      clear hown hS2 hb
      go_wp2
      go_ret
      exact ⟨⟨A, c, by rw [HL.out]; rfl, by rw [HL.out]; exact HS2.out⟩, HB.out⟩
def okM (m : ByteArray) : Bool := allB isTokB m && Nat.ble m.size 16
def methOk (s : ByteArray) : Bool := (listS s).all okM && Nat.blt 0 (listS s).length && Nat.ble s.size 1024
theorem ble_no {a b : Nat} (h : ¬ a ≤ b) : Nat.ble a b = false := by cases hb : Nat.ble a b with | false => rfl | true => rw [Nat.ble_eq] at hb; omega
theorem ble_yes {a b : Nat} (h : a ≤ b) : Nat.ble a b = true := by rw [Nat.ble_eq]; exact h
theorem listS_len (s : ByteArray) : (listS s).length ≤ s.size + 1 := Nat.le_trans (lN_len _ _) (cutB_len s 44)
theorem listS_mem {s x : ByteArray} (h : x ∈ listS s) : x.size ≤ s.size := by
  unfold listS lN at h
  obtain ⟨y, hy, rfl⟩ := List.mem_map.1 (List.mem_filter.1 h).1
  exact Nat.le_trans (trimB_size _ _) (cutB_mem (List.mem_of_mem_take hy))
theorem ball_drop {p : ByteArray → Bool} {l : List ByteArray} {k : Nat} (h : k < l.length) (hp : p l[k] = false) : l.all p = false := by
  rw [← List.take_append_drop k l, List.all_append, List.drop_eq_getElem_cons h, List.all_cons, hp]; simp
theorem ball_succ {p : ByteArray → Bool} {l : List ByteArray} {k : Nat} (h : k < l.length) (hk : (l.take k).all p = true) (hp : p l[k] = true) : (l.take (k + 1)).all p = true := by
  rw [List.take_succ_eq_append_getElem h, List.all_append, hk]; simp [hp]
set_option maxRecDepth 100000 in
set_option maxHeartbeats 2000000 in
theorem rule_isMethods (s : ByteArray) (w : World) (hm : MaxL w) (hs : s.size ≤ 1000000000) :
    Calls Tryz.prog 39 #[.string s] w fun e w' => e = .returned (.bool (methOk s)) ∧ Below w.heap.size w w' := by
  have hLc := oct_List s w hm hs
  have hM : methOk s = ((listS s).all okM && Nat.blt 0 (listS s).length && Nat.ble s.size 1024) := rfl
  have hmm : ∀ x ∈ listS s, x.size ≤ 9223372036854775807 := fun x hx => by have := listS_mem hx; omega
  obtain ⟨l, hl⟩ : ∃ l, listS s = l := ⟨_, rfl⟩
  rw [hl] at hLc hM hmm
  obtain ⟨n, hn⟩ : ∃ n, l.length = n := ⟨_, rfl⟩
  rw [hn] at hLc hM
  have HLC := Lib.hid hLc; have HM := Lib.hid hM; have HMM := Lib.hid hmm; have HN := Lib.hid hn
  have HNB := Lib.hid (show n ≤ 1000000001 by rw [← hn, ← hl]; have := listS_len s; omega)
  clear hLc hM hmm hn hl
  go_enter Tryz.func39, Tryz.ntmps39
  go_wp2_with fail
  refine HLC.out.mono ?_
  rintro e w1 ⟨⟨A, c, rfl, hS⟩, hb1⟩
  have HS := Lib.hid hS; have HB1 := Lib.hid hb1
  clear hS hb1
  go_wp2
  go_loopw [10] (fun i wr => ∃ k : Nat, k ≤ n ∧ i = .int .i64 k ∧ w1 = wr ∧ (l.take k).all okM = true) (fun i _ => n - (intOf i).toNat)
  case atStart => exact ⟨0, Nat.zero_le _, rfl, rfl, rfl⟩
  case round =>
    obtain ⟨k, hk, rfl, rfl, hall⟩ := hrel
    by_cases hlt : k < n
    · have kx : k < l.length := by have := HN.out; omega
      obtain ⟨b1, o1, rfl, l1, c1⟩ := HS.out.at_ kx
      have hdr := fun h => ball_drop (p := okM) kx h
      have hsu := fun h => ball_succ (p := okM) kx hall h
      have hxm := HMM.out l[k] (List.getElem_mem kx)
      obtain ⟨x, hx⟩ : ∃ x, l[k] = x := ⟨_, rfl⟩
      rw [hx] at c1 hdr hsu hxm
      have hkI : (k : Int) < (n : Int) := by omega
      have hk0 : (0 : Int) ≤ (k : Int) := by omega
      have hwr : wrap64 ((k : Int) + 1) = (k : Int) + 1 := IntWalk.wrap64_in _ (by have := HNB.out; omega)
      have HD := Lib.hid hdr; have HSU := Lib.hid hsu
      have HTK := Lib.hid (fun W : World => oct_Token x W hxm)
      clear hdr hsu hxm hx kx hall
      obtain ⟨tk, htk⟩ : ∃ b, allB isTokB x = b := ⟨_, rfl⟩
      have HTE := Lib.hid htk
      rw [htk] at HTK
      clear htk
      cases tk
      · go_wp2_with fail
        refine (HTK.out _).mono ?_
        rintro e w3 ⟨rfl, rfl⟩
        go_wp2_with fail
        go_ret
        exact ⟨by rw [HM.out, HD.out (by unfold okM; rw [HTE.out]; rfl)]; rfl, HB1.out⟩
      · by_cases h16 : x.size ≤ 16
        · have h16' : ¬ (16 : Int) < (x.size : Int) := by omega
          have HK := Lib.hid (ble_yes h16)
          clear h16
          go_wp2_with fail
          refine (HTK.out _).mono ?_
          rintro e w3 ⟨rfl, rfl⟩
          go_wp2_with fail
          go_roundw
          case measure => rw [hwr]; exact meas hlt .i64 .i64
          case rel => exact ⟨k + 1, by omega, by go_num, trivial, HSU.out (by unfold okM; rw [HTE.out, HK.out]; rfl)⟩
        · have h16' : (16 : Int) < (x.size : Int) := by omega
          have HK := Lib.hid (ble_no h16)
          clear h16
          go_wp2_with fail
          refine (HTK.out _).mono ?_
          rintro e w3 ⟨rfl, rfl⟩
          go_wp2_with fail
          go_ret
          exact ⟨by rw [HM.out, HD.out (by unfold okM; rw [HTE.out, HK.out]; rfl)]; rfl, HB1.out⟩
    · have e : l.take k = l := List.take_of_length_le (by have := HN.out; omega)
      obtain rfl : k = n := by omega
      rw [e] at hall
      have HA := Lib.hid hall; clear hall e
      by_cases h0 : k = 0
      · subst h0
        go_wp2
        go_ret
        exact ⟨by rw [HM.out, HA.out]; rfl, HB1.out⟩
      · have h0' : (0 : Int) < (k : Int) := by omega
        have HK0 := Lib.hid (show Nat.blt 0 k = true by rw [Nat.blt_eq]; omega)
        by_cases h1 : s.size ≤ 1024
        · have h1' : (s.size : Int) ≤ 1024 := by omega
          have HK := Lib.hid (ble_yes h1)
          clear h1 h0
          go_wp2
          go_ret
          exact ⟨by rw [HM.out, HA.out, HK0.out, HK.out]; rfl, HB1.out⟩
        · have h1' : ¬ (s.size : Int) ≤ 1024 := by omega
          have HK := Lib.hid (ble_no h1)
          clear h1 h0
          go_wp2
          go_ret
          exact ⟨by rw [HM.out, HA.out, HK0.out, HK.out]; rfl, HB1.out⟩
end Go.Proofs.YtfmnmgiefekjfaaGreatDoor
