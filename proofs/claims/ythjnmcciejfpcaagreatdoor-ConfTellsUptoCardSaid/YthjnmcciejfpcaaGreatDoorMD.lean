/- octet.Escape. rule.isHost, isClean, isExt. octet.List; rule.isMethods, isSegs, isPath. -/
import Derived.Test.YthjnmcciejfpcaaGreatDoorMC
import Derived.Test.YthjnmcciejfpcaaGreatDoorPBack
import Derived.Deep.RegionLaw
import Derived.Deep.AppendLies
import Derived.OwnWalk
import Derived.IntWalk
namespace Go.Proofs.YthjnmcciejfpcaaGreatDoor
set_option linter.unusedVariables false
set_option linter.unusedSimpArgs false
open Go.RowKit

theorem plainIAll : (List.range 256).all (fun n => plainB (UInt8.ofNat n) == (decide (0 ≤ Lib.indexByte [45, 46, 95, 126, 47] (UInt8.ofNat n)) || isPlainB (UInt8.ofNat n))) = true := by kernel_rfl
theorem plainI (c : UInt8) : plainB c = (decide (0 ≤ Lib.indexByte (L ⟨#[45, 46, 95, 126, 47]⟩) c) || isPlainB c) := by
  have h := List.all_eq_true.1 plainIAll c.toNat (List.mem_range.2 c.toNat_lt)
  rw [show UInt8.ofNat c.toNat = c by simp] at h
  exact beq_iff_eq.1 h
theorem and15All : (List.range 256).all (fun n => bits BinOp.and IntKind.u8 (n : Int) 15 == (n : Int) % 16) = true := by kernel_rfl
theorem and15 (n : Nat) (h : n < 256) : bits BinOp.and IntKind.u8 (n : Int) 15 = (n : Int) % 16 := beq_iff_eq.1 (List.all_eq_true.1 and15All n (List.mem_range.2 h))
theorem up_get (q : Nat) (h : q < (⟨#[48, 49, 50, 51, 52, 53, 54, 55, 56, 57, 65, 66, 67, 68, 69, 70]⟩ : ByteArray).size) : ((⟨#[48, 49, 50, 51, 52, 53, 54, 55, 56, 57, 65, 66, 67, 68, 69, 70]⟩ : ByteArray)[q]'h).toNat = (upD q).toNat := by
  have h1 : (L ⟨#[48, 49, 50, 51, 52, 53, 54, 55, 56, 57, 65, 66, 67, 68, 69, 70]⟩)[q]'h = (⟨#[48, 49, 50, 51, 52, 53, 54, 55, 56, 57, 65, 66, 67, 68, 69, 70]⟩ : ByteArray)[q]'h := rfl
  unfold upD
  have h2 : (L ⟨#[48, 49, 50, 51, 52, 53, 54, 55, 56, 57, 65, 66, 67, 68, 69, 70]⟩)[q]? = some ((L ⟨#[48, 49, 50, 51, 52, 53, 54, 55, 56, 57, 65, 66, 67, 68, 69, 70]⟩)[q]'h) := List.getElem?_eq_getElem h
  rw [List.getD, h2]
  rfl
def escB (s : ByteArray) : ByteArray := mk (E (L s))
theorem escB_size (s : ByteArray) : (escB s).size ≤ 3 * s.size := by unfold escB; rw [mk_size]; exact E_len (L s)
theorem E_next (s : ByteArray) (k : Nat) (h : k < s.size) : E ((L s).take (k + 1)) = E ((L s).take k) ++ esc1 s[k] := by
  have hat : (L s)[k]'h = s[k] := rfl
  rw [List.take_succ_eq_append_getElem (show k < (L s).length from h), E_app, hat]
  congr 1
  simp [E]
set_option maxRecDepth 100000 in
set_option maxHeartbeats 4000000 in
theorem oct_Escape (s : ByteArray) (w : World) (hs : s.size ≤ 100000000) :
    Calls Tryz.prog 52 #[.string s] w fun e w' => e = .returned (.string (escB s)) ∧ Below w.heap.size w w' := by
  obtain ⟨i0, hi, hz0, hz1, hz2⟩ := info_parts u8_info
  go_enter Tryz.func52, Tryz.ntmps52
  go_wp2
  go_loopw [3, 8] (fun v i wr => ∃ k : Nat, k ≤ s.size ∧ i = .int .i64 k ∧ Below w.heap.size w wr ∧ wr.ownsRow w.heap.size 5 1 v (E ((L s).take k)).length (ucells (E ((L s).take k)))) (fun _ i _ => s.size - (intOf i).toNat)
  case atStart => exact ⟨0, Nat.zero_le _, rfl, Below.refl _ _, World.ownsRow_nil _ _ _ _⟩
  case round =>
    obtain ⟨k, hk, rfl, hb, hown⟩ := hrel
    by_cases hlt : k < s.size
    · have hpl := plainI s[k]
      have hnx := E_next s k hlt
      have hoz : (E ((L s).take k)).length ≤ 300000000 := by
        have := E_len ((L s).take k)
        rw [List.length_take, L_len] at this
        omega
      obtain ⟨o, ho⟩ : ∃ o, E ((L s).take k) = o := ⟨_, rfl⟩
      rw [ho] at hnx hoz hown
      obtain ⟨c, hc⟩ : ∃ c, s[k] = c := ⟨_, rfl⟩
      rw [hc] at hpl hnx
      have hcI : (s[k].toNat : Int) = (c.toNat : Int) := by rw [hc]
      have HNX := Lib.hid hnx; have HB := Lib.hid hb; have HO := Lib.hid hown
      clear hnx hb ho hown
      obtain ⟨ix, hix⟩ : ∃ ix, Lib.indexByte (L ⟨#[45, 46, 95, 126, 47]⟩) c = ix := ⟨_, rfl⟩
      rw [hix] at hpl
      have HIX := Lib.hid hix; clear hix
      by_cases hp : plainB c = true
      · have he1 : esc1 c = [c] := by unfold esc1; rw [if_pos hp]
        have HE := Lib.hid he1; clear he1
        by_cases h0 : 0 ≤ ix
        · have h0' : (0 : Int) ≤ ix := h0
          clear hp hpl
          go_wp2_with fail
          refine (lib_IndexByte ⟨#[45, 46, 95, 126, 47]⟩ c _).mono ?_
          rintro e w1 ⟨rfl, rfl⟩
          rw [HIX.out]
          go_wp2_with (first
            | (at_builtin
               refine wpList_append_own _ rfl (.tmp 29) (.tmp 31) _ rfl w.heap.size 5 i0 _ 1 1 Tryz.underlying104 hi hz0 hz1 hz2 rfl (by decide) _ _ _ rfl (HO.out.alloc _) ⟨wr.heap.size, 0, none⟩ 1 1 [.int .u8 (c.toNat : Int)] rfl rfl (new_cells _ _ _) (ucell_one _) (by simp only [maxLen]; omega) (by omega) (Nat.le_trans HB.out.size (by simp)) ?_
               intro v2 w3 hown2 hg2 _))
          go_roundw
          case measure => exact meas hlt .i64 .i64
          case rel =>
            refine ⟨k + 1, by omega, by go_num, fr_grown (fr_alloc HB.out _) hg2 (own_ge HO.out), ?_⟩
            rw [HNX.out, HE.out, List.length_append, ucells_snoc]
            exact hown2
        · have h0' : ix < 0 := by omega
          have hip : isPlainB c = true := by rw [hp, decide_eq_false h0, Bool.false_or] at hpl; exact hpl.symm
          have HIP := Lib.hid hip
          clear hp hpl hip h0
          go_wp2_with fail
          refine (lib_IndexByte ⟨#[45, 46, 95, 126, 47]⟩ c _).mono ?_
          rintro e w1 ⟨rfl, rfl⟩
          rw [HIX.out]
          go_wp2_with fail
          refine (oct_isPlain c _).mono ?_
          rintro e w1 ⟨rfl, rfl⟩
          rw [HIP.out]
          go_wp2_with (first
            | (at_builtin
               refine wpList_append_own _ rfl (.tmp 29) (.tmp 31) _ rfl w.heap.size 5 i0 _ 1 1 Tryz.underlying104 hi hz0 hz1 hz2 rfl (by decide) _ _ _ rfl (HO.out.alloc _) ⟨wr.heap.size, 0, none⟩ 1 1 [.int .u8 (c.toNat : Int)] rfl rfl (new_cells _ _ _) (ucell_one _) (by simp only [maxLen]; omega) (by omega) (Nat.le_trans HB.out.size (by simp)) ?_
               intro v2 w3 hown2 hg2 _))
          go_roundw
          case measure => exact meas hlt .i64 .i64
          case rel =>
            refine ⟨k + 1, by omega, by go_num, fr_grown (fr_alloc HB.out _) hg2 (own_ge HO.out), ?_⟩
            rw [HNX.out, HE.out, List.length_append, ucells_snoc]
            exact hown2
      · have hp0 : plainB c = false := by simpa using hp
        have h0' : ix < 0 := by
          rw [hp0] at hpl
          cases hd : decide (0 ≤ ix) with
          | false => have := of_decide_eq_false hd; omega
          | true => rw [hd] at hpl; cases hpl
        have hip : isPlainB c = false := by
          rw [hp0] at hpl
          cases hd : isPlainB c with
          | false => rfl
          | true => rw [hd, Bool.or_true] at hpl; cases hpl
        have hlt256 := c.toNat_lt
        obtain ⟨u, hu⟩ : ∃ u, c.toNat / 16 = u := ⟨_, rfl⟩
        obtain ⟨q, hq⟩ : ∃ q, c.toNat % 16 = q := ⟨_, rfl⟩
        have huI : (c.toNat : Int) / 16 = (u : Int) := by omega
        have hqI : bits BinOp.and IntKind.u8 (c.toNat : Int) 15 = (q : Int) := by rw [and15 _ hlt256]; omega
        have hu16 : (u : Int) < 16 := by omega
        have hq16 : (q : Int) < 16 := by omega
        have q1 : u < (⟨#[48, 49, 50, 51, 52, 53, 54, 55, 56, 57, 65, 66, 67, 68, 69, 70]⟩ : ByteArray).size := by show u < 16; omega
        have q2 : q < (⟨#[48, 49, 50, 51, 52, 53, 54, 55, 56, 57, 65, 66, 67, 68, 69, 70]⟩ : ByteArray).size := by show q < 16; omega
        obtain ⟨c1, hc1⟩ : ∃ c : UInt8, upD u = c := ⟨_, rfl⟩
        obtain ⟨c2, hc2⟩ : ∃ c : UInt8, upD q = c := ⟨_, rfl⟩
        have g1 := congrArg (fun k : Nat => (k : Int)) (up_get u q1)
        have g2 := congrArg (fun k : Nat => (k : Int)) (up_get q q2)
        simp only [hc1, hc2] at g1 g2
        have he1 : esc1 c = [37, c1, c2] := by unfold esc1; rw [hp0, if_neg (by decide), hu, hq, hc1, hc2]
        have HE := Lib.hid he1; have HIP := Lib.hid hip
        clear he1 hip hp hp0 hpl hc1 hc2 hu hq
        go_wp2_with fail
        refine (lib_IndexByte ⟨#[45, 46, 95, 126, 47]⟩ c _).mono ?_
        rintro e w1 ⟨rfl, rfl⟩
        rw [HIX.out]
        go_wp2_with fail
        refine (oct_isPlain c _).mono ?_
        rintro e w1 ⟨rfl, rfl⟩
        rw [HIP.out]
        go_wp2_with fail
        go_region_law (refine step_append_lies _ (by rfl) _ _ _ (by rfl) w.heap.size 5 i0 _ 1 1 Tryz.underlying104 hi hz0 hz1 hz2 rfl (by omega) _ _ _ (by rfl) ((HO.out.alloc _).drew) ⟨wr.heap.size, 0, none⟩ 3 3 [.int .u8 37, .int .u8 (c1.toNat : Int), .int .u8 (c2.toNat : Int)] (by rfl) (by rfl) (World.news_of_block (cs := #[.int .u8 37, .int .u8 (c1.toNat : Int), .int .u8 (c2.toNat : Int)]) (t := 5) (fr := (0, 0)) (heap_alloc_new wr _)) (by simp [Value.oneCell']) (by omega) (by simp only [maxLen]; omega) (by omega) (by simp; exact Nat.le_succ_of_le HB.out.size) (wr.heap.size + 1) (by simp) ?_; intro gg cap w5 hown1 hgrow hat hlt2)
        all_goals
          go_wp2_with fail
          go_roundw
          case measure => exact meas hlt .i64 .i64
          case rel =>
            refine ⟨k + 1, by omega, by go_num, fr_grown (fr_alloc HB.out _).drew hgrow (own_ge HO.out), ?_⟩
            rw [HNX.out, HE.out, List.length_append]
            have hcs : ucells (o ++ [37, c1, c2]) = ucells o ++ [.int .u8 37, .int .u8 (c1.toNat : Int), .int .u8 (c2.toNat : Int)] := by simp [ucells]
            rw [hcs]
            exact hown1
    · have hk2 : (L s).take k = L s := List.take_of_length_le (by rw [L_len]; omega)
      rw [hk2] at hown
      have hcv := own_back hown
      have hE : mk (E (L s)) = escB s := rfl
      rw [hE] at hcv
      clear hown
      go_wp2
      go_ret
      exact ⟨rfl, hb⟩
end Go.Proofs.YthjnmcciejfpcaaGreatDoor

namespace Go.Proofs.YthjnmcciejfpcaaGreatDoor
set_option linter.unusedVariables false
set_option linter.unusedSimpArgs false
open Go.RowKit

def hostSet : ByteArray := ⟨#[97, 98, 99, 100, 101, 102, 103, 104, 105, 106, 107, 108, 109, 110, 111, 112, 113, 114, 115, 116, 117, 118, 119, 120, 121, 122, 48, 49, 50, 51, 52, 53, 54, 55, 56, 57, 45, 46]⟩
def letSet : ByteArray := ⟨#[97, 98, 99, 100, 101, 102, 103, 104, 105, 106, 107, 108, 109, 110, 111, 112, 113, 114, 115, 116, 117, 118, 119, 120, 121, 122]⟩
def hostOk (s : ByteArray) : Bool := Nat.ble s.size 64 && (L s).all (fun c => (L hostSet).contains c)
theorem rule_isHost (s : ByteArray) (w : World) (hs : s.size ≤ 9223372036854775807) : Calls Tryz.prog 26 #[.string s] w fun e w' => e = .returned (.bool (hostOk s)) ∧ Below w.heap.size w w' := by
  by_cases h : s.size ≤ 64
  · have h' : (s.size : Int) ≤ 64 := by omega
    have he : hostOk s = (trimB s hostSet).toList.isEmpty := by
      unfold hostOk; rw [trimB_empty, show Nat.ble s.size 64 = true by rw [Nat.ble_eq]; exact h]; rfl
    have HE := Lib.hid he
    clear he h
    go_enter Tryz.func26, Tryz.ntmps26
    go_wp2_with fail
    refine (lib_Trim s hostSet _ hs (by decide) (by decide)).mono ?_
    rintro e w1 ⟨rfl, hb⟩
    go_wp2
    go_ret
    exact ⟨by rw [HE.out]; rfl, hb⟩
  · have h' : ¬ (s.size : Int) ≤ 64 := by omega
    have he : hostOk s = false := by
      unfold hostOk; rw [show Nat.ble s.size 64 = false by cases hb : Nat.ble s.size 64 with | false => rfl | true => rw [Nat.ble_eq] at hb; omega]; rfl
    rw [he]
    clear he h
    go_enter Tryz.func26, Tryz.ntmps26
    go_wp2
    go_ret
    exact ⟨rfl, fr_refl _⟩
def cleanOk (s : ByteArray) : Bool := match cleanS (escB s) with
  | some p => eqB p s
  | none => false
theorem rule_isClean (s : ByteArray) (w : World) (hm : MaxL w) (hs : s.size ≤ 2000000) : Calls Tryz.prog 37 #[.string s] w fun e w' => e = .returned (.bool (cleanOk s)) ∧ Below w.heap.size w w' := by
  have HM := Lib.hid hm; clear hm
  have hez : (escB s).size ≤ 8388608 := Nat.le_trans (escB_size s) (by omega)
  have HEZ := Lib.hid hez; clear hez
  cases hc : cleanS (escB s) with
  | none =>
    have he : cleanOk s = false := by unfold cleanOk; rw [hc]
    rw [he]
    have HC := Lib.hid (cleanR_none hc)
    clear he hc
    go_enter Tryz.func37, Tryz.ntmps37
    go_wp2_with fail
    refine (oct_Escape s _ (by omega)).mono ?_
    rintro e w1 ⟨rfl, hb1⟩
    have HB1 := Lib.hid hb1; clear hb1
    go_wp2_with fail
    refine (clean_at _ _ _ HC.out (HM.out.fr HB1.out) HEZ.out).mono ?_
    rintro e w2 ⟨rfl, hb2⟩
    go_wp2
    go_ret
    exact ⟨rfl, fr_trans HB1.out hb2⟩
  | some p =>
    have he : cleanOk s = eqB p s := by unfold cleanOk; rw [hc]
    rw [he]
    have HC := Lib.hid (cleanR_some hc)
    clear he hc
    go_enter Tryz.func37, Tryz.ntmps37
    go_wp2_with fail
    refine (oct_Escape s _ (by omega)).mono ?_
    rintro e w1 ⟨rfl, hb1⟩
    have HB1 := Lib.hid hb1; clear hb1
    go_wp2_with fail
    refine (clean_at _ _ _ HC.out (HM.out.fr HB1.out) HEZ.out).mono ?_
    rintro e w2 ⟨rfl, hb2⟩
    go_wp2
    go_ret
    exact ⟨rfl, fr_trans HB1.out hb2⟩
def tailE (s : ByteArray) : ByteArray := mk (Lib.trimPrefix (L s) [46])
def extOk (s : ByteArray) : Bool := Lib.hasPrefix (L s) [46] && !(tailE s).toList.isEmpty && Nat.ble (tailE s).size 8 && (L (tailE s)).all (fun c => (L letSet).contains c)
theorem rule_isExt (s : ByteArray) (w : World) (hs : s.size ≤ 1000000000) : Calls Tryz.prog 35 #[.string s] w fun e w' => e = .returned (.bool (extOk s)) ∧ Below w.heap.size w w' := by
  obtain ⟨x, hx⟩ : ∃ x, tailE s = x := ⟨_, rfl⟩
  have hcp : ∀ W : World, Calls Tryz.prog 49 #[.string s, .string ⟨#[46]⟩] W fun e w' => e = .returned (.tuple #[.string x, .bool (Lib.hasPrefix (L s) [46])]) ∧ W = w' := fun W => by
    have h := lib_CutPrefix s 46 W
    rw [show (⟨(Lib.trimPrefix (L s) [46]).toArray⟩ : ByteArray) = x from hx] at h
    exact h
  have HCP := Lib.hid hcp
  have he : extOk s = (Lib.hasPrefix (L s) [46] && !x.toList.isEmpty && Nat.ble x.size 8 && (L x).all (fun c => (L letSet).contains c)) := by unfold extOk; rw [hx]
  rw [he]
  clear hcp he hx
  obtain ⟨b, hb⟩ : ∃ b, Lib.hasPrefix (L s) [46] = b := ⟨_, rfl⟩
  rw [hb] at HCP ⊢
  clear hb
  cases b
  · go_enter Tryz.func35, Tryz.ntmps35
    go_wp2_with fail
    refine (HCP.out _).mono ?_
    rintro e w1 ⟨rfl, rfl⟩
    go_wp2
    go_ret
    exact ⟨rfl, fr_refl _⟩
  · cases hem : x.toList.isEmpty
    · by_cases h8 : x.size ≤ 8
      · have h8' : (x.size : Int) ≤ 8 := by omega
        have hr : ((true && !false && Nat.ble x.size 8) && (L x).all (fun c => (L letSet).contains c)) = (trimB x letSet).toList.isEmpty := by
          rw [trimB_empty, show Nat.ble x.size 8 = true by rw [Nat.ble_eq]; exact h8]; rfl
        rw [hr]
        clear hr
        go_enter Tryz.func35, Tryz.ntmps35
        go_wp2_with fail
        refine (HCP.out _).mono ?_
        rintro e w1 ⟨rfl, rfl⟩
        go_wp2_with fail
        refine (lib_Trim x letSet _ (by omega) (by decide) (by decide)).mono ?_
        rintro e w1 ⟨rfl, hb⟩
        go_wp2
        go_ret
        exact ⟨rfl, hb⟩
      · have h8' : ¬ (x.size : Int) ≤ 8 := by omega
        have hr : Nat.ble x.size 8 = false := by cases hb : Nat.ble x.size 8 with | false => rfl | true => rw [Nat.ble_eq] at hb; omega
        rw [hr]
        clear hr h8
        go_enter Tryz.func35, Tryz.ntmps35
        go_wp2_with fail
        refine (HCP.out _).mono ?_
        rintro e w1 ⟨rfl, rfl⟩
        go_wp2
        go_ret
        exact ⟨rfl, fr_refl _⟩
    · go_enter Tryz.func35, Tryz.ntmps35
      go_wp2_with fail
      refine (HCP.out _).mono ?_
      rintro e w1 ⟨rfl, rfl⟩
      go_wp2
      go_ret
      exact ⟨rfl, fr_refl _⟩
end Go.Proofs.YthjnmcciejfpcaaGreatDoor

namespace Go.Proofs.YthjnmcciejfpcaaGreatDoor
set_option linter.unusedVariables false
set_option linter.unusedSimpArgs false
open Go.RowKit

theorem cutB_mem {s x : ByteArray} {c : UInt8} (h : x ∈ cutB s c) : x.size ≤ s.size := by
  have h1 := cutC_sum c (L s)
  obtain ⟨y, hy, rfl⟩ := List.mem_map.1 h
  have h2 : y.length ≤ ((cutC c (L s)).map List.length).sum := by
    obtain ⟨a, b, e⟩ := List.append_of_mem hy
    rw [e]; simp; omega
  have h3 : 0 < (cutC c (L s)).length := List.length_pos_iff.2 (cutC_ne _ _)
  rw [mk_size]
  have : (L s).length = s.size := rfl
  omega
def lN (l : List ByteArray) (k : Nat) : List ByteArray := ((l.take k).map octTrim).filter full
theorem lN_succ {l : List ByteArray} {k : Nat} (h : k < l.length) : lN l (k + 1) = lN l k ++ (if full (octTrim l[k]) then [octTrim l[k]] else []) := by
  unfold lN
  rw [List.take_succ_eq_append_getElem h, List.map_append, List.filter_append]
  congr 1
  show List.filter full [octTrim l[k]] = _
  rw [List.filter_cons]; rfl
theorem lN_len (l : List ByteArray) (k : Nat) : (lN l k).length ≤ l.length := by
  unfold lN
  refine Nat.le_trans (List.length_filter_le _ _) ?_
  rw [List.length_map, List.length_take]; omega
def listS (s : ByteArray) : List ByteArray := lN (cutB s 44) (cutB s 44).length
set_option maxRecDepth 100000 in
set_option maxHeartbeats 2000000 in
theorem oct_List (s : ByteArray) (w : World) (hm : MaxL w) (hs : s.size ≤ 1000000000) :
    Calls Tryz.prog 53 #[.string s] w fun e w' => (∃ A c, e = .returned (.slice A (listS s).length c) ∧ Strs w' A (listS s)) ∧ Below w.heap.size w w' := by
  obtain ⟨i0, hi, hz0, hz1, hz2⟩ := info_parts str_info
  have hL : listS s = lN (cutB s 44) (cutB s 44).length := rfl
  have hcl := cutB_len s 44
  have hms : ∀ x ∈ cutB s 44, x.size ≤ 9223372036854775807 := fun x hx => by have := cutB_mem hx; omega
  have hspl := lib_Split s 44 w hm (by omega)
  have hS := Strs.new w (cutB s 44) 9
  obtain ⟨l, hl⟩ : ∃ l, cutB s 44 = l := ⟨_, rfl⟩
  rw [hl] at hL hcl hms hspl hS
  have hw1 : Below w.heap.size w (w.alloc (.cells (l.map Value.string).toArray 9)) := fr_alloc (fr_refl _) _
  obtain ⟨w1, hw1e⟩ : ∃ w1, w.alloc (.cells (l.map Value.string).toArray 9) = w1 := ⟨_, rfl⟩
  rw [hw1e] at hspl hS hw1
  obtain ⟨n, hn⟩ : ∃ n, l.length = n := ⟨_, rfl⟩
  rw [hn] at hL hspl
  have HL := Lib.hid hL; have HM := Lib.hid hms; have HSP := Lib.hid hspl; have HS := Lib.hid hS; have HW1 := Lib.hid hw1; have HN := Lib.hid hn
  have HNB := Lib.hid (show n ≤ 1000000001 by omega)
  clear hL hms hspl hS hw1 hn hl hcl hw1e
  go_enter Tryz.func53, Tryz.ntmps53
  go_wp2_with fail
  refine HSP.out.mono ?_
  rintro e w2 ⟨rfl, hw2⟩
  have hw2' := hw2.symm
  clear hw2
  subst hw2'
  go_wp2
  go_loopw [3, 9] (fun v i wr => ∃ k : Nat, k ≤ n ∧ i = .int .i64 k ∧ Below w1.heap.size w1 wr ∧ wr.ownsRow w1.heap.size 9 1 v (lN l k).length (scells (lN l k))) (fun _ i _ => n - (intOf i).toNat)
  case atStart => exact ⟨0, Nat.zero_le _, rfl, Below.refl _ _, World.ownsRow_nil _ _ _ _⟩
  case round =>
    obtain ⟨k, hk, rfl, hb, hown⟩ := hrel
    by_cases hlt : k < n
    · have kx : k < l.length := by have := HN.out; omega
      obtain ⟨b1, o1, hA1, l1, c1⟩ := (HS.out.fr hb).at_ kx
      injection hA1 with hA1
      injection hA1 with hA1 hA2
      subst hA1 hA2
      rw [Nat.zero_add] at c1
      have hnx := lN_succ kx
      have hxm := HM.out l[k] (List.getElem_mem kx)
      have hll := lN_len l k
      obtain ⟨x, hx⟩ : ∃ x, l[k] = x := ⟨_, rfl⟩
      rw [hx] at c1 hnx hxm
      obtain ⟨y, hy⟩ : ∃ y, octTrim x = y := ⟨_, rfl⟩
      have htr : ∀ W : World, Calls Tryz.prog 56 #[.string x] W fun e w' => e = .returned (.string y) ∧ Below W.heap.size W w' := fun W => by rw [← hy]; exact oct_Trim x W hxm
      rw [hy] at hnx
      have hkI : (k : Int) < (n : Int) := by omega
      have hk0 : (0 : Int) ≤ (k : Int) := by omega
      have hwr : wrap64 ((k : Int) + 1) = (k : Int) + 1 := IntWalk.wrap64_in _ (by have := HNB.out; omega)
      have HT := Lib.hid htr; have HB := Lib.hid hb; have HO := Lib.hid hown; have HNX := Lib.hid hnx
      have hll2 : (lN l k).length ≤ 1000000001 := by have := HN.out; have := HNB.out; omega
      obtain ⟨o, ho⟩ : ∃ o, lN l k = o := ⟨_, rfl⟩
      rw [ho] at HO HNX hll2
      have HLL := Lib.hid hll2
      clear htr hb hown hnx hxm hy hx kx ho hll hll2
      go_wp2_with fail
      refine (HT.out _).mono ?_
      rintro e w3 ⟨rfl, hb3⟩
      have HO3 := Lib.hid (own_fr HO.out hb3)
      have HB3 := Lib.hid (fr_trans HB.out hb3)
      clear hb3 c1 l1
      cases hq : y.toList.isEmpty
      all_goals
        have HQ := Lib.hid hq
      · go_wp2_with (first
          | (at_builtin
             refine wpList_append_own _ rfl (.tmp 17) (.tmp 19) _ rfl w1.heap.size 9 i0 _ 1 16 Tryz.underlying78 hi hz0 hz1 hz2 rfl (by decide) _ _ _ rfl (HO3.out.alloc _) ⟨w3.heap.size, 0, none⟩ 1 1 [.string y] rfl rfl (new_cells _ _ _) (scell_one _) (by simp only [maxLen]; have := HLL.out; omega) (by have := HLL.out; omega) (Nat.le_trans HB3.out.size (by simp)) ?_
             intro v2 w4 hown2 hg2 _))
        go_roundw
        case measure => rw [hwr]; exact meas hlt .i64 .i64
        case rel =>
          refine ⟨k + 1, by omega, by go_num, fr_grown (fr_alloc HB3.out _) hg2 (own_ge HO3.out), ?_⟩
          rw [HNX.out]
          unfold full
          rw [HQ.out]
          simp only [Bool.not_false, if_true]
          rw [List.length_append, scells_snoc]
          exact hown2
      · go_wp2_with fail
        go_roundw
        case measure => rw [hwr]; exact meas hlt .i64 .i64
        case rel =>
          refine ⟨k + 1, by omega, by go_num, HB3.out, ?_⟩
          rw [HNX.out]
          unfold full
          rw [HQ.out]
          simp only [Bool.not_true, Bool.false_eq_true, if_false, List.append_nil]
          exact HO3.out
    · obtain rfl : k = n := by omega
      obtain ⟨A, c, rfl, -, hS2, -⟩ := Strs.own hown
      have HS2 := Lib.hid hS2
      have HB := Lib.hid (fr_trans HW1.out hb)
      clear hown hS2 hb
      go_wp2
      go_ret
      exact ⟨⟨A, c, by rw [HL.out]; rfl, by rw [HL.out]; exact HS2.out⟩, HB.out⟩
def okM (m : ByteArray) : Bool := allB isTokB m && Nat.ble m.size 16
def methOk (s : ByteArray) : Bool := (listS s).all okM && Nat.blt 0 (listS s).length && Nat.ble s.size 1024
theorem ble_no {a b : Nat} (h : ¬ a ≤ b) : Nat.ble a b = false := by cases hb : Nat.ble a b with | false => rfl | true => rw [Nat.ble_eq] at hb; omega
theorem ble_yes {a b : Nat} (h : a ≤ b) : Nat.ble a b = true := by rw [Nat.ble_eq]; exact h
theorem listS_len (s : ByteArray) : (listS s).length ≤ s.size + 1 := Nat.le_trans (lN_len _ _) (cutB_len s 44)
theorem listS_mem {s x : ByteArray} (h : x ∈ listS s) : x.size ≤ s.size := by
  unfold listS lN at h
  obtain ⟨y, hy, rfl⟩ := List.mem_map.1 (List.mem_filter.1 h).1
  exact Nat.le_trans (trimB_size _ _) (cutB_mem (List.mem_of_mem_take hy))
theorem ball_drop {p : ByteArray → Bool} {l : List ByteArray} {k : Nat} (h : k < l.length) (hp : p l[k] = false) : l.all p = false := by
  rw [← List.take_append_drop k l, List.all_append, List.drop_eq_getElem_cons h, List.all_cons, hp]; simp
theorem ball_succ {p : ByteArray → Bool} {l : List ByteArray} {k : Nat} (h : k < l.length) (hk : (l.take k).all p = true) (hp : p l[k] = true) : (l.take (k + 1)).all p = true := by
  rw [List.take_succ_eq_append_getElem h, List.all_append, hk]; simp [hp]
set_option maxRecDepth 100000 in
set_option maxHeartbeats 2000000 in
theorem rule_isMethods (s : ByteArray) (w : World) (hm : MaxL w) (hs : s.size ≤ 1000000000) :
    Calls Tryz.prog 38 #[.string s] w fun e w' => e = .returned (.bool (methOk s)) ∧ Below w.heap.size w w' := by
  have hLc := oct_List s w hm hs
  have hM : methOk s = ((listS s).all okM && Nat.blt 0 (listS s).length && Nat.ble s.size 1024) := rfl
  have hmm : ∀ x ∈ listS s, x.size ≤ 9223372036854775807 := fun x hx => by have := listS_mem hx; omega
  obtain ⟨l, hl⟩ : ∃ l, listS s = l := ⟨_, rfl⟩
  rw [hl] at hLc hM hmm
  obtain ⟨n, hn⟩ : ∃ n, l.length = n := ⟨_, rfl⟩
  rw [hn] at hLc hM
  have HLC := Lib.hid hLc; have HM := Lib.hid hM; have HMM := Lib.hid hmm; have HN := Lib.hid hn
  have HNB := Lib.hid (show n ≤ 1000000001 by rw [← hn, ← hl]; have := listS_len s; omega)
  clear hLc hM hmm hn hl
  go_enter Tryz.func38, Tryz.ntmps38
  go_wp2_with fail
  refine HLC.out.mono ?_
  rintro e w1 ⟨⟨A, c, rfl, hS⟩, hb1⟩
  have HS := Lib.hid hS; have HB1 := Lib.hid hb1
  clear hS hb1
  go_wp2
  go_loopw [10] (fun i wr => ∃ k : Nat, k ≤ n ∧ i = .int .i64 k ∧ w1 = wr ∧ (l.take k).all okM = true) (fun i _ => n - (intOf i).toNat)
  case atStart => exact ⟨0, Nat.zero_le _, rfl, rfl, rfl⟩
  case round =>
    obtain ⟨k, hk, rfl, rfl, hall⟩ := hrel
    by_cases hlt : k < n
    · have kx : k < l.length := by have := HN.out; omega
      obtain ⟨b1, o1, rfl, l1, c1⟩ := HS.out.at_ kx
      have hdr := fun h => ball_drop (p := okM) kx h
      have hsu := fun h => ball_succ (p := okM) kx hall h
      have hxm := HMM.out l[k] (List.getElem_mem kx)
      obtain ⟨x, hx⟩ : ∃ x, l[k] = x := ⟨_, rfl⟩
      rw [hx] at c1 hdr hsu hxm
      have hkI : (k : Int) < (n : Int) := by omega
      have hk0 : (0 : Int) ≤ (k : Int) := by omega
      have hwr : wrap64 ((k : Int) + 1) = (k : Int) + 1 := IntWalk.wrap64_in _ (by have := HNB.out; omega)
      have HD := Lib.hid hdr; have HSU := Lib.hid hsu
      have HTK := Lib.hid (fun W : World => oct_Token x W hxm)
      clear hdr hsu hxm hx kx hall
      obtain ⟨tk, htk⟩ : ∃ b, allB isTokB x = b := ⟨_, rfl⟩
      have HTE := Lib.hid htk
      rw [htk] at HTK
      clear htk
      cases tk
      · go_wp2_with fail
        refine (HTK.out _).mono ?_
        rintro e w3 ⟨rfl, rfl⟩
        go_wp2_with fail
        go_ret
        exact ⟨by rw [HM.out, HD.out (by unfold okM; rw [HTE.out]; rfl)]; rfl, HB1.out⟩
      · by_cases h16 : x.size ≤ 16
        · have h16' : ¬ (16 : Int) < (x.size : Int) := by omega
          have HK := Lib.hid (ble_yes h16)
          clear h16
          go_wp2_with fail
          refine (HTK.out _).mono ?_
          rintro e w3 ⟨rfl, rfl⟩
          go_wp2_with fail
          go_roundw
          case measure => rw [hwr]; exact meas hlt .i64 .i64
          case rel => exact ⟨k + 1, by omega, by go_num, trivial, HSU.out (by unfold okM; rw [HTE.out, HK.out]; rfl)⟩
        · have h16' : (16 : Int) < (x.size : Int) := by omega
          have HK := Lib.hid (ble_no h16)
          clear h16
          go_wp2_with fail
          refine (HTK.out _).mono ?_
          rintro e w3 ⟨rfl, rfl⟩
          go_wp2_with fail
          go_ret
          exact ⟨by rw [HM.out, HD.out (by unfold okM; rw [HTE.out, HK.out]; rfl)]; rfl, HB1.out⟩
    · have e : l.take k = l := List.take_of_length_le (by have := HN.out; omega)
      obtain rfl : k = n := by omega
      rw [e] at hall
      have HA := Lib.hid hall; clear hall e
      by_cases h0 : k = 0
      · subst h0
        go_wp2
        go_ret
        exact ⟨by rw [HM.out, HA.out]; rfl, HB1.out⟩
      · have h0' : (0 : Int) < (k : Int) := by omega
        have HK0 := Lib.hid (show Nat.blt 0 k = true by rw [Nat.blt_eq]; omega)
        by_cases h1 : s.size ≤ 1024
        · have h1' : (s.size : Int) ≤ 1024 := by omega
          have HK := Lib.hid (ble_yes h1)
          clear h1 h0
          go_wp2
          go_ret
          exact ⟨by rw [HM.out, HA.out, HK0.out, HK.out]; rfl, HB1.out⟩
        · have h1' : ¬ (s.size : Int) ≤ 1024 := by omega
          have HK := Lib.hid (ble_no h1)
          clear h1 h0
          go_wp2
          go_ret
          exact ⟨by rw [HM.out, HA.out, HK0.out, HK.out]; rfl, HB1.out⟩
end Go.Proofs.YthjnmcciejfpcaaGreatDoor
