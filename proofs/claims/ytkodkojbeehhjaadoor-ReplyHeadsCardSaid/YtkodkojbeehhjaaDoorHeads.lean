/- conduitlaw10.ReplyHeads: the walk. -/
import Derived.Test.YtkodkojbeehhjaaDoorKnown
import Derived.Test.YtkodkojbeehhjaaDoorStrs
import Derived.Deep.RegionHeld3
import Derived.Deep.AppendLies
import Derived.Deep.RegionLaw
import Derived.Deep.DrawnRows
import Derived.StillTailTactics
namespace Go.Proofs.YtkodkojbeehhjaaDoor
open Go.RowKit
attribute [local go_sem ↓] Go.wp_at_zero Go.wp_at_succ

def nmH (k : Nat) : ByteArray := match k with | 0 => ⟨#[88, 45, 65]⟩ | 1 => ⟨#[99, 111, 110, 110, 101, 99, 116, 105, 111, 110]⟩ | 2 => ⟨#[84, 82, 65, 78, 83, 70, 69, 82, 45, 69, 78, 67, 79, 68, 73, 78, 71]⟩ | 3 => ⟨#[67, 111, 110, 116, 101, 110, 116, 45, 108, 101, 110, 103, 116, 104]⟩ | 4 => ⟨#[83, 116, 97, 116, 117, 115]⟩ | 5 => ⟨#[75, 101, 101, 112, 45, 65, 108, 105, 118, 101]⟩ | 6 => ⟨#[67, 111, 110, 116, 101, 110, 116, 45, 84, 121, 112, 101]⟩ | _ => ⟨#[88, 45, 66]⟩
def stays (k : Nat) : Bool := k == 0 || decide (5 < k)
def pH (k : Nat) : Pr := (nmH k, ⟨#[118]⟩)
def selL (b : Nat → Bool) : Nat → List Pr
  | 0 => []
  | k + 1 => if b k then selL b k ++ [pH k] else selL b k
def wantB (b : Nat → Bool) : Nat → ByteArray
  | 0 => ⟨#[72, 84, 84, 80, 47, 49, 46, 49, 32, 50, 48, 48, 32, 79, 75, 13, 10]⟩
  | k + 1 => if b k then (if stays k then wantB b k ++ nmH k ++ ⟨#[58, 32, 118, 13, 10]⟩ else wantB b k) else wantB b k
theorem nmH_size (k : Nat) : (nmH k).size ≤ 20 := by unfold nmH; split <;> decide
theorem selL_len (b : Nat → Bool) : ∀ k, (selL b k).length ≤ k
  | 0 => Nat.le_refl _
  | k + 1 => by
    have := selL_len b k
    unfold selL; split
    · rw [List.length_append]; simp only [List.length_cons, List.length_nil]; omega
    · omega
theorem selL_tot (b : Nat → Bool) : ∀ k, tot (selL b k) ≤ k * 25
  | 0 => Nat.le_refl _
  | k + 1 => by
    have := selL_tot b k
    have h2 := nmH_size k
    unfold selL; split
    · rw [tot_snoc]; have : (pH k).2.size = 1 := rfl
      have h3 : (pH k).1 = nmH k := rfl
      rw [h3]; omega
    · omega
theorem wantB_size (b : Nat → Bool) : ∀ k, (wantB b k).size ≤ 17 + k * 25
  | 0 => Nat.le_refl 17
  | k + 1 => by
    have := wantB_size b k
    have h2 := nmH_size k
    have h5 : (⟨#[58, 32, 118, 13, 10]⟩ : ByteArray).size = 5 := rfl
    unfold wantB; split
    · split
      · rw [size_app, size_app]; omega
      · omega
    · omega
theorem drops_app (l m : List Pr) : ∀ k, drops (l ++ m) k = drops l k ++ drops m k
  | 0 => rfl
  | k + 1 => by show dropL (drops (l ++ m) k) (nm k) = _; rw [drops_app l m k]; exact List.filter_append ..
theorem drops_one (k : Nat) (hk : k < 8) : drops [pH k] 5 = if stays k then [pH k] else [] := by
  have h : k = 0 ∨ k = 1 ∨ k = 2 ∨ k = 3 ∨ k = 4 ∨ k = 5 ∨ k = 6 ∨ k = 7 := by omega
  rcases h with rfl | rfl | rfl | rfl | rfl | rfl | rfl | rfl <;> simp only [drops, dropL, keep, List.filter_cons, List.filter_nil, eqB, lowB, toList_data] <;> decide +kernel
theorem sel_want (b : Nat → Bool) : ∀ k, k ≤ 8 → ⟨#[72, 84, 84, 80, 47, 49, 46, 49, 32, 50, 48, 48, 32, 79, 75, 13, 10]⟩ ++ linesB (drops (selL b k) 5) = wantB b k
  | 0, _ => by
    have : drops (selL b 0) 5 = [] := rfl
    rw [this]; rfl
  | k + 1, h => by
    have ih := sel_want b k (by omega)
    unfold selL wantB
    cases b k
    · simpa using ih
    · simp only [if_true]
      rw [drops_app, drops_one k (by omega), linesB_app, ← app_assoc, ih]
      cases stays k
      · show _ ++ (⟨#[]⟩ : ByteArray) = _; apply ByteArray.ext; simp
      · simp only [if_true]
        rw [app_assoc]; congr 1
        show (⟨#[]⟩ : ByteArray) ++ (nmH k ++ ⟨#[58, 32]⟩ ++ ⟨#[118]⟩ ++ ⟨#[13, 10]⟩) = _
        apply ByteArray.ext; simp
def wantAll (b : Nat → Bool) (keep minor : Bool) : ByteArray :=
  (if minor then wantB b 8 ++ ⟨#[84, 114, 97, 110, 115, 102, 101, 114, 45, 69, 110, 99, 111, 100, 105, 110, 103, 58, 32, 99, 104, 117, 110, 107, 101, 100, 13, 10]⟩ else wantB b 8) ++ (if keep && minor then ⟨#[67, 111, 110, 110, 101, 99, 116, 105, 111, 110, 58, 32, 107, 101, 101, 112, 45, 97, 108, 105, 118, 101, 13, 10, 13, 10]⟩ else ⟨#[67, 111, 110, 110, 101, 99, 116, 105, 111, 110, 58, 32, 99, 108, 111, 115, 101, 13, 10, 13, 10]⟩)
theorem heads_eq (b : Nat → Bool) (keep minor : Bool) : headB ⟨#[71, 69, 84]⟩ (if minor then 1 else 0) 200 ⟨#[79, 75]⟩ (selL b 8) keep = wantAll b keep minor := by
  have hl : lineB 200 ⟨#[79, 75]⟩ = ⟨#[72, 84, 84, 80, 47, 49, 46, 49, 32, 50, 48, 48, 32, 79, 75, 13, 10]⟩ := by unfold lineB; rw [i200]; rfl
  have hb : bareB ⟨#[71, 69, 84]⟩ 200 = false := by decide +kernel
  have hc : chunkedB ⟨#[71, 69, 84]⟩ (if minor then 1 else 0) 200 = minor := by unfold chunkedB; rw [hb]; cases minor <;> rfl
  unfold headB
  rw [hc, hb, hl]
  unfold headL wantAll
  rw [← sel_want b 8 (Nat.le_refl _)]
  cases minor <;> cases keep
  all_goals
    simp only [if_true, if_false, Bool.false_or, Bool.or_false, Bool.and_true, Bool.true_and, Bool.and_false, Bool.false_and, linesB_app, app_assoc, Bool.false_eq_true, List.append_nil]
    rfl

theorem sel_yes {b : Nat → Bool} {k : Nat} (h : b k = true) : selL b (k + 1) = selL b k ++ [pH k] := by show (if b k then _ else _) = _; rw [h]; rfl
theorem sel_no {b : Nat → Bool} {k : Nat} (h : b k = false) : selL b (k + 1) = selL b k := by show (if b k then _ else _) = _; rw [h]; rfl
theorem want_no {b : Nat → Bool} {k : Nat} (h : b k = false) : wantB b (k + 1) = wantB b k := by show (if b k then _ else _) = _; rw [h]; rfl
theorem want_stay {b : Nat → Bool} {k : Nat} (h : b k = true) (h2 : stays k = true) : wantB b (k + 1) = wantB b k ++ nmH k ++ ⟨#[58, 32, 118, 13, 10]⟩ := by show (if b k then _ else _) = _; rw [h, h2]; rfl
theorem want_gone {b : Nat → Bool} {k : Nat} (h : b k = true) (h2 : stays k = false) : wantB b (k + 1) = wantB b k := by show (if b k then _ else _) = _; rw [h, h2]; rfl
def nmHs : List Value := [.string (nmH 0), .string (nmH 1), .string (nmH 2), .string (nmH 3), .string (nmH 4), .string (nmH 5), .string (nmH 6), .string (nmH 7)]
theorem nmHs_at (k : Nat) (hk : k < 8) : nmHs[k]? = some (.string (nmH k)) := by
  have h : k = 0 ∨ k = 1 ∨ k = 2 ∨ k = 3 ∨ k = 4 ∨ k = 5 ∨ k = 6 ∨ k = 7 := by omega
  rcases h with rfl | rfl | rfl | rfl | rfl | rfl | rfl | rfl <;> rfl

set_option maxRecDepth 100000 in
set_option maxHeartbeats 4000000 in
theorem heads_walk (x : Int) (keep minor : Bool) (w : World) (hx0 : 0 ≤ x) (hx1 : x ≤ 65535) (ht : Tab w) (hz : TabZ w) :
    Calls Tryd.prog 5 #[.int .u16 x, .bool keep, .bool minor] w fun e w' => e = .returned (.bool true) ∧ Below w.heap.size w w' := by
  obtain ⟨b, hbE⟩ : ∃ b : Nat → Bool, ∀ k : Nat, (bits BinOp.and IntKind.u16 (x / 2 ^ k) 1 == 0) = !b k := ⟨fun k => !(bits BinOp.and IntKind.u16 (x / 2 ^ k) 1 == 0), fun k => by simp⟩
  have HBE := Lib.hid hbE; clear hbE
  obtain ⟨i0, hi, hz0, hz1, hz2⟩ := info_parts pair_info
  go_enter Tryd.func5, Tryd.ntmps5
  go_wp2_with fail
  refine (law10_known _ ht hz).mono ?_
  rintro e w1 ⟨rfl, hb1⟩
  have hw1 : Below w.heap.size w w1 := fr_trans (fr_refl _) hb1
  have HT := Lib.hid ht; have HZ := Lib.hid hz
  clear hb1 ht hz
  go_wp2
  go_loopw [9, 10] (fun v i wr => ∃ (j : Nat) (f : Value), j ≤ 8 ∧ i = .int .i64 j ∧ v = .string (wantB b j) ∧ Below w.heap.size w wr ∧ w1.heap.size + 2 ≤ wr.heap.size ∧ 
      wr.ownsRow (w1.heap.size + 2) 47 2 f (selL b j).length (pcells (selL b j)) ∧ Box wr w1.heap.size nmHs ∧ Blk wr (w1.heap.size + 1) 26 #[.int .i64 200, .string ⟨#[79, 75]⟩, f]) (fun _ i _ => 8 - (intOf i).toNat)
  case atStart => exact ⟨0, .slice none 0 0, by omega, rfl, rfl, fr_alloc (fr_alloc hw1 _) _, by simp, World.ownsRow_nil _ _ _ _, (Box.new _ nmHs _).fr (fr_alloc (fr_refl _) _), by
      have := Blk.new (w1.alloc (.cells #[.string (nmH 0), .string (nmH 1), .string (nmH 2), .string (nmH 3), .string (nmH 4), .string (nmH 5), .string (nmH 6), .string (nmH 7)] 44)) 26 #[.int .i64 200, .string ⟨#[79, 75]⟩, .slice none 0 0]
      rw [World.size_alloc] at this; exact this⟩
  case round =>
    obtain ⟨j, f, hj, rfl, rfl, hb, hsz, hown, hba, hbb⟩ := hrel
    by_cases hlt : j < 8
    · have hbj := HBE.out j
      have HBA := Lib.hid hba; clear hba
      have HBB := Lib.hid hbb; clear hbb
      have HO := Lib.hid hown; clear hown
      cases hq : b j
      all_goals (rw [hq] at hbj; have HQ := Lib.hid hq; clear hq)
      · simp only [Bool.not_false] at hbj
        go_wp2_with fail
        go_roundw
        case measure => exact meas hlt _ _
        case rel => exact ⟨j + 1, f, by omega, by go_num, by rw [want_no HQ.out], hb, hsz, by rw [sel_no HQ.out]; exact HO.out, HBA.out, HBB.out⟩
      · simp only [Bool.not_true] at hbj
        have hlen := selL_len b j
        have hne := own_ge HO.out
        have c1 := HBA.out.at_ j (.string (nmH j)) (nmHs_at j hlt)
        have c2 : wr.cell? ⟨w1.heap.size + 1, 2, none⟩ = some f := HBB.out.cell 2
        have c3 : wr.frozen? ⟨w1.heap.size + 1, 2, none⟩ = false := HBB.out.frozen 2
        have hj0 : (0 : Int) ≤ (j : Int) := Int.natCast_nonneg _
        have hj1 : (j : Int) < 8 := by omega
        have lt1 := World.block_lt_of_cell? wr _ c1
        have lt2 := World.block_lt_of_cell? wr _ c2
        simp only at lt1 lt2
        have ne1 : f.ownBlock ≠ some w1.heap.size := fun e => by have := hne _ e; omega
        have ne2 : f.ownBlock ≠ some (w1.heap.size + 1) := fun e => by have := hne _ e; omega
        have hz22 := wantB_size b j
        obtain ⟨nj, hnj⟩ : ∃ nj, nj = nmH j := ⟨_, rfl⟩
        rw [← hnj] at c1
        obtain ⟨wj, hwj⟩ : ∃ wj, wj = wantB b j := ⟨_, rfl⟩
        rw [← hwj] at hz22
        rw [← hwj]
        have hnz := nmH_size j
        rw [← hnj] at hnz
        have hw0 : ¬ 9223372036854775807 < wj.size + nj.size := by omega
        have hw2 : ¬ 9223372036854775807 < wj.size + nj.size + 5 := by omega
        have HNJ := Lib.hid hnj; have HWJ := Lib.hid hwj; clear hnj hwj
        go_wp2_with fail
        go_region_law (refine step_append_lies _ (by rfl) _ _ _ (by rfl) (w1.heap.size + 2) 47 i0 _ 2 32 Tryd.underlying22 hi hz0 hz1 hz2 rfl (by omega) f _ _ (by rfl) ((HO.out.alloc _).drew) ⟨wr.heap.size, 0, none⟩ 1 1 [.string nj, .string ⟨#[118]⟩] (by rfl) (by rfl) (World.news_of_block (cs := #[.string nj, .string ⟨#[118]⟩]) (t := 47) (fr := (0, 0)) (heap_alloc_new wr _)) (by simp [Value.oneCell']) (by omega) (by simp only [maxLen]; omega) (by omega) (by simp; omega) (wr.heap.size + 1) (by simp) ?_; intro gg cap w2 hown1 hgrow hat hlt2; have hbb2 := ((HBB.out.alloc (.cells #[.string nj, .string ⟨#[118]⟩] 47)).drew).grown hgrow (Ne.symm ne2); have d2 : w2.cell? ⟨w1.heap.size + 1, 2, none⟩ = some f := hbb2.cell 2; have d3 : w2.frozen? ⟨w1.heap.size + 1, 2, none⟩ = false := hbb2.frozen 2)
        all_goals
          have hw2 : Below w.heap.size w w2 := fr_grown (fr_alloc hb _).drew hgrow (fun k hk => Nat.le_trans (by have := hw1.size; omega) (hne k hk))
          have hba2 := (HBA.out.fr (fr_alloc (fr_refl _) (.cells #[.string nj, .string ⟨#[118]⟩] 47)).drew).grown hgrow (fun e => ne1 e)
          have hbb3 := hbb2.set_ 2 (.slice (some ⟨gg, 0, none⟩) ((selL b j).length + 1) cap)
          have hown2 := ownsRow_setCell_below hown1 (a := ⟨w1.heap.size + 1, 2, none⟩) (by simp) (.slice (some ⟨gg, 0, none⟩) ((selL b j).length + 1) cap)
          have hw3 := fr_set hw2 (p := ⟨w1.heap.size + 1, 2, none⟩) (Nat.le_trans hw1.size (Nat.le_succ _)) (.slice (some ⟨gg, 0, none⟩) ((selL b j).length + 1) cap)
          have hsz3 : w1.heap.size + 2 ≤ (w2.setCell ⟨w1.heap.size + 1, 2, none⟩ (.slice (some ⟨gg, 0, none⟩) ((selL b j).length + 1) cap)).heap.size := by have := hgrow.size; simp [World.setCell] at this ⊢; omega
          have hba3 : Box (w2.setCell ⟨w1.heap.size + 1, 2, none⟩ (.slice (some ⟨gg, 0, none⟩) ((selL b j).length + 1) cap)) w1.heap.size nmHs := ⟨by simpa [World.setCell] using hba2.1, fun o v hv => by rw [World.cell?_setCell_other w2 _ _ _ (by intro h; injection h with h; omega)]; exact hba2.2 o v hv⟩
          have c4 := hba3.at_ j (.string nj) (by rw [HNJ.out]; exact nmHs_at j hlt)
          generalize hW3 : w2.setCell ⟨w1.heap.size + 1, 2, none⟩ (.slice (some ⟨gg, 0, none⟩) ((selL b j).length + 1) cap) = w3 at *
          have HB3 := Lib.hid hbb3; have HO3 := Lib.hid hown2; have HA3 := Lib.hid hba3
          clear hbb3 hown2 hba3 hbb2 hba2 hgrow hown1 hat d2 d3 c1 c2 c3 hW3
          have hlen3 : (selL b j).length + 1 = (selL b (j + 1)).length := by rw [sel_yes HQ.out, List.length_append]; rfl
          have hcells : pcells (selL b j) ++ [.string nj, .string ⟨#[118]⟩] = pcells (selL b (j + 1)) := by rw [sel_yes HQ.out, pcells_snoc, HNJ.out]; rfl
          rw [hcells, hlen3] at HO3
          rw [hlen3] at HB3
          have hst : stays j = (j == 0 || decide (5 < j)) := rfl
          by_cases h0 : j = 0 ∨ 5 < j
          · have hs : stays j = true := by unfold stays; rcases h0 with h0 | h0 <;> simp [h0]
            have hwn : wj ++ nj ++ ⟨#[58, 32, 118, 13, 10]⟩ = wantB b (j + 1) := by rw [want_stay HQ.out hs, HNJ.out, HWJ.out]
            have HWN := Lib.hid hwn; clear hwn hs hst
            rcases h0 with h0 | h0
            · have h0' : ((j : Int) == 0) = true := by rw [h0]; rfl
              have c5 : w3.cell? ⟨w1.heap.size, 0, none⟩ = some (.string nj) := by have := c4; rw [h0] at this; exact this
              go_wp2_with fail
              go_roundw
              case measure => rw [h0]; decide
              case rel => exact ⟨j + 1, _, by omega, by rw [h0]; rfl, by first | rw [← HWN.out] | (rw [← HWN.out]; rfl), hw3, hsz3, HO3.out, HA3.out, HB3.out⟩
            · have h0' : ((j : Int) == 0) = false := by simp; omega
              have h5' : (5 : Int) < (j : Int) := by omega
              go_wp2_with fail
              go_roundw
              case measure => exact meas hlt _ _
              case rel => exact ⟨j + 1, _, by omega, by go_num, by first | rw [← HWN.out] | (rw [← HWN.out]; rfl), hw3, hsz3, HO3.out, HA3.out, HB3.out⟩
          · have hs : stays j = false := by unfold stays; simp; omega
            have hwn : wj = wantB b (j + 1) := by rw [want_gone HQ.out hs, HWJ.out]
            have HWN := Lib.hid hwn; clear hwn hs hst
            have h0' : ((j : Int) == 0) = false := by simp; omega
            have h5' : ¬ (5 : Int) < (j : Int) := by omega
            go_wp2_with fail
            go_roundw
            case measure => exact meas hlt _ _
            case rel => exact ⟨j + 1, _, by omega, by go_num, by rw [← HWN.out], hw3, hsz3, HO3.out, HA3.out, HB3.out⟩
    · obtain rfl : j = 8 := by omega
      have hlen := selL_len b 8
      have htot := selL_tot b 8
      have hw8 := wantB_size b 8
      obtain ⟨A, c, rfl, hn, hp⟩ := Pairs.own hown
      obtain ⟨wj, hwj⟩ : ∃ wj, wj = wantB b 8 := ⟨_, rfl⟩
      rw [← hwj] at hw8
      rw [← hwj]
      have HWJ := Lib.hid hwj
      have b0 := hbb.cell 0
      have b1 := hbb.cell 1
      have b2 := hbb.cell 2
      simp only [List.getElem?_toArray, List.getElem?_cons_zero, List.getElem?_cons_succ] at b0 b1 b2
      have HP := Lib.hid hp
      have hE := heads_eq b keep minor
      clear hp hba hbb hwj hown
      cases minor
      all_goals cases keep
      all_goals (simp only [if_true, Bool.false_eq_true, if_false] at hE; unfold wantAll at hE; simp only [if_true, Bool.false_eq_true, if_false, Bool.and_true, Bool.and_false, Bool.and_self] at hE; rw [← HWJ.out] at hE; have HE := Lib.hid hE; clear hE)
      · have hw2 := fr_alloc hb (.cells #[.string ⟨#[71, 69, 84]⟩, .string ⟨#[]⟩, .int .i64 0, .slice none 0 0, .string ⟨#[]⟩] 24)
        have hcells := fun o (v : Value) (h : wr.cell? ⟨w1.heap.size + 1, o, none⟩ = some v) => fr_cell (fr_alloc (fr_refl wr) (.cells #[.string ⟨#[71, 69, 84]⟩, .string ⟨#[]⟩, .int .i64 0, .slice none 0 0, .string ⟨#[]⟩] 24)) h
        have b0' := hcells 0 _ b0
        have b1' := hcells 1 _ b1
        have b2' := hcells 2 _ b2
        clear b0 b1 b2 hcells
        go_wp2_with fail
        refine (reply_Head ⟨#[71, 69, 84]⟩ ⟨#[]⟩ 0 none 0 0 ⟨#[]⟩ 200 ⟨#[79, 75]⟩ A (selL b 8) c false _ (by omega) (by omega) (HT.out.fr hw2) (HP.out.fr (fr_alloc (fr_refl wr) _)) (by omega) (by omega) (by decide)).mono ?_
        rintro e w9 ⟨rfl, hb9⟩
        have hw9 : Below w.heap.size w w9 := fr_trans hw2 hb9
        rw [HE.out]
        clear hb9
        go_wp2_with fail
        go_ret
        exact ⟨by simp, hw9⟩
      · have hw2 := fr_alloc hb (.cells #[.string ⟨#[71, 69, 84]⟩, .string ⟨#[]⟩, .int .i64 0, .slice none 0 0, .string ⟨#[]⟩] 24)
        have hcells := fun o (v : Value) (h : wr.cell? ⟨w1.heap.size + 1, o, none⟩ = some v) => fr_cell (fr_alloc (fr_refl wr) (.cells #[.string ⟨#[71, 69, 84]⟩, .string ⟨#[]⟩, .int .i64 0, .slice none 0 0, .string ⟨#[]⟩] 24)) h
        have b0' := hcells 0 _ b0
        have b1' := hcells 1 _ b1
        have b2' := hcells 2 _ b2
        clear b0 b1 b2 hcells
        go_wp2_with fail
        refine (reply_Head ⟨#[71, 69, 84]⟩ ⟨#[]⟩ 0 none 0 0 ⟨#[]⟩ 200 ⟨#[79, 75]⟩ A (selL b 8) c true _ (by omega) (by omega) (HT.out.fr hw2) (HP.out.fr (fr_alloc (fr_refl wr) _)) (by omega) (by omega) (by decide)).mono ?_
        rintro e w9 ⟨rfl, hb9⟩
        have hw9 : Below w.heap.size w w9 := fr_trans hw2 hb9
        rw [HE.out]
        clear hb9
        go_wp2_with fail
        go_ret
        exact ⟨by simp, hw9⟩
      · have hw2 := fr_alloc hb (.cells #[.string ⟨#[71, 69, 84]⟩, .string ⟨#[]⟩, .int .i64 1, .slice none 0 0, .string ⟨#[]⟩] 24)
        have hcells := fun o (v : Value) (h : wr.cell? ⟨w1.heap.size + 1, o, none⟩ = some v) => fr_cell (fr_alloc (fr_refl wr) (.cells #[.string ⟨#[71, 69, 84]⟩, .string ⟨#[]⟩, .int .i64 1, .slice none 0 0, .string ⟨#[]⟩] 24)) h
        have b0' := hcells 0 _ b0
        have b1' := hcells 1 _ b1
        have b2' := hcells 2 _ b2
        clear b0 b1 b2 hcells
        go_wp2_with fail
        refine (reply_Head ⟨#[71, 69, 84]⟩ ⟨#[]⟩ 1 none 0 0 ⟨#[]⟩ 200 ⟨#[79, 75]⟩ A (selL b 8) c false _ (by omega) (by omega) (HT.out.fr hw2) (HP.out.fr (fr_alloc (fr_refl wr) _)) (by omega) (by omega) (by decide)).mono ?_
        rintro e w9 ⟨rfl, hb9⟩
        have hw9 : Below w.heap.size w w9 := fr_trans hw2 hb9
        rw [HE.out]
        clear hb9
        go_wp2_with fail
        go_ret
        exact ⟨by simp, hw9⟩
      · have hw2 := fr_alloc hb (.cells #[.string ⟨#[71, 69, 84]⟩, .string ⟨#[]⟩, .int .i64 1, .slice none 0 0, .string ⟨#[]⟩] 24)
        have hcells := fun o (v : Value) (h : wr.cell? ⟨w1.heap.size + 1, o, none⟩ = some v) => fr_cell (fr_alloc (fr_refl wr) (.cells #[.string ⟨#[71, 69, 84]⟩, .string ⟨#[]⟩, .int .i64 1, .slice none 0 0, .string ⟨#[]⟩] 24)) h
        have b0' := hcells 0 _ b0
        have b1' := hcells 1 _ b1
        have b2' := hcells 2 _ b2
        clear b0 b1 b2 hcells
        go_wp2_with fail
        refine (reply_Head ⟨#[71, 69, 84]⟩ ⟨#[]⟩ 1 none 0 0 ⟨#[]⟩ 200 ⟨#[79, 75]⟩ A (selL b 8) c true _ (by omega) (by omega) (HT.out.fr hw2) (HP.out.fr (fr_alloc (fr_refl wr) _)) (by omega) (by omega) (by decide)).mono ?_
        rintro e w9 ⟨rfl, hb9⟩
        have hw9 : Below w.heap.size w w9 := fr_trans hw2 hb9
        rw [HE.out]
        clear hb9
        go_wp2_with fail
        go_ret
        exact ⟨by simp, hw9⟩
end Go.Proofs.YtkodkojbeehhjaaDoor
