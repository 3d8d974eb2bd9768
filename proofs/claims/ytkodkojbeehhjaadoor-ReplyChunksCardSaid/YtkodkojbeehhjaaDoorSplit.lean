/- conduitref6.split: what it answers. -/
import Derived.Test.YtkodkojbeehhjaaDoorStrs
import Derived.Test.YtkodkojbeehhjaaDoorProg
namespace Go.Proofs.YtkodkojbeehhjaaDoor
open Go.RowKit

def spAt (s : ByteArray) (c : UInt8) (i : Nat) : Bool := if h : i < s.size then s[i] == c else true
def spN (s : ByteArray) (c : UInt8) : Nat → List ByteArray × Nat
  | 0 => ([], 0)
  | i + 1 => if spAt s c i then ((spN s c i).1 ++ [s.extract (spN s c i).2 i], i + 1) else spN s c i
def splitL (s : ByteArray) (c : UInt8) : List ByteArray := (spN s c (s.size + 1)).1
theorem spN_yes {s : ByteArray} {c : UInt8} {i : Nat} (h : spAt s c i = true) : spN s c (i + 1) = ((spN s c i).1 ++ [s.extract (spN s c i).2 i], i + 1) := by show (if _ then _ else _) = _; rw [h]; rfl
theorem spN_no {s : ByteArray} {c : UInt8} {i : Nat} (h : spAt s c i = false) : spN s c (i + 1) = spN s c i := by show (if _ then _ else _) = _; rw [h]; rfl
theorem spN_from (s : ByteArray) (c : UInt8) : ∀ i, (spN s c i).2 ≤ i
  | 0 => Nat.le_refl _
  | i + 1 => by
    have := spN_from s c i
    cases h : spAt s c i
    · rw [spN_no h]; omega
    · rw [spN_yes h]; exact Nat.le_refl _
theorem spN_len (s : ByteArray) (c : UInt8) : ∀ i, (spN s c i).1.length ≤ i
  | 0 => Nat.le_refl _
  | i + 1 => by
    have := spN_len s c i
    cases h : spAt s c i
    · rw [spN_no h]; omega
    · rw [spN_yes h, List.length_append]; simp only [List.length_cons, List.length_nil]; omega
theorem spAt_end (s : ByteArray) (c : UInt8) : spAt s c s.size = true := by unfold spAt; rw [dif_neg (by omega)]
theorem splitL_pos (s : ByteArray) (c : UInt8) : 0 < (splitL s c).length := by unfold splitL; rw [spN_yes (spAt_end s c), List.length_append]; simp
theorem spN_none (s : ByteArray) (c : UInt8) (h : ∀ i (hi : i < s.size), s[i] ≠ c) : ∀ i, i ≤ s.size → spN s c i = ([], 0)
  | 0, _ => rfl
  | i + 1, hi => by
    rw [spN_no, spN_none s c h i (by omega)]
    unfold spAt; rw [dif_pos (by omega)]; simpa using h i (by omega)
theorem splitL_none (s : ByteArray) (c : UInt8) (h : ∀ i (hi : i < s.size), s[i] ≠ c) : splitL s c = [s] := by
  unfold splitL
  rw [spN_yes (spAt_end s c), spN_none s c h s.size (Nat.le_refl _)]
  show [s.extract 0 s.size] = [s]
  rw [ByteArray.extract_zero_size]
theorem str_info : (Tryd.prog.info? 9).map (fun i => (i.zero, i.size, i.bytes)) = some (some (.string ⟨#[]⟩), 1, 16) := by kernel_rfl

set_option maxHeartbeats 2000000 in
theorem ref6_split (s : ByteArray) (c : UInt8) (w : World) (hs : s.size ≤ 1000000000) :
    Calls Tryd.prog 48 #[.string s, .int .u8 (c.toNat : Int)] w fun e w' => (∃ v, e = .returned v ∧ w'.ownsRow w.heap.size 9 1 v (splitL s c).length (scells (splitL s c))) ∧ Below w.heap.size w w' := by
  obtain ⟨i0, hi, hz0, hz1, hz2⟩ := info_parts str_info
  go_enter Tryd.func48, Tryd.ntmps48
  go_wp2
  go_loopw [5, 6, 7] (fun v fr i wr => ∃ k : Nat, k ≤ s.size + 1 ∧ i = .int .i64 k ∧ fr = .int .i64 ((spN s c k).2 : Nat) ∧ Below w.heap.size w wr ∧ wr.ownsRow w.heap.size 9 1 v (spN s c k).1.length (scells (spN s c k).1)) (fun _ _ i _ => s.size + 1 - (intOf i).toNat)
  case atStart => exact ⟨0, Nat.zero_le _, rfl, rfl, Below.refl _ _, World.ownsRow_nil _ _ _ _⟩
  case round =>
    obtain ⟨k, hk, rfl, rfl, hb, hown⟩ := hrel
    by_cases hlt : k < s.size + 1
    · have hfr := spN_from s c k
      have hln := spN_len s c k
      have hno := fun h => spN_no (s := s) (c := c) (i := k) h
      have hyes := fun h => spN_yes (s := s) (c := c) (i := k) h
      obtain ⟨f, hf⟩ : ∃ f, f = (spN s c k).2 := ⟨_, rfl⟩
      obtain ⟨L, hL⟩ : ∃ L, L = (spN s c k).1 := ⟨_, rfl⟩
      rw [← hf] at hfr
      rw [← hL] at hln hown
      rw [← hf]
      have hpair : spN s c k = (L, f) := by rw [hL, hf]
      have HNO := Lib.hid hno; have HYES := Lib.hid hyes; have HPR := Lib.hid hpair; have HO := Lib.hid hown
      clear hno hyes hpair hf hL hown
      by_cases hks : k < s.size
      · have hkn : ((k : Int) == (s.size : Int)) = false := by simp; omega
        have hsc : ((s[k].toNat : Int) == (c.toNat : Int)) = spAt s c k := by
          unfold spAt; rw [dif_pos hks]
          by_cases e : s[k] = c
          · simp [e]
          · have : ¬ s[k].toNat = c.toNat := fun h => e (UInt8.toNat_inj.1 h)
            rw [beq_eq_false_iff_ne.2 e, beq_eq_false_iff_ne.2 (by omega)]
        cases hq : spAt s c k
        · rw [hq] at hsc
          have HQ := Lib.hid hq; clear hq
          go_wp2_with fail
          go_roundw
          case measure => exact meas hlt _ _
          case rel => exact ⟨k + 1, by omega, by go_num, by rw [HNO.out HQ.out, HPR.out], hb, by rw [HNO.out HQ.out, HPR.out]; exact HO.out⟩
        · rw [hq] at hsc
          have HQ := Lib.hid hq; clear hq
          go_wp2_with (first
            | (at_builtin
               refine wpList_append_own _ rfl (.tmp 25) (.tmp 30) _ rfl w.heap.size 9 i0 _ 1 16 Tryd.underlying36 hi hz0 hz1 hz2 rfl (by decide) _ _ _ rfl (HO.out.alloc _) ⟨wr.heap.size, 0, none⟩ 1 1 [.string (s.extract f k)] rfl rfl (new_cells _ _ _) (scell_one _) (by simp only [maxLen]; omega) (by omega) (Nat.le_trans hb.size (by simp)) ?_
               intro v2 w2 hown2 hg2 _))
          go_roundw
          case measure => exact meas hlt _ _
          case rel =>
            refine ⟨k + 1, by omega, by go_num, by rw [HYES.out HQ.out]; go_num, fr_grown (fr_alloc hb _) hg2 (own_ge HO.out), ?_⟩
            rw [HYES.out HQ.out, HPR.out]
            simp only []
            rw [List.length_append, scells_snoc]
            exact hown2
      · have hks2 : k = s.size := by omega
        have hq : spAt s c k = true := by rw [hks2]; exact spAt_end s c
        have HQ := Lib.hid hq; clear hq
        have hkn : ((k : Int) == (s.size : Int)) = true := by rw [hks2]; simp
        have HK := Lib.hid hks2; clear hks2
        go_wp2_with (first
          | (at_builtin
             refine wpList_append_own _ rfl (.tmp 25) (.tmp 30) _ rfl w.heap.size 9 i0 _ 1 16 Tryd.underlying36 hi hz0 hz1 hz2 rfl (by decide) _ _ _ rfl (HO.out.alloc _) ⟨wr.heap.size, 0, none⟩ 1 1 [.string (s.extract f k)] rfl rfl (new_cells _ _ _) (scell_one _) (by simp only [maxLen]; omega) (by omega) (Nat.le_trans hb.size (by simp)) ?_
             intro v2 w2 hown2 hg2 _))
        go_roundw
        case measure => exact meas hlt _ _
        case rel =>
          refine ⟨k + 1, by omega, by go_num, by rw [HYES.out HQ.out]; go_num, fr_grown (fr_alloc hb _) hg2 (own_ge HO.out), ?_⟩
          rw [HYES.out HQ.out, HPR.out]
          simp only []
          rw [List.length_append, scells_snoc]
          exact hown2
    · obtain rfl : k = s.size + 1 := by omega
      have HO := Lib.hid hown; clear hown
      go_wp2
      go_ret
      exact ⟨⟨_, rfl, HO.out⟩, hb⟩
end Go.Proofs.YtkodkojbeehhjaaDoor
