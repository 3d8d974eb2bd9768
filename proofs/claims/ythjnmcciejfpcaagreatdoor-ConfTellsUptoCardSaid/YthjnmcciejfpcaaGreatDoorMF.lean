/- conduitref11.part, split, Segments, Begins. conduitref11.Segments, Begins. -/
import Derived.Test.YthjnmcciejfpcaaGreatDoorRefU
namespace Go.Proofs.YthjnmcciejfpcaaGreatDoor
set_option linter.unusedVariables false
set_option linter.unusedSimpArgs false
open Go.RowKit

def partR1 : Option ByteArray → Value
  | some p => .tuple #[.string p, .bool true]
  | none => .tuple #[.string ⟨#[]⟩, .bool false]
set_option maxRecDepth 100000 in
set_option maxHeartbeats 2000000 in
theorem ref11_part (s : ByteArray) (w : World) (hs : s.size ≤ 70000000000000) :
    Calls Tryz.prog 80 #[.string s] w fun e w' => e = .returned (partR1 (partS s)) ∧ Below w.heap.size w w' := by
  have HC := Lib.hid (ref1_Unescape s w hs)
  cases hu : unescS s with
  | none =>
    have he : partS s = none := by unfold partS; rw [hu]
    rw [he]
    rw [hu] at HC
    clear he hu
    go_enter Tryz.func80, Tryz.ntmps80
    go_wp2_with fail
    refine HC.out.mono ?_
    rintro e w1 ⟨rfl, hb1⟩
    unfold unescR1
    go_wp2
    go_ret2
    exact ⟨rfl, hb1⟩
  | some p =>
    have he : partS s = if p.all okB then some (mk p) else none := by unfold partS; rw [hu]
    have hpl := unescS_len hu
    rw [hu] at HC
    obtain ⟨x, hx⟩ : ∃ x, mk p = x := ⟨_, rfl⟩
    have hxl : L x = p := by rw [← hx, L_mk]
    have hxs : p.length = x.size := by rw [← hx, mk_size]
    have hx9 : x.size ≤ 9223372036854775807 := by omega
    rw [hx] at he
    have hur : unescR1 (some p) = .tuple #[.string x, .int .i64 0] := by unfold unescR1; simp only [hx]
    rw [hur] at HC
    have HE := Lib.hid he; have HX := Lib.hid hxl; have HS := Lib.hid hxs
    clear he hu hx hxl hxs hur hpl hs
    go_enter Tryz.func80, Tryz.ntmps80
    go_wp2_with fail
    refine HC.out.mono ?_
    rintro e w1 ⟨rfl, hb1⟩
    go_wp2
    go_loop [6] (fun i => ∃ k : Nat, k ≤ x.size ∧ i = .int .i64 k ∧ (p.take k).all okB = true) (fun i => x.size - (intOf i).toNat)
    case atStart => exact ⟨0, Nat.zero_le _, rfl, rfl⟩
    case round =>
      obtain ⟨k, hk, rfl, hall⟩ := hrel
      by_cases hlt : k < x.size
      · have hkl : k < p.length := by have := HS.out; omega
        have hat : p[k] = x[k] := by have := HX.out; subst this; rfl
        obtain ⟨c, hc⟩ : ∃ c, x[k] = c := ⟨_, rfl⟩
        rw [hc] at hat
        have hcI : (x[k].toNat : Int) = (c.toNat : Int) := by rw [hc]
        have HA := Lib.hid hall; have HAT := Lib.hid hat
        clear hall hat hc
        by_cases b1 : c.toNat = 47
        · have g1 : ((c.toNat : Int) == 47) = true := by simp; omega
          have hno : p.all okB = false := all_drop hkl HA.out (by rw [HAT.out]; unfold okB; simp [b1])
          have HNO := Lib.hid hno; clear hno b1
          go_wp2
          go_ret2
          exact ⟨by rw [HE.out, HNO.out]; rfl, hb1⟩
        · have g1 : ((c.toNat : Int) == 47) = false := by simp; omega
          by_cases b3 : c.toNat < 32
          · have g3 : decide ((c.toNat : Int) < 32) = true := by simp; omega
            have hno : p.all okB = false := all_drop hkl HA.out (by rw [HAT.out]; unfold okB; simp; omega)
            have HNO := Lib.hid hno; clear hno b1 b3
            go_wp2
            go_ret2
            exact ⟨by rw [HE.out, HNO.out]; rfl, hb1⟩
          · have g3 : decide ((c.toNat : Int) < 32) = false := by simp; omega
            by_cases b2 : c.toNat = 127
            · have g2 : ((c.toNat : Int) == 127) = true := by simp; omega
              have hno : p.all okB = false := all_drop hkl HA.out (by rw [HAT.out]; unfold okB; simp [b2])
              have HNO := Lib.hid hno; clear hno b1 b2 b3
              go_wp2
              go_ret2
              exact ⟨by rw [HE.out, HNO.out]; rfl, hb1⟩
            · have g2 : ((c.toNat : Int) == 127) = false := by simp; omega
              have hok : okB c = true := by unfold okB; simp; omega
              have HOK := Lib.hid hok; clear hok b1 b2 b3
              go_wp2
              go_round
              case measure => exact meas hlt .i64 .i64
              case rel => exact ⟨k + 1, by omega, by go_num, all_succ hkl HA.out (by rw [HAT.out]; exact HOK.out)⟩
      · have e : p.take k = p := List.take_of_length_le (by have := HS.out; omega)
        rw [e] at hall
        have HA := Lib.hid hall; clear hall e
        go_wp2
        go_ret2
        exact ⟨by rw [HE.out, HA.out]; rfl, hb1⟩

set_option maxRecDepth 100000 in
set_option maxHeartbeats 2000000 in
theorem ref11_split (s : ByteArray) (w : World) (hs : s.size ≤ 4398046511103) :
    Calls Tryz.prog 61 #[.string s] w fun e w' => (∃ v, e = .returned v ∧ w'.ownsRow w.heap.size 9 1 v (splitL s 47).length (scells (splitL s 47))) ∧ Below w.heap.size w w' := by
  obtain ⟨i0, hi, hz0, hz1, hz2⟩ := info_parts str_info
  go_enter Tryz.func61, Tryz.ntmps61
  go_wp2
  go_loopw [3, 4, 5] (fun v fr i wr => ∃ k : Nat, k ≤ s.size + 1 ∧ i = .int .i64 k ∧ fr = .int .i64 ((spN s 47 k).2 : Nat) ∧ Below w.heap.size w wr ∧ wr.ownsRow w.heap.size 9 1 v (spN s 47 k).1.length (scells (spN s 47 k).1)) (fun _ _ i _ => s.size + 1 - (intOf i).toNat)
  case atStart => exact ⟨0, Nat.zero_le _, rfl, rfl, Below.refl _ _, World.ownsRow_nil _ _ _ _⟩
  case round =>
    obtain ⟨k, hk, rfl, rfl, hb, hown⟩ := hrel
    by_cases hlt : k < s.size + 1
    · have hfr := spN_from s 47 k
      have hln := spN_len s 47 k
      have hno := fun h => spN_no (s := s) (c := 47) (i := k) h
      have hyes := fun h => spN_yes (s := s) (c := 47) (i := k) h
      obtain ⟨f, hf⟩ : ∃ f, f = (spN s 47 k).2 := ⟨_, rfl⟩
      obtain ⟨L, hL⟩ : ∃ L, L = (spN s 47 k).1 := ⟨_, rfl⟩
      rw [← hf] at hfr
      rw [← hL] at hln hown
      rw [← hf]
      have hpair : spN s 47 k = (L, f) := by rw [hL, hf]
      have HNO := Lib.hid hno; have HYES := Lib.hid hyes; have HPR := Lib.hid hpair; have HO := Lib.hid hown
      clear hno hyes hpair hf hL hown
      by_cases hks : k < s.size
      · have hkn : ((k : Int) == (s.size : Int)) = false := by simp; omega
        have hsc : ((s[k].toNat : Int) == 47) = spAt s 47 k := by
          unfold spAt; rw [dif_pos hks]
          by_cases e : s[k] = 47
          · simp [e]
          · have : ¬ s[k].toNat = 47 := fun h => e (UInt8.toNat_inj.1 h)
            rw [beq_eq_false_iff_ne.2 e, beq_eq_false_iff_ne.2 (by omega)]
        cases hq : spAt s 47 k
        · rw [hq] at hsc
          have HQ := Lib.hid hq; clear hq
          go_wp2_with fail
          go_roundw
          case measure => exact meas hlt .i64 .i64
          case rel => exact ⟨k + 1, by omega, by go_num, by rw [HNO.out HQ.out, HPR.out], hb, by rw [HNO.out HQ.out, HPR.out]; exact HO.out⟩
        · rw [hq] at hsc
          have HQ := Lib.hid hq; clear hq
          go_wp2_with (first
            | (at_builtin
               refine wpList_append_own _ rfl (.tmp 22) (.tmp 27) _ rfl w.heap.size 9 i0 _ 1 16 Tryz.underlying78 hi hz0 hz1 hz2 rfl (by decide) _ _ _ rfl (HO.out.alloc _) ⟨wr.heap.size, 0, none⟩ 1 1 [.string (s.extract f k)] rfl rfl (new_cells _ _ _) (scell_one _) (by simp only [maxLen]; omega) (by omega) (Nat.le_trans hb.size (by simp)) ?_
               intro v2 w2 hown2 hg2 _))
          go_roundw
          case measure => exact meas hlt .i64 .i64
          case rel =>
            refine ⟨k + 1, by omega, by go_num, by rw [HYES.out HQ.out]; go_num, fr_grown (fr_alloc hb _) hg2 (own_ge HO.out), ?_⟩
            rw [HYES.out HQ.out, HPR.out]
            simp only []
            rw [List.length_append, scells_snoc]
            exact hown2
      · have hks2 : k = s.size := by omega
        have hq : spAt s 47 k = true := by rw [hks2]; exact spAt_end s 47
        have HQ := Lib.hid hq; clear hq
        have hkn : ((k : Int) == (s.size : Int)) = true := by rw [hks2]; simp
        have HK := Lib.hid hks2; clear hks2
        go_wp2_with (first
          | (at_builtin
             refine wpList_append_own _ rfl (.tmp 22) (.tmp 27) _ rfl w.heap.size 9 i0 _ 1 16 Tryz.underlying78 hi hz0 hz1 hz2 rfl (by decide) _ _ _ rfl (HO.out.alloc _) ⟨wr.heap.size, 0, none⟩ 1 1 [.string (s.extract f k)] rfl rfl (new_cells _ _ _) (scell_one _) (by simp only [maxLen]; omega) (by omega) (Nat.le_trans hb.size (by simp)) ?_
             intro v2 w2 hown2 hg2 _))
        go_roundw
        case measure => exact meas hlt .i64 .i64
        case rel =>
          refine ⟨k + 1, by omega, by go_num, by rw [HYES.out HQ.out]; go_num, fr_grown (fr_alloc hb _) hg2 (own_ge HO.out), ?_⟩
          rw [HYES.out HQ.out, HPR.out]
          simp only []
          rw [List.length_append, scells_snoc]
          exact hown2
    · obtain rfl : k = s.size + 1 := by omega
      have HO := Lib.hid hown; clear hown
      go_wp2
      go_ret
      exact ⟨⟨_, rfl, HO.out⟩, hb⟩

theorem split47 (s : ByteArray) (w : World) (hs : s.size ≤ 4398046511103) :
    Calls Tryz.prog 61 #[.string s] w fun e w' => (∃ A c, e = .returned (.slice A (cutB s 47).length c) ∧ Strs w' A (cutB s 47)) ∧ Below w.heap.size w w' := by
  refine (ref11_split s w hs).mono ?_
  rintro e w' ⟨⟨v, rfl, hown⟩, hb⟩
  rw [splitL_cutB] at hown
  obtain ⟨A, c, rfl, -, hS, -⟩ := Strs.own hown
  exact ⟨⟨A, c, rfl, hS⟩, hb⟩
end Go.Proofs.YthjnmcciejfpcaaGreatDoor

namespace Go.Proofs.YthjnmcciejfpcaaGreatDoor
set_option linter.unusedVariables false
set_option linter.unusedSimpArgs false
open Go.RowKit

theorem fil_yes (l : List ByteArray) (k : Nat) (h : k < l.length) (hf : full l[k] = true) : (l.take (k + 1)).filter full = (l.take k).filter full ++ [l[k]] := by
  rw [List.take_succ_eq_append_getElem h, List.filter_append]; simp [hf]
theorem fil_no (l : List ByteArray) (k : Nat) (h : k < l.length) (hf : full l[k] = false) : (l.take (k + 1)).filter full = (l.take k).filter full := by
  rw [List.take_succ_eq_append_getElem h, List.filter_append]; simp [hf]
theorem fil_len (l : List ByteArray) (k : Nat) : ((l.take k).filter full).length ≤ k := Nat.le_trans (List.length_filter_le _ _) (List.length_take_le _ _)
/-- strings in memory between two marks -/
def RStrs (B E : Nat) (w : World) (A : Option Addr) (l : List ByteArray) : Prop :=
  0 < l.length → ∃ b off, A = some ⟨b, off, none⟩ ∧ B ≤ b ∧ b < E ∧ ∀ k (hk : k < l.length), w.cell? ⟨b, off + k, none⟩ = some (.string l[k])
theorem RStrs.strs {B E : Nat} {w : World} {A : Option Addr} {l : List ByteArray} (h : RStrs B E w A l) : Strs w A l := fun h0 => by
  obtain ⟨b, off, rfl, -, -, hc⟩ := h h0
  exact ⟨b, off, rfl, World.block_lt_of_cell? w _ (hc 0 h0), hc⟩
theorem RStrs.below {B E : Nat} {w w' : World} {A : Option Addr} {l : List ByteArray} (h : RStrs B E w A l) (hb : Below E w w') : RStrs B E w' A l := fun h0 => by
  obtain ⟨b, off, rfl, h1, h2, hc⟩ := h h0
  exact ⟨b, off, rfl, h1, h2, fun k hk => (hb.cell (p := ⟨b, off + k, none⟩) h2).trans (hc k hk)⟩
theorem RStrs.set_ {B E : Nat} {w : World} {A : Option Addr} {l : List ByteArray} (h : RStrs B E w A l) {p : Addr} (hp : p.block < B) (u : Value) : RStrs B E (w.setCell p u) A l := fun h0 => by
  obtain ⟨b, off, rfl, h1, h2, hc⟩ := h h0
  exact ⟨b, off, rfl, h1, h2, fun k hk => by rw [World.cell?_setCell_other w _ _ _ (by rintro rfl; simp at hp; omega)]; exact hc k hk⟩
theorem RStrs.more {B E B' E' : Nat} {w : World} {A : Option Addr} {l : List ByteArray} (h : RStrs B E w A l) (hB : B' ≤ B) (hE : E ≤ E') : RStrs B' E' w A l := fun h0 => by
  obtain ⟨b, off, rfl, h1, h2, hc⟩ := h h0
  exact ⟨b, off, rfl, by omega, by omega, hc⟩
theorem RStrs.at_ {B E : Nat} {w : World} {A : Option Addr} {l : List ByteArray} (h : RStrs B E w A l) {k : Nat} (hk : k < l.length) : ∃ b off, A = some ⟨b, off, none⟩ ∧ B ≤ b ∧ b < E ∧ w.cell? ⟨b, off + k, none⟩ = some (.string l[k]) := by
  obtain ⟨b, off, e, h1, h2, hc⟩ := h (by omega)
  exact ⟨b, off, e, h1, h2, hc k hk⟩
theorem RStrs.own {w : World} {base e : Nat} {v : Value} {l : List ByteArray} {n : Nat} (h : w.ownsRow base e 1 v n (scells l)) :
    ∃ A c, v = .slice A l.length c ∧ n = l.length ∧ RStrs base w.heap.size w A l ∧ l.length ≤ c := by
  obtain ⟨A, c, rfl, hn, hs, hc⟩ := Strs.own h
  refine ⟨A, c, rfl, hn, fun h0 => ?_, hc⟩
  obtain ⟨b, off, rfl, hb, hcell⟩ := hs h0
  refine ⟨b, off, rfl, ?_, hb, hcell⟩
  subst hn
  exact own_ge h b rfl
set_option maxRecDepth 100000 in
set_option maxHeartbeats 4000000 in
theorem ref11_SegmentsR (s : ByteArray) (w : World) (hs : s.size ≤ 4398046511103) :
    Calls Tryz.prog 42 #[.string s] w fun e w' => (∃ A c, e = .returned (.slice A (segs s).length c) ∧ RStrs w.heap.size w'.heap.size w' A (segs s) ∧ (segs s).length ≤ c) ∧ Below w.heap.size w w' := by
  obtain ⟨i0, hi, hz0, hz1, hz2⟩ := info_parts str_info
  have hlen := cutB_len s 47
  have hse : segs s = (cutB s 47).filter full := rfl
  have HC := Lib.hid (split47 s w hs)
  obtain ⟨l, hl⟩ : ∃ l, cutB s 47 = l := ⟨_, rfl⟩
  rw [hl] at hlen hse HC
  have HSE := Lib.hid hse
  obtain ⟨n, hn⟩ : ∃ n, l.length = n := ⟨_, rfl⟩
  rw [hn] at hlen HC
  have HN := Lib.hid hn
  have hn9 : n ≤ 4398046511104 := by omega
  clear hl hse hn hlen
  go_enter Tryz.func42, Tryz.ntmps42
  go_wp2_with fail
  refine HC.out.mono ?_
  rintro e w1 ⟨⟨A, c, rfl, hS⟩, hb1⟩
  have HS := Lib.hid hS; have HB1 := Lib.hid hb1
  clear hS hb1 HC
  go_wp2
  go_loopw [3, 5] (fun v i wr => ∃ k : Nat, k ≤ n ∧ i = .int .i64 k ∧ Below w1.heap.size w1 wr ∧ wr.ownsRow w1.heap.size 9 1 v ((l.take k).filter full).length (scells ((l.take k).filter full))) (fun _ i _ => n - (intOf i).toNat)
  case atStart => exact ⟨0, Nat.zero_le _, rfl, Below.refl _ _, World.ownsRow_nil _ _ _ _⟩
  case round =>
    obtain ⟨k, hk, rfl, hb, hown⟩ := hrel
    have HB := Lib.hid hb; have HO := Lib.hid hown
    clear hb hown
    by_cases hlt : k < n
    · have hkl : k < l.length := by have := HN.out; omega
      obtain ⟨g, off, rfl, hgl, hc⟩ := (HS.out.fr HB.out).at_ hkl
      have hfl := fil_len l k
      have hy := fun h => fil_yes l k hkl h
      have hno := fun h => fil_no l k hkl h
      obtain ⟨x, hx⟩ : ∃ x, l[k] = x := ⟨_, rfl⟩
      rw [hx] at hc hy hno
      obtain ⟨o, ho⟩ : ∃ o, (l.take k).filter full = o := ⟨_, rfl⟩
      rw [ho] at hy hno hfl HO
      have HY := Lib.hid hy; have HNO := Lib.hid hno
      have kI : (k : Int) < (n : Int) := by omega
      have k0 : (0 : Int) ≤ (k : Int) := by omega
      clear hy hno hx ho
      cases hf : x.toList.isEmpty
      · have hfu : full x = true := by unfold full; rw [hf]; rfl
        have HFU := Lib.hid hfu; clear hfu
        go_wp2_with (first
          | (at_builtin
             refine wpList_append_own _ rfl (.tmp 19) (.tmp 24) _ rfl w1.heap.size 9 i0 _ 1 16 Tryz.underlying78 hi hz0 hz1 hz2 rfl (by decide) _ _ _ rfl (HO.out.alloc _) ⟨wr.heap.size, 0, none⟩ 1 1 [.string x] rfl rfl (new_cells _ _ _) (scell_one _) (by simp only [maxLen]; omega) (by omega) (Nat.le_trans HB.out.size (by simp)) ?_
             intro v2 w3 hown2 hg2 _))
        go_roundw
        case measure => exact meas hlt .i64 .i64
        case rel =>
          refine ⟨k + 1, by omega, by go_num, fr_grown (fr_alloc HB.out _) hg2 (own_ge HO.out), ?_⟩
          rw [HY.out HFU.out, List.length_append, scells_snoc]
          exact hown2
      · have hfu : full x = false := by unfold full; rw [hf]; rfl
        have HFU := Lib.hid hfu; clear hfu
        go_wp2
        go_roundw
        case measure => exact meas hlt .i64 .i64
        case rel => exact ⟨k + 1, by omega, by go_num, HB.out, by rw [HNO.out HFU.out]; exact HO.out⟩
    · have e : (l.take k).filter full = segs s := by rw [HSE.out, List.take_of_length_le (by have := HN.out; omega)]
      have hown := HO.out
      rw [e] at hown
      clear HO e
      have HO := Lib.hid hown; clear hown
      go_wp2
      go_ret
      obtain ⟨A2, c2, rfl, -, hS2, hc2⟩ := RStrs.own HO.out
      exact ⟨⟨A2, c2, rfl, hS2.more HB1.out.size (Nat.le_refl _), hc2⟩, fr_trans HB1.out HB.out⟩
theorem ref11_Segments (s : ByteArray) (w : World) (hs : s.size ≤ 4398046511103) :
    Calls Tryz.prog 42 #[.string s] w fun e w' => (∃ A c, e = .returned (.slice A (segs s).length c) ∧ Strs w' A (segs s) ∧ (segs s).length ≤ c) ∧ Below w.heap.size w w' :=
  (ref11_SegmentsR s w hs).mono fun _ _ ⟨⟨A, c, h1, h2, h3⟩, hb⟩ => ⟨⟨A, c, h1, h2.strs, h3⟩, hb⟩
theorem segsR_ref (s : ByteArray) (n : Nat) (w : World) (hn : (segs s).length = n) (hs : s.size ≤ 4398046511103) :
    Calls Tryz.prog 42 #[.string s] w fun e w' => (∃ A c, e = .returned (.slice A n c) ∧ RStrs w.heap.size w'.heap.size w' A (segs s) ∧ n ≤ c) ∧ Below w.heap.size w w' := by subst hn; exact ref11_SegmentsR s w hs
theorem segs_ref (s : ByteArray) (n : Nat) (w : World) (hn : (segs s).length = n) (hs : s.size ≤ 4398046511103) :
    Calls Tryz.prog 42 #[.string s] w fun e w' => (∃ A c, e = .returned (.slice A n c) ∧ Strs w' A (segs s) ∧ n ≤ c) ∧ Below w.heap.size w w' := by subst hn; exact ref11_Segments s w hs
/-! ### Begins -/
theorem begS_no {p q : ByteArray} {k : Nat} (hq : k < (segs q).length) (h : (segs p).length ≤ k) : begS p q = false := by
  unfold begS
  rw [decide_eq_false (by omega), Bool.false_and]
theorem begS_ne {p q : ByteArray} {k : Nat} (hq : k < (segs q).length) (hp : k < (segs p).length) (h : (segs p)[k] ≠ (segs q)[k]) : begS p q = false := by
  unfold begS
  rw [decide_eq_false (p := (segs p).take (segs q).length = segs q), Bool.and_false]
  intro he
  apply h
  have : (segs q)[k]? = ((segs p).take (segs q).length)[k]? := by rw [he]
  rw [List.getElem?_take, if_pos hq, List.getElem?_eq_getElem hq, List.getElem?_eq_getElem hp] at this
  injection this with this
  exact this.symm
theorem begS_yes {p q : ByteArray} (h : (segs p).take (segs q).length = segs q) : begS p q = true := by
  unfold begS
  have h2 : (segs q).length ≤ (segs p).length := by
    have := congrArg List.length h
    rw [List.length_take] at this; omega
  rw [decide_eq_true h2, decide_eq_true h]; rfl
end Go.Proofs.YthjnmcciejfpcaaGreatDoor
