/- reply.Head. -/
import Derived.Test.YtkodkojbeehhjaaDoorReply3
namespace Go.Proofs.YtkodkojbeehhjaaDoor
open Go.RowKit

theorem own_base {w : World} {base base' e size n : Nat} {v : Value} {xs : List Value} (h : w.ownsRow base e size v n xs) (hb : base' ≤ base) : w.ownsRow base' e size v n xs := by
  refine ⟨h.1, ?_⟩
  rcases h.2 with h0 | ⟨g, cap, cur, hv, hg, r⟩
  · exact .inl h0
  · exact .inr ⟨g, cap, cur, hv, Nat.le_trans hb hg, r⟩

def nm (k : Nat) : ByteArray := match k with | 0 => ⟨#[67, 111, 110, 110, 101, 99, 116, 105, 111, 110]⟩ | 1 => ⟨#[84, 114, 97, 110, 115, 102, 101, 114, 45, 69, 110, 99, 111, 100, 105, 110, 103]⟩ | 2 => ⟨#[67, 111, 110, 116, 101, 110, 116, 45, 76, 101, 110, 103, 116, 104]⟩ | 3 => ⟨#[83, 116, 97, 116, 117, 115]⟩ | _ => ⟨#[75, 101, 101, 112, 45, 65, 108, 105, 118, 101]⟩
def drops (l : List Pr) : Nat → List Pr
  | 0 => l
  | k + 1 => dropL (drops l k) (nm k)
theorem tot_filter (l : List Pr) (p : Pr → Bool) : tot (l.filter p) ≤ tot l := by
  induction l with
  | nil => exact Nat.le_refl _
  | cons a l ih =>
    rw [List.filter_cons]
    split
    · rw [tot_cons, tot_cons]; omega
    · rw [tot_cons]; omega
theorem drops_tot (l : List Pr) : ∀ k, tot (drops l k) ≤ tot l
  | 0 => Nat.le_refl _
  | k + 1 => Nat.le_trans (tot_filter _ _) (drops_tot l k)
theorem drops_len (l : List Pr) : ∀ k, (drops l k).length ≤ l.length
  | 0 => Nat.le_refl _
  | k + 1 => Nat.le_trans (List.length_filter_le _ _) (drops_len l k)
theorem tot_mem {l : List Pr} {p : Pr} (h : p ∈ l) : p.1.size + p.2.size + 4 ≤ tot l := by
  obtain ⟨k, hk, rfl⟩ := List.getElem_of_mem h
  have := tot_take l k hk
  omega
theorem nm_size (k : Nat) : (nm k).size ≤ 20 := by unfold nm; split <;> decide
theorem run_nm (k : Nat) (hk : k < 5) : ∀ W : World, (Instr.index 58 (.agg #[.string ⟨#[67, 111, 110, 110, 101, 99, 116, 105, 111, 110]⟩, .string ⟨#[84, 114, 97, 110, 115, 102, 101, 114, 45, 69, 110, 99, 111, 100, 105, 110, 103]⟩, .string ⟨#[67, 111, 110, 116, 101, 110, 116, 45, 76, 101, 110, 103, 116, 104]⟩, .string ⟨#[83, 116, 97, 116, 117, 115]⟩, .string ⟨#[75, 101, 101, 112, 45, 65, 108, 105, 118, 101]⟩]) (.int .i64 (k : Int))).run Tryd.prog W = .ok (.string (nm k)) W := by
  intro W
  have h : k = 0 ∨ k = 1 ∨ k = 2 ∨ k = 3 ∨ k = 4 := by omega
  rcases h with rfl | rfl | rfl | rfl | rfl <;> rfl

def teP : Pr := (⟨#[84, 114, 97, 110, 115, 102, 101, 114, 45, 69, 110, 99, 111, 100, 105, 110, 103]⟩, ⟨#[99, 104, 117, 110, 107, 101, 100]⟩)
def headL (l : List Pr) (ch b keep : Bool) : List Pr := drops l 5 ++ (if ch then [teP] else []) ++ [connP (keep && (ch || b))]
def headB (m : ByteArray) (minor st : Int) (rs : ByteArray) (l : List Pr) (keep : Bool) : ByteArray :=
  lineB st rs ++ linesB (headL l (chunkedB m minor st) (bareB m st) keep) ++ ⟨#[13, 10]⟩

theorem pair_one (p : Pr) : ∀ u ∈ [Value.string p.1, Value.string p.2], u.oneCell' = true := by intro u hu; simp at hu; rcases hu with rfl | rfl <;> rfl
theorem Box.grown {w w' : World} {g : Nat} {vs : List Value} {row : Option Nat} (h : Box w g vs) (hg : w.grownBy w' row) (hne : ¬ row = some g) : Box w' g vs :=
  ⟨Nat.lt_of_lt_of_le h.1 hg.size, fun o v hv => hg.cell (h.2 o v hv) (fun e => hne e.symm)⟩
theorem pcells_two (l : List Pr) (p q : Pr) : pcells (l ++ [p, q]) = pcells l ++ [.string p.1, .string p.2] ++ [.string q.1, .string q.2] := by simp [pcells]
theorem tot_app (a b : List Pr) : tot (a ++ b) = tot a + tot b := by simp [tot]

set_option maxHeartbeats 2000000 in
theorem reply_Head (m tg : ByteArray) (minor : Int) (A : Option Addr) (fl c : Nat) (body : ByteArray) (st : Int) (rs : ByteArray) (A' : Option Addr) (l : List Pr) (c' : Nat) (k : Bool) (w : World)
    (h0 : -9223372036854775808 ≤ st) (h1 : st ≤ 9223372036854775807) (ht : Tab w) (hp : Pairs w A' l) (hl : l.length ≤ 1000000) (htot : tot l ≤ 1152921504606846976) (hr : rs.size ≤ 1152921504606846976) :
    Calls Tryd.prog 14 #[.agg #[.string m, .string tg, .int .i64 minor, .slice A fl c, .string body], .agg #[.int .i64 st, .string rs, .slice A' l.length c'], .bool k] w
      fun e w' => e = .returned (.string (headB m minor st rs l k)) ∧ Below w.heap.size w w' := by
  have HP := Lib.hid (hp.fr (fr_alloc (fr_alloc (fr_refl _) (.cells #[.string m, .string tg, .int .i64 minor, .slice A fl c, .string body] 24)) (.cells #[.int .i64 st, .string rs, .slice A' l.length c'] 26)))
  clear hp
  have hz4 := lineB_size st rs h0 h1
  obtain ⟨i0, hi, hz0, hz1, hz2⟩ := info_parts pair_info
  go_enter Tryd.func14, Tryd.ntmps14
  go_wp2
  go_loopw [7, 13] (fun v i wr => ∃ (j : Nat) (A1 : Option Addr) (c1 : Nat), j ≤ 5 ∧ i = .int .i64 j ∧ v = .slice A1 (drops l j).length c1 ∧ Below w.heap.size w wr ∧ w.heap.size + 2 ≤ wr.heap.size ∧ Pairs wr A1 (drops l j) ∧
      (0 < j → wr.ownsRow (w.heap.size + 2) 47 2 v (drops l j).length (pcells (drops l j))) ∧ Box wr w.heap.size [.string m, .string tg, .int .i64 minor, .slice A fl c, .string body] ∧ Box wr (w.heap.size + 1) [.int .i64 st, .string rs, .slice A' l.length c']) (fun _ i _ => 5 - (intOf i).toNat)
  case atStart => exact ⟨0, A', c', by omega, rfl, rfl, fr_alloc (fr_alloc (fr_refl _) _) _, by simp, HP.out, fun h => absurd h (by omega), (Box.new _ [.string m, .string tg, .int .i64 minor, .slice A fl c, .string body] _).fr (fr_alloc (fr_refl _) _), Box.newAt (by simp) [.int .i64 st, .string rs, .slice A' l.length c'] _⟩
  case round =>
    obtain ⟨j, A1, c1, hj, rfl, rfl, hb, hsz, hpr, hown, hba, hbb⟩ := hrel
    by_cases hlt : j < 5
    · have hix := run_nm j hlt
      have HPR := Lib.hid hpr; clear hpr
      have HBA := Lib.hid hba; clear hba
      have HBB := Lib.hid hbb; clear hbb
      clear hown
      go_wp2_with fail
      have htj := drops_tot l j
      have hlj := drops_len l j
      have hnz := nm_size j
      refine (field_Drop A1 c1 (drops l j) (nm j) _ (by omega) HPR.out (by omega) (fun p hp => by have := tot_mem hp; omega)).mono ?_
      rintro e w1 ⟨⟨v1, rfl, hown1⟩, hb1⟩
      have hbw : Below w.heap.size w w1 := fr_trans hb hb1
      obtain ⟨A2, c2, rfl, hn, hp2⟩ := Pairs.own hown1
      have hown2 := own_base hown1 hsz
      have HO := Lib.hid hown2
      have HP2 := Lib.hid hp2
      have hsz1 := hb1.size
      clear hown1 hown2 hp2 hn
      have HBA1 := Lib.hid (HBA.out.fr hb1)
      have HBB1 := Lib.hid (HBB.out.fr hb1)
      clear hb1
      go_wp2
      go_roundw
      case measure => exact meas hlt _ _
      case rel => exact ⟨j + 1, A2, c2, by omega, by go_num, rfl, hbw, by omega, HP2.out, fun _ => HO.out, HBA1.out, HBB1.out⟩
    · obtain rfl : j = 5 := by omega
      have hown5 := hown (by omega)
      have htj := drops_tot l 5
      have hlj := drops_len l 5
      obtain ⟨L5, hL5⟩ : ∃ L, L = drops l 5 := ⟨_, rfl⟩
      rw [← hL5] at hown5 htj hlj
      rw [← hL5]
      have HL5 := Lib.hid hL5; clear hL5
      have HO := Lib.hid hown5
      have HBA := Lib.hid hba
      have HBB := Lib.hid hbb
      clear hown hpr hown5
      have a0 := hba.at_ 0 (.string m)
      have a1 := hba.at_ 1 (.string tg)
      have a2 := hba.at_ 2 (.int .i64 minor)
      have a3 := hba.at_ 3 (.slice A fl c)
      have a4 := hba.at_ 4 (.string body)
      have b0 := hbb.at_ 0 (.int .i64 st)
      have b1 := hbb.at_ 1 (.string rs)
      have b2 := hbb.at_ 2 (.slice A' l.length c')
      clear hba hbb
      go_wp2_with fail
      refine (reply_Chunked m tg minor A fl c body st rs A' l.length c' _).mono ?_
      rintro e w1 ⟨rfl, hb1⟩
      have hw1 : Below w.heap.size w w1 := fr_trans hb hb1
      have HO1 := Lib.hid (own_fr HO.out hb1)
      have HBA1 := Lib.hid (HBA.out.fr hb1)
      have HBB1 := Lib.hid (HBB.out.fr hb1)
      have hsz1 : w.heap.size + 2 ≤ w1.heap.size := Nat.le_trans hsz hb1.size
      clear a0 a1 a2 a3 a4 b0 b1 b2 hb1
      cases hch : chunkedB m minor st
      all_goals
        have HCH := Lib.hid hch
        cases k
      · have a0 := HBA1.out.at_ 0 (.string m)
        have a1 := HBA1.out.at_ 1 (.string tg)
        have a2 := HBA1.out.at_ 2 (.int .i64 minor)
        have a3 := HBA1.out.at_ 3 (.slice A fl c)
        have a4 := HBA1.out.at_ 4 (.string body)
        have b0 := HBB1.out.at_ 0 (.int .i64 st)
        have b1 := HBB1.out.at_ 1 (.string rs)
        have b2 := HBB1.out.at_ 2 (.slice A' l.length c')
        go_wp2_with fail
        refine (reply_connection false _).mono ?_
        rintro e w5 ⟨rfl, hb5⟩
        have hw5 : Below w.heap.size w w5 := fr_trans hw1 hb5
        have HO5 := Lib.hid (own_fr HO1.out hb5)
        have HBA5 := Lib.hid (HBA1.out.fr hb5)
        have HBB5 := Lib.hid (HBB1.out.fr hb5)
        have hsz5 : w.heap.size + 2 ≤ w5.heap.size := Nat.le_trans hsz1 hb5.size
        clear a0 a1 a2 a3 a4 b0 b1 b2 hb5
        unfold pairV
        go_wp2_with (first
          | (at_builtin
             refine wpList_append_own _ rfl (.tmp 27) (.tmp 42) _ rfl (w.heap.size + 2) 47 i0 _ 2 32 Tryd.underlying22 hi hz0 hz1 hz2 rfl (by decide) _ _ _ rfl (HO5.out.alloc _) ⟨w5.heap.size, 0, none⟩ 1 1 [.string (connP false).1, .string (connP false).2] rfl rfl (new_cells _ _ _) (pair_one _) (by simp only [maxLen]; omega) (by omega) (Nat.le_trans hsz5 (by simp)) ?_
             intro v6 w6 hown6 hg6 _
             have hw6 : Below w.heap.size w w6 := fr_grown (fr_alloc hw5 _) hg6 (fun k hk => Nat.le_trans (by omega) (own_ge HO5.out k hk))
             have HBA6 := Lib.hid ((HBA5.out.fr (fr_alloc (fr_refl _) _)).grown hg6 (fun e => by have := own_ge HO5.out _ e; omega))
             have HBB6 := Lib.hid ((HBB5.out.fr (fr_alloc (fr_refl _) _)).grown hg6 (fun e => by have := own_ge HO5.out _ e; omega))
             have HO6 := Lib.hid hown6
             clear hown6 hg6
             have a0 := HBA6.out.at_ 0 (.string m)
             have a1 := HBA6.out.at_ 1 (.string tg)
             have a2 := HBA6.out.at_ 2 (.int .i64 minor)
             have a3 := HBA6.out.at_ 3 (.slice A fl c)
             have a4 := HBA6.out.at_ 4 (.string body)
             have b0 := HBB6.out.at_ 0 (.int .i64 st)
             have b1 := HBB6.out.at_ 1 (.string rs)
             have b2 := HBB6.out.at_ 2 (.slice A' l.length c')))
        have hLe : headL l false (bareB m st) false = (L5 ++ [connP false]) := by unfold headL; rw [← HL5.out]; simp
        have hown7 : w6.ownsRow (w.heap.size + 2) 47 2 v6 L5.length.succ (pcells (L5 ++ [connP false])) := by rw [pcells_snoc]; exact HO6.out
        obtain ⟨A7, c7, rfl, hn7, hp7⟩ := Pairs.own hown7
        have HP7 := Lib.hid hp7
        have HLE := Lib.hid hLe
        have hcs := conn_size false
        have htt : tot (L5 ++ [connP false]) ≤ 1152921504606847200 := by rw [tot_app]; omega
        have hlz := linesB_size (L5 ++ [connP false])
        have hlz2 : (linesB (L5 ++ [connP false])).size ≤ 1152921504606847200 := by rw [hlz]; exact htt
        clear hown7 hn7 hp7 hLe hlz
        refine (reply_line st rs _ h0 h1 (ht.fr hw6) (by omega)).mono ?_
        rintro e w8 ⟨rfl, hb8⟩
        have hw8 : Below w.heap.size w w8 := fr_trans hw6 hb8
        have HP8 := Lib.hid (HP7.out.fr hb8)
        clear a0 a1 a2 a3 a4 b0 b1 b2 hb8
        go_wp2_with fail
        refine (field_Lines_n A7 c7 _ (L5 ++ [connP false]) _ (by simp) (by simp; omega) HP8.out (by omega)).mono ?_
        rintro e w9 ⟨rfl, hb9⟩
        have hw9 : Below w.heap.size w w9 := fr_trans hw8 hb9
        clear hb9
        go_wp2
        go_ret
        refine ⟨?_, hw9⟩
        unfold headB; rw [HCH.out, HLE.out]; rfl
      · have a0 := HBA1.out.at_ 0 (.string m)
        have a1 := HBA1.out.at_ 1 (.string tg)
        have a2 := HBA1.out.at_ 2 (.int .i64 minor)
        have a3 := HBA1.out.at_ 3 (.slice A fl c)
        have a4 := HBA1.out.at_ 4 (.string body)
        have b0 := HBB1.out.at_ 0 (.int .i64 st)
        have b1 := HBB1.out.at_ 1 (.string rs)
        have b2 := HBB1.out.at_ 2 (.slice A' l.length c')
        go_wp2_with fail
        refine (reply_Chunked m tg minor A fl c body st rs A' l.length c' _).mono ?_
        rintro e w3 ⟨rfl, hb3⟩
        have hw3 : Below w.heap.size w w3 := fr_trans hw1 hb3
        have HO3 := Lib.hid (own_fr HO1.out hb3)
        have HBA3 := Lib.hid (HBA1.out.fr hb3)
        have HBB3 := Lib.hid (HBB1.out.fr hb3)
        have hsz3 : w.heap.size + 2 ≤ w3.heap.size := Nat.le_trans hsz1 hb3.size
        clear a0 a1 a2 a3 a4 b0 b1 b2 hb3
        have a0 := HBA3.out.at_ 0 (.string m)
        have a1 := HBA3.out.at_ 1 (.string tg)
        have a2 := HBA3.out.at_ 2 (.int .i64 minor)
        have a3 := HBA3.out.at_ 3 (.slice A fl c)
        have a4 := HBA3.out.at_ 4 (.string body)
        have b0 := HBB3.out.at_ 0 (.int .i64 st)
        have b1 := HBB3.out.at_ 1 (.string rs)
        have b2 := HBB3.out.at_ 2 (.slice A' l.length c')
        go_wp2_with fail
        refine (reply_Bare m st _).mono ?_
        rintro e w4 ⟨rfl, rfl⟩
        go_wp2_with fail
        refine (reply_connection (bareB m st) _).mono ?_
        rintro e w5 ⟨rfl, hb5⟩
        have hw5 : Below w.heap.size w w5 := fr_trans hw3 hb5
        have HO5 := Lib.hid (own_fr HO3.out hb5)
        have HBA5 := Lib.hid (HBA3.out.fr hb5)
        have HBB5 := Lib.hid (HBB3.out.fr hb5)
        have hsz5 : w.heap.size + 2 ≤ w5.heap.size := Nat.le_trans hsz3 hb5.size
        clear a0 a1 a2 a3 a4 b0 b1 b2 hb5
        unfold pairV
        go_wp2_with (first
          | (at_builtin
             refine wpList_append_own _ rfl (.tmp 27) (.tmp 42) _ rfl (w.heap.size + 2) 47 i0 _ 2 32 Tryd.underlying22 hi hz0 hz1 hz2 rfl (by decide) _ _ _ rfl (HO5.out.alloc _) ⟨w5.heap.size, 0, none⟩ 1 1 [.string (connP (bareB m st)).1, .string (connP (bareB m st)).2] rfl rfl (new_cells _ _ _) (pair_one _) (by simp only [maxLen]; omega) (by omega) (Nat.le_trans hsz5 (by simp)) ?_
             intro v6 w6 hown6 hg6 _
             have hw6 : Below w.heap.size w w6 := fr_grown (fr_alloc hw5 _) hg6 (fun k hk => Nat.le_trans (by omega) (own_ge HO5.out k hk))
             have HBA6 := Lib.hid ((HBA5.out.fr (fr_alloc (fr_refl _) _)).grown hg6 (fun e => by have := own_ge HO5.out _ e; omega))
             have HBB6 := Lib.hid ((HBB5.out.fr (fr_alloc (fr_refl _) _)).grown hg6 (fun e => by have := own_ge HO5.out _ e; omega))
             have HO6 := Lib.hid hown6
             clear hown6 hg6
             have a0 := HBA6.out.at_ 0 (.string m)
             have a1 := HBA6.out.at_ 1 (.string tg)
             have a2 := HBA6.out.at_ 2 (.int .i64 minor)
             have a3 := HBA6.out.at_ 3 (.slice A fl c)
             have a4 := HBA6.out.at_ 4 (.string body)
             have b0 := HBB6.out.at_ 0 (.int .i64 st)
             have b1 := HBB6.out.at_ 1 (.string rs)
             have b2 := HBB6.out.at_ 2 (.slice A' l.length c')))
        have hLe : headL l false (bareB m st) true = (L5 ++ [connP (bareB m st)]) := by unfold headL; rw [← HL5.out]; simp
        have hown7 : w6.ownsRow (w.heap.size + 2) 47 2 v6 L5.length.succ (pcells (L5 ++ [connP (bareB m st)])) := by rw [pcells_snoc]; exact HO6.out
        obtain ⟨A7, c7, rfl, hn7, hp7⟩ := Pairs.own hown7
        have HP7 := Lib.hid hp7
        have HLE := Lib.hid hLe
        have hcs := conn_size (bareB m st)
        have htt : tot (L5 ++ [connP (bareB m st)]) ≤ 1152921504606847200 := by rw [tot_app]; omega
        have hlz := linesB_size (L5 ++ [connP (bareB m st)])
        have hlz2 : (linesB (L5 ++ [connP (bareB m st)])).size ≤ 1152921504606847200 := by rw [hlz]; exact htt
        clear hown7 hn7 hp7 hLe hlz
        refine (reply_line st rs _ h0 h1 (ht.fr hw6) (by omega)).mono ?_
        rintro e w8 ⟨rfl, hb8⟩
        have hw8 : Below w.heap.size w w8 := fr_trans hw6 hb8
        have HP8 := Lib.hid (HP7.out.fr hb8)
        clear a0 a1 a2 a3 a4 b0 b1 b2 hb8
        go_wp2_with fail
        refine (field_Lines_n A7 c7 _ (L5 ++ [connP (bareB m st)]) _ (by simp) (by simp; omega) HP8.out (by omega)).mono ?_
        rintro e w9 ⟨rfl, hb9⟩
        have hw9 : Below w.heap.size w w9 := fr_trans hw8 hb9
        clear hb9
        go_wp2
        go_ret
        refine ⟨?_, hw9⟩
        unfold headB; rw [HCH.out, HLE.out]; rfl
      · go_wp2_with (first
          | (at_builtin
             refine wpList_append_own _ rfl (.tmp 23) (.tmp 25) _ rfl (w.heap.size + 2) 47 i0 _ 2 32 Tryd.underlying22 hi hz0 hz1 hz2 rfl (by decide) _ _ _ rfl (HO1.out.alloc _) ⟨w1.heap.size, 0, none⟩ 1 1 [.string teP.1, .string teP.2] rfl rfl (new_cells _ _ _) (pair_one _) (by simp only [maxLen]; omega) (by omega) (Nat.le_trans hsz1 (by simp)) ?_
             intro v2 w2 hown2 hg2 _
             have hw2 : Below w.heap.size w w2 := fr_grown (fr_alloc hw1 _) hg2 (fun k hk => Nat.le_trans (by omega) (own_ge HO1.out k hk))
             have HBA2 := Lib.hid ((HBA1.out.fr (fr_alloc (fr_refl _) _)).grown hg2 (fun e => by have := own_ge HO1.out _ e; omega))
             have HBB2 := Lib.hid ((HBB1.out.fr (fr_alloc (fr_refl _) _)).grown hg2 (fun e => by have := own_ge HO1.out _ e; omega))
             have hsz2 : w.heap.size + 2 ≤ w2.heap.size := Nat.le_trans hsz1 (Nat.le_trans (by simp) hg2.size)
             have HO2 := Lib.hid hown2
             clear hown2 hg2
             have a0 := HBA2.out.at_ 0 (.string m)
             have a1 := HBA2.out.at_ 1 (.string tg)
             have a2 := HBA2.out.at_ 2 (.int .i64 minor)
             have a3 := HBA2.out.at_ 3 (.slice A fl c)
             have a4 := HBA2.out.at_ 4 (.string body)
             have b0 := HBB2.out.at_ 0 (.int .i64 st)
             have b1 := HBB2.out.at_ 1 (.string rs)
             have b2 := HBB2.out.at_ 2 (.slice A' l.length c')))
        refine (reply_connection false _).mono ?_
        rintro e w5 ⟨rfl, hb5⟩
        have hw5 : Below w.heap.size w w5 := fr_trans hw2 hb5
        have HO5 := Lib.hid (own_fr HO2.out hb5)
        have HBA5 := Lib.hid (HBA2.out.fr hb5)
        have HBB5 := Lib.hid (HBB2.out.fr hb5)
        have hsz5 : w.heap.size + 2 ≤ w5.heap.size := Nat.le_trans hsz2 hb5.size
        clear a0 a1 a2 a3 a4 b0 b1 b2 hb5
        unfold pairV
        go_wp2_with (first
          | (at_builtin
             refine wpList_append_own _ rfl (.tmp 27) (.tmp 42) _ rfl (w.heap.size + 2) 47 i0 _ 2 32 Tryd.underlying22 hi hz0 hz1 hz2 rfl (by decide) _ _ _ rfl (HO5.out.alloc _) ⟨w5.heap.size, 0, none⟩ 1 1 [.string (connP false).1, .string (connP false).2] rfl rfl (new_cells _ _ _) (pair_one _) (by simp only [maxLen]; omega) (by omega) (Nat.le_trans hsz5 (by simp)) ?_
             intro v6 w6 hown6 hg6 _
             have hw6 : Below w.heap.size w w6 := fr_grown (fr_alloc hw5 _) hg6 (fun k hk => Nat.le_trans (by omega) (own_ge HO5.out k hk))
             have HBA6 := Lib.hid ((HBA5.out.fr (fr_alloc (fr_refl _) _)).grown hg6 (fun e => by have := own_ge HO5.out _ e; omega))
             have HBB6 := Lib.hid ((HBB5.out.fr (fr_alloc (fr_refl _) _)).grown hg6 (fun e => by have := own_ge HO5.out _ e; omega))
             have HO6 := Lib.hid hown6
             clear hown6 hg6
             have a0 := HBA6.out.at_ 0 (.string m)
             have a1 := HBA6.out.at_ 1 (.string tg)
             have a2 := HBA6.out.at_ 2 (.int .i64 minor)
             have a3 := HBA6.out.at_ 3 (.slice A fl c)
             have a4 := HBA6.out.at_ 4 (.string body)
             have b0 := HBB6.out.at_ 0 (.int .i64 st)
             have b1 := HBB6.out.at_ 1 (.string rs)
             have b2 := HBB6.out.at_ 2 (.slice A' l.length c')))
        have hLe : headL l true (bareB m st) false = (L5 ++ [teP, connP false]) := by unfold headL; rw [← HL5.out]; simp
        have hown7 : w6.ownsRow (w.heap.size + 2) 47 2 v6 (L5.length + 1).succ (pcells (L5 ++ [teP, connP false])) := by have e := HO6.out; rw [pcells_two]; exact e
        obtain ⟨A7, c7, rfl, hn7, hp7⟩ := Pairs.own hown7
        have HP7 := Lib.hid hp7
        have HLE := Lib.hid hLe
        have hcs := conn_size false
        have htt : tot (L5 ++ [teP, connP false]) ≤ 1152921504606847200 := by have hte : tot [teP] ≤ 40 := (by decide); rw [tot_cons, tot_nil] at hte hcs; rw [tot_app, tot_cons, tot_cons, tot_nil]; omega
        have hlz := linesB_size (L5 ++ [teP, connP false])
        have hlz2 : (linesB (L5 ++ [teP, connP false])).size ≤ 1152921504606847200 := by rw [hlz]; exact htt
        clear hown7 hn7 hp7 hLe hlz
        refine (reply_line st rs _ h0 h1 (ht.fr hw6) (by omega)).mono ?_
        rintro e w8 ⟨rfl, hb8⟩
        have hw8 : Below w.heap.size w w8 := fr_trans hw6 hb8
        have HP8 := Lib.hid (HP7.out.fr hb8)
        clear a0 a1 a2 a3 a4 b0 b1 b2 hb8
        go_wp2_with fail
        refine (field_Lines_n A7 c7 _ (L5 ++ [teP, connP false]) _ (by simp) (by simp; omega) HP8.out (by omega)).mono ?_
        rintro e w9 ⟨rfl, hb9⟩
        have hw9 : Below w.heap.size w w9 := fr_trans hw8 hb9
        clear hb9
        go_wp2
        go_ret
        refine ⟨?_, hw9⟩
        unfold headB; rw [HCH.out, HLE.out]; rfl
      · go_wp2_with (first
          | (at_builtin
             refine wpList_append_own _ rfl (.tmp 23) (.tmp 25) _ rfl (w.heap.size + 2) 47 i0 _ 2 32 Tryd.underlying22 hi hz0 hz1 hz2 rfl (by decide) _ _ _ rfl (HO1.out.alloc _) ⟨w1.heap.size, 0, none⟩ 1 1 [.string teP.1, .string teP.2] rfl rfl (new_cells _ _ _) (pair_one _) (by simp only [maxLen]; omega) (by omega) (Nat.le_trans hsz1 (by simp)) ?_
             intro v2 w2 hown2 hg2 _
             have hw2 : Below w.heap.size w w2 := fr_grown (fr_alloc hw1 _) hg2 (fun k hk => Nat.le_trans (by omega) (own_ge HO1.out k hk))
             have HBA2 := Lib.hid ((HBA1.out.fr (fr_alloc (fr_refl _) _)).grown hg2 (fun e => by have := own_ge HO1.out _ e; omega))
             have HBB2 := Lib.hid ((HBB1.out.fr (fr_alloc (fr_refl _) _)).grown hg2 (fun e => by have := own_ge HO1.out _ e; omega))
             have hsz2 : w.heap.size + 2 ≤ w2.heap.size := Nat.le_trans hsz1 (Nat.le_trans (by simp) hg2.size)
             have HO2 := Lib.hid hown2
             clear hown2 hg2
             have a0 := HBA2.out.at_ 0 (.string m)
             have a1 := HBA2.out.at_ 1 (.string tg)
             have a2 := HBA2.out.at_ 2 (.int .i64 minor)
             have a3 := HBA2.out.at_ 3 (.slice A fl c)
             have a4 := HBA2.out.at_ 4 (.string body)
             have b0 := HBB2.out.at_ 0 (.int .i64 st)
             have b1 := HBB2.out.at_ 1 (.string rs)
             have b2 := HBB2.out.at_ 2 (.slice A' l.length c')))
        refine (reply_Chunked m tg minor A fl c body st rs A' l.length c' _).mono ?_
        rintro e w3 ⟨rfl, hb3⟩
        have hw3 : Below w.heap.size w w3 := fr_trans hw2 hb3
        have HO3 := Lib.hid (own_fr HO2.out hb3)
        have HBA3 := Lib.hid (HBA2.out.fr hb3)
        have HBB3 := Lib.hid (HBB2.out.fr hb3)
        have hsz3 : w.heap.size + 2 ≤ w3.heap.size := Nat.le_trans hsz2 hb3.size
        clear a0 a1 a2 a3 a4 b0 b1 b2 hb3
        have a0 := HBA3.out.at_ 0 (.string m)
        have a1 := HBA3.out.at_ 1 (.string tg)
        have a2 := HBA3.out.at_ 2 (.int .i64 minor)
        have a3 := HBA3.out.at_ 3 (.slice A fl c)
        have a4 := HBA3.out.at_ 4 (.string body)
        have b0 := HBB3.out.at_ 0 (.int .i64 st)
        have b1 := HBB3.out.at_ 1 (.string rs)
        have b2 := HBB3.out.at_ 2 (.slice A' l.length c')
        go_wp2_with fail
        refine (reply_connection true _).mono ?_
        rintro e w5 ⟨rfl, hb5⟩
        have hw5 : Below w.heap.size w w5 := fr_trans hw3 hb5
        have HO5 := Lib.hid (own_fr HO3.out hb5)
        have HBA5 := Lib.hid (HBA3.out.fr hb5)
        have HBB5 := Lib.hid (HBB3.out.fr hb5)
        have hsz5 : w.heap.size + 2 ≤ w5.heap.size := Nat.le_trans hsz3 hb5.size
        clear a0 a1 a2 a3 a4 b0 b1 b2 hb5
        unfold pairV
        go_wp2_with (first
          | (at_builtin
             refine wpList_append_own _ rfl (.tmp 27) (.tmp 42) _ rfl (w.heap.size + 2) 47 i0 _ 2 32 Tryd.underlying22 hi hz0 hz1 hz2 rfl (by decide) _ _ _ rfl (HO5.out.alloc _) ⟨w5.heap.size, 0, none⟩ 1 1 [.string (connP true).1, .string (connP true).2] rfl rfl (new_cells _ _ _) (pair_one _) (by simp only [maxLen]; omega) (by omega) (Nat.le_trans hsz5 (by simp)) ?_
             intro v6 w6 hown6 hg6 _
             have hw6 : Below w.heap.size w w6 := fr_grown (fr_alloc hw5 _) hg6 (fun k hk => Nat.le_trans (by omega) (own_ge HO5.out k hk))
             have HBA6 := Lib.hid ((HBA5.out.fr (fr_alloc (fr_refl _) _)).grown hg6 (fun e => by have := own_ge HO5.out _ e; omega))
             have HBB6 := Lib.hid ((HBB5.out.fr (fr_alloc (fr_refl _) _)).grown hg6 (fun e => by have := own_ge HO5.out _ e; omega))
             have HO6 := Lib.hid hown6
             clear hown6 hg6
             have a0 := HBA6.out.at_ 0 (.string m)
             have a1 := HBA6.out.at_ 1 (.string tg)
             have a2 := HBA6.out.at_ 2 (.int .i64 minor)
             have a3 := HBA6.out.at_ 3 (.slice A fl c)
             have a4 := HBA6.out.at_ 4 (.string body)
             have b0 := HBB6.out.at_ 0 (.int .i64 st)
             have b1 := HBB6.out.at_ 1 (.string rs)
             have b2 := HBB6.out.at_ 2 (.slice A' l.length c')))
        have hLe : headL l true (bareB m st) true = (L5 ++ [teP, connP true]) := by unfold headL; rw [← HL5.out]; simp
        have hown7 : w6.ownsRow (w.heap.size + 2) 47 2 v6 (L5.length + 1).succ (pcells (L5 ++ [teP, connP true])) := by have e := HO6.out; rw [pcells_two]; exact e
        obtain ⟨A7, c7, rfl, hn7, hp7⟩ := Pairs.own hown7
        have HP7 := Lib.hid hp7
        have HLE := Lib.hid hLe
        have hcs := conn_size true
        have htt : tot (L5 ++ [teP, connP true]) ≤ 1152921504606847200 := by have hte : tot [teP] ≤ 40 := (by decide); rw [tot_cons, tot_nil] at hte hcs; rw [tot_app, tot_cons, tot_cons, tot_nil]; omega
        have hlz := linesB_size (L5 ++ [teP, connP true])
        have hlz2 : (linesB (L5 ++ [teP, connP true])).size ≤ 1152921504606847200 := by rw [hlz]; exact htt
        clear hown7 hn7 hp7 hLe hlz
        refine (reply_line st rs _ h0 h1 (ht.fr hw6) (by omega)).mono ?_
        rintro e w8 ⟨rfl, hb8⟩
        have hw8 : Below w.heap.size w w8 := fr_trans hw6 hb8
        have HP8 := Lib.hid (HP7.out.fr hb8)
        clear a0 a1 a2 a3 a4 b0 b1 b2 hb8
        go_wp2_with fail
        refine (field_Lines_n A7 c7 _ (L5 ++ [teP, connP true]) _ (by simp) (by simp; omega) HP8.out (by omega)).mono ?_
        rintro e w9 ⟨rfl, hb9⟩
        have hw9 : Below w.heap.size w w9 := fr_trans hw8 hb9
        clear hb9
        go_wp2
        go_ret
        refine ⟨?_, hw9⟩
        unfold headB; rw [HCH.out, HLE.out]; rfl
end Go.Proofs.YtkodkojbeehhjaaDoor
