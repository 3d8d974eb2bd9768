/- route.ext: what it answers. -/
import Derived.Test.YthjnmcciejfpcaaDoorRoute
namespace Go.Proofs.YthjnmcciejfpcaaDoor
set_option linter.unusedVariables false
set_option linter.unusedSimpArgs false
open Go.RowKit

def extAt (e p : ByteArray) (a : Nat) : Option Nat := if a < p.size then extGo (L e) a (cutC 47 ((L p).drop (a + 1))) else none
theorem extS_at (e p : ByteArray) : extS e p = extAt e p 0 := by
  unfold extS extAt
  by_cases h : p.size = 0
  · rw [if_pos h, if_neg (by omega)]
  · rw [if_neg h, if_pos (by omega)]
def extB (e p : ByteArray) (a z : Nat) : Bool := decide (e.size < (p.extract (a + 1) z).size) && Lib.hasSuffix (L (p.extract (a + 1) z)) (L e)
theorem extAt_last {e p : ByteArray} {a : Nat} (h : a < p.size) (hi : Lib.indexByte (L (p.extract (a + 1) p.size)) 47 = -1) : extAt e p a = if extB e p a p.size then some p.size else extAt e p p.size := by
  have hl : L (p.extract (a + 1) p.size) = (L p).drop (a + 1) := L_end p _
  have hn : (47 : UInt8) ∉ (L p).drop (a + 1) := by
    intro hm
    obtain ⟨q, r, hq, e1⟩ := split_at hm
    rw [hl, e1, idx_yes hq] at hi; omega
  have hz : (p.extract (a + 1) p.size).size = ((L p).drop (a + 1)).length := by rw [← hl]; rfl
  have hend : a + 1 + ((L p).drop (a + 1)).length = p.size := by rw [List.length_drop, L_len]; omega
  unfold extAt extB
  rw [if_pos h, cutC_none hn, if_neg (Nat.lt_irrefl _), hz, hl]
  show (if _ then some (a + 1 + ((L p).drop (a + 1)).length) else none) = _
  rw [hend]; rfl
theorem extAt_next {e p : ByteArray} {a j : Nat} (h : a < p.size) (hi : Lib.indexByte (L (p.extract (a + 1) p.size)) 47 = (j : Int)) :
    j + (a + 1) < p.size ∧ extAt e p a = if extB e p a (j + (a + 1)) then some (j + (a + 1)) else extAt e p (j + (a + 1)) := by
  have hl : L (p.extract (a + 1) p.size) = (L p).drop (a + 1) := L_end p _
  have hm : (47 : UInt8) ∈ (L p).drop (a + 1) := by
    apply Decidable.byContradiction
    intro hm
    rw [hl, idx_no hm] at hi; omega
  obtain ⟨q, r, hq, e1⟩ := split_at hm
  rw [hl, e1, idx_yes hq] at hi
  have hj : q.length = j := by omega
  have hlen : ((L p).drop (a + 1)).length = p.size - (a + 1) := by rw [List.length_drop, L_len]
  rw [e1] at hlen
  simp only [List.length_append, List.length_cons] at hlen
  have hlt : j + (a + 1) < p.size := by omega
  have hdr : (L p).drop (j + (a + 1) + 1) = r := by
    rw [show j + (a + 1) + 1 = (a + 1) + (q.length + 1) by omega, ← List.drop_drop, e1, ← List.drop_drop, List.drop_left]; rfl
  have hx : L (p.extract (a + 1) (j + (a + 1))) = q := by
    rw [L_ext, List.drop_take, e1, show j + (a + 1) - (a + 1) = q.length by omega, List.take_left]
  have hxs : (p.extract (a + 1) (j + (a + 1))).size = q.length := by rw [← hx]; rfl
  refine ⟨hlt, ?_⟩
  unfold extAt extB
  rw [if_pos h, if_pos hlt, e1, cutC_at hq, hdr, hxs, hx]
  show (if _ then some (a + 1 + q.length) else extGo (L e) (a + 1 + q.length) (cutC 47 r)) = _
  rw [show a + 1 + q.length = j + (a + 1) by omega]; rfl

set_option maxHeartbeats 4000000 in
theorem route_ext (k0 : Int) (h0 rp : ByteArray) (b0 : Int) (wA : Option Addr) (wn wc : Nat) (p : ByteArray) (w : World) (hrp : rp.size ≤ 1000000000) (hp : p.size ≤ 1000000000) :
    Calls Tryd.prog 24 #[.agg #[.int .i64 k0, .string h0, .string rp, .int .i64 b0, .slice wA wn wc], .string p] w
      (MatchEnd w ((extS rp p).map fun z => (p.extract 0 z, p.extract z p.size, []))) := by
  have hbR := Box.new w [.int .i64 k0, .string h0, .string rp, .int .i64 b0, .slice wA wn wc] 36
  have hbT := Blk.newAt (w := w.alloc (.cells #[.int .i64 k0, .string h0, .string rp, .int .i64 b0, .slice wA wn wc] 36)) (g := w.heap.size + 1) (by simp) 29 routeZ
  have HR := Lib.hid (hbR.fr (fr_alloc (fr_refl _) (.cells routeZ 29)))
  have HT := Lib.hid hbT
  have hw0 : Below w.heap.size w ((w.alloc (.cells #[.int .i64 k0, .string h0, .string rp, .int .i64 b0, .slice wA wn wc] 36)).alloc (.cells routeZ 29)) := fr_alloc (fr_alloc (fr_refl _) _) _
  clear hbR hbT
  have HX := Lib.hid (extS_at rp p)
  go_enter Tryd.func24, Tryd.ntmps24
  go_wp2
  go_loop [6] (fun i => ∃ a : Nat, a ≤ p.size ∧ i = .int .i64 a ∧ extS rp p = extAt rp p a) (fun i => p.size - (intOf i).toNat)
  case atStart => exact ⟨0, Nat.zero_le _, rfl, HX.out⟩
  case round =>
    obtain ⟨a, ha, rfl, hinv⟩ := hrel
    by_cases hlt : a < p.size
    · obtain ⟨ix, hix⟩ : ∃ ix, Lib.indexByte (L (p.extract (a + 1) p.size)) 47 = ix := ⟨_, rfl⟩
      have hge := Lib.indexByte_ge (L (p.extract (a + 1) p.size)) 47
      rw [hix] at hge
      have HI := Lib.hid hinv; clear hinv
      go_wp2_with fail
      refine (lib_IndexByte (p.extract (a + 1) p.size) 47 _).mono ?_
      rintro e w1 ⟨rfl, rfl⟩
      rw [hix]
      have hz : ∃ z : Nat, a < z ∧ z ≤ p.size ∧ ((ix = -1 ∧ z = p.size) ∨ (∃ j : Nat, ix = j ∧ z = j + (a + 1))) ∧ extAt rp p a = if extB rp p a z then some z else extAt rp p z := by
        by_cases hm1 : ix = -1
        · subst hm1; exact ⟨p.size, hlt, Nat.le_refl _, .inl ⟨rfl, rfl⟩, extAt_last hlt hix⟩
        · obtain ⟨j, rfl⟩ : ∃ j : Nat, ix = (j : Int) := ⟨ix.toNat, by omega⟩
          have h2 := extAt_next (e := rp) hlt hix
          exact ⟨j + (a + 1), by omega, by omega, .inr ⟨j, rfl, rfl⟩, h2.2⟩
      obtain ⟨z, hz1, hz2, hz3, hst⟩ := hz
      obtain ⟨b, hb⟩ : ∃ b, extB rp p a z = b := ⟨_, rfl⟩
      rw [hb] at hst
      have HS := Lib.hid hst; clear hst hix
      unfold extB at hb
      obtain ⟨s, hs⟩ : ∃ s, p.extract (a + 1) z = s := ⟨_, rfl⟩
      have hsz : s.size ≤ p.size := by rw [← hs, ByteArray.size_extract]; omega
      rw [hs] at hb
      have HSS := Lib.hid hs; clear hs
      cases hgt : decide (rp.size < s.size)
      · rw [hgt] at hb
        simp only [Bool.false_and] at hb
        subst hb
        have hgt' : ¬ (rp.size : Int) < (s.size : Int) := by simpa using hgt
        have hd' : decide ((rp.size : Int) < (s.size : Int)) = false := by simpa using hgt'
        clear hgt
        rcases hz3 with ⟨rfl, rfl⟩ | ⟨j, rfl, rfl⟩
        all_goals
          have hs := HSS.out
          go_wp2_with fail
          go_round
          case measure => simp [intOf]; omega
          case rel => exact ⟨_, hz2, by go_num, by rw [HI.out, HS.out]; rfl⟩
      · rw [hgt] at hb
        simp only [Bool.true_and] at hb
        have hgt' : (rp.size : Int) < (s.size : Int) := by have := of_decide_eq_true hgt; omega
        clear hgt
        have HSB := Lib.hid hb
        cases b
        · rcases hz3 with ⟨rfl, rfl⟩ | ⟨j, rfl, rfl⟩
          all_goals
            have hs := HSS.out
            go_wp2_with fail
            refine (lib_HasSuffix s rp _ (by omega)).mono ?_
            rintro e w1 ⟨rfl, rfl⟩
            rw [HSB.out]
            go_wp2_with fail
            go_round
            case measure => simp [intOf]; omega
            case rel => exact ⟨_, hz2, by go_num, by rw [HI.out, HS.out]; rfl⟩
        · rcases hz3 with ⟨rfl, rfl⟩ | ⟨j, rfl, rfl⟩
          all_goals
            have hs := HSS.out
            go_wp2_with fail
            refine (lib_HasSuffix s rp _ (by omega)).mono ?_
            rintro e w1 ⟨rfl, rfl⟩
            rw [HSB.out]
            go_wp2_with fail
            go_region
            go_wp2_with fail
            refine bodyPost_ret (res_route (g := w.heap.size + 1) Tryd.results24 rfl (Blk.newAt (w := w.alloc (.cells #[.int .i64 k0, .string h0, .string rp, .int .i64 b0, .slice wA wn wc] 36)) (g := w.heap.size + 1) (by simp) 29 _).drew) rfl (MatchEnd.some_ (l := []) ?_ rfl (FPairs.nil _ _ _) ?_)
            · rw [HI.out, HS.out]; simp
            · exact fr_drew (fr_alloc (fr_alloc (fr_refl _) _) _)
    · obtain rfl : a = p.size := by omega
      have HI := Lib.hid hinv; clear hinv
      go_wp2_with fail
      refine bodyPost_ret (res_route (g := w.heap.size + 1) (v0 := .int .i64 0) (v1 := .string ⟨#[]⟩) (v2 := .string ⟨#[]⟩) (v3 := .slice none 0 0) Tryd.results24 rfl (Blk.newAt (w := w.alloc (.cells #[.int .i64 k0, .string h0, .string rp, .int .i64 b0, .slice wA wn wc] 36)) (g := w.heap.size + 1) (by simp) 29 _)) rfl (MatchEnd.none_ ?_ ?_)
      · rw [HI.out]; unfold extAt; rw [if_neg (Nat.lt_irrefl _)]; rfl
      · exact hw0
end Go.Proofs.YthjnmcciejfpcaaDoor
