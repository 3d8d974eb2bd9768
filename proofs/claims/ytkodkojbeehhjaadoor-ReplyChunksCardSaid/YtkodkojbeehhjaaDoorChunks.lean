/- conduitref6.Chunks: the document's machine for chunks: line, byte, Feed: what they answer and what they leave. -/
import Derived.Test.YtkodkojbeehhjaaDoorSplit
import Derived.Test.YtkodkojbeehhjaaDoorRefHex
import Derived.Deep.RegionLaw
import Derived.Deep.DrawnRows
namespace Go.Proofs.YtkodkojbeehhjaaDoor
open Go.RowKit
attribute [local go_sem ↓] Go.wp_at_zero Go.wp_at_succ

structure CS where
  most : Int
  state : Int
  line : ByteArray
  cr : Bool
  left : Int
  extra : Int
  b : ByteArray
  dead : Bool
  big : Bool
def CS.cells (t : CS) : Array Value := #[.int .i64 t.most, .int .i64 t.state, .string t.line, .bool t.cr, .int .i64 t.left, .int .i64 t.extra, .string t.b, .bool t.dead, .bool t.big]
theorem Blk.to {w : World} {g : Nat} {t : TypeId} {cs cs' : Array Value} (h : Blk w g t cs) (e : cs = cs') : Blk w g t cs' := e ▸ h
def headP (l : ByteArray) : ByteArray := (splitL l 59).headD ⟨#[]⟩
def lineS (t : CS) (l : ByteArray) : CS × Int :=
  if t.state = 2 then ({ t with state := 0 }, 0)
  else if t.state = 3 then (if l.toList.isEmpty then { t with state := 4 } else t, 0)
  else match hexV (headP l) with
    | none => (t, 10)
    | some n => if t.most < (t.b.size : Int) + n then ({ t with big := true }, 12) else ({ t with left := n, state := if n = 0 then 3 else 1 }, 0)
theorem hexFold_lt (l : List UInt8) : ∀ a n, hexFold l a = some n → n < (a + 1) * 16 ^ l.length := by
  induction l with
  | nil => intro a n h; injection h with h; subst h; simp
  | cons c l ih =>
    intro a n h
    unfold hexFold at h
    split at h
    · cases h
    · have h1 := ih _ _ h
      have h2 := nib_le c
      have h3 : a * 16 + (nib c).toNat + 1 ≤ (a + 1) * 16 := by omega
      have h4 := Nat.mul_le_mul_right (16 ^ l.length) h3
      rw [List.length_cons, Nat.pow_succ, Nat.mul_comm (16 ^ l.length) 16, ← Nat.mul_assoc]
      omega
theorem hexV_lt (s : ByteArray) (n : Nat) (h : hexV s = some n) : n < 268435456 := by
  unfold hexV at h
  split at h
  · cases h
  · rename_i h7
    have h1 := hexFold_lt _ _ _ h
    have h2 : (16 : Nat) ^ s.data.toList.length ≤ 16 ^ 7 := Nat.pow_le_pow_right (by decide) (by have : s.data.toList.length = s.size := rfl; omega)
    omega

set_option maxHeartbeats 2000000 in
theorem chunks_line (g : Nat) (t : CS) (l : ByteArray) (w : World) (hB : Blk w g 40 t.cells) (hl : l.size ≤ 1000000000) (hbs : t.b.size ≤ 1000000000000) :
    Calls Tryd.prog 44 #[.pointer (some ⟨g, 0, none⟩), .string l] w fun e w' => e = .returned (.int .i64 (lineS t l).2) ∧ Blk w' g 40 (lineS t l).1.cells ∧ w.grownBy w' (some g) := by
  obtain ⟨most, state, line, cr, left, extra, b, dead, big⟩ := t
  have c0 : w.cell? ⟨g, 0, none⟩ = some (.int .i64 most) := hB.cell 0
  have c1 : w.cell? ⟨g, 1, none⟩ = some (.int .i64 state) := hB.cell 1
  have f1 : w.frozen? ⟨g, 1, none⟩ = false := hB.frozen 1
  have HB := Lib.hid hB; clear hB
  simp only at hbs
  by_cases h2 : state = 2
  · subst h2
    have e : lineS ⟨most, 2, line, cr, left, extra, b, dead, big⟩ l = (⟨most, 0, line, cr, left, extra, b, dead, big⟩, 0) := by unfold lineS; rw [if_pos rfl]
    rw [e]
    go_enter Tryd.func44, Tryd.ntmps44
    go_wp2
    go_ret
    exact ⟨rfl, HB.out.set_ 1 _, only_set (only_refl _ _) _ _⟩
  · have hn2 : (state == 2) = false := by simpa using h2
    by_cases h3 : state = 3
    · subst h3
      cases hq : l.toList.isEmpty
      · have e : lineS ⟨most, 3, line, cr, left, extra, b, dead, big⟩ l = (⟨most, 3, line, cr, left, extra, b, dead, big⟩, 0) := by unfold lineS; rw [if_neg (by omega), if_pos rfl, hq]; rfl
        rw [e]
        go_enter Tryd.func44, Tryd.ntmps44
        go_wp2
        all_goals (go_ret; exact ⟨rfl, HB.out, only_refl _ _⟩)
      · have e : lineS ⟨most, 3, line, cr, left, extra, b, dead, big⟩ l = (⟨most, 4, line, cr, left, extra, b, dead, big⟩, 0) := by unfold lineS; rw [if_neg (by omega), if_pos rfl, hq]; rfl
        rw [e]
        go_enter Tryd.func44, Tryd.ntmps44
        go_wp2
        all_goals (go_ret; exact ⟨rfl, HB.out.set_ 1 _, only_set (only_refl _ _) _ _⟩)
    · have hn3 : (state == 3) = false := by simpa using h3
      have e0 : lineS ⟨most, state, line, cr, left, extra, b, dead, big⟩ l = match hexV (headP l) with
        | none => (⟨most, state, line, cr, left, extra, b, dead, big⟩, 10)
        | some n => if most < (b.size : Int) + n then (⟨most, state, line, cr, left, extra, b, dead, true⟩, 12) else (⟨most, if n = 0 then 3 else 1, line, cr, n, extra, b, dead, big⟩, 0) := by
        unfold lineS; rw [if_neg (by simpa using h2), if_neg (by simpa using h3)]
      have hsp := splitL_pos l 59
      go_enter Tryd.func44, Tryd.ntmps44
      go_wp2_with fail
      refine (ref6_split l 59 _ hl).mono ?_
      rintro e w1 ⟨⟨v, rfl, hown⟩, hb1⟩
      obtain ⟨A, cp, rfl, hn, hst, _⟩ := Strs.own hown
      obtain ⟨bb, off, rfl, hlt, hc⟩ := hst.at_ hsp
      have hhd : (splitL l 59)[0] = headP l := by unfold headP; rw [List.headD_eq_head?_getD, List.head?_eq_getElem?, List.getElem?_eq_getElem hsp]; rfl
      rw [hhd] at hc
      obtain ⟨n, hnn⟩ : ∃ n, n = (splitL l 59).length := ⟨_, rfl⟩
      rw [← hnn] at hsp ⊢
      have hc' : w1.cell? ⟨bb, off, none⟩ = some (.string (headP l)) := hc
      have hsp0 : (0 : Int) < (n : Int) := by omega
      have HB1 := Lib.hid (HB.out.fr hb1)
      have ho1 := only_fr (only_refl w (some g)) hb1
      have d0 : w1.cell? ⟨g, 0, none⟩ = some (.int .i64 most) := HB1.out.cell 0
      have d1 : w1.cell? ⟨g, 1, none⟩ = some (.int .i64 state) := HB1.out.cell 1
      have d4 : w1.cell? ⟨g, 4, none⟩ = some (.int .i64 left) := HB1.out.cell 4
      have d6 : w1.cell? ⟨g, 6, none⟩ = some (.string b) := HB1.out.cell 6
      have d8 : w1.cell? ⟨g, 8, none⟩ = some (.bool big) := HB1.out.cell 8
      have g1 : w1.frozen? ⟨g, 1, none⟩ = false := HB1.out.frozen 1
      have g4 : w1.frozen? ⟨g, 4, none⟩ = false := HB1.out.frozen 4
      have g8 : w1.frozen? ⟨g, 8, none⟩ = false := HB1.out.frozen 8
      clear hown hst hc hhd hnn hb1 hn c0 c1 f1 hlt
      obtain ⟨hp, hhp⟩ : ∃ hp, hp = headP l := ⟨_, rfl⟩
      rw [← hhp] at hc' e0
      have E0 := Lib.hid e0; clear e0 hhp
      go_wp2_with fail
      refine (ref1_Hex hp _).mono ?_
      rintro e w2 ⟨rfl, rfl⟩
      cases hv : hexV hp with
      | none =>
        have HV := Lib.hid hv; clear hv
        unfold hexR
        go_wp2
        go_ret
        have e := E0.out
        rw [HV.out] at e
        rw [e]
        exact ⟨rfl, HB1.out, ho1⟩
      | some m =>
        have hm := hexV_lt _ _ hv
        have HV := Lib.hid hv; clear hv
        unfold hexR
        have ew : wrap64 ((b.size : Int) + (m : Int)) = (b.size : Int) + (m : Int) := IntWalk.wrap64_in _ (by omega)
        clear hm
        by_cases hbig : most < (b.size : Int) + m
        · have e := E0.out
          rw [HV.out] at e
          simp only [if_pos hbig] at e
          have E := Lib.hid e; clear e
          go_wp2
          go_region
          go_wp2
          go_ret
          rw [E.out]
          exact ⟨rfl, HB1.out.set_ 8 _, only_drew (only_set ho1 _ _)⟩
        · by_cases hm0 : m = 0
          · have e := E0.out
            rw [HV.out] at e
            simp only [if_neg hbig, if_pos hm0] at e
            have E := Lib.hid e; clear e
            have hm1 : ((m : Int) == 0) = true := by simp [hm0]
            have HM := Lib.hid hm0; clear hm0
            go_wp2
            go_region
            go_wp2
            go_ret
            rw [E.out]
            exact ⟨rfl, ((HB1.out.set_ 4 _).set_ 1 _).set_ 1 _, only_drew (only_set (only_set (only_set ho1 _ _) _ _) _ _)⟩
          · have e := E0.out
            rw [HV.out] at e
            simp only [if_neg hbig, if_neg hm0] at e
            have E := Lib.hid e; clear e
            have hm1 : ((m : Int) == 0) = false := by simp; omega
            go_wp2
            go_region
            go_wp2
            go_ret
            rw [E.out]
            exact ⟨rfl, (HB1.out.set_ 4 _).set_ 1 _, only_drew (only_set (only_set ho1 _ _) _ _)⟩
end Go.Proofs.YtkodkojbeehhjaaDoor
