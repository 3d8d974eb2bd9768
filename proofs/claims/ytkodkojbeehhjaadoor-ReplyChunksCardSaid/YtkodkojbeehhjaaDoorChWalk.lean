/- conduitlaw10.ReplyChunks: the walk. -/
import Derived.Test.YtkodkojbeehhjaaDoorKnown
import Derived.Test.YtkodkojbeehhjaaDoorChunkLaw
import Derived.Deep.RegionHeld3
namespace Go.Proofs.YtkodkojbeehhjaaDoor
open Go.RowKit
attribute [local go_sem ↓] Go.wp_at_zero Go.wp_at_succ

def partsB (st : Int) (l : List ByteArray) : ByteArray := l.foldl (fun a s => a ++ partB ⟨#[71, 69, 84]⟩ 1 st s) ⟨#[]⟩
theorem partsB_snoc (st : Int) (l : List ByteArray) (s : ByteArray) : partsB st (l ++ [s]) = partsB st l ++ partB ⟨#[71, 69, 84]⟩ 1 st s := by simp [partsB]
def emptyI (st : Int) : Bool := st == 204 || st == 304
theorem bare_get (st : Int) (h0 : 200 ≤ st) : bareB ⟨#[71, 69, 84]⟩ st = emptyI st := by
  have h : eqB ⟨#[71, 69, 84]⟩ ⟨#[72, 69, 65, 68]⟩ = false := by decide +kernel
  unfold bareB isEmptyB emptyI
  rw [h, Bool.false_or]
theorem ch_get (st : Int) (h0 : 200 ≤ st) : chunkedB ⟨#[71, 69, 84]⟩ 1 st = !emptyI st := by unfold chunkedB; rw [bare_get st h0]; rfl
theorem parts_wraps (st : Int) (h0 : 200 ≤ st) (he : emptyI st = false) (l : List ByteArray) : partsB st l = wraps l := by
  refine list_snoc_ind (p := fun l => partsB st l = wraps l) rfl (fun l a ih => ?_) l
  rw [partsB_snoc, wraps_snoc, ih]; unfold partB; rw [ch_get st h0, he]; rfl
theorem parts_none (st : Int) (h0 : 200 ≤ st) (he : emptyI st = true) (l : List ByteArray) : partsB st l = ⟨#[]⟩ := by
  refine list_snoc_ind (p := fun l => partsB st l = ⟨#[]⟩) rfl (fun l a ih => ?_) l
  rw [partsB_snoc, ih]; unfold partB; rw [ch_get st h0, he, bare_get st h0, he]; rfl
theorem part_size (st : Int) (s : ByteArray) (hs : s.size ≤ 300) : (partB ⟨#[71, 69, 84]⟩ 1 st s).size ≤ 320 := by
  unfold partB
  split
  · unfold wrapB
    split
    · exact Nat.zero_le _
    · have := hexB_size s.size (by omega)
      simp only [size_app]
      have e : (⟨#[13, 10]⟩ : ByteArray).size = 2 := rfl
      omega
  · split
    · exact Nat.zero_le _
    · omega
theorem parts_size (st : Int) (l : List ByteArray) : (∀ s ∈ l, s.size ≤ 300) → (partsB st l).size ≤ l.length * 320 := by
  refine list_snoc_ind (p := fun l => (∀ s ∈ l, s.size ≤ 300) → (partsB st l).size ≤ l.length * 320) (fun _ => Nat.le_refl _) (fun l a ih h => ?_) l
  have h1 := ih (fun s hs => h s (by simp [hs]))
  have h2 := part_size st a (h a (by simp))
  rw [partsB_snoc, size_app, List.length_append]; simp only [List.length_cons, List.length_nil]; omega
theorem cat_size (l : List ByteArray) : (∀ s ∈ l, s.size ≤ 300) → (cat l).size ≤ l.length * 300 := by
  refine list_snoc_ind (p := fun l => (∀ s ∈ l, s.size ≤ 300) → (cat l).size ≤ l.length * 300) (fun _ => Nat.le_refl _) (fun l a ih h => ?_) l
  have h1 := ih (fun s hs => h s (by simp [hs]))
  have h2 := h a (by simp)
  rw [cat_snoc, size_app, List.length_append]; simp only [List.length_cons, List.length_nil]; omega

theorem cells_ch {w' : World} {g g' : Nat} {a0 a1 a2 a3 a4 b0 b1 b2 : Value} (h : Box w' g [a0, a1, a2, a3, a4]) (k : Box w' g' [b0, b1, b2]) :
    w'.cell? ⟨g, 0, none⟩ = some a0 ∧ w'.cell? ⟨g, 1, none⟩ = some a1 ∧ w'.cell? ⟨g, 2, none⟩ = some a2 ∧ w'.cell? ⟨g, 3, none⟩ = some a3 ∧ w'.cell? ⟨g, 4, none⟩ = some a4 ∧
    w'.cell? ⟨g', 0, none⟩ = some b0 ∧ w'.cell? ⟨g', 1, none⟩ = some b1 ∧ w'.cell? ⟨g', 2, none⟩ = some b2 :=
  ⟨h.at_ 0 _, h.at_ 1 _, h.at_ 2 _, h.at_ 3 _, h.at_ 4 _, k.at_ 0 _, k.at_ 1 _, k.at_ 2 _⟩

set_option maxHeartbeats 4000000 in
theorem law10_chunks (A : Option Addr) (cp : Nat) (l : List ByteArray) (x : Int) (w : World) (hx0 : 0 ≤ x) (hx1 : x ≤ 65535) (ht : Tab w) (hz : TabZ w) (hst : Strs w A l) (hlen : l.length ≤ 10) :
    Calls Tryd.prog 4 #[.slice A l.length cp, .int .u16 x] w fun e w' => e = .returned (.bool true) ∧ Below w.heap.size w w' := by
  go_enter Tryd.func4, Tryd.ntmps4
  go_wp2_with fail
  refine (law10_known _ ht hz).mono ?_
  rintro e w1 ⟨rfl, hb1⟩
  have hw1 : Below w.heap.size w w1 := fr_trans (fr_refl _) hb1
  obtain ⟨r, hr⟩ : ∃ r : Nat, x % 300 = (r : Int) := ⟨(x % 300).toNat, by omega⟩
  have hr3 : r < 300 := by omega
  have HT := Lib.hid ht; have HZ := Lib.hid hz; have HS := Lib.hid (hst.fr hb1)
  clear hb1 ht hz hst
  go_wp2
  generalize hse : (200 : Int) + (r : Int) = st
  have hst0 : 200 ≤ st := by omega
  have hst1 : st < 500 := by omega
  have HA1 := Lib.hid ((Box.new w1 [.string ⟨#[71, 69, 84]⟩, .string ⟨#[]⟩, .int .i64 1, .slice none 0 0, .string ⟨#[]⟩] 24).fr (fr_alloc (fr_refl _) (.cells #[.int .i64 st, .string ⟨#[120]⟩, .slice none 0 0] 26)))
  have HB1 := Lib.hid (Box.newAt (w := w1.alloc (.cells #[.string ⟨#[71, 69, 84]⟩, .string ⟨#[]⟩, .int .i64 1, .slice none 0 0, .string ⟨#[]⟩] 24)) (g := w1.heap.size + 1) (by simp) [.int .i64 st, .string ⟨#[120]⟩, .slice none 0 0] 26)
  have HSR := Lib.hid (hse); clear hse hr hr3
  have hw2 := fr_alloc (fr_alloc hw1 (.cells #[.string ⟨#[71, 69, 84]⟩, .string ⟨#[]⟩, .int .i64 1, .slice none 0 0, .string ⟨#[]⟩] 24)) (.cells #[.int .i64 st, .string ⟨#[120]⟩, .slice none 0 0] 26)
  have HS2 := Lib.hid (HS.out.fr (fr_alloc (fr_alloc (fr_refl _) (.cells #[.string ⟨#[71, 69, 84]⟩, .string ⟨#[]⟩, .int .i64 1, .slice none 0 0, .string ⟨#[]⟩] 24)) (.cells #[.int .i64 st, .string ⟨#[120]⟩, .slice none 0 0] 26)))
  go_loopw [7, 8, 9] (fun s wt i wr => ∃ k : Nat, k ≤ l.length ∧ i = .int .i64 k ∧ s = .string (partsB st (l.take k)) ∧ wt = .string (cat (l.take k)) ∧ (∀ a ∈ l.take k, a.size ≤ 300) ∧ Below w.heap.size w wr ∧ Strs wr A l ∧
      Box wr w1.heap.size [.string ⟨#[71, 69, 84]⟩, .string ⟨#[]⟩, .int .i64 1, .slice none 0 0, .string ⟨#[]⟩] ∧ Box wr (w1.heap.size + 1) [.int .i64 st, .string ⟨#[120]⟩, .slice none 0 0]) (fun _ _ i _ => l.length - (intOf i).toNat)
  case atStart => exact ⟨0, Nat.zero_le _, rfl, rfl, rfl, fun a h => (by simp at h), hw2, HS2.out, HA1.out, HB1.out⟩
  case round =>
    obtain ⟨k, hk, rfl, rfl, rfl, hsm, hb, hst, hba, hbb⟩ := hrel
    by_cases hlt : k < l.length
    · obtain ⟨b, off, rfl, hbl, hc⟩ := hst.at_ hlt
      have htk := take_succ' l k hlt
      have hz1 := parts_size st (l.take k) hsm
      have hz2 := cat_size (l.take k) hsm
      have hlk : (l.take k).length ≤ k := List.length_take_le _ _
      have hz1' : (partsB st (l.take k)).size ≤ 100000000 := by omega
      have hz2' : (cat (l.take k)).size ≤ 100000000 := by omega
      clear hz1 hz2 hlk
      obtain ⟨P, hP⟩ : ∃ P, P = partsB st (l.take k) := ⟨_, rfl⟩
      obtain ⟨C, hC⟩ : ∃ C, C = cat (l.take k) := ⟨_, rfl⟩
      obtain ⟨a, ha⟩ : ∃ a, a = l[k] := ⟨_, rfl⟩
      rw [← ha] at hc htk
      rw [← hP] at hz1' ⊢
      rw [← hC] at hz2' ⊢
      have HP := Lib.hid hP; have HC := Lib.hid hC; have HTK := Lib.hid htk; have HSM := Lib.hid hsm
      have HST := Lib.hid hst; have HBA := Lib.hid hba; have HBB := Lib.hid hbb
      clear hP hC ha htk hsm hst hba hbb
      have hk0 : (0 : Int) ≤ (k : Int) := Int.natCast_nonneg _
      have hk1 : (k : Int) < (l.length : Int) := by omega
      by_cases hbig : 300 < (a.size : Int)
      · go_wp2_with fail
        go_ret
        exact ⟨rfl, hb⟩
      · have hn300 : decide (300 < (a.size : Int)) = false := by simpa using hbig
        have hps := part_size st a (by omega)
        obtain ⟨pt, hpt⟩ : ∃ pt, pt = partB ⟨#[71, 69, 84]⟩ 1 st a := ⟨_, rfl⟩
        rw [← hpt] at hps
        have hsum1 : ¬ 9223372036854775807 < P.size + pt.size := by omega
        have hsum2 : ¬ 9223372036854775807 < C.size + a.size := by omega
        have haz : a.size ≤ 4611686018427387904 := by omega
        have HASZ := Lib.hid hbig
        have hT13 : partB ⟨#[71, 69, 84]⟩ 1 st a = pt := hpt.symm
        have HPT := Lib.hid hT13
        clear hbig hps hpt hT13
        have hzr := HZ.out.fr hb
        have HZR := Lib.hid hzr; clear hzr
        have hcw := Lib.hid hc
        have hd : wr.drew.cell? ⟨b, off + k, none⟩ = some (.string a) := hc
        have hbl' : b < wr.drew.heap.size := hbl
        go_wp2_with fail
        have hbd : Below w.heap.size w wr.drew := fr_drew hb
        have HBA2 := Lib.hid (HBA.out.fr (fr_drew (fr_refl _)))
        have HBB2 := Lib.hid (HBB.out.fr (fr_drew (fr_refl _)))
        have HST2 := Lib.hid (HST.out.fr (fr_drew (fr_refl _)))
        have HZR2 := Lib.hid (HZ.out.fr hbd)
        have HD := Lib.hid hd
        have HC0 := Lib.hid hc
        clear hc hd
        go_region_held3 (fun w' => (w'.cell? ⟨w1.heap.size, 0, none⟩ = some (.string ⟨#[71, 69, 84]⟩) ∧ w'.cell? ⟨w1.heap.size, 1, none⟩ = some (.string ⟨#[]⟩) ∧ w'.cell? ⟨w1.heap.size, 2, none⟩ = some (.int .i64 1) ∧ w'.cell? ⟨w1.heap.size, 3, none⟩ = some (.slice none 0 0) ∧ w'.cell? ⟨w1.heap.size, 4, none⟩ = some (.string ⟨#[]⟩) ∧ w'.cell? ⟨w1.heap.size + 1, 0, none⟩ = some (.int .i64 st) ∧ w'.cell? ⟨w1.heap.size + 1, 1, none⟩ = some (.string ⟨#[120]⟩) ∧ w'.cell? ⟨w1.heap.size + 1, 2, none⟩ = some (.slice none 0 0)) ∧ w'.cell? ⟨b, off + k, none⟩ = some (.string a)) (first | exact ⟨cells_ch HBA.out HBB.out, HC0.out⟩ | exact ⟨cells_ch HBA2.out HBB2.out, HD.out⟩ | exact ⟨cells_ch HBA3.out HBB3.out, HD3.out⟩)
          (first
            | (go_at_call 16; refine (reply_Part ⟨#[71, 69, 84]⟩ ⟨#[]⟩ 1 none 0 0 ⟨#[]⟩ st ⟨#[120]⟩ none 0 0 a _ HZR2.out haz).mono ?_; rintro e w3 ⟨rfl, hb3⟩; rw [HPT.out]; have hw3 : Below w.heap.size w w3 := fr_trans hbd hb3; have HBA3 := Lib.hid (HBA2.out.fr hb3); have HBB3 := Lib.hid (HBB2.out.fr hb3); have HST3 := Lib.hid (HST2.out.fr hb3); have HD3 := Lib.hid (fr_cell hb3 HD.out); clear hb3))
        all_goals
          go_wp2
          go_roundw
          case measure => exact meas hlt _ _
          case rel =>
            refine ⟨k + 1, by omega, by go_num, ?_, ?_, ?_, hw3, HST3.out, HBA3.out, HBB3.out⟩
            · rw [HTK.out, partsB_snoc, HPT.out, HP.out]
            · rw [HTK.out, cat_snoc, HC.out]
            · rw [HTK.out]; intro d hd
              rcases List.mem_append.1 hd with hd | hd
              · exact HSM.out d hd
              · have := HASZ.out
                simp at hd; subst hd; omega
    · have e : l.take k = l := List.take_of_length_le (by omega)
      rw [e] at hsm
      rw [e]
      have hz1 := parts_size st l hsm
      have hz2 := cat_size l hsm
      have hz3 : (cat l).size ≤ 3000 := by omega
      have hz1' : (partsB st l).size ≤ 100000000 := by omega
      have hEnd := ch_get st hst0
      obtain ⟨P, hP⟩ : ∃ P, P = partsB st l := ⟨_, rfl⟩
      obtain ⟨C, hC⟩ : ∃ C, C = cat l := ⟨_, rfl⟩
      rw [← hP] at hz1' ⊢
      rw [← hC]
      have HP := Lib.hid hP; have HC := Lib.hid hC; have HZ3 := Lib.hid hz3
      have HBA := Lib.hid hba; have HBB := Lib.hid hbb
      have a0 := hba.at_ 0 (.string ⟨#[71, 69, 84]⟩)
      have a1 := hba.at_ 1 (.string ⟨#[]⟩)
      have a2 := hba.at_ 2 (.int .i64 1)
      have a3 := hba.at_ 3 (.slice none 0 0)
      have a4 := hba.at_ 4 (.string ⟨#[]⟩)
      have b0 := hbb.at_ 0 (.int .i64 st)
      have b1 := hbb.at_ 1 (.string ⟨#[120]⟩)
      have b2 := hbb.at_ 2 (.slice none 0 0)
      clear hP hC hz1 hz2 hz3 hba hbb e hsm hst HS HS2
      go_wp2_with fail
      refine (reply_End ⟨#[71, 69, 84]⟩ ⟨#[]⟩ 1 none 0 0 ⟨#[]⟩ st ⟨#[120]⟩ none 0 0 _).mono ?_
      rintro e w3 ⟨rfl, hb3⟩
      have hw3 : Below w.heap.size w w3 := fr_trans hb hb3
      rw [hEnd]
      clear a0 a1 a2 a3 a4 b1 b2 hEnd
      have b0' := fr_cell hb3 b0
      clear b0 hb3
      cases he : emptyI st
      · have hn4 : (st == 204) = false := by unfold emptyI at he; rw [Bool.or_eq_false_iff] at he; exact he.1
        have hn5 : (st == 304) = false := by unfold emptyI at he; rw [Bool.or_eq_false_iff] at he; exact he.2
        have hPw : P = wraps l := by rw [HP.out]; exact parts_wraps st hst0 he l
        have hfeed := feed_wraps 4000 (by decide) l (by have := HZ3.out; omega)
        rw [← hPw, ← HC.out] at hfeed
        have HF := Lib.hid hfeed; clear hfeed hPw he
        show _
        rw [show (!false) = true from rfl]
        obtain ⟨ET, hET⟩ : ∃ ET, ET = endB true := ⟨_, rfl⟩
        have hes : ET.size = 5 := by rw [hET]; rfl
        have hsum : ¬ 9223372036854775807 < P.size + ET.size := by omega
        have hzs : (P ++ ET).size ≤ 400000000 := by rw [size_app]; omega
        rw [← hET]
        have HF2 : RowKit.Hid (feedS (mkS 4000 0 ⟨#[]⟩ false 0 ⟨#[]⟩) (P ++ ET) = (mkS 4000 4 ⟨#[]⟩ false 0 C, ((P ++ ET).size : Int), 0)) := Lib.hid (by rw [hET]; exact HF.out)
        have HZS := Lib.hid hzs
        clear hET hes hzs hz1' HF
        have hbox := Blk.new w3 40 (mkS 4000 0 ⟨#[]⟩ false 0 ⟨#[]⟩).cells
        have HBOX := Lib.hid hbox; clear hbox
        have hw4 := fr_alloc hw3 (.cells (mkS 4000 0 ⟨#[]⟩ false 0 ⟨#[]⟩).cells 40)
        go_wp2_with fail
        refine (chunks_Feed w3.heap.size (mkS 4000 0 ⟨#[]⟩ false 0 ⟨#[]⟩) (P ++ ET) 268435456 _ HBOX.out ⟨Nat.zero_le _, Nat.zero_le _, by decide, by decide, by decide, by decide⟩ (Nat.le_refl _) (by have := HZS.out; omega)).mono ?_
        rintro e w5 ⟨rfl, hb5, ho5⟩
        rw [HF2.out] at hb5
        rw [HF2.out]
        have hw5 := fr_only hw4 ho5 hw3.size
        have d1 : w5.cell? ⟨w3.heap.size, 1, none⟩ = some (.int .i64 4) := hb5.cell 1
        have d6 : w5.cell? ⟨w3.heap.size, 6, none⟩ = some (.string C) := hb5.cell 6
        clear hb5 ho5 HBOX hw4 b0'
        go_wp2
        go_ret
        exact ⟨by simp, hw5⟩
      · have hPw : P = ⟨#[]⟩ := by rw [HP.out]; exact parts_none st hst0 he l
        rw [show endB (!true) = ⟨#[]⟩ from rfl]
        have HPW := Lib.hid hPw; clear hPw
        have hS : (P ++ (⟨#[]⟩ : ByteArray)).toList.isEmpty = true := by rw [HPW.out, toList_data]; rfl
        have hn : st = 204 ∨ st = 304 := by unfold emptyI at he; simpa using he
        clear he
        have hsum : ¬ 9223372036854775807 < P.size + 0 := by omega
        rcases hn with hn | hn
        · have h4 : (st == 204) = true := by simpa using hn
          clear hn
          go_wp2
          all_goals (go_ret; exact ⟨by simp_all, hw3⟩)
        · have h4 : (st == 204) = false := by simp; omega
          have h5 : (st == 304) = true := by simpa using hn
          clear hn
          go_wp2
          all_goals (go_ret; exact ⟨by simp_all, hw3⟩)

theorem law10_chunks_big (A : Option Addr) (cp : Nat) (l : List ByteArray) (x : Int) (w : World) (ht : Tab w) (hz : TabZ w) (hlen : 10 < l.length) :
    Calls Tryd.prog 4 #[.slice A l.length cp, .int .u16 x] w fun e w' => e = .returned (.bool true) ∧ Below w.heap.size w w' := by
  go_enter Tryd.func4, Tryd.ntmps4
  go_wp2_with fail
  refine (law10_known _ ht hz).mono ?_
  rintro e w1 ⟨rfl, hb1⟩
  go_wp2_with fail
  all_goals (go_ret; exact ⟨rfl, hb1⟩)
end Go.Proofs.YtkodkojbeehhjaaDoor
