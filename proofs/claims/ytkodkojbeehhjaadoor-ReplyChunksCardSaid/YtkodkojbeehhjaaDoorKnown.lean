/- conduitlaw10.known: true. -/
import Derived.Test.YtkodkojbeehhjaaDoorHeadOf
import Derived.Test.YtkodkojbeehhjaaDoorPart
namespace Go.Proofs.YtkodkojbeehhjaaDoor
open Go.RowKit

theorem itoa3 (a b c : Nat) (ha : a < 10) (ha0 : 0 < a) (hb : b < 10) (hc : c < 10) : itoaB (((a * 100 + b * 10 + c : Nat)) : Int) = ⟨#[UInt8.ofNat (48 + a), UInt8.ofNat (48 + b), UInt8.ofNat (48 + c)]⟩ := by
  rw [itoaB_nat, decB_big _ (by omega), show (a * 100 + b * 10 + c) / 10 = a * 10 + b by omega, show (a * 100 + b * 10 + c) % 10 = c by omega, decB_big _ (by omega), show (a * 10 + b) / 10 = a by omega,
    show (a * 10 + b) % 10 = b by omega, decB_small a ha]
  apply ByteArray.ext; simp
theorem itoa2 (a b : Nat) (ha : a < 10) (ha0 : 0 < a) (hb : b < 10) : itoaB (((a * 10 + b : Nat)) : Int) = ⟨#[UInt8.ofNat (48 + a), UInt8.ofNat (48 + b)]⟩ := by
  rw [itoaB_nat, decB_big _ (by omega), show (a * 10 + b) / 10 = a by omega, show (a * 10 + b) % 10 = b by omega, decB_small a ha]
  apply ByteArray.ext; simp
theorem i404 : itoaB 404 = ⟨#[52, 48, 52]⟩ := itoa3 4 0 4 (by decide) (by decide) (by decide) (by decide)
theorem i200 : itoaB 200 = ⟨#[50, 48, 48]⟩ := itoa3 2 0 0 (by decide) (by decide) (by decide) (by decide)
theorem i100 : itoaB 100 = ⟨#[49, 48, 48]⟩ := itoa3 1 0 0 (by decide) (by decide) (by decide) (by decide)
theorem i14 : itoaB 14 = ⟨#[49, 52]⟩ := itoa2 1 4 (by decide) (by decide) (by decide)
def rawPlain : ByteArray := ⟨#[72, 84, 84, 80, 47, 49, 46, 49, 32, 52, 48, 52, 32, 78, 111, 116, 32, 70, 111, 117, 110, 100, 13, 10, 67, 111, 110, 116, 101, 110, 116, 45, 76, 101, 110, 103, 116, 104, 58, 32, 49, 52, 13, 10, 67, 111, 110, 116, 101, 110, 116, 45, 84, 121, 112, 101, 58, 32, 116, 101, 120, 116, 47, 112, 108, 97, 105, 110, 13, 10, 67, 111, 110, 110, 101, 99, 116, 105, 111, 110, 58, 32, 107, 101, 101, 112, 45, 97, 108, 105, 118, 101, 13, 10, 13, 10, 52, 48, 52, 32, 78, 111, 116, 32, 70, 111, 117, 110, 100, 10]⟩
def rawHead : ByteArray := ⟨#[72, 84, 84, 80, 47, 49, 46, 49, 32, 50, 48, 48, 32, 79, 75, 13, 10, 65, 58, 32, 98, 13, 10, 84, 114, 97, 110, 115, 102, 101, 114, 45, 69, 110, 99, 111, 100, 105, 110, 103, 58, 32, 99, 104, 117, 110, 107, 101, 100, 13, 10, 67, 111, 110, 110, 101, 99, 116, 105, 111, 110, 58, 32, 107, 101, 101, 112, 45, 97, 108, 105, 118, 101, 13, 10, 13, 10]⟩
def rawPart : ByteArray := ⟨#[50, 13, 10, 97, 98, 13, 10]⟩
theorem raw1 : (rawPlain.toList == (72 :: 84 :: 84 :: 80 :: 47 :: 49 :: 46 :: 49 :: 32 :: 52 :: 48 :: 52 :: 32 :: 78 :: 111 :: 116 :: 32 :: 70 :: 111 :: 117 :: 110 :: 100 :: 13 :: 10 :: 67 :: 111 :: 110 :: 116 :: 101 :: 110 :: 116 :: 45 :: 76 :: 101 :: 110 :: 103 :: 116 :: 104 :: 58 :: 32 :: 49 :: 52 :: 13 :: 10 :: 67 :: 111 :: 110 :: 116 :: 101 :: 110 :: 116 :: 45 :: 84 :: 121 :: 112 :: 101 :: 58 :: 32 :: 116 :: 101 :: 120 :: 116 :: 47 :: 112 :: 108 :: 97 :: 105 :: 110 :: 13 :: 10 :: 67 :: 111 :: 110 :: 110 :: 101 :: 99 :: 116 :: 105 :: 111 :: 110 :: 58 :: 32 :: 107 :: 101 :: 101 :: 112 :: 45 :: 97 :: 108 :: 105 :: 118 :: 101 :: 13 :: 10 :: 13 :: 10 :: 52 :: 48 :: 52 :: 32 :: 78 :: 111 :: 116 :: 32 :: 70 :: 111 :: 117 :: 110 :: 100 :: 10 :: [])) = true := by rw [ByteArray.toList_eq]; decide +kernel
theorem raw2 : (rawHead.toList == (72 :: 84 :: 84 :: 80 :: 47 :: 49 :: 46 :: 49 :: 32 :: 50 :: 48 :: 48 :: 32 :: 79 :: 75 :: 13 :: 10 :: 65 :: 58 :: 32 :: 98 :: 13 :: 10 :: 84 :: 114 :: 97 :: 110 :: 115 :: 102 :: 101 :: 114 :: 45 :: 69 :: 110 :: 99 :: 111 :: 100 :: 105 :: 110 :: 103 :: 58 :: 32 :: 99 :: 104 :: 117 :: 110 :: 107 :: 101 :: 100 :: 13 :: 10 :: 67 :: 111 :: 110 :: 110 :: 101 :: 99 :: 116 :: 105 :: 111 :: 110 :: 58 :: 32 :: 107 :: 101 :: 101 :: 112 :: 45 :: 97 :: 108 :: 105 :: 118 :: 101 :: 13 :: 10 :: 13 :: 10 :: [])) = true := by rw [ByteArray.toList_eq]; decide +kernel
theorem raw3 : (rawPart.toList == (50 :: 13 :: 10 :: 97 :: 98 :: 13 :: 10 :: [])) = true := by rw [ByteArray.toList_eq]; decide +kernel
theorem body404 : bodyB 404 = ⟨#[52, 48, 52, 32, 78, 111, 116, 32, 70, 111, 117, 110, 100, 10]⟩ := by unfold bodyB; rw [i404]; apply ByteArray.ext; decide +kernel
theorem plain404 : plainB ⟨#[71, 69, 84]⟩ 404 true = rawPlain := by
  have hb : bareB ⟨#[71, 69, 84]⟩ 404 = false := by decide +kernel
  have he : isEmptyB 404 = false := by decide +kernel
  unfold plainB
  rw [hb, he]
  unfold clP lineB
  rw [body404, i404, show (((⟨#[52, 48, 52, 32, 78, 111, 116, 32, 70, 111, 117, 110, 100, 10]⟩ : ByteArray).size : Nat) : Int) = 14 from rfl, i14]
  apply ByteArray.ext; decide +kernel
def kL : List Pr := [(⟨#[65]⟩, ⟨#[98]⟩), (⟨#[67, 111, 110, 116, 101, 110, 116, 45, 76, 101, 110, 103, 116, 104]⟩, ⟨#[57]⟩)]
theorem head200 : headB ⟨#[71, 69, 84]⟩ 1 200 ⟨#[79, 75]⟩ kL true = rawHead := by
  unfold headB lineB
  rw [i200]
  apply ByteArray.ext; decide +kernel
theorem part200 : partB ⟨#[71, 69, 84]⟩ 1 200 ⟨#[97, 98]⟩ = rawPart := by
  have hc : chunkedB ⟨#[71, 69, 84]⟩ 1 200 = true := by decide +kernel
  unfold partB
  rw [hc]
  show (if (⟨#[97, 98]⟩ : ByteArray).toList.isEmpty then ⟨#[]⟩ else hexB (⟨#[97, 98]⟩ : ByteArray).size ++ ⟨#[13, 10]⟩ ++ ⟨#[97, 98]⟩ ++ ⟨#[13, 10]⟩ : ByteArray) = _
  rw [ByteArray.toList_eq, show (⟨#[97, 98]⟩ : ByteArray).size = 2 from rfl]
  unfold hexB
  rw [hexL_small (by decide)]
  apply ByteArray.ext; decide +kernel

set_option maxHeartbeats 400000 in
theorem reply_Continue (w : World) (ht : Tab w) : Calls Tryd.prog 24 #[] w fun e w' => e = .returned (.string ⟨#[72, 84, 84, 80, 47, 49, 46, 49, 32, 49, 48, 48, 32, 67, 111, 110, 116, 105, 110, 117, 101, 13, 10, 13, 10]⟩) ∧ Below w.heap.size w w' := by
  have hr : reason 100 = ⟨#[67, 111, 110, 116, 105, 110, 117, 101]⟩ := by decide +kernel
  have hl : lineB 100 ⟨#[67, 111, 110, 116, 105, 110, 117, 101]⟩ = ⟨#[72, 84, 84, 80, 47, 49, 46, 49, 32, 49, 48, 48, 32, 67, 111, 110, 116, 105, 110, 117, 101, 13, 10]⟩ := by unfold lineB; rw [i100]; apply ByteArray.ext; decide +kernel
  go_enter Tryd.func24, Tryd.ntmps24
  go_wp2_with fail
  refine (reply_Reason 100 _).mono ?_
  rintro e w1 ⟨rfl, rfl⟩
  go_wp2_with fail
  refine (reply_line 100 _ _ (by omega) (by omega) ht (by decide)).mono ?_
  rintro e w1 ⟨rfl, hb1⟩
  rw [hl]
  clear hr hl
  go_wp2
  go_ret
  exact ⟨rfl, hb1⟩

set_option maxHeartbeats 2000000 in
theorem law10_known (w : World) (ht : Tab w) (hz : TabZ w) : Calls Tryd.prog 7 #[] w fun e w' => e = .returned (.bool true) ∧ Below w.heap.size w w' := by
  have hba0 := (Box.new w [.string ⟨#[71, 69, 84]⟩, .string ⟨#[]⟩, .int .i64 1, .slice none 0 0, .string ⟨#[]⟩] 24).fr (fr_alloc (fr_alloc (fr_refl _) (.cells (pcells kL).toArray 47)) (.cells #[.int .i64 200, .string ⟨#[79, 75]⟩, .slice (some ⟨w.heap.size + 1, 0, none⟩) 2 2] 26))
  have hpp0 := (Pairs.new (w.alloc (.cells #[.string ⟨#[71, 69, 84]⟩, .string ⟨#[]⟩, .int .i64 1, .slice none 0 0, .string ⟨#[]⟩] 24)) kL 47).fr (fr_alloc (fr_refl _) (.cells #[.int .i64 200, .string ⟨#[79, 75]⟩, .slice (some ⟨w.heap.size + 1, 0, none⟩) 2 2] 26))
  have hbb0 := Box.newAt (w := (w.alloc (.cells #[.string ⟨#[71, 69, 84]⟩, .string ⟨#[]⟩, .int .i64 1, .slice none 0 0, .string ⟨#[]⟩] 24)).alloc (.cells (pcells kL).toArray 47)) (g := w.heap.size + 1 + 1) (by simp) [.int .i64 200, .string ⟨#[79, 75]⟩, .slice (some ⟨w.heap.size + 1, 0, none⟩) 2 2] 26
  have HA0 := Lib.hid hba0
  have HB0 := Lib.hid hbb0
  have HP0 : RowKit.Hid (Pairs (((w.alloc (.cells #[.string ⟨#[71, 69, 84]⟩, .string ⟨#[]⟩, .int .i64 1, .slice none 0 0, .string ⟨#[]⟩] 24)).alloc (.cells (pcells kL).toArray 47)).alloc (.cells #[.int .i64 200, .string ⟨#[79, 75]⟩, .slice (some ⟨w.heap.size + 1, 0, none⟩) 2 2] 26)) (some ⟨w.heap.size + 1, 0, none⟩) kL) := (by simpa using hpp0 : Pairs _ _ _)
  clear hba0 hbb0 hpp0
  have r1 : reason 404 = ⟨#[78, 111, 116, 32, 70, 111, 117, 110, 100]⟩ := by decide +kernel
  have r2 : reason 599 = ⟨#[85, 110, 107, 110, 111, 119, 110]⟩ := by decide +kernel
  have r3 : bareB ⟨#[72, 69, 65, 68]⟩ 200 = true := by decide +kernel
  have r4 : chunkedB ⟨#[71, 69, 84]⟩ 1 200 = true := by decide +kernel
  have r5 : endB true = ⟨#[48, 13, 10, 13, 10]⟩ := rfl
  have hba0 := (Box.new w [.string ⟨#[71, 69, 84]⟩, .string ⟨#[]⟩, .int .i64 1, .slice none 0 0, .string ⟨#[]⟩] 24).fr (fr_alloc (fr_alloc (fr_refl _) (.cells (pcells kL).toArray 47)) (.cells #[.int .i64 200, .string ⟨#[79, 75]⟩, .slice (some ⟨w.heap.size + 1, 0, none⟩) 2 2] 26))
  have hpp0 := (Pairs.new (w.alloc (.cells #[.string ⟨#[71, 69, 84]⟩, .string ⟨#[]⟩, .int .i64 1, .slice none 0 0, .string ⟨#[]⟩] 24)) kL 47).fr (fr_alloc (fr_refl _) (.cells #[.int .i64 200, .string ⟨#[79, 75]⟩, .slice (some ⟨w.heap.size + 1, 0, none⟩) 2 2] 26))
  have hbb0 := Box.newAt (w := (w.alloc (.cells #[.string ⟨#[71, 69, 84]⟩, .string ⟨#[]⟩, .int .i64 1, .slice none 0 0, .string ⟨#[]⟩] 24)).alloc (.cells (pcells kL).toArray 47)) (g := w.heap.size + 1 + 1) (by simp) [.int .i64 200, .string ⟨#[79, 75]⟩, .slice (some ⟨w.heap.size + 1, 0, none⟩) 2 2] 26
  have HA0 := Lib.hid hba0
  have HB0 := Lib.hid hbb0
  have HP0 : RowKit.Hid (Pairs (((w.alloc (.cells #[.string ⟨#[71, 69, 84]⟩, .string ⟨#[]⟩, .int .i64 1, .slice none 0 0, .string ⟨#[]⟩] 24)).alloc (.cells (pcells kL).toArray 47)).alloc (.cells #[.int .i64 200, .string ⟨#[79, 75]⟩, .slice (some ⟨w.heap.size + 1, 0, none⟩) 2 2] 26)) (some ⟨w.heap.size + 1, 0, none⟩) kL) := (by simpa using hpp0 : Pairs _ _ _)
  clear hba0 hbb0 hpp0
  have r1 : reason 404 = ⟨#[78, 111, 116, 32, 70, 111, 117, 110, 100]⟩ := by decide +kernel
  have r2 : reason 599 = ⟨#[85, 110, 107, 110, 111, 119, 110]⟩ := by decide +kernel
  have r3 : bareB ⟨#[72, 69, 65, 68]⟩ 200 = true := by decide +kernel
  have r4 : chunkedB ⟨#[71, 69, 84]⟩ 1 200 = true := by decide +kernel
  have q1 : (rawPlain.toList == (72 :: 84 :: 84 :: 80 :: 47 :: 49 :: 46 :: 49 :: 32 :: 52 :: 48 :: 52 :: 32 :: 78 :: 111 :: 116 :: 32 :: 70 :: 111 :: 117 :: 110 :: 100 :: 13 :: 10 :: 67 :: 111 :: 110 :: 116 :: 101 :: 110 :: 116 :: 45 :: 76 :: 101 :: 110 :: 103 :: 116 :: 104 :: 58 :: 32 :: 49 :: 52 :: 13 :: 10 :: 67 :: 111 :: 110 :: 116 :: 101 :: 110 :: 116 :: 45 :: 84 :: 121 :: 112 :: 101 :: 58 :: 32 :: 116 :: 101 :: 120 :: 116 :: 47 :: 112 :: 108 :: 97 :: 105 :: 110 :: 13 :: 10 :: 67 :: 111 :: 110 :: 110 :: 101 :: 99 :: 116 :: 105 :: 111 :: 110 :: 58 :: 32 :: 107 :: 101 :: 101 :: 112 :: 45 :: 97 :: 108 :: 105 :: 118 :: 101 :: 13 :: 10 :: 13 :: 10 :: 52 :: 48 :: 52 :: 32 :: 78 :: 111 :: 116 :: 32 :: 70 :: 111 :: 117 :: 110 :: 100 :: 10 :: [])) = true := raw1
  have q2 : (rawHead.toList == (72 :: 84 :: 84 :: 80 :: 47 :: 49 :: 46 :: 49 :: 32 :: 50 :: 48 :: 48 :: 32 :: 79 :: 75 :: 13 :: 10 :: 65 :: 58 :: 32 :: 98 :: 13 :: 10 :: 84 :: 114 :: 97 :: 110 :: 115 :: 102 :: 101 :: 114 :: 45 :: 69 :: 110 :: 99 :: 111 :: 100 :: 105 :: 110 :: 103 :: 58 :: 32 :: 99 :: 104 :: 117 :: 110 :: 107 :: 101 :: 100 :: 13 :: 10 :: 67 :: 111 :: 110 :: 110 :: 101 :: 99 :: 116 :: 105 :: 111 :: 110 :: 58 :: 32 :: 107 :: 101 :: 101 :: 112 :: 45 :: 97 :: 108 :: 105 :: 118 :: 101 :: 13 :: 10 :: 13 :: 10 :: [])) = true := raw2
  have q3 : (rawPart.toList == (50 :: 13 :: 10 :: 97 :: 98 :: 13 :: 10 :: [])) = true := raw3
  have r5 : endB true = ⟨#[48, 13, 10, 13, 10]⟩ := rfl
  go_enter Tryd.func7, Tryd.ntmps7
  go_wp2_with fail
  refine (reply_Reason 404 _).mono ?_
  rintro e wq ⟨rfl, rfl⟩
  go_wp2_with fail
  refine (reply_Reason 599 _).mono ?_
  rintro e wq ⟨rfl, rfl⟩
  go_wp2_with fail
  refine (reply_Bare ⟨#[72, 69, 65, 68]⟩ 200 _).mono ?_
  rintro e wq ⟨rfl, rfl⟩
  go_wp2_with fail
  refine (reply_Plain ⟨#[71, 69, 84]⟩ ⟨#[]⟩ 1 none 0 0 ⟨#[]⟩ 404 true _ (by omega) (by omega) (ht.fr (fr_alloc (fr_alloc (fr_alloc (fr_refl _) _) _) _))).mono ?_
  rintro e w1 ⟨rfl, hb1⟩
  have hw1 : Below w.heap.size w w1 := fr_trans (fr_alloc (fr_alloc (fr_alloc (fr_refl _) _) _) _) hb1
  have HA1 := Lib.hid (HA0.out.fr hb1)
  have HB1 := Lib.hid (HB0.out.fr hb1)
  have HP1 := Lib.hid (HP0.out.fr hb1)
  clear hb1
  rw [plain404]
  have hba1 := HA1.out
  have hbb1 := HB1.out
  have a0 := hba1.at_ 0 (.string ⟨#[71, 69, 84]⟩)
  have a1 := hba1.at_ 1 (.string ⟨#[]⟩)
  have a2 := hba1.at_ 2 (.int .i64 1)
  have a3 := hba1.at_ 3 (.slice none 0 0)
  have a4 := hba1.at_ 4 (.string ⟨#[]⟩)
  have b0 := hbb1.at_ 0 (.int .i64 200)
  have b1 := hbb1.at_ 1 (.string ⟨#[79, 75]⟩)
  have b2 := hbb1.at_ 2 (.slice (some ⟨w.heap.size + 1, 0, none⟩) 2 2)
  clear hba1 hbb1
  go_wp2_with fail
  refine (reply_Head ⟨#[71, 69, 84]⟩ ⟨#[]⟩ 1 none 0 0 ⟨#[]⟩ 200 ⟨#[79, 75]⟩ (some ⟨w.heap.size + 1, 0, none⟩) kL 2 true _ (by omega) (by omega) (ht.fr hw1) HP1.out (by decide) (by decide) (by decide)).mono ?_
  rintro e w2 ⟨rfl, hb2⟩
  have hw2 : Below w.heap.size w w2 := fr_trans hw1 hb2
  have HA2 := Lib.hid (HA1.out.fr hb2)
  have HB2 := Lib.hid (HB1.out.fr hb2)
  have HP2 := Lib.hid (HP1.out.fr hb2)
  clear a0 a1 a2 a3 a4 b0 b1 b2
  clear hb2
  rw [head200]
  have hba2 := HA2.out
  have hbb2 := HB2.out
  have a0 := hba2.at_ 0 (.string ⟨#[71, 69, 84]⟩)
  have a1 := hba2.at_ 1 (.string ⟨#[]⟩)
  have a2 := hba2.at_ 2 (.int .i64 1)
  have a3 := hba2.at_ 3 (.slice none 0 0)
  have a4 := hba2.at_ 4 (.string ⟨#[]⟩)
  have b0 := hbb2.at_ 0 (.int .i64 200)
  have b1 := hbb2.at_ 1 (.string ⟨#[79, 75]⟩)
  have b2 := hbb2.at_ 2 (.slice (some ⟨w.heap.size + 1, 0, none⟩) 2 2)
  clear hba2 hbb2
  go_wp2_with fail
  refine (reply_Part ⟨#[71, 69, 84]⟩ ⟨#[]⟩ 1 none 0 0 ⟨#[]⟩ 200 ⟨#[79, 75]⟩ _ _ _ ⟨#[97, 98]⟩ _ (hz.fr hw2) (by decide)).mono ?_
  rintro e w3 ⟨rfl, hb3⟩
  have hw3 : Below w.heap.size w w3 := fr_trans hw2 hb3
  have HA3 := Lib.hid (HA2.out.fr hb3)
  have HB3 := Lib.hid (HB2.out.fr hb3)
  have HP3 := Lib.hid (HP2.out.fr hb3)
  clear a0 a1 a2 a3 a4 b0 b1 b2
  clear hb3
  rw [part200]
  have hba3 := HA3.out
  have hbb3 := HB3.out
  have a0 := hba3.at_ 0 (.string ⟨#[71, 69, 84]⟩)
  have a1 := hba3.at_ 1 (.string ⟨#[]⟩)
  have a2 := hba3.at_ 2 (.int .i64 1)
  have a3 := hba3.at_ 3 (.slice none 0 0)
  have a4 := hba3.at_ 4 (.string ⟨#[]⟩)
  have b0 := hbb3.at_ 0 (.int .i64 200)
  have b1 := hbb3.at_ 1 (.string ⟨#[79, 75]⟩)
  have b2 := hbb3.at_ 2 (.slice (some ⟨w.heap.size + 1, 0, none⟩) 2 2)
  clear hba3 hbb3
  go_wp2_with fail
  refine (reply_End ⟨#[71, 69, 84]⟩ ⟨#[]⟩ 1 none 0 0 ⟨#[]⟩ 200 ⟨#[79, 75]⟩ _ _ _ _).mono ?_
  rintro e w4 ⟨rfl, hb4⟩
  have hw4 : Below w.heap.size w w4 := fr_trans hw3 hb4
  have HA4 := Lib.hid (HA3.out.fr hb4)
  have HB4 := Lib.hid (HB3.out.fr hb4)
  have HP4 := Lib.hid (HP3.out.fr hb4)
  clear a0 a1 a2 a3 a4 b0 b1 b2
  clear hb4
  rw [r4, r5]
  have hba4 := HA4.out
  have hbb4 := HB4.out
  have a0 := hba4.at_ 0 (.string ⟨#[71, 69, 84]⟩)
  have a1 := hba4.at_ 1 (.string ⟨#[]⟩)
  have a2 := hba4.at_ 2 (.int .i64 1)
  have a3 := hba4.at_ 3 (.slice none 0 0)
  have a4 := hba4.at_ 4 (.string ⟨#[]⟩)
  have b0 := hbb4.at_ 0 (.int .i64 200)
  have b1 := hbb4.at_ 1 (.string ⟨#[79, 75]⟩)
  have b2 := hbb4.at_ 2 (.slice (some ⟨w.heap.size + 1, 0, none⟩) 2 2)
  clear hba4 hbb4
  go_wp2_with fail
  refine (reply_Chunked ⟨#[71, 69, 84]⟩ ⟨#[]⟩ 1 none 0 0 ⟨#[]⟩ 200 ⟨#[79, 75]⟩ _ _ _ _).mono ?_
  rintro e w5 ⟨rfl, hb5⟩
  have hw5 : Below w.heap.size w w5 := fr_trans hw4 hb5
  have HA5 := Lib.hid (HA4.out.fr hb5)
  have HB5 := Lib.hid (HB4.out.fr hb5)
  have HP5 := Lib.hid (HP4.out.fr hb5)
  clear a0 a1 a2 a3 a4 b0 b1 b2
  clear hb5
  rw [r4]
  have hba5 := HA5.out
  have hbb5 := HB5.out
  have a0 := hba5.at_ 0 (.string ⟨#[71, 69, 84]⟩)
  have a1 := hba5.at_ 1 (.string ⟨#[]⟩)
  have a2 := hba5.at_ 2 (.int .i64 1)
  have a3 := hba5.at_ 3 (.slice none 0 0)
  have a4 := hba5.at_ 4 (.string ⟨#[]⟩)
  have b0 := hbb5.at_ 0 (.int .i64 200)
  have b1 := hbb5.at_ 1 (.string ⟨#[79, 75]⟩)
  have b2 := hbb5.at_ 2 (.slice (some ⟨w.heap.size + 1, 0, none⟩) 2 2)
  clear hba5 hbb5
  go_wp2_with fail
  refine (reply_Continue _ (ht.fr hw5)).mono ?_
  rintro e w6 ⟨rfl, hb6⟩
  have hw6 : Below w.heap.size w w6 := fr_trans hw5 hb6
  have HA6 := Lib.hid (HA5.out.fr hb6)
  have HB6 := Lib.hid (HB5.out.fr hb6)
  have HP6 := Lib.hid (HP5.out.fr hb6)
  clear a0 a1 a2 a3 a4 b0 b1 b2
  clear hb6
  have hba6 := HA6.out
  have hbb6 := HB6.out
  have a0 := hba6.at_ 0 (.string ⟨#[71, 69, 84]⟩)
  have a1 := hba6.at_ 1 (.string ⟨#[]⟩)
  have a2 := hba6.at_ 2 (.int .i64 1)
  have a3 := hba6.at_ 3 (.slice none 0 0)
  have a4 := hba6.at_ 4 (.string ⟨#[]⟩)
  have b0 := hbb6.at_ 0 (.int .i64 200)
  have b1 := hbb6.at_ 1 (.string ⟨#[79, 75]⟩)
  have b2 := hbb6.at_ 2 (.slice (some ⟨w.heap.size + 1, 0, none⟩) 2 2)
  clear hba6 hbb6
  go_wp2
  go_ret
  exact ⟨rfl, hw6⟩
end Go.Proofs.YtkodkojbeehhjaaDoor
