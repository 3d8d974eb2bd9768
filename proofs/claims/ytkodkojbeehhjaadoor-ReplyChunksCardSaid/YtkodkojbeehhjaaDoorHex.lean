/- numbers of base 16 as text: strconv.FormatInt(n, 16), conduitref6.hex; chunk.Wrap, conduitref6.Wrap. -/
import Derived.Test.YtkodkojbeehhjaaDoorNum
namespace Go.Proofs.YtkodkojbeehhjaaDoor
open Go.RowKit

def tz64 : List Int := [0, 1, 56, 2, 57, 49, 28, 3, 61, 58, 42, 50, 38, 29, 17, 4, 62, 47, 59, 36, 45, 43, 51, 22, 53, 39, 33, 30, 24, 18, 12, 5, 63, 55, 48, 27, 60, 41, 37, 16, 46, 35, 44, 21, 52, 32, 23, 11, 54, 26, 40, 15, 34, 20, 31, 10, 25, 14, 19, 9, 13, 8, 7, 6]
def TabZ (w : World) : Prop := Lib.TabIs Tryd.prog w "math/bits.deBruijn64tab" .u8 tz64
theorem TabZ.fr {w w' : World} (h : TabZ w) (hb : Below w.heap.size w w') : TabZ w' := by
  unfold TabZ Lib.TabIs World.var? at h ⊢
  cases hg : Program.globalNamed Tryd.prog "math/bits.deBruijn64tab" with
  | none => simp [hg] at h
  | some g =>
    simp only [hg, Option.bind_some] at h ⊢
    have hlt : g < w.heap.size := by
      rcases Nat.lt_or_ge g w.heap.size with h' | h'
      · exact h'
      · simp [Array.getElem?_eq_none h'] at h
    rw [hb.block g hlt]
    exact h

set_option maxHeartbeats 400000 in
theorem tz16 (w : World) (h : TabZ w) : Calls Tryd.prog 61 #[.int .u64 16] w fun e w' => e = .returned (.int .i64 4) ∧ w = w' := by
  have hc := h.cell (g := 2) (by kernel_rfl) 15 (by decide)
  have hc' : w.cell? ⟨2, 15, none⟩ = some (.int .u8 4) := hc
  go_enter Tryd.func61, Tryd.ntmps61
  have hA : bits BinOp.and IntKind.u64 16 (IntKind.u64.wrap (-16)) = 16 := by decide +kernel
  have hB : IntKind.u64.wrap (16 * 285870213051353865) / 288230376151711744 = 15 := by decide +kernel
  have hB' : IntKind.u64.wrap 4573923408821661840 / 288230376151711744 = 15 := by decide +kernel
  clear hc
  go_wp2
  go_ret
  exact ⟨rfl, rfl⟩
theorem tz16' (w : World) (h : TabZ w) : Calls Tryd.prog 58 #[.int .u64 16] w fun e w' => e = .returned (.int .i64 4) ∧ w = w' := by
  go_enter Tryd.func58, Tryd.ntmps58
  go_wp2_with (go_at_call 61; refine (tz16 _ h).mono ?_; rintro e w1 ⟨rfl, rfl⟩)
  go_ret
  exact ⟨rfl, rfl⟩
theorem pow2_16 (w : World) : Calls Tryd.prog 57 #[.int .i64 16] w fun e w' => e = .returned (.bool true) ∧ w = w' := by
  have hA : bits BinOp.and IntKind.i64 16 15 = 0 := by decide +kernel
  go_enter Tryd.func57, Tryd.ntmps57
  go_wp2
  go_ret
  exact ⟨rfl, rfl⟩

/-- the digit of base 16 -/
def hexD (r : Nat) : UInt8 := if r < 10 then UInt8.ofNat (48 + r) else UInt8.ofNat (87 + r)
def hexL (u : Nat) : List UInt8 := if h : u < 16 then [hexD u] else hexL (u / 16) ++ [hexD (u % 16)]
termination_by u
decreasing_by omega
theorem hexL_small {u : Nat} (h : u < 16) : hexL u = [hexD u] := by rw [hexL, dif_pos h]
theorem hexL_big {u : Nat} (h : ¬ u < 16) : hexL u = hexL (u / 16) ++ [hexD (u % 16)] := by rw [hexL, dif_neg h]
def hexB (u : Nat) : ByteArray := ⟨(hexL u).toArray⟩
theorem hexL_len (u : Nat) (h : u < 18446744073709551616) : (hexL u).length ≤ 16 := by
  have hk : ∀ (k u : Nat), u < 16 ^ (k + 1) → (hexL u).length ≤ k + 1 := by
    intro k
    induction k with
    | zero => intro u hu; rw [hexL_small (by simpa using hu)]; exact Nat.le_refl _
    | succ k ih =>
      intro u hu
      by_cases h10 : u < 16
      · rw [hexL_small h10]; show 1 ≤ _; omega
      · rw [hexL_big h10, List.length_append]
        have := ih (u / 16) (by rw [Nat.pow_succ] at hu; omega)
        show _ + 1 ≤ _
        omega
  exact hk 15 u (by omega)

def digits36 : ByteArray := ⟨#[48, 49, 50, 51, 52, 53, 54, 55, 56, 57, 97, 98, 99, 100, 101, 102, 103, 104, 105, 106, 107, 108, 109, 110, 111, 112, 113, 114, 115, 116, 117, 118, 119, 120, 121, 122]⟩
theorem hexD_at : ∀ r : Nat, r < 16 → digits36.data[r]? = some (hexD r) := by decide
theorem dig_get (r : Nat) (hr : r < 16) (hs : r < (⟨#[48, 49, 50, 51, 52, 53, 54, 55, 56, 57, 97, 98, 99, 100, 101, 102, 103, 104, 105, 106, 107, 108, 109, 110, 111, 112, 113, 114, 115, 116, 117, 118, 119, 120, 121, 122]⟩ : ByteArray).size) : ((((⟨#[48, 49, 50, 51, 52, 53, 54, 55, 56, 57, 97, 98, 99, 100, 101, 102, 103, 104, 105, 106, 107, 108, 109, 110, 111, 112, 113, 114, 115, 116, 117, 118, 119, 120, 121, 122]⟩ : ByteArray)[r]'hs).toNat : Nat) : Int) = ((hexD r).toNat : Int) := by
  have h := hexD_at r hr
  have h2 : digits36.data[r]'(by show r < 36; omega) = hexD r := by
    rw [Array.getElem?_eq_getElem (by show r < 36; omega)] at h
    exact Option.some.inj h
  rw [← h2]; rfl
theorem zero65 (w : World) : Buf (w.alloc (.cells Tryd.zeroCells80 80)) w.heap.size (List.replicate 65 0) := by
  refine ⟨by simp, fun j hj => ⟨?_, ?_⟩⟩
  · rw [World.cell?_alloc_mark]
    have hz : ∀ j, j < 65 → Tryd.zeroCells80[j]? = some (.int .u8 0) := by
      have : Tryd.zeroCells80 = Array.replicate 65 (.int .u8 0) := rfl
      intro j hj; rw [this]; simp [hj]
    rw [hz j (by simpa using hj), List.getElem_replicate]
    rfl
  · rw [World.frozen?_alloc_mark]; simp

set_option maxHeartbeats 1000000 in
theorem formatBits16 (u : Nat) (w : World) (hT : TabZ w) (hu : (u : Int) ≤ 9223372036854775807) :
    Calls Tryd.prog 52 #[.slice none 0 0, .int .u64 (u : Int), .int .i64 16, .bool false, .bool false] w
      fun e w' => e = .returned (.tuple #[.slice none 0 0, .string (hexB u)]) ∧ Below w.heap.size w w' := by
  go_enter Tryd.func52, Tryd.ntmps52
  go_wp2_with (first | (go_at_call 58; refine (tz16' _ (hT.fr (fr_alloc (fr_refl _) _))).mono ?_; rintro e w1 ⟨rfl, rfl⟩) | (go_at_call 57; refine (pow2_16 _).mono ?_; rintro e w1 ⟨rfl, rfl⟩))
  have H0 := Lib.hid hT; clear hT
  go_loopw [1, 13] (fun x i wr => ∃ (k j v : Nat) (c : List UInt8), k + j = 64 ∧ k ≤ 15 ∧ c.length = 65 ∧ v = u / 16 ^ k ∧ x = .int .u64 (v : Int) ∧ i = .int .i64 ((j : Int) + 1) ∧ Below w.heap.size w wr ∧ Buf wr w.heap.size c ∧ hexL u = hexL v ++ c.drop (j + 1)) (fun x _ _ => (intOf x).toNat)
  case atStart => exact ⟨0, 64, u, _, rfl, by omega, rfl, by simp, rfl, rfl, fr_alloc (fr_refl _) _, zero65 w, by simp⟩
  case round =>
    obtain ⟨k, j, v, c, hkj, hk, hcl, hv, rfl, rfl, hb, hbuf, heq⟩ := hrel
    have hvu : v ≤ u := by rw [hv]; exact Nat.div_le_self _ _
    have hj1 : 49 ≤ j := by omega
    have hj2 : j ≤ 64 := by omega
    have hjc : j < c.length := by omega
    have hk16 : 16 ≤ v → k ≤ 14 := by
      intro h
      rcases Nat.lt_or_ge k 15 with h1 | h1
      · omega
      · exfalso
        have : v ≤ u / 16 ^ 15 := by rw [hv, show k = 15 by omega]; exact Nat.le_refl _
        have : u / 16 ^ 15 < 16 := by rw [Nat.div_lt_iff_lt_mul (by decide)]; omega
        omega
    have hv1 : v / 16 = u / 16 ^ (k + 1) := by rw [hv, Nat.div_div_eq_div_mul, ← Nat.pow_succ]
    obtain ⟨hc, hf⟩ := hbuf.2 j hjc
    have hcs : ∀ h : j < c.length, c.drop j = c[j] :: c.drop (j + 1) := fun h => List.drop_eq_getElem_cons h
    have HV := Lib.hid hv; clear hv
    have HV1 := Lib.hid hv1; clear hv1
    have HK := Lib.hid hkj; clear hkj
    have HB := Lib.hid hbuf; clear hbuf
    have HE := Lib.hid heq; clear heq
    have HC := Lib.hid hcl; clear hcl
    clear hcs
    by_cases h16 : (v : Int) < 16
    · have hs36 : v < (⟨#[48, 49, 50, 51, 52, 53, 54, 55, 56, 57, 97, 98, 99, 100, 101, 102, 103, 104, 105, 106, 107, 108, 109, 110, 111, 112, 113, 114, 115, 116, 117, 118, 119, 120, 121, 122]⟩ : ByteArray).size := by show v < 36; omega
      have hB2 := HB.out.set (c := hexD v) (n := (((⟨#[48, 49, 50, 51, 52, 53, 54, 55, 56, 57, 97, 98, 99, 100, 101, 102, 103, 104, 105, 106, 107, 108, 109, 110, 111, 112, 113, 114, 115, 116, 117, 118, 119, 120, 121, 122]⟩ : ByteArray)[v]'hs36).toNat : Int)) hjc (dig_get v (by omega) hs36)
      have hsl : ∀ W : World, (Instr.sliceAt 80 (.pointer (some ⟨w.heap.size, 0, none⟩)) (some (.int .i64 (j : Int))) none none).run Tryd.prog W = .ok (.slice (some ⟨w.heap.size, j, none⟩) (65 - j) (65 - j)) W := fun W => by
        have hal : Program.arrayLen Tryd.prog 80 = 65 := by simp [Program.arrayLen, Tryd.underlying80]
        rw [run_sliceAt_array_l W 80 ⟨w.heap.size, 0, none⟩ (by simp [Program.arrayLen, Program.elem, Tryd.underlying80]) .i64 (j : Int) (by omega) (by rw [hal]; omega)]
        simp [Program.arrayLen, Program.elem, Tryd.underlying80, go_sem, slicedAt]
        omega
      have hcv := hB2.backAt (P := Tryd.prog) (j := j) (n := 65 - j) (by rw [List.length_set, HC.out]; omega) 66 9 5 (65 - j) Tryd.underlying66 Tryd.underlying5 Tryd.underlying9
      have HB2 := Lib.hid hB2; clear hB2
      go_wp2
      go_ret2
      refine ⟨?_, fr_set hb (Nat.le_refl _) _⟩
      have e : hexB u = ⟨((c.set j (hexD v)).drop j).toArray⟩ := by
        unfold hexB
        rw [HE.out, hexL_small (by omega), List.drop_eq_getElem_cons (l := c.set j (hexD v)) (i := j) (by rw [List.length_set]; exact hjc), List.getElem_set_self, List.drop_set_of_lt (by omega)]
        rfl
      rw [e]; rfl
    · have hand : bits BinOp.and .u64 (v : Int) 15 = ((v % 16 : Nat) : Int) := by
        have := u64_and_nat v 15 (by omega) (by decide)
        rw [show v &&& 15 = v % 16 from Nat.and_two_pow_sub_one_eq_mod v 4] at this
        exact this
      have hs36 : v % 16 < (⟨#[48, 49, 50, 51, 52, 53, 54, 55, 56, 57, 97, 98, 99, 100, 101, 102, 103, 104, 105, 106, 107, 108, 109, 110, 111, 112, 113, 114, 115, 116, 117, 118, 119, 120, 121, 122]⟩ : ByteArray).size := by show v % 16 < 36; omega
      have hB2 := HB.out.set (c := hexD (v % 16)) (n := (((⟨#[48, 49, 50, 51, 52, 53, 54, 55, 56, 57, 97, 98, 99, 100, 101, 102, 103, 104, 105, 106, 107, 108, 109, 110, 111, 112, 113, 114, 115, 116, 117, 118, 119, 120, 121, 122]⟩ : ByteArray)[v % 16]'hs36).toNat : Int)) hjc (dig_get (v % 16) (by omega) hs36)
      have HB2 := Lib.hid hB2; clear hB2
      go_wp2
      refine ⟨⟨k + 1, j - 1, v / 16, c.set j (hexD (v % 16)), by have := HK.out; omega, by have := hk16 (by omega); omega, by rw [List.length_set]; exact HC.out, HV1.out, by simp, by simp; omega, fr_set hb (Nat.le_refl _) _, HB2.out, ?_⟩, ?_⟩
      · rw [HE.out, hexL_big (u := v) (by omega), show j - 1 + 1 = j by omega, List.drop_eq_getElem_cons (l := c.set j (hexD (v % 16))) (i := j) (by rw [List.length_set]; exact hjc), List.getElem_set_self, List.drop_set_of_lt (by omega), List.append_assoc]
        rfl
      · show ((v : Int) / 16).toNat < (v : Int).toNat
        omega
theorem hexB_size (u : Nat) (h : u < 18446744073709551616) : (hexB u).size ≤ 16 := hexL_len u h

set_option maxHeartbeats 400000 in
theorem ifmt16 (u : Nat) (w : World) (hT : TabZ w) (hu : (u : Int) ≤ 9223372036854775807) :
    Calls Tryd.prog 45 #[.int .i64 (u : Int), .int .i64 16] w fun e w' => e = .returned (.string (hexB u)) ∧ Below w.heap.size w w' := by
  have h0 : (0 : Int) ≤ (u : Int) := by omega
  go_enter Tryd.func45, Tryd.ntmps45
  go_wp2_with (go_at_call 52; refine (formatBits16 u _ hT hu).mono ?_; rintro e w1 ⟨rfl, hb1⟩)
  go_ret
  exact ⟨rfl, hb1⟩
set_option maxHeartbeats 400000 in
theorem fmt16 (u : Nat) (w : World) (hT : TabZ w) (hu : (u : Int) ≤ 9223372036854775807) :
    Calls Tryd.prog 42 #[.int .i64 (u : Int), .int .i64 16] w fun e w' => e = .returned (.string (hexB u)) ∧ Below w.heap.size w w' := by
  go_enter Tryd.func42, Tryd.ntmps42
  go_wp2_with (go_at_call 45; refine (ifmt16 u _ hT hu).mono ?_; rintro e w1 ⟨rfl, hb1⟩)
  go_ret
  exact ⟨rfl, hb1⟩

def wrapB (s : ByteArray) : ByteArray := if s.toList.isEmpty then ⟨#[]⟩ else hexB s.size ++ ⟨#[13, 10]⟩ ++ s ++ ⟨#[13, 10]⟩
set_option maxHeartbeats 400000 in
theorem chunk_Wrap (s : ByteArray) (w : World) (hT : TabZ w) (hs : s.size ≤ 4611686018427387904) :
    Calls Tryd.prog 34 #[.string s] w fun e w' => e = .returned (.string (wrapB s)) ∧ Below w.heap.size w w' := by
  have hz := hexB_size s.size (by omega)
  cases he : s.toList.isEmpty
  · go_enter Tryd.func34, Tryd.ntmps34
    go_wp2_with (go_at_call 42; refine (fmt16 s.size _ hT (by omega)).mono ?_; rintro e w1 ⟨rfl, hb1⟩)
    go_ret
    exact ⟨by unfold wrapB; rw [he]; rfl, hb1⟩
  · go_enter Tryd.func34, Tryd.ntmps34
    go_wp2
    go_ret
    exact ⟨by unfold wrapB; rw [he]; rfl, fr_refl _⟩

def hex16 : ByteArray := ⟨#[48, 49, 50, 51, 52, 53, 54, 55, 56, 57, 97, 98, 99, 100, 101, 102]⟩
theorem hex16_cut : ∀ r : Nat, r < 16 → hex16.extract r (r + 1) = ⟨#[hexD r]⟩ := by
  have h : ∀ r : Nat, r < 16 → (hex16.extract r (r + 1)).data = #[hexD r] := by decide +kernel
  intro r hr
  exact ByteArray.ext (h r hr)
theorem run_cut16 (W : World) (r : Nat) (hr : r < 16) : (Instr.slice 9 (.string ⟨#[48, 49, 50, 51, 52, 53, 54, 55, 56, 57, 97, 98, 99, 100, 101, 102]⟩) (some (.int .i64 (r : Int))) (some (.int .i64 ((r : Int) + 1))) none).run Tryd.prog W = .ok (.string ⟨#[hexD r]⟩) W := by
  have hs : hex16.size = 16 := rfl
  show (Instr.slice 9 (.string hex16) (some (.int .i64 (r : Int))) (some (.int .i64 ((r : Int) + 1))) none).run Tryd.prog W = _
  rw [run_slice_string_if W 9 hex16 .i64 .i64 (r : Int) ((r : Int) + 1) Tryd.underlying9, if_pos ⟨by omega, by rw [hs]; omega⟩, if_pos ⟨by omega, by omega⟩]
  rw [show ((r : Int)).toNat = r by omega, show ((r : Int) + 1).toNat = r + 1 by omega, hex16_cut r hr]

set_option maxHeartbeats 400000 in
theorem hex_core (u q r : Nat) (d z : ByteArray) (w : World) (hu : ¬ (u : Int) < 16) (hu0 : (u : Int) ≤ 9223372036854775807) (hdz : d.size ≤ 4611686018427387904) (hz : z.size ≤ 1)
    (e1 : IntKind.i64.wrap ((u : Int).tdiv 16) = (q : Int)) (e1' : IntKind.i64.wrap ((u : Int) / 16) = (q : Int)) (e2 : (u : Int).tmod 16 = (r : Int)) (e3 : IntKind.i64.wrap ((r : Int) + 1) = (r : Int) + 1)
    (hsl : ∀ W : World, (Instr.slice 9 (.string ⟨#[48, 49, 50, 51, 52, 53, 54, 55, 56, 57, 97, 98, 99, 100, 101, 102]⟩) (some (.int .i64 (r : Int))) (some (.int .i64 ((r : Int) + 1))) none).run Tryd.prog W = .ok (.string z) W)
    (hc : ∀ w, Calls Tryd.prog 43 #[.int .i64 (q : Int)] w fun e w' => e = .returned (.string d) ∧ ∃ k, w' = w.drewN k) :
    Calls Tryd.prog 43 #[.int .i64 (u : Int)] w fun e w' => e = .returned (.string (d ++ z)) ∧ ∃ k, w' = w.drewN k := by
  have HC := Lib.hid hc; clear hc
  have hdz2 : ¬ 9223372036854775807 < d.size + z.size := by omega
  go_enter Tryd.func43, Tryd.ntmps43
  go_wp2_with fail
  go_quiet ((go_at_call 43; exact Calls.quiet_of (HC.out _)))
  go_wp2
  go_ret
  exact ⟨rfl, _, rfl⟩

set_option maxHeartbeats 400000 in
theorem ref6_hex : ∀ (u : Nat) (w : World), (u : Int) ≤ 9223372036854775807 →
    Calls Tryd.prog 43 #[.int .i64 (u : Int)] w fun e w' => e = .returned (.string (hexB u)) ∧ ∃ k, w' = w.drewN k := by
  intro u
  induction u using Nat.strongRecOn with
  | ind u ih =>
    intro w hu
    by_cases h : u < 16
    · have hsl := fun W : World => run_cut16 W u h
      have hI : (u : Int) < 16 := by omega
      go_enter Tryd.func43, Tryd.ntmps43
      go_wp2
      go_ret
      exact ⟨by unfold hexB; rw [hexL_small h]; rfl, 0, rfl⟩
    · have hz := hexB_size (u / 16) (by omega)
      have := hex_core u (u / 16) (u % 16) (hexB (u / 16)) ⟨#[hexD (u % 16)]⟩ w (by omega) hu (by omega) (Nat.le_refl _)
        (by rw [IntWalk.i64_quo _ _ (by omega)]; omega) (IntWalk.i64_in _ (by omega)) (IntWalk.rem_in _ _ (by omega)) (IntWalk.i64_in _ (by omega)) (fun W => run_cut16 W _ (by omega)) (fun w => ih (u / 16) (by omega) w (by omega))
      rwa [show hexB (u / 16) ++ ⟨#[hexD (u % 16)]⟩ = hexB u by
        unfold hexB; rw [hexL_big h]; apply ByteArray.ext; simp] at this

set_option maxHeartbeats 400000 in
theorem ref6_Wrap (s : ByteArray) (w : World) (hs : s.size ≤ 4611686018427387904) :
    Calls Tryd.prog 35 #[.string s] w fun e w' => e = .returned (.string (wrapB s)) ∧ Below w.heap.size w w' := by
  have hz := hexB_size s.size (by omega)
  cases he : s.toList.isEmpty
  · go_enter Tryd.func35, Tryd.ntmps35
    go_wp2_with (go_at_call 43; refine (ref6_hex s.size _ (by omega)).mono ?_; rintro e w1 ⟨rfl, k, rfl⟩)
    go_ret
    exact ⟨by unfold wrapB; rw [he]; rfl, fr_drewN (fr_refl _) _⟩
  · go_enter Tryd.func35, Tryd.ntmps35
    go_wp2
    go_ret
    exact ⟨by unfold wrapB; rw [he]; rfl, fr_refl _⟩
end Go.Proofs.YtkodkojbeehhjaaDoor
