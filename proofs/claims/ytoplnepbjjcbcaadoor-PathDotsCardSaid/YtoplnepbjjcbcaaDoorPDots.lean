/- conduitlaw11.PathDots: true. -/
import Derived.Test.YtoplnepbjjcbcaaDoorPKnown
namespace Go.Proofs.YtoplnepbjjcbcaaDoor
set_option linter.unusedVariables false
set_option linter.unusedSimpArgs false
open Go.RowKit

def repB (u : ByteArray) (b : ByteArray) : Nat → ByteArray
  | 0 => b
  | k + 1 => repB u b k ++ u
theorem repB_L (u b : ByteArray) : ∀ k, L (repB u b k) = L b ++ (List.replicate k (L u)).flatten
  | 0 => by simp [repB]
  | k + 1 => by
    show L (repB u b k ++ u) = _
    rw [L_app, repB_L u b k, List.replicate_succ', List.flatten_append]
    simp
theorem repB_size (u b : ByteArray) : ∀ k, (repB u b k).size = b.size + k * u.size
  | 0 => by simp [repB]
  | k + 1 => by
    show (repB u b k ++ u).size = _
    rw [size_app, repB_size u b k, Nat.succ_mul]; omega
def dDown (n : Nat) : ByteArray := repB ⟨#[47, 100]⟩ ⟨#[]⟩ n
def dUp (n m : Nat) : ByteArray := repB ⟨#[47, 37, 50, 101, 46]⟩ (dDown n) m
def dL (n m : Nat) (sl : Bool) : List UInt8 := ((List.replicate n [47, 100]).flatten ++ (List.replicate m [47, 37, 50, 101, 46]).flatten) ++ (if sl || (n == 0 && m == 0) then [47] else [])
theorem dUp_L (n m : Nat) : L (dUp n m) = (List.replicate n [47, 100]).flatten ++ (List.replicate m [47, 37, 50, 101, 46]).flatten := by
  unfold dUp dDown; rw [repB_L, repB_L]; rfl
theorem dUp_size (n m : Nat) : (dUp n m).size = n * 2 + m * 5 := by
  unfold dUp dDown; rw [repB_size, repB_size]; show 0 + n * 2 + m * 5 = _; omega
def lastIs (a : ByteArray) : Bool := (L a).getLastD 0 == 47
def dOk (n m : Nat) (sl : Bool) : Bool := match cleanE (mk (dL n m sl)) with
  | none => Nat.blt n m
  | some a => !Nat.blt n m && Nat.blt 0 a.size && Nat.blt a.size 1000 && ((segsE' a).length == n - m) && (lastIs a == (sl || Nat.blt 0 m || n == m))
theorem dAll : (List.range 10).all (fun n => (List.range 10).all fun m => [true, false].all fun sl => dOk n m sl) = true := by kernel_rfl
theorem dOne (n m : Nat) (sl : Bool) (hn : n < 10) (hm : m < 10) : dOk n m sl = true := by
  have h1 := List.all_eq_true.1 dAll n (List.mem_range.2 hn)
  have h2 := List.all_eq_true.1 h1 m (List.mem_range.2 hm)
  exact List.all_eq_true.1 h2 sl (by cases sl <;> simp)
theorem last_at (a : ByteArray) (h : 0 < a.size) : lastIs a = ((a[a.size - 1]'(by omega)).toNat == 47) := by
  unfold lastIs
  have hl : (L a) ≠ [] := fun e => by have : (L a).length = a.size := rfl; rw [e] at this; simp at this; omega
  have e1 : (L a).getLastD 0 = a[a.size - 1]'(by omega) := by
    rw [List.getLastD_eq_getLast?, List.getLast?_eq_getElem?]
    have : (L a).length - 1 < (L a).length := by have : (L a).length = a.size := rfl; omega
    rw [List.getElem?_eq_getElem this]; rfl
  rw [e1, Bool.eq_iff_iff]
  simp only [beq_iff_eq]
  exact ⟨fun h => by rw [h]; rfl, fun h => UInt8.toNat_inj.1 h⟩

theorem dKey (n m : Nat) (sl : Bool) (hn : n < 10) (hm : m < 10) (z : ByteArray) (h : L z = dL n m sl) :
    (cleanS z = none ∧ n < m) ∨ (∃ (a : ByteArray) (t : Nat) (ht : t < a.size), cleanS z = some a ∧ m ≤ n ∧ a.size = t + 1 ∧ t < 1000 ∧ (segs a).length = n - m ∧ ((a[t].toNat : Int) == 47) = (sl || Nat.blt 0 m || n == m)) := by
  have hd := dOne n m sl hn hm
  have hz : z = mk (dL n m sl) := by rw [← h, mk_L]
  unfold dOk at hd
  rw [← hz, ← cleanE_eq] at hd
  cases hc : cleanS z with
  | none => rw [hc] at hd; exact .inl ⟨rfl, by simpa [Nat.blt_eq] using hd⟩
  | some a =>
    rw [hc] at hd
    simp only [Bool.and_eq_true, beq_iff_eq, Bool.not_eq_true', Nat.blt_eq, ← segsE'_eq] at hd
    obtain ⟨⟨⟨⟨h1, h2⟩, h3⟩, h4⟩, h5⟩ := hd
    have h1' : ¬ n < m := by rw [← Nat.blt_eq, h1]; simp
    refine .inr ⟨a, a.size - 1, by omega, rfl, by omega, by omega, by omega, h4, ?_⟩
    rw [← h5, last_at a h2, Bool.eq_iff_iff]
    simp only [beq_iff_eq]
    omega
set_option maxRecDepth 100000 in
set_option maxHeartbeats 4000000 in
theorem dots_walk (x y : Int) (n m : Nat) (sl : Bool) (w : World) (hmx : MaxL w) (hx : x % 10 = (n : Int)) (hy : y % 10 = (m : Int)) (hn : n < 10) (hm : m < 10) (x0 : 0 ≤ x) (x1 : x ≤ 255) (y0 : 0 ≤ y) (y1 : y ≤ 255) :
    Calls Tryd.prog 4 #[.int .u8 x, .int .u8 y, .bool sl] w fun e w' => e = .returned (.bool true) ∧ Below w.heap.size w w' := by
  have HM := Lib.hid hmx; clear hmx
  have HOK := Lib.hid (dKey n m sl hn hm)
  go_enter Tryd.func4, Tryd.ntmps4
  go_wp2_with fail
  refine (law11_known _ HM.out).mono ?_
  rintro e w1 ⟨rfl, hw1⟩
  go_wp2
  go_loop [9, 10] (fun s i => ∃ k : Nat, k ≤ n ∧ i = .int .i64 k ∧ s = .string (dDown k)) (fun _ i => n - (intOf i).toNat)
  case atStart => exact ⟨0, Nat.zero_le _, rfl, rfl⟩
  case round =>
    obtain ⟨k, hk, rfl, rfl⟩ := hrel
    by_cases hlt : k < n
    · have hz : (dDown k).size = k * 2 := by unfold dDown; rw [repB_size]; show 0 + k * 2 = _; omega
      obtain ⟨u, hu⟩ : ∃ u, dDown k = u := ⟨_, rfl⟩
      have hs : dDown (k + 1) = u ++ ⟨#[47, 100]⟩ := by rw [← hu]; rfl
      rw [hu] at hz ⊢
      have hzz : ¬ 9223372036854775807 < u.size + 2 := by omega
      have HS := Lib.hid hs; clear hs hu hz
      go_wp2
      go_round
      case measure => exact meas hlt .i64 .i64
      case rel => exact ⟨k + 1, by omega, by go_num, by rw [HS.out]⟩
    · obtain rfl : k = n := by omega
      go_wp2
      go_loop [9, 11] (fun s i => ∃ j : Nat, j ≤ m ∧ i = .int .i64 j ∧ s = .string (dUp k j)) (fun _ i => m - (intOf i).toNat)
      case atStart => exact ⟨0, Nat.zero_le _, rfl, rfl⟩
      case round =>
        obtain ⟨j, hj, rfl, rfl⟩ := hrel
        by_cases hlt2 : j < m
        · have hz := dUp_size k j
          obtain ⟨u, hu⟩ : ∃ u, dUp k j = u := ⟨_, rfl⟩
          have hs : dUp k (j + 1) = u ++ ⟨#[47, 37, 50, 101, 46]⟩ := by rw [← hu]; rfl
          rw [hu] at hz ⊢
          have hzz : ¬ 9223372036854775807 < u.size + 5 := by omega
          have HS := Lib.hid hs; clear hs hu hz
          go_wp2
          go_round
          case measure => exact meas hlt2 .i64 .i64
          case rel => exact ⟨j + 1, by omega, by go_num, by rw [HS.out]⟩
        · obtain rfl : j = m := by omega
          have hz := dUp_size k j
          have hL := dUp_L k j
          obtain ⟨u, hu⟩ : ∃ u, dUp k j = u := ⟨_, rfl⟩
          rw [hu] at hz hL ⊢
          clear hu
          have hzz : ¬ 9223372036854775807 < u.size + 1 := by omega
          have he : u.toList.isEmpty = (k == 0 && j == 0) := by
            rw [toList_L]
            have hl : (L u).length = u.size := rfl
            cases hq : L u with
            | nil => rw [hq] at hl; simp at hl; have : k = 0 ∧ j = 0 := by omega
                     simp [this.1, this.2]
            | cons a b => rw [hq] at hl; simp at hl
                          have : ¬ (k = 0 ∧ j = 0) := by omega
                          simp; omega
          have hz1 : sl = true ∨ u.toList.isEmpty = true → L (u ++ ⟨#[47]⟩) = dL k j sl := fun h => by
            rw [L_app, hL]; unfold dL; congr 1
            rw [if_pos]
            rcases h with h | h
            · simp [h]
            · rw [he] at h; simp at h; simp [h]
          have hz2 : sl = false → u.toList.isEmpty = false → L u = dL k j sl := fun h h2 => by
            rw [hL]; unfold dL
            rw [if_neg]; simp
            rw [he] at h2
            rw [h, h2]; simp
          have hus : u.size ≤ 100 := by omega
          have HZ1 := Lib.hid hz1; have HZ2 := Lib.hid hz2
          clear hz1 hz2 he hL hz
          have HB := Lib.hid hw1; have HMW := Lib.hid (HM.out.fr hw1)
          clear hw1
          cases sl
          all_goals cases hem : u.toList.isEmpty
          all_goals
            first
            | (have hkey := HOK.out u (HZ2.out rfl hem); have hsz : u.size ≤ 8388608 := by omega)
            | (have hkey := HOK.out (u ++ ⟨#[47]⟩) (HZ1.out (.inl rfl)); have hsz : (u ++ ⟨#[47]⟩).size ≤ 8388608 := by rw [size_app]; show _ + 1 ≤ _; omega)
            | (have hkey := HOK.out (u ++ ⟨#[47]⟩) (HZ1.out (.inr hem)); have hsz : (u ++ ⟨#[47]⟩).size ≤ 8388608 := by rw [size_app]; show _ + 1 ≤ _; omega)
            have HSZ := Lib.hid hsz; clear hsz hus
            rcases hkey with ⟨hc, hlt3⟩ | ⟨a, t, ht, hc, hle, hat, htl, hsg, hla⟩
            · have HC := Lib.hid (cleanR_none hc)
              have hkj : (k : Int) < (j : Int) := by omega
              clear hc hlt3
              go_wp2_with fail
              refine (clean_at _ _ _ HC.out HMW.out HSZ.out).mono ?_
              rintro e w2 ⟨rfl, hb2⟩
              go_wp2_with fail
              refine (is_errno 10 10 _).mono ?_
              rintro e w3 ⟨rfl, rfl⟩
              go_wp2_with fail
              go_ret
              exact ⟨rfl, fr_trans HB.out hb2⟩
            · have HC := Lib.hid (cleanR_some hc)
              have hkj : ¬ (k : Int) < (j : Int) := by omega
              have hsub : ((k - j : Nat) : Int) = (k : Int) - (j : Int) := by omega
              have HSG := Lib.hid hsg; have HSUB := Lib.hid hsub; have HLA := Lib.hid hla; have HAT := Lib.hid hat
              have ha0 : (0 : Int) < (a.size : Int) := by omega
              clear hc hle hsg hsub hla hat
              go_wp2_with fail
              refine (clean_at _ _ _ HC.out HMW.out HSZ.out).mono ?_
              rintro e w2 ⟨rfl, hb2⟩
              have HB2 := Lib.hid (fr_trans HB.out hb2); have HM2 := Lib.hid (HMW.out.fr hb2)
              clear hb2
              go_wp2_with fail
              refine (segs_at a (segs a) (k - j) _ rfl HSG.out HM2.out (by have := HAT.out; omega)).mono ?_
              rintro e w3 ⟨⟨A, c, rfl, hcc, hA⟩, hb3⟩
              clear hcc hA
              have HB3 := Lib.hid (fr_trans HB2.out hb3)
              clear hb3
              have hsub2 := HSUB.out
              have hwt : wrap64 ((a.size : Int) - 1) = (t : Int) := by have := HAT.out; rw [IntWalk.wrap64_in _ (by omega)]; omega
              have htz : (t : Int) < (a.size : Int) := by omega
              go_wp2_with fail
              all_goals
                go_ret
                refine ⟨?_, HB3.out⟩
                have hl := HLA.out
                simp_all [Nat.blt_eq]
                all_goals first | omega | (rw [show Nat.blt 0 0 = false from rfl, Bool.false_or, Bool.eq_iff_iff]; simp; done) | (rw [show Nat.blt 0 0 = false from rfl, Bool.false_or, Bool.eq_iff_iff]; simp; omega)
theorem law11_dots (x y : Int) (sl : Bool) (w : World) (hm : MaxL w) (x0 : 0 ≤ x) (x1 : x ≤ 255) (y0 : 0 ≤ y) (y1 : y ≤ 255) :
    Calls Tryd.prog 4 #[.int .u8 x, .int .u8 y, .bool sl] w fun e w' => e = .returned (.bool true) ∧ Below w.heap.size w w' :=
  dots_walk x y (x % 10).toNat (y % 10).toNat sl w hm (by omega) (by omega) (by omega) (by omega) x0 x1 y0 y1
end Go.Proofs.YtoplnepbjjcbcaaDoor
