/- conduitlaw11.PathEscapes: true. -/
import Derived.Test.YtoplnepbjjcbcaaDoorPKnown
import Derived.RegionTactic
namespace Go.Proofs.YtoplnepbjjcbcaaDoor
set_option linter.unusedVariables false
set_option linter.unusedSimpArgs false
open Go.RowKit

def hx : ByteArray := ⟨#[48, 49, 50, 51, 52, 53, 54, 55, 56, 57, 97, 98, 99, 100, 101, 102]⟩
def hxD (q : Nat) : UInt8 := (L hx).getD q 0
def escS (n : Nat) : ByteArray := ⟨#[47, 120, 37]⟩ ++ ⟨#[hxD (n / 16), hxD (n % 16)]⟩ ++ ⟨#[121]⟩
def goodE (n : Nat) : Bool := Nat.ble 32 n && !(n == 127) && !(n == 47)
def escOk (n : Nat) : Bool := match cleanE (mk (47 :: 120 :: 37 :: hxD (n / 16) :: hxD (n % 16) :: 121 :: [])) with
  | some a => goodE n && L a == [47, 120, UInt8.ofNat n, 121]
  | none => !goodE n
theorem escAll : (List.range 256).all escOk = true := by kernel_rfl
theorem escOne (n : Nat) (h : n < 256) : (goodE n = true ∧ cleanS (escS n) = some (⟨#[47, 120]⟩ ++ ⟨#[UInt8.ofNat n]⟩ ++ ⟨#[121]⟩)) ∨ (goodE n = false ∧ cleanS (escS n) = none) := by
  have h1 := List.all_eq_true.1 escAll n (List.mem_range.2 h)
  have hs : escS n = mk (47 :: 120 :: 37 :: hxD (n / 16) :: hxD (n % 16) :: 121 :: []) := by apply L_inj; unfold escS; rw [L_app, L_app, L_mk]; rfl
  unfold escOk at h1
  rw [← hs, ← cleanE_eq] at h1
  cases hc : cleanS (escS n) with
  | none => rw [hc] at h1; exact .inr ⟨by simpa using h1, rfl⟩
  | some a =>
    rw [hc] at h1
    simp only [Bool.and_eq_true, beq_iff_eq] at h1
    refine .inl ⟨h1.1, ?_⟩
    have : a = ⟨#[47, 120]⟩ ++ ⟨#[UInt8.ofNat n]⟩ ++ ⟨#[121]⟩ := by apply L_inj; rw [h1.2, L_app, L_app]; rfl
    rw [this]
theorem conv2 {P : Program} (W : World) (g : Nat) (x y : Int) (src dst e : TypeId) (cap : Nat) (hs : P.underlying src = some (.slice e)) (he : P.underlying e = some (.int .u8)) (hd : P.underlying dst = some .string)
    (h0 : W.cell? ⟨g, 0, none⟩ = some (.int .u8 x)) (h1 : W.cell? ⟨g, 1, none⟩ = some (.int .u8 y)) : (convert src dst (.slice (some ⟨g, 0, none⟩) 2 cap)).run P W = .ok (.string ⟨#[UInt8.ofNat x.toNat, UInt8.ofNat y.toNat]⟩) W := by
  have := run_convert_bytes_arg (P := P) W src e hs he g 0 2 cap [x, y] rfl (fun i hi => by
    have : i = 0 ∨ i = 1 := by omega
    rcases this with rfl | rfl
    · exact h0
    · exact h1) dst hd
  rw [this]; rfl
theorem hx_get (q : Nat) (hq : q < 16) (h : q < (⟨#[48, 49, 50, 51, 52, 53, 54, 55, 56, 57, 97, 98, 99, 100, 101, 102]⟩ : ByteArray).size) : ((⟨#[48, 49, 50, 51, 52, 53, 54, 55, 56, 57, 97, 98, 99, 100, 101, 102]⟩ : ByteArray)[q]'h).toNat = (hxD q).toNat := by
  have h1 : (L hx)[q]'h = (⟨#[48, 49, 50, 51, 52, 53, 54, 55, 56, 57, 97, 98, 99, 100, 101, 102]⟩ : ByteArray)[q]'h := rfl
  unfold hxD
  have h2 : (L hx)[q]? = some ((L hx)[q]'h) := List.getElem?_eq_getElem h
  rw [List.getD, h2]
  rfl

set_option maxRecDepth 100000 in
set_option maxHeartbeats 4000000 in
theorem law11_escapes (b : Int) (w : World) (hm : MaxL w) (b0 : 0 ≤ b) (b1 : b ≤ 255) :
    Calls Tryd.prog 5 #[.int .u8 b] w fun e w' => e = .returned (.bool true) ∧ Below w.heap.size w w' := by
  obtain ⟨n, rfl⟩ : ∃ n : Nat, b = (n : Int) := ⟨b.toNat, by omega⟩
  have HM := Lib.hid hm; clear hm
  have hone := escOne n (by omega)
  obtain ⟨u, hu⟩ : ∃ u, n / 16 = u := ⟨_, rfl⟩
  obtain ⟨v, hv⟩ : ∃ v, n % 16 = v := ⟨_, rfl⟩
  have huI : (n : Int) / 16 = (u : Int) := by omega
  have hvI : (n : Int) % 16 = (v : Int) := by omega
  have hu16 : (u : Int) < 16 := by omega
  have hv16 : (v : Int) < 16 := by omega
  have q1 : u < (⟨#[48, 49, 50, 51, 52, 53, 54, 55, 56, 57, 97, 98, 99, 100, 101, 102]⟩ : ByteArray).size := by show u < 16; omega
  have q2 : v < (⟨#[48, 49, 50, 51, 52, 53, 54, 55, 56, 57, 97, 98, 99, 100, 101, 102]⟩ : ByteArray).size := by show v < 16; omega
  obtain ⟨c1, hc1⟩ : ∃ c : UInt8, hxD u = c := ⟨_, rfl⟩
  obtain ⟨c2, hc2⟩ : ∃ c : UInt8, hxD v = c := ⟨_, rfl⟩
  have g1 := congrArg (fun k : Nat => (k : Int)) (hx_get u (by omega) q1)
  have g2 := congrArg (fun k : Nat => (k : Int)) (hx_get v (by omega) q2)
  simp only [hc1, hc2] at g1 g2
  obtain ⟨x, hx1⟩ : ∃ x : Int, x = (c1.toNat : Int) := ⟨_, rfl⟩
  obtain ⟨y, hy1⟩ : ∃ y : Int, y = (c2.toNat : Int) := ⟨_, rfl⟩
  obtain ⟨z, hz⟩ : ∃ z : ByteArray, z = ⟨#[c1, c2]⟩ := ⟨_, rfl⟩
  have hzs : z.size = 2 := by rw [hz]; rfl
  have hes : escS n = ⟨#[47, 120, 37]⟩ ++ z ++ ⟨#[121]⟩ := by unfold escS; rw [hu, hv, hc1, hc2, hz]
  have hzz : (⟨#[UInt8.ofNat x.toNat, UInt8.ofNat y.toNat]⟩ : ByteArray) = z := by rw [hx1, hy1, hz]; simp
  have hcv : ∀ (W : World) (g : Nat), W.cell? ⟨g, 0, none⟩ = some (.int .u8 x) → W.cell? ⟨g, 1, none⟩ = some (.int .u8 y) → (convert 35 9 (.slice (some ⟨g, 0, none⟩) 2 2)).run Tryd.prog W = .ok (.string z) W := fun W g h0 h1 => by
    rw [← hzz]; exact conv2 W g x y _ _ _ 2 Tryd.underlying35 Tryd.underlying5 Tryd.underlying9 h0 h1
  have hcn : ∀ W : World, (convert 35 9 (.slice (some ⟨W.heap.size, 0, none⟩) 2 2)).run Tryd.prog (W.alloc (.cells #[.int .u8 x, .int .u8 y] 5)) = .ok (.string z) (W.alloc (.cells #[.int .u8 x, .int .u8 y] 5)) := fun W =>
    hcv _ _ (by rw [World.cell?_alloc_mark]; rfl) (by rw [World.cell?_alloc_mark]; rfl)
  rw [hes] at hone
  have HONE := Lib.hid hone; have HZS := Lib.hid hzs
  rw [← hx1] at g1
  rw [← hy1] at g2
  clear hone hes hzz hz hc1 hc2 hx1 hy1 hzs hu hv
  have s1 : ¬ 9223372036854775807 < 3 + z.size := by have := HZS.out; omega
  have s2 : ¬ 9223372036854775807 < 3 + z.size + 1 := by have := HZS.out; omega
  go_enter Tryd.func5, Tryd.ntmps5
  go_wp2_with fail
  refine (law11_known _ HM.out).mono ?_
  rintro e w1 ⟨rfl, hw1⟩
  go_wp2_with fail
  go_region
  have hw2 := fr_drew (fr_alloc hw1 (.cells #[.int .u8 x, .int .u8 y] 5))
  have HW2 := Lib.hid hw2
  have hsz := HZS.out
  have HM2 := Lib.hid (HM.out.fr hw2)
  have hss : (⟨#[47, 120, 37]⟩ ++ z ++ ⟨#[121]⟩).size ≤ 8388608 := by rw [size_app, size_app, hsz]; decide
  have HSS := Lib.hid hss
  clear hss hsz
  rcases HONE.out with ⟨hg, ho⟩ | ⟨hg, ho⟩
  · have HO := Lib.hid (cleanR_some ho)
    unfold goodE at hg
    simp only [Bool.and_eq_true, Nat.ble_eq, Bool.not_eq_true', beq_eq_false_iff_ne, ne_eq] at hg
    obtain ⟨⟨g32, g127⟩, g47⟩ := hg
    have k1 : ¬ (n : Int) < 32 := by omega
    have k1' : (32 : Int) ≤ (n : Int) := by omega
    have k2 : ((n : Int) != 127) = true := by simp; omega
    have k3 : ((n : Int) != 47) = true := by simp; omega
    have hzz : (⟨#[UInt8.ofNat ((n : Int)).toNat]⟩ : ByteArray) = ⟨#[UInt8.ofNat n]⟩ := by rw [Int.toNat_natCast]
    obtain ⟨y1, hy1⟩ : ∃ y1 : ByteArray, (⟨#[UInt8.ofNat n]⟩ : ByteArray) = y1 := ⟨_, rfl⟩
    have hys : y1.size = 1 := by rw [← hy1]; rfl
    rw [hy1] at hzz HO
    have hv1 : ∀ (W : World) (g : Nat), W.cell? ⟨g, 0, none⟩ = some (.int .u8 (n : Int)) → (convert 35 9 (.slice (some ⟨g, 0, none⟩) 1 1)).run Tryd.prog W = .ok (.string y1) W := fun W g h => by
      rw [← hzz]; exact conv1 W g (n : Int) _ _ _ 1 Tryd.underlying35 Tryd.underlying5 Tryd.underlying9 h
    have hv2 : ∀ W : World, (convert 35 9 (.slice (some ⟨W.heap.size, 0, none⟩) 1 1)).run Tryd.prog (W.alloc (.cells #[.int .u8 (n : Int)] 5)) = .ok (.string y1) (W.alloc (.cells #[.int .u8 (n : Int)] 5)) := fun W => hv1 _ _ (by rw [World.cell?_alloc_mark]; rfl)
    have t1 : ¬ 9223372036854775807 < 2 + y1.size := by omega
    have t2 : ¬ 9223372036854775807 < 2 + y1.size + 1 := by omega
    clear ho HONE hw2 hw1 hcv hcn g1 g2 q1 q2 huI hvI hu16 hv16 g32 g127 g47 hy1 hys hzz
    go_wp2_with fail
    refine (clean_at _ _ _ HO.out HM2.out HSS.out).mono ?_
    rintro e w3 ⟨rfl, hb3⟩
    have HB3 := Lib.hid (fr_trans HW2.out hb3)
    clear hb3
    go_wp2_with fail
    go_ret
    exact ⟨rfl, fr_alloc HB3.out _⟩
  · have HO := Lib.hid (cleanR_none ho)
    unfold goodE at hg
    have hg' : (n : Int) < 32 ∨ (n : Int) = 127 ∨ (n : Int) = 47 := by
      rcases Nat.lt_or_ge n 32 with h | h
      · exact .inl (by omega)
      · rw [show Nat.ble 32 n = true by rw [Nat.ble_eq]; exact h] at hg
        simp at hg
        omega
    clear ho hg HONE hw2 hw1 hcv hcn g1 g2 q1 q2 huI hvI hu16 hv16
    have k0 : (32 : Int) ≤ (n : Int) ∨ (n : Int) < 32 := by omega
    rcases hg' with k1 | k1 | k1
    all_goals
      have HK := Lib.hid k1
      go_wp2_with fail
      refine (clean_at _ _ _ HO.out HM2.out HSS.out).mono ?_
      rintro e w3 ⟨rfl, hb3⟩
      have HB3 := Lib.hid (fr_trans HW2.out hb3)
      clear hb3
      go_wp2_with fail
      refine (is_errno 10 10 _).mono ?_
      rintro e w4 ⟨rfl, rfl⟩
      go_wp2_with fail
      go_ret
      exact ⟨rfl, HB3.out⟩
end Go.Proofs.YtoplnepbjjcbcaaDoor
