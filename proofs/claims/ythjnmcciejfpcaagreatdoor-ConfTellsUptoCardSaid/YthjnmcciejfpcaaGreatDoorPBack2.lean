/- conduitref1.letter, digit, In, Escape. -/
import Derived.Test.YthjnmcciejfpcaaGreatDoorPBack
import Derived.Test.YthjnmcciejfpcaaGreatDoorMD
import Derived.Test.YthjnmcciejfpcaaGreatDoorME
import Derived.RegionTactic
namespace Go.Proofs.YthjnmcciejfpcaaGreatDoor
set_option linter.unusedVariables false
set_option linter.unusedSimpArgs false
open Go.RowKit

theorem conv2 {P : Program} (W : World) (g : Nat) (x y : Int) (src dst e : TypeId) (cap : Nat) (hs : P.underlying src = some (.slice e)) (he : P.underlying e = some (.int .u8)) (hd : P.underlying dst = some .string)
    (h0 : W.cell? ⟨g, 0, none⟩ = some (.int .u8 x)) (h1 : W.cell? ⟨g, 1, none⟩ = some (.int .u8 y)) : (convert src dst (.slice (some ⟨g, 0, none⟩) 2 cap)).run P W = .ok (.string ⟨#[UInt8.ofNat x.toNat, UInt8.ofNat y.toNat]⟩) W := by
  have := run_convert_bytes_arg (P := P) W src e hs he g 0 2 cap [x, y] rfl (fun i hi => by
    have : i = 0 ∨ i = 1 := by omega
    rcases this with rfl | rfl
    · exact h0
    · exact h1) dst hd
  rw [this]; rfl
theorem plain_eq (c : UInt8) : plainB c = (letN c || digN c || (L ⟨#[45, 46, 95, 126, 47]⟩).contains c) := by
  have h (a b : Nat) : decide (a ≤ b) = decide ((a : Int) ≤ (b : Int)) := decide_eq_decide.2 (by omega)
  unfold plainB letN digN
  simp only [h]; rfl
theorem up_get2 (q : Nat) (hq : q < 16) (h : q < (⟨#[48, 49, 50, 51, 52, 53, 54, 55, 56, 57, 65, 66, 67, 68, 69, 70]⟩ : ByteArray).size) : ((⟨#[48, 49, 50, 51, 52, 53, 54, 55, 56, 57, 65, 66, 67, 68, 69, 70]⟩ : ByteArray)[q]'h).toNat = (upD q).toNat := by
  have h1 : (L ⟨#[48, 49, 50, 51, 52, 53, 54, 55, 56, 57, 65, 66, 67, 68, 69, 70]⟩)[q]'h = (⟨#[48, 49, 50, 51, 52, 53, 54, 55, 56, 57, 65, 66, 67, 68, 69, 70]⟩ : ByteArray)[q]'h := rfl
  unfold upD
  have h2 : (L ⟨#[48, 49, 50, 51, 52, 53, 54, 55, 56, 57, 65, 66, 67, 68, 69, 70]⟩)[q]? = some ((L ⟨#[48, 49, 50, 51, 52, 53, 54, 55, 56, 57, 65, 66, 67, 68, 69, 70]⟩)[q]'h) := List.getElem?_eq_getElem h
  rw [List.getD, h2]
  rfl

theorem E_next2 (s : ByteArray) (k : Nat) (h : k < s.size) : mk (E ((L s).take (k + 1))) = mk (E ((L s).take k)) ++ mk (esc1 s[k]) := by
  have hat : (L s)[k]'h = s[k] := rfl
  rw [List.take_succ_eq_append_getElem (show k < (L s).length from h), E_app, hat, mk_app]
  congr 2
  simp [E]
set_option maxRecDepth 100000 in
set_option maxHeartbeats 4000000 in
theorem ref1_Escape (s : ByteArray) (w : World) (hs : s.size ≤ 1000000000) :
    Calls Tryz.prog 60 #[.string s] w fun e w' => e = .returned (.string (escB s)) ∧ Below w.heap.size w w' := by
  go_enter Tryz.func60, Tryz.ntmps60
  go_wp2
  go_loopw [3, 4] (fun o i wr => ∃ k : Nat, k ≤ s.size ∧ i = .int .i64 k ∧ o = .string (mk (E ((L s).take k))) ∧ Below w.heap.size w wr) (fun _ i _ => s.size - (intOf i).toNat)
  case atStart => exact ⟨0, Nat.zero_le _, rfl, rfl, Below.refl _ _⟩
  case round =>
    obtain ⟨k, hk, rfl, rfl, hb⟩ := hrel
    by_cases hlt : k < s.size
    · have hpl := plain_eq s[k]
      have hoz : (mk (E ((L s).take k))).size ≤ 3000000000 := by
        rw [mk_size]
        have := E_len ((L s).take k)
        rw [List.length_take, L_len] at this
        omega
      have hnx := E_next2 s k hlt
      obtain ⟨o, ho⟩ : ∃ o, mk (E ((L s).take k)) = o := ⟨_, rfl⟩
      rw [ho] at hnx hoz
      rw [ho]
      have HNX := Lib.hid hnx; have HB := Lib.hid hb
      clear hnx hb ho
      by_cases hp : plainB s[k] = true
      · have he1 : mk (esc1 s[k]) = s.extract k (k + 1) := by
          unfold esc1; rw [if_pos hp]
          apply L_inj
          rw [L_mk, L_ext, List.take_succ_eq_append_getElem (by exact hlt), List.drop_append_of_le_length (by rw [List.length_take, L_len]; omega), List.drop_eq_nil_of_le (by rw [List.length_take, L_len]; omega)]
          rfl
        have hz1 : (s.extract k (k + 1)).size = 1 := by rw [← he1, mk_size]; unfold esc1; rw [if_pos hp]; rfl
        have s1 : ¬ 9223372036854775807 < o.size + 1 := by omega
        have s2 : ¬ 9223372036854775807 < o.size + (s.extract k (k + 1)).size := by omega
        have HE := Lib.hid he1
        rw [hpl] at hp
        clear he1 hpl
        cases hl : letN s[k]
        · cases hd : digN s[k]
          · rw [hl, hd] at hp
            have hin : (L ⟨#[45, 46, 95, 126, 47]⟩).contains s[k] = true := by simpa using hp
            have HL := Lib.hid hl; have HD := Lib.hid hd; have HI := Lib.hid hin
            clear hl hd hin hp
            go_wp2_with fail
            refine (ref1_letter s[k] _).mono ?_
            rintro e w1 ⟨rfl, rfl⟩
            rw [HL.out]
            go_wp2_with fail
            refine (ref1_digit s[k] _).mono ?_
            rintro e w1 ⟨rfl, rfl⟩
            rw [HD.out]
            go_wp2_with fail
            refine (ref1_In s[k] ⟨#[45, 46, 95, 126, 47]⟩ _ (by decide)).mono ?_
            rintro e w1 ⟨rfl, rfl⟩
            rw [HI.out]
            go_wp2_with fail
            go_roundw
            case measure => exact meas hlt .i64 .i64
            case rel => exact ⟨k + 1, by omega, by go_num, by rw [HNX.out, HE.out], HB.out⟩
          · have HL := Lib.hid hl; have HD := Lib.hid hd
            clear hl hd hp
            go_wp2_with fail
            refine (ref1_letter s[k] _).mono ?_
            rintro e w1 ⟨rfl, rfl⟩
            rw [HL.out]
            go_wp2_with fail
            refine (ref1_digit s[k] _).mono ?_
            rintro e w1 ⟨rfl, rfl⟩
            rw [HD.out]
            go_wp2_with fail
            go_roundw
            case measure => exact meas hlt .i64 .i64
            case rel => exact ⟨k + 1, by omega, by go_num, by rw [HNX.out, HE.out], HB.out⟩
        · have HL := Lib.hid hl
          clear hl hp
          go_wp2_with fail
          refine (ref1_letter s[k] _).mono ?_
          rintro e w1 ⟨rfl, rfl⟩
          rw [HL.out]
          go_wp2_with fail
          go_roundw
          case measure => exact meas hlt .i64 .i64
          case rel => exact ⟨k + 1, by omega, by go_num, by rw [HNX.out, HE.out], HB.out⟩
      · have hp0 : plainB s[k] = false := by simpa using hp
        have hl : letN s[k] = false := by cases h : letN s[k] <;> simp_all
        have hd : digN s[k] = false := by cases h : digN s[k] <;> simp_all
        have hin : (L ⟨#[45, 46, 95, 126, 47]⟩).contains s[k] = false := by cases h : (L ⟨#[45, 46, 95, 126, 47]⟩).contains s[k] <;> simp_all
        have hlt256 := s[k].toNat_lt
        obtain ⟨u, hu⟩ : ∃ u, s[k].toNat / 16 = u := ⟨_, rfl⟩
        obtain ⟨v, hv⟩ : ∃ v, s[k].toNat % 16 = v := ⟨_, rfl⟩
        have huI : (s[k].toNat : Int) / 16 = (u : Int) := by omega
        have hvI : (s[k].toNat : Int) % 16 = (v : Int) := by omega
        have hu16 : (u : Int) < 16 := by omega
        have hv16 : (v : Int) < 16 := by omega
        have q1 : u < (⟨#[48, 49, 50, 51, 52, 53, 54, 55, 56, 57, 65, 66, 67, 68, 69, 70]⟩ : ByteArray).size := by show u < 16; omega
        have q2 : v < (⟨#[48, 49, 50, 51, 52, 53, 54, 55, 56, 57, 65, 66, 67, 68, 69, 70]⟩ : ByteArray).size := by show v < 16; omega
        obtain ⟨c1, hc1⟩ : ∃ c : UInt8, upD u = c := ⟨_, rfl⟩
        obtain ⟨c2, hc2⟩ : ∃ c : UInt8, upD v = c := ⟨_, rfl⟩
        have g1 := congrArg (fun k : Nat => (k : Int)) (up_get2 u (by omega) q1)
        have g2 := congrArg (fun k : Nat => (k : Int)) (up_get2 v (by omega) q2)
        simp only [hc1, hc2] at g1 g2
        obtain ⟨x, hx1⟩ : ∃ x : Int, x = (c1.toNat : Int) := ⟨_, rfl⟩
        obtain ⟨y, hy1⟩ : ∃ y : Int, y = (c2.toNat : Int) := ⟨_, rfl⟩
        obtain ⟨z, hz⟩ : ∃ z : ByteArray, z = ⟨#[c1, c2]⟩ := ⟨_, rfl⟩
        have hzs : z.size = 2 := by rw [hz]; rfl
        have hes : mk (esc1 s[k]) = ⟨#[37]⟩ ++ z := by
          unfold esc1; rw [hp0, if_neg (by decide), hu, hv, hc1, hc2, hz]
          apply L_inj; rw [L_app, L_mk]; rfl
        have hzz : (⟨#[UInt8.ofNat x.toNat, UInt8.ofNat y.toNat]⟩ : ByteArray) = z := by rw [hx1, hy1, hz]; simp
        have hcv : ∀ (W : World) (g : Nat), W.cell? ⟨g, 0, none⟩ = some (.int .u8 x) → W.cell? ⟨g, 1, none⟩ = some (.int .u8 y) → (convert 104 9 (.slice (some ⟨g, 0, none⟩) 2 2)).run Tryz.prog W = .ok (.string z) W := fun W g h0 h1 => by
          rw [← hzz]; exact conv2 W g x y _ _ _ 2 Tryz.underlying104 Tryz.underlying5 Tryz.underlying9 h0 h1
        have hcn : ∀ W : World, (convert 104 9 (.slice (some ⟨W.heap.size, 0, none⟩) 2 2)).run Tryz.prog (W.alloc (.cells #[.int .u8 x, .int .u8 y] 5)) = .ok (.string z) (W.alloc (.cells #[.int .u8 x, .int .u8 y] 5)) := fun W =>
          hcv _ _ (by rw [World.cell?_alloc_mark]; rfl) (by rw [World.cell?_alloc_mark]; rfl)
        have hnx2 : mk (E ((L s).take (k + 1))) = o ++ ⟨#[37]⟩ ++ z := by
          rw [HNX.out, hes]
          apply L_inj; simp only [L_app, List.append_assoc]
        rw [← hx1] at g1
        rw [← hy1] at g2
        have s1 : ¬ 9223372036854775807 < o.size + 1 := by omega
        have s2 : ¬ 9223372036854775807 < o.size + 1 + z.size := by omega
        have HN2 := Lib.hid hnx2
        have HL := Lib.hid hl; have HD := Lib.hid hd; have HI := Lib.hid hin
        clear hnx2 hl hd hin hp hp0 hpl hes hzz hz hc1 hc2 hx1 hy1 hzs hu hv HNX hoz
        go_wp2_with fail
        refine (ref1_letter s[k] _).mono ?_
        rintro e w1 ⟨rfl, rfl⟩
        rw [HL.out]
        go_wp2_with fail
        refine (ref1_digit s[k] _).mono ?_
        rintro e w1 ⟨rfl, rfl⟩
        rw [HD.out]
        go_wp2_with fail
        refine (ref1_In s[k] ⟨#[45, 46, 95, 126, 47]⟩ _ (by decide)).mono ?_
        rintro e w1 ⟨rfl, rfl⟩
        rw [HI.out]
        go_wp2_with fail
        go_region
        all_goals go_wp2
        go_roundw
        case measure => exact meas hlt .i64 .i64
        case rel => exact ⟨k + 1, by omega, by go_num, by rw [HN2.out], fr_drew (fr_alloc HB.out _)⟩
    · have hk2 : (L s).take k = L s := List.take_of_length_le (by rw [L_len]; omega)
      rw [hk2]
      have hE : mk (E (L s)) = escB s := rfl
      rw [hE]
      go_wp2
      go_ret
      exact ⟨rfl, hb⟩
end Go.Proofs.YthjnmcciejfpcaaGreatDoor
