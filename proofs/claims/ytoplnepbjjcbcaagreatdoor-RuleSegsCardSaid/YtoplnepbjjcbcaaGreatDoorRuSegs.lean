/- conduitlaw12.RuleSegs: true. -/
import Derived.Test.YtoplnepbjjcbcaaGreatDoorRuG
import Derived.Test.YtoplnepbjjcbcaaGreatDoorPBack
namespace Go.Proofs.YtoplnepbjjcbcaaGreatDoor
set_option linter.unusedVariables false
set_option linter.unusedSimpArgs false
open Go.RowKit

def sgS (b : Nat → Bool) : Nat → ByteArray
  | 0 => ⟨#[]⟩
  | k + 1 => if b k then sgS b k ++ ⟨#[47]⟩ ++ ⟨#[58]⟩ ++ ⟨#[110]⟩ else sgS b k ++ ⟨#[47]⟩ ++ ⟨#[110]⟩
def sgL (b : Nat → Bool) : Nat → List (List UInt8)
  | 0 => []
  | k + 1 => sgL b k ++ [if b k then [58, 110] else [110]]
theorem sgS_size (b : Nat → Bool) : ∀ k, (sgS b k).size ≤ k * 3
  | 0 => Nat.le_refl _
  | k + 1 => by
    have ih := sgS_size b k
    unfold sgS
    split
    · rw [size_app, size_app, size_app]; show _ + 1 + 1 + 1 ≤ _; omega
    · rw [size_app, size_app]; show _ + 1 + 1 ≤ _; omega
theorem sgL_len (b : Nat → Bool) : ∀ k, (sgL b k).length = k
  | 0 => rfl
  | k + 1 => by unfold sgL; rw [List.length_append, sgL_len b k]; rfl
theorem sgS_T (b : Nat → Bool) : ∀ k, L (sgS b k) = T (sgL b k)
  | 0 => rfl
  | k + 1 => by
    have ih := sgS_T b k
    unfold sgS sgL
    rw [T_snoc, ← ih]
    split
    · rw [L_app, L_app, L_app, List.append_assoc, List.append_assoc]; rfl
    · rw [L_app, L_app, List.append_assoc]; rfl
theorem sgL_mem (b : Nat → Bool) : ∀ k, ∀ x ∈ sgL b k, x = [58, 110] ∨ x = [110]
  | 0, x, h => by simp [sgL] at h
  | k + 1, x, h => by
    unfold sgL at h
    rcases List.mem_append.1 h with h | h
    · exact sgL_mem b k x h
    · rw [List.mem_singleton] at h
      subst h
      split
      · exact .inl rfl
      · exact .inr rfl
theorem sg_good {x : List UInt8} (h : x = [58, 110] ∨ x = [110] ∨ x = [58]) : GoodX 400 x := by
  rcases h with rfl | rfl | rfl
  · exact ⟨by decide, by decide, by decide⟩
  · exact ⟨by decide, by decide, by decide⟩
  · exact ⟨by decide, by decide, by decide⟩
theorem seg_ok {x : List UInt8} (h : x = [58, 110] ∨ x = [110]) : segOk (mk x) = true := by
  have e : segOk = segOkE := by funext x; unfold segOk segOkE; rw [allE_eq]
  rw [e]
  rcases h with h | h
  · rw [h]; show segOkE (mk [58, 110]) = true; kernel_rfl
  · rw [h]; show segOkE (mk [110]) = true; kernel_rfl
theorem seg_no : segOk (mk [58]) = false := by
  have e : segOk = segOkE := by funext x; unfold segOk segOkE; rw [allE_eq]
  rw [e]; show segOkE (mk [58]) = false; kernel_rfl
theorem sg_clean {a : ByteArray} {st : List (List UInt8)} {t : Bool} (h : Shape a st t) : cleanOk a = true := by
  have := shape_back h
  unfold cleanOk
  have e : escB a = mk (E (L a)) := rfl
  rw [e, this]
  exact eqB_refl a
theorem sg_one (b : Nat → Bool) (k : Nat) (hk0 : 0 < k) (hk : k ≤ 10) : isOk0 2 ⟨#[]⟩ (sgS b k) 0 1 = decide (k ≤ 8) := by
  have hsh : Shape (sgS b k) (sgL b k) false := ⟨by rw [sgS_T]; simp [tlB], fun h => by have := sgL_len b k; rw [h] at this; simp at this; omega, fun x hx => sg_good (by rcases sgL_mem b k x hx with h | h <;> simp [h]), by rw [sgL_len]; omega⟩
  have h1 : segsOk (sgS b k) = decide (k ≤ 8) := by
    unfold segsOk
    rw [shape_segs_ hsh, List.length_map, sgL_len]
    have : ((sgL b k).map mk).all segOk = true := by
      rw [List.all_eq_true]
      intro x hx
      obtain ⟨y, hy, rfl⟩ := List.mem_map.1 hx
      exact seg_ok (sgL_mem b k y hy)
    rw [this, Bool.true_and, Bool.eq_iff_iff]
    simp
  unfold isOk0 pathOk
  rw [h1, sg_clean hsh]
  have : hostOk ⟨#[]⟩ = true := by kernel_rfl
  rw [this]
  simp
theorem sg_bad (b : Nat → Bool) (k : Nat) (hk : k ≤ 10) : isOk0 2 ⟨#[]⟩ (sgS b k ++ ⟨#[47, 58]⟩) 0 1 = false := by
  have hsh : Shape (sgS b k ++ ⟨#[47, 58]⟩) (sgL b k ++ [[58]]) false := ⟨by rw [L_app, sgS_T, T_snoc]; simp [tlB], fun h => by simp at h, fun x hx => sg_good (by
    rcases List.mem_append.1 hx with hx | hx
    · rcases sgL_mem b k x hx with h | h <;> simp [h]
    · rw [List.mem_singleton.1 hx]; simp), by rw [List.length_append, sgL_len]; show k + 1 ≤ _; omega⟩
  have h1 : segsOk (sgS b k ++ ⟨#[47, 58]⟩) = false := by
    unfold segsOk
    rw [shape_segs_ hsh, List.map_append, List.all_append]
    simp [seg_no]
  unfold isOk0 pathOk
  rw [h1]
  simp
set_option maxRecDepth 100000 in
set_option maxHeartbeats 8000000 in
theorem segs_walk (x y : Int) (wr : Bool) (k0 : Nat) (w : World) (hm : MaxL w) (hx : x % 10 = (k0 : Int)) (hk0 : k0 < 10) (x0 : 0 ≤ x) (x1 : x ≤ 255) (y0 : 0 ≤ y) (y1 : y ≤ 65535) :
    Calls Tryz.prog 7 #[.int .u8 x, .int .u16 y, .bool wr] w fun e w' => e = .returned (.bool true) ∧ Below w.heap.size w w' := by
  obtain ⟨b, hbE⟩ : ∃ b : Nat → Bool, ∀ k : Nat, (bits BinOp.and IntKind.u16 (y / 2 ^ k) 1 == 1) = b k := ⟨fun k => (bits BinOp.and IntKind.u16 (y / 2 ^ k) 1 == 1), fun k => rfl⟩
  have HBE := Lib.hid hbE; clear hbE
  have HM := Lib.hid hm; clear hm
  obtain ⟨kk, hkk⟩ : ∃ kk : Nat, kk = k0 + 1 := ⟨_, rfl⟩
  have hkI : (k0 : Int) + 1 = (kk : Int) := by omega
  have hkk10 : kk ≤ 10 := by omega
  have HG := Lib.hid (sg_one b kk (by omega) hkk10); have HBD := Lib.hid (sg_bad b kk hkk10)
  clear hkk
  go_enter Tryz.func7, Tryz.ntmps7
  go_wp2_with fail
  refine (law12_known _ HM.out).mono ?_
  rintro e w1 ⟨rfl, hb1⟩
  go_wp2
  clear hx
  go_loop [8, 9] (fun s i => ∃ j : Nat, j ≤ kk ∧ i = .int .i64 j ∧ s = .string (sgS b j)) (fun _ i => kk - (intOf i).toNat)
  case atStart => exact ⟨0, Nat.zero_le _, rfl, rfl⟩
  case round =>
    obtain ⟨j, hj, rfl, rfl⟩ := hrel
    by_cases hlt : j < kk
    · have hsz := sgS_size b j
      have hbj := HBE.out j
      have e1 : sgS b (j + 1) = if b j then sgS b j ++ ⟨#[47]⟩ ++ ⟨#[58]⟩ ++ ⟨#[110]⟩ else sgS b j ++ ⟨#[47]⟩ ++ ⟨#[110]⟩ := rfl
      obtain ⟨ss, hss⟩ : ∃ ss, sgS b j = ss := ⟨_, rfl⟩
      rw [hss] at e1 hsz
      rw [hss]
      have s1 : ¬ 9223372036854775807 < ss.size + 1 := by omega
      have s2 : ¬ 9223372036854775807 < ss.size + 1 + 1 := by omega
      have s3 : ¬ 9223372036854775807 < ss.size + 1 + 1 + 1 := by omega
      have E1 := Lib.hid e1; clear e1 hss hsz
      cases hbv : b j
      all_goals
        rw [hbv] at hbj E1
        clear hbv
      · simp only [Bool.false_eq_true, if_false] at E1
        go_wp2_with fail
        go_round
        case measure => exact meas hlt .i64 .i64
        case rel => exact ⟨j + 1, by omega, by go_num, by rw [E1.out]⟩
      · simp only [if_true] at E1
        go_wp2_with fail
        go_round
        case measure => exact meas hlt .i64 .i64
        case rel => exact ⟨j + 1, by omega, by go_num, by rw [E1.out]⟩
    · obtain rfl : j = kk := by omega
      have hsz := sgS_size b j
      have hg := HG.out; have hbd := HBD.out
      obtain ⟨ss, hss⟩ : ∃ ss, sgS b j = ss := ⟨_, rfl⟩
      rw [hss] at hg hbd hsz
      rw [hss]
      have s1 : ¬ 9223372036854775807 < ss.size + 2 := by omega
      have hz1 : ss.size ≤ 2000000 := by omega
      have hz2 : (ss ++ ⟨#[47, 58]⟩).size ≤ 2000000 := by rw [size_app]; show _ + 2 ≤ _; omega
      have HG' := Lib.hid hg; have HBD' := Lib.hid hbd; have HZ1 := Lib.hid hz1; have HZ2 := Lib.hid hz2
      have HB1 := Lib.hid hb1; have HM1 := Lib.hid (HM.out.fr hb1)
      clear hg hbd hsz hss hz1 hz2 hb1 HG HBD HBE
      cases wr
      · rcases Nat.lt_or_ge 8 j with h8 | h8
        · have hd : decide (j ≤ 8) = false := by simp; omega
          have h8I : (8 : Int) < (j : Int) := by omega
          go_wp2_with fail
          refine (is_at false _ _ _ _ _ _ (HG'.out.trans hd) HM1.out (by decide) HZ1.out).mono ?_
          rintro e w2 ⟨rfl, hb2⟩
          unfold confR
          go_wp2
          go_ret
          exact ⟨by show Ending.returned (Value.bool (!decide ((j : Int) ≤ 8))) = _; rw [decide_eq_false (by omega)]; rfl, fr_trans HB1.out hb2⟩
        · have hd : decide (j ≤ 8) = true := by simp; omega
          have h8I : (j : Int) ≤ 8 := by omega
          go_wp2_with fail
          refine (is_at true _ _ _ _ _ _ (HG'.out.trans hd) HM1.out (by decide) HZ1.out).mono ?_
          rintro e w2 ⟨rfl, hb2⟩
          unfold confR
          go_wp2
          go_ret
          exact ⟨rfl, fr_trans HB1.out hb2⟩
      · go_wp2_with fail
        refine (is_at false _ _ _ _ _ _ HBD'.out HM1.out (by decide) HZ2.out).mono ?_
        rintro e w2 ⟨rfl, hb2⟩
        unfold confR
        go_wp2
        go_ret
        exact ⟨rfl, fr_trans HB1.out hb2⟩
theorem law12_segs (x y : Int) (wr : Bool) (w : World) (hm : MaxL w) (x0 : 0 ≤ x) (x1 : x ≤ 255) (y0 : 0 ≤ y) (y1 : y ≤ 65535) :
    Calls Tryz.prog 7 #[.int .u8 x, .int .u16 y, .bool wr] w fun e w' => e = .returned (.bool true) ∧ Below w.heap.size w w' :=
  segs_walk x y wr (x % 10).toNat w hm (by omega) (by omega) x0 x1 y0 y1
end Go.Proofs.YtoplnepbjjcbcaaGreatDoor
