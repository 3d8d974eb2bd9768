/- conduitlaw11.PathBack: true. -/
import Derived.Test.YtoplnepbjjcbcaaDoorPBack2
import Derived.Deep.QuietTactic
import Derived.BigQuiet
namespace Go.Proofs.YtoplnepbjjcbcaaDoor
set_option linter.unusedVariables false
set_option linter.unusedSimpArgs false
open Go.RowKit

theorem T_len (l : List (List UInt8)) (h : ∀ x ∈ l, x.length ≤ 400) : (T l).length ≤ l.length * 401 := joinTail_len 400 l h
set_option maxRecDepth 100000 in
set_option maxHeartbeats 4000000 in
theorem law11_back (p : ByteArray) (w : World) (hm : MaxL w) :
    Calls Tryd.prog 3 #[.string p] w fun e w' => e = .returned (.bool true) ∧ Below w.heap.size w w' := by
  have HM := Lib.hid hm; clear hm
  by_cases hbig : 400 < p.size
  · have hbI : (400 : Int) < (p.size : Int) := by omega
    go_enter Tryd.func3, Tryd.ntmps3
    go_wp2_with fail
    refine (law11_known _ HM.out).mono ?_
    rintro e w1 ⟨rfl, hw1⟩
    go_wp2
    go_ret
    exact ⟨rfl, hw1⟩
  · have hbI : ¬ (400 : Int) < (p.size : Int) := by omega
    have hp4 : p.size ≤ 8388608 := by omega
    have HP4 := Lib.hid hp4
    cases hc : cleanS p with
    | none =>
      have HC := Lib.hid (cleanR_none hc)
      clear hc hp4 hbig
      go_enter Tryd.func3, Tryd.ntmps3
      go_wp2_with fail
      refine (law11_known _ HM.out).mono ?_
      rintro e w1 ⟨rfl, hw1⟩
      have HW1 := Lib.hid hw1; clear hw1
      go_wp2_with fail
      refine (clean_at _ _ _ HC.out (HM.out.fr HW1.out) HP4.out).mono ?_
      rintro e w2 ⟨rfl, hb2⟩
      go_wp2
      go_ret
      exact ⟨rfl, fr_trans HW1.out hb2⟩
    | some a =>
      obtain ⟨st, t, hsh⟩ := clean_shape hc (by omega)
      have HC := Lib.hid (cleanR_some hc)
      have HBK := Lib.hid (cleanR_some (shape_back hsh))
      have has := shape_size hsh
      have hsg := shape_segs_ hsh
      have hen := shape_end_ hsh
      have HBG := Lib.hid (begS_root a)
      have HGD := Lib.hid hsh.good
      obtain ⟨n, hn⟩ : ∃ n, st.length = n := ⟨_, rfl⟩
      have hn4 : n ≤ 401 := by rw [← hn]; exact hsh.len
      obtain ⟨sE, hsE⟩ : ∃ sE, mk (T st) = sE := ⟨_, rfl⟩
      have hsz : sE.size ≤ 161000 := by
        rw [← hsE, mk_size]
        have h1 := T_len st (fun x hx => (hsh.good x hx).len)
        have h2 : st.length * 401 ≤ 401 * 401 := Nat.mul_le_mul_right _ (by omega)
        omega
      rw [hsE] at hen
      have hez : (escB a).size ≤ 8388608 := by
        unfold escB; rw [mk_size]
        have := E_len (L a); rw [L_len] at this; omega
      have hkey : ((a.toList == sE.toList) = true ∨ ((a.toList == sE.toList) = false ∧ (a.toList == (sE ++ ⟨#[47]⟩).toList) = true)) := by
        rcases hen with ⟨-, h⟩ | ⟨-, h⟩
        · left; rw [h]; simp
        · right
          refine ⟨?_, by rw [h]; simp⟩
          cases hh : (a.toList == sE.toList) with
          | false => rfl
          | true =>
            have h0 : a.toList = sE.toList := beq_iff_eq.1 hh
            rw [toList_L, toList_L] at h0
            have h1 := congrArg List.length h0
            rw [L_len, L_len, h, size_app] at h1
            have h2 : (⟨#[47]⟩ : ByteArray).size = 1 := rfl
            omega
      have hz1 : ¬ 9223372036854775807 < sE.size + 1 := by omega
      have HEZ := Lib.hid hez; have HAS := Lib.hid has; have HSG := Lib.hid hsg; have HN := Lib.hid hn; have HSE := Lib.hid hsE
      have hEb : ∀ W : World, Calls Tryd.prog 8 #[.string a] W fun e w' => e = .returned (.string (escB a)) ∧ Below W.heap.size W w' := fun W => ref1_Escape a W (by omega)
      have HEB := Lib.hid hEb
      have HCB : RowKit.Hid (cleanR (cleanS (escB a)) = .tuple #[.string a, .nilIface]) := HBK.out
      obtain ⟨ea, hea⟩ : ∃ ea, escB a = ea := ⟨_, rfl⟩
      rw [hea] at HCB HEB HEZ
      clear hc hp4 hbig hsh hen hez has hsg hn hsE hEb HBK hea hsz
      rcases hkey with k1 | ⟨k1, k2⟩
      all_goals
        go_enter Tryd.func3, Tryd.ntmps3
        go_wp2_with fail
        refine (law11_known _ HM.out).mono ?_
        rintro e w1 ⟨rfl, hw1⟩
        have HW1 := Lib.hid hw1; clear hw1
        go_wp2_with fail
        refine (clean_at _ _ _ HC.out (HM.out.fr HW1.out) HP4.out).mono ?_
        rintro e w2 ⟨rfl, hb2⟩
        have HW2 := Lib.hid (fr_trans HW1.out hb2); clear hb2
        go_wp2_with fail
        refine (HEB.out _).mono ?_
        rintro e w3 ⟨rfl, hb3⟩
        have HW3 := Lib.hid (fr_trans HW2.out hb3); clear hb3
        go_wp2_with fail
        refine (clean_at _ _ _ HCB.out (HM.out.fr HW3.out) HEZ.out).mono ?_
        rintro e w4 ⟨rfl, hb4⟩
        have HW4 := Lib.hid (fr_trans HW3.out hb4); clear hb4
        go_wp2_with fail
        refine (segs_at a (st.map mk) n _ HSG.out (by rw [List.length_map]; exact HN.out) (HM.out.fr HW4.out) (by have := HAS.out; omega)).mono ?_
        rintro e w5 ⟨⟨A, c, rfl, hcc, hA⟩, hb5⟩
        have HW5 := Lib.hid (fr_trans HW4.out hb5)
        have HA := Lib.hid hA
        clear hcc hA hb5
        go_wp2
        go_loopw [8, 9] (fun s i wr => ∃ k : Nat, k ≤ n ∧ i = .int .i64 k ∧ s = .string (mk (T (st.take k))) ∧ Below w5.heap.size w5 wr) (fun _ i _ => n - (intOf i).toNat)
        case atStart => exact ⟨0, Nat.zero_le _, rfl, rfl, Below.refl _ _⟩
        case round =>
          obtain ⟨k, hk, rfl, rfl, hb⟩ := hrel
          by_cases hlt : k < n
          · have kx : k < st.length := by have := HN.out; omega
            obtain ⟨b1, o1, hA1, l1, c1⟩ := (HA.out.fr hb).at_ (k := k) (by rw [List.length_map]; exact kx)
            subst hA1
            rw [List.getElem_map] at c1
            have hnx : mk (T (st.take (k + 1))) = mk (T (st.take k)) ++ ⟨#[47]⟩ ++ mk st[k] := by
              rw [List.take_succ_eq_append_getElem kx, T_snoc]
              apply L_inj; simp only [L_app, L_mk, List.append_assoc]; rfl
            have hg := HGD.out st[k] (List.getElem_mem kx)
            have hoz : (mk (T (st.take k))).size ≤ 161000 := by
              rw [mk_size]
              have h1 := T_len (st.take k) (fun x hx => (HGD.out x (List.mem_of_mem_take hx)).len)
              rw [List.length_take] at h1
              have h2 : min k st.length * 401 ≤ 401 * 401 := Nat.mul_le_mul_right _ (by omega)
              omega
            obtain ⟨y, hy⟩ : ∃ y, mk st[k] = y := ⟨_, rfl⟩
            have hyl : y.toList = st[k] := by rw [← hy, toList_L, L_mk]
            have hd := hg.dot
            unfold dotL at hd
            rw [← hyl] at hd
            simp only [Bool.or_eq_false_iff] at hd
            obtain ⟨⟨-, y1⟩, y2⟩ := hd
            have hys : y.size ≤ 400 := by rw [← hy, mk_size]; exact hg.len
            rw [hy] at c1 hnx
            obtain ⟨o, ho⟩ : ∃ o, mk (T (st.take k)) = o := ⟨_, rfl⟩
            rw [ho] at hnx hoz
            rw [ho]
            have s1 : ¬ 9223372036854775807 < o.size + 1 := by omega
            have s2 : ¬ 9223372036854775807 < o.size + 1 + y.size := by omega
            have hkI : (k : Int) < (n : Int) := by omega
            have hk0 : (0 : Int) ≤ (k : Int) := by omega
            have HNX := Lib.hid hnx; have HB := Lib.hid hb
            clear hnx hb hg hy hyl ho hoz hys kx l1
            go_wp2_with fail
            go_roundw
            case measure => exact meas hlt .i64 .i64
            case rel => exact ⟨k + 1, by omega, by go_num, by rw [HNX.out], HB.out⟩
          · have hkn : st.take k = st := List.take_of_length_le (by have := HN.out; omega)
            rw [hkn, HSE.out]
            have HB := Lib.hid (fr_trans HW5.out hb)
            clear hb hkn
            go_wp2_with fail
            refine (begins_at a ⟨#[47]⟩ true _ HBG.out (HM.out.fr HB.out) (by have := HAS.out; omega) (by decide)).mono ?_
            rintro e w6 ⟨rfl, hb6⟩
            have HB6 := Lib.hid (fr_trans HB.out hb6)
            clear hb6
            go_wp2
            go_ret
            exact ⟨rfl, HB6.out⟩
end Go.Proofs.YtoplnepbjjcbcaaDoor
