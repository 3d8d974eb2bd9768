/- conduitlaw12.RuleExts: true. -/
import Derived.Test.YtoplnepbjjcbcaaGreatDoorRuG
import Derived.ArgAppend
import Derived.Lib.SlBytesConst
namespace Go.Proofs.YtoplnepbjjcbcaaGreatDoor
set_option linter.unusedVariables false
set_option linter.unusedSimpArgs false
open Go.RowKit

def xtL (k : Nat) : List UInt8 := 46 :: List.replicate k 112
theorem xtL_succ (k : Nat) : xtL (k + 1) = xtL k ++ [112] := by
  unfold xtL
  rw [List.replicate_succ', List.cons_append]
theorem xtL_len (k : Nat) : (xtL k).length = 1 + k := by unfold xtL; simp; omega
def letB (c : UInt8) : Bool := (L letSet).contains c
theorem letAll : (List.range 256).all (fun n => letB (UInt8.ofNat n) == (Nat.ble 97 n && Nat.ble n 122)) = true := by kernel_rfl
theorem letOne (n : Nat) (h : n < 256) : letB (UInt8.ofNat n) = (Nat.ble 97 n && Nat.ble n 122) := beq_iff_eq.1 (List.all_eq_true.1 letAll n (List.mem_range.2 h))
theorem ext_cons (l : List UInt8) : extOk (mk (46 :: l)) = (!l.isEmpty && Nat.ble l.length 8 && l.all letB) := by
  have ht : tailE (mk (46 :: l)) = mk l := by
    unfold tailE Lib.trimPrefix
    rw [L_mk]
    simp [Lib.hasPrefix]
  unfold extOk
  rw [ht, toList_L, L_mk, L_mk, mk_size]
  rw [show Lib.hasPrefix (46 :: l) [46] = true by simp [Lib.hasPrefix], Bool.true_and]
  rfl
theorem set_all {p : UInt8 → Bool} (h : p 112 = true) (c : UInt8) : ∀ k q : Nat, q < k → ((List.replicate k (112 : UInt8)).set q c).all p = p c
  | 0, q, hq => by omega
  | k + 1, 0, _ => by
    rw [List.replicate_succ, List.set_cons_zero, List.all_cons]
    have : (List.replicate k (112 : UInt8)).all p = true := by simp [h]
    rw [this, Bool.and_true]
  | k + 1, q + 1, hq => by
    rw [List.replicate_succ, List.set_cons_succ, List.all_cons, h, Bool.true_and, set_all h c k q (by omega)]
theorem xt_one (k q b : Nat) (hq : q < k) (hb : b < 256) : isOk0 4 ⟨#[]⟩ (mk ((xtL k).set (1 + q) (UInt8.ofNat b))) 0 1 = (Nat.ble k 8 && (Nat.ble 97 b && Nat.ble b 122)) := by
  have hs : (xtL k).set (1 + q) (UInt8.ofNat b) = 46 :: (List.replicate k 112).set q (UInt8.ofNat b) := by
    rw [Nat.add_comm]; rfl
  unfold isOk0 pathOk
  rw [hs, ext_cons, set_all (by kernel_rfl) _ k q hq, letOne b hb]
  have h1 : hostOk ⟨#[]⟩ = true := by kernel_rfl
  have h2 : ((List.replicate k (112 : UInt8)).set q (UInt8.ofNat b)).isEmpty = false := by
    cases k with
    | zero => omega
    | succ k => cases q <;> rfl
  rw [h1, h2, List.length_set, List.length_replicate]
  simp
theorem xt_zero : isOk0 4 ⟨#[]⟩ (mk (xtL 0)) 0 1 = false := by unfold isOk0; rw [pathOkE_eq]; kernel_rfl
theorem xt_cells (k : Nat) : ucells (xtL k) = .int .u8 46 :: List.replicate k (.int .u8 112) := by
  unfold ucells xtL
  rw [List.map_cons, List.map_replicate]
  rfl
theorem fr_none {a b c : World} (h : Below a.heap.size a b) (hg : b.grownBy c none) : Below a.heap.size a c := fr_grown (v := .nilIface) h hg (by intro k hk; cases hk)
theorem own_base {w : World} {base e size n : Nat} {v : Value} {xs : List Value} (h : w.ownsRow base e size v n xs) {base' : Nat} (hb : base' ≤ base) : w.ownsRow base' e size v n xs :=
  ⟨h.1, h.2.imp id fun ⟨g, cap, cur, h1, h2, h3⟩ => ⟨g, cap, cur, h1, by omega, h3⟩⟩
theorem own_some {w : World} {base e size n : Nat} {v : Value} {xs : List Value} (h : w.ownsRow base e size v n xs) (hn : 0 < n) : ∃ g cap, v = .slice (some ⟨g, 0, none⟩) n cap := by
  rcases h.2 with ⟨_, h0⟩ | ⟨g, cap, cur, hv, _⟩
  · omega
  · exact ⟨g, cap, hv⟩
def Xt (w1 wr : World) (v : Value) (j : Nat) : Prop :=
  (j = 0 ∧ v = .slice (some ⟨w1.heap.size, 0, none⟩) 1 1 ∧ wr = w1.alloc (.cells #[.int .u8 46] 5 (1, 2))) ∨ (0 < j ∧ Below w1.heap.size w1 wr ∧ wr.ownsRow w1.heap.size 5 1 v (1 + j) (ucells (xtL j)))
set_option maxRecDepth 100000 in
set_option maxHeartbeats 8000000 in
theorem exts_walk (x y : Int) (b k q : Nat) (w : World) (hm : MaxL w) (hx : x % 11 = (k : Int)) (hk : k < 11) (hq : 0 < k → y % (k : Int) = (q : Int) ∧ q < k) (x0 : 0 ≤ x) (x1 : x ≤ 255) (y0 : 0 ≤ y) (y1 : y ≤ 255) (hb : b < 256) :
    Calls Tryz.prog 6 #[.int .u8 x, .int .u8 y, .int .u8 (b : Int)] w fun e w' => e = .returned (.bool true) ∧ Below w.heap.size w w' := by
  have HM := Lib.hid hm; clear hm
  have HQ := Lib.hid hq; clear hq
  obtain ⟨i0, hi, hz0, hz1, hz2⟩ := info_parts u8_info
  have kc := fun (w : World) (C : Array Value) (n c : Nat) => Lib.run_convert_bytes_const (P := Tryz.prog) w 50 5 C n c Tryz.underlying50 Tryz.underlying5
  go_enter Tryz.func6, Tryz.ntmps6
  go_wp2_with fail
  refine (law12_known _ HM.out).mono ?_
  rintro e w1 ⟨rfl, hb1⟩
  go_wp2
  clear hx
  go_loopw [8, 9] (fun v i wr => ∃ j : Nat, j ≤ k ∧ i = .int .i64 j ∧ Xt w1 wr v j) (fun _ i _ => k - (intOf i).toNat)
  case atStart => exact ⟨0, Nat.zero_le _, rfl, .inl ⟨rfl, rfl, rfl⟩⟩
  case round =>
    obtain ⟨j, hj, rfl, hX⟩ := hrel
    clear kc
    by_cases hlt : j < k
    · rcases hX with ⟨rfl, rfl, rfl⟩ | ⟨hj0, hbb, hown⟩
      · go_wp2_with (first
          | (at_builtin
             refine wpList_append_grows _ rfl (.tmp 23) (.tmp 24) _ rfl 5 i0 _ 1 1 Tryz.underlying50 hi hz0 hz1 hz2 rfl (by decide) (some ⟨w1.heap.size, 0, none⟩) 1 1 [.int .u8 46] rfl (by intro h; cases h) rfl ?c0 ⟨w1.heap.size + 1, 0, none⟩ 1 1 [.int .u8 112] rfl rfl ?cc (ucell_one _) (by decide) (by simp only [maxLen]; omega) (by omega) ?_
             rotate_left 2
             intro v2 w3 hown2 hg2))
        case c0 =>
          intro b hb j u hu
          injection hb with hb
          subst hb
          have hj : j = 0 := by cases j with | zero => rfl | succ j => simp at hu
          subst hj
          rw [add0]
          have := fr_cell (fr_alloc (fr_refl (w1.alloc (.cells #[.int .u8 46] 5 (1, 2)))) (.cells #[.int .u8 112] 5)) (b := w1.heap.size) (o := 0) (v := .int .u8 46) (by rw [World.cell?_alloc_mark]; rfl)
          rw [this]; simpa using hu
        case cc => exact fun jj u h => by have := new_cells (w1.alloc (.cells #[.int .u8 46] 5 (1, 2))) [.int .u8 112] 5 jj u h; simpa using this
        go_roundw
        case measure => exact meas hlt .i64 .i64
        case rel =>
          have hbz := fr_alloc (fr_alloc (fr_refl w1) (.cells #[.int .u8 46] 5 (1, 2))) (.cells #[.int .u8 112] 5)
          refine ⟨1, by omega, by go_num, .inr ⟨by omega, fr_none hbz hg2, ?_⟩⟩
          have hge := own_base hown2 (base' := w1.heap.size) (by simp; omega)
          exact hge
      · have HO := Lib.hid hown; have HB := Lib.hid hbb; clear hown hbb
        go_wp2_with (first
          | (at_builtin
             refine wpList_append_own _ rfl (.tmp 23) (.tmp 24) _ rfl w1.heap.size 5 i0 _ 1 1 Tryz.underlying50 hi hz0 hz1 hz2 rfl (by decide) _ _ _ rfl (HO.out.alloc _) ⟨wr.heap.size, 0, none⟩ 1 1 [.int .u8 112] rfl rfl (new_cells _ _ _) (ucell_one _) (by simp only [maxLen]; omega) (by omega) (Nat.le_trans HB.out.size (by simp)) ?_
             intro v2 w3 hown2 hg2 _))
        go_roundw
        case measure => exact meas hlt .i64 .i64
        case rel =>
          refine ⟨j + 1, by omega, by go_num, .inr ⟨by omega, fr_grown (fr_alloc HB.out _) hg2 (own_ge HO.out), ?_⟩⟩
          rw [xtL_succ, ucells_snoc]
          exact hown2
    · obtain rfl : j = k := by omega
      rcases hX with ⟨rfl, rfl, rfl⟩ | ⟨hj0, hbb, hown⟩
      · clear HQ
        have hcv : (convert 50 9 (.slice (some ⟨w1.heap.size, 0, none⟩) 1 1)).run Tryz.prog (w1.alloc (.cells #[.int .u8 46] 5 (1, 2))) = .ok (.string ⟨#[UInt8.ofNat (46 : Int).toNat]⟩) (w1.alloc (.cells #[.int .u8 46] 5 (1, 2))) :=
          conv1 _ _ 46 _ _ _ 1 Tryz.underlying50 Tryz.underlying5 Tryz.underlying9 (by rw [World.cell?_alloc_mark]; rfl)
        rw [show (⟨#[UInt8.ofNat (46 : Int).toNat]⟩ : ByteArray) = mk (xtL 0) by rfl] at hcv
        obtain ⟨z, hz⟩ : ∃ z, mk (xtL 0) = z := ⟨_, rfl⟩
        have hzs : z.size ≤ 2000000 := by rw [← hz]; decide
        have hxo := xt_zero
        rw [hz] at hcv hxo
        have HX := Lib.hid hxo; have HZ := Lib.hid hzs
        have HB := Lib.hid (fr_alloc hb1 (.cells #[.int .u8 46] 5 (1, 2)))
        clear hxo hzs hz hb1
        go_wp2_with fail
        refine (is_at false _ _ _ _ _ _ HX.out (HM.out.fr HB.out) (by decide) HZ.out).mono ?_
        rintro e w2 ⟨rfl, hb2⟩
        unfold confR
        go_wp2
        go_ret
        exact ⟨rfl, fr_trans HB.out hb2⟩
      · obtain ⟨hq, hqk⟩ := HQ.out hj0
        obtain ⟨n, hn⟩ : ∃ n, 1 + j = n := ⟨_, rfl⟩
        rw [hn] at hown
        obtain ⟨g, cap, rfl⟩ := own_some hown (by omega)
        have hst := hown.stored (1 + q) (.int .u8 (b : Int))
        have hge := own_ge hown g rfl
        have hck : (wr.cell? ⟨g, 1 + q, none⟩).isSome = true := by
          rw [hown.cellAt (1 + q) (by omega)]
          rw [xt_cells]
          simp; omega
        obtain ⟨old, hold⟩ := Option.isSome_iff_exists.1 hck
        have hfz := hown.frozenAt (1 + q)
        rw [show (ucells (xtL j)).set (1 + q) (.int .u8 (b : Int)) = ucells ((xtL j).set (1 + q) (UInt8.ofNat b)) by
          unfold ucells; rw [List.map_set]; congr 2; simp; omega] at hst
        have hcv := own_back (l := (xtL j).set (1 + q) (UInt8.ofNat b)) hst.1
        have hxo := xt_one j q b hqk hb
        obtain ⟨z, hz⟩ : ∃ z, mk ((xtL j).set (1 + q) (UInt8.ofNat b)) = z := ⟨_, rfl⟩
        have hzs : z.size ≤ 2000000 := by rw [← hz, mk_size, List.length_set, xtL_len]; omega
        rw [hz] at hcv hxo
        have hwf : Below w.heap.size w (wr.setCell ⟨g, 1 + q, none⟩ (.int .u8 (b : Int))) := fr_set (fr_trans hb1 hbb) (Nat.le_trans hb1.size hge) _
        have HX := Lib.hid hxo; have HZ := Lib.hid hzs; have HF := Lib.hid hwf
        have qI : (1 : Int) + (q : Int) < (n : Int) := by omega
        have q0 : (0 : Int) ≤ (q : Int) := by omega
        have hj0I : (0 : Int) < (j : Int) := by omega
        clear hxo hzs hz hwf hst hck hge hown hbb hb1 HQ
        by_cases k8 : j ≤ 8
        · have k8I : (j : Int) ≤ 8 := by omega
          by_cases b1 : 97 ≤ b
          · have b1I : (97 : Int) ≤ (b : Int) := by omega
            by_cases b2 : b ≤ 122
            · have b2I : (b : Int) ≤ 122 := by omega
              have hv := HX.out.trans (show (Nat.ble j 8 && (Nat.ble 97 b && Nat.ble b 122)) = true by rw [ble_yes k8, ble_yes b1, ble_yes b2]; rfl)
              have HV := Lib.hid hv; clear hv
              go_wp2_with fail
              refine (is_at true _ _ _ _ _ _ HV.out (HM.out.fr HF.out) (by decide) HZ.out).mono ?_
              rintro e w2 ⟨rfl, hb2⟩
              unfold confR
              go_wp2
              go_ret
              exact ⟨rfl, fr_trans HF.out hb2⟩
            · have b2I : (122 : Int) < (b : Int) := by omega
              have hv := HX.out.trans (show (Nat.ble j 8 && (Nat.ble 97 b && Nat.ble b 122)) = false by rw [ble_no b2]; simp)
              have HV := Lib.hid hv; clear hv
              go_wp2_with fail
              refine (is_at false _ _ _ _ _ _ HV.out (HM.out.fr HF.out) (by decide) HZ.out).mono ?_
              rintro e w2 ⟨rfl, hb2⟩
              unfold confR
              go_wp2
              go_ret
              exact ⟨by show Ending.returned (Value.bool (!decide ((b : Int) ≤ 122))) = _; rw [decide_eq_false (by omega)]; rfl, fr_trans HF.out hb2⟩
          · have b1I : (b : Int) < 97 := by omega
            have hv := HX.out.trans (show (Nat.ble j 8 && (Nat.ble 97 b && Nat.ble b 122)) = false by rw [ble_no b1]; simp)
            have HV := Lib.hid hv; clear hv
            go_wp2_with fail
            refine (is_at false _ _ _ _ _ _ HV.out (HM.out.fr HF.out) (by decide) HZ.out).mono ?_
            rintro e w2 ⟨rfl, hb2⟩
            unfold confR
            go_wp2
            go_ret
            exact ⟨rfl, fr_trans HF.out hb2⟩
        · have k8I : (8 : Int) < (j : Int) := by omega
          have hv := HX.out.trans (show (Nat.ble j 8 && (Nat.ble 97 b && Nat.ble b 122)) = false by rw [ble_no k8]; simp)
          have HV := Lib.hid hv; clear hv
          go_wp2_with fail
          refine (is_at false _ _ _ _ _ _ HV.out (HM.out.fr HF.out) (by decide) HZ.out).mono ?_
          rintro e w2 ⟨rfl, hb2⟩
          unfold confR
          go_wp2
          go_ret
          exact ⟨rfl, fr_trans HF.out hb2⟩
theorem law12_exts (x y z : Int) (w : World) (hm : MaxL w) (x0 : 0 ≤ x) (x1 : x ≤ 255) (y0 : 0 ≤ y) (y1 : y ≤ 255) (z0 : 0 ≤ z) (z1 : z ≤ 255) :
    Calls Tryz.prog 6 #[.int .u8 x, .int .u8 y, .int .u8 z] w fun e w' => e = .returned (.bool true) ∧ Below w.heap.size w w' := by
  obtain ⟨b, rfl⟩ : ∃ b : Nat, z = (b : Int) := ⟨z.toNat, by omega⟩
  obtain ⟨k, hk⟩ : ∃ k : Nat, x % 11 = (k : Int) := ⟨(x % 11).toNat, by omega⟩
  refine exts_walk x y b k (y % (k : Int)).toNat w hm hk (by omega) (fun h => ?_) x0 x1 y0 y1 (by omega)
  have hk0 : (k : Int) ≠ 0 := by omega
  have h1 := Int.emod_nonneg y hk0
  have h2 := Int.emod_lt_of_pos y (show (0 : Int) < (k : Int) by omega)
  omega
end Go.Proofs.YtoplnepbjjcbcaaGreatDoor
