/- octet.coded, octet.Unescape: what they answer. -/
import Derived.Test.YtfmnmgiefekjfaaGreatDoorOct2
import Derived.Laws.BytesArg
namespace Go.Proofs.YtfmnmgiefekjfaaGreatDoor
set_option linter.unusedVariables false
set_option linter.unusedSimpArgs false
open Go.RowKit

def ucells (l : List UInt8) : List Value := l.map fun c => .int .u8 (c.toNat : Int)
theorem ucells_len (l : List UInt8) : (ucells l).length = l.length := by simp [ucells]
theorem ucells_snoc (l : List UInt8) (c : UInt8) : ucells (l ++ [c]) = ucells l ++ [.int .u8 (c.toNat : Int)] := by simp [ucells]
theorem u8_info : (Tryz.prog.info? 5).map (fun i => (i.zero, i.size, i.bytes)) = some (some (.int .u8 0), 1, 1) := by kernel_rfl
theorem own_back {w : World} {base n : Nat} {v : Value} {l : List UInt8} (h : w.ownsRow base 5 1 v n (ucells l)) :
    (convert 106 9 v).run Tryz.prog w = .ok (.string (mk l)) w := by
  have hn : n = l.length := by have := h.1; rw [ucells_len] at this; omega
  subst hn
  rcases h.2 with ⟨rfl, h0⟩ | ⟨g, cap, cur, rfl, hb, hg, hnc, hcm, hcs, htake⟩
  · have : l = [] := by simpa [ucells] using h0
    subst this
    exact run_convert_bytes_nil w 106 5 Tryz.underlying106 Tryz.underlying5 0 0 9 Tryz.underlying9
  · refine run_convert_bytes_back w _ _ _ _ cap l Tryz.underlying106 Tryz.underlying5 Tryz.underlying9 fun j hj => ?_
    exact h.cells (g := g) rfl j _ (by simp [ucells, hj])

/-! ### two digits behind a percent sign -/
def code2 : List UInt8 → Option UInt8
  | a :: b :: _ => if isHexB a && isHexB b && !(hexN [a, b] == 0) then some (UInt8.ofNat (hexN [a, b])) else none
  | _ => none
def unescA : List UInt8 → List UInt8 → Option (List UInt8)
  | [], acc => some acc
  | [c], acc => if c = 37 then none else some (acc ++ [c])
  | [c, a], acc => if c = 37 then none else unescA [a] (acc ++ [c])
  | c :: a :: b :: r, acc => if c = 37 then (match code2 [a, b] with
    | some z => unescA r (acc ++ [z])
    | none => none) else unescA (a :: b :: r) (acc ++ [c])
theorem unescA_plain {c : UInt8} (h : c ≠ 37) (l acc : List UInt8) : unescA (c :: l) acc = unescA l (acc ++ [c]) := by
  match l with
  | [] => simp [unescA, h]
  | [a] => simp [unescA, h]
  | a :: b :: r => simp [unescA, h]
theorem unescA_pct (l acc : List UInt8) : unescA (37 :: l) acc = match code2 l with
    | some z => unescA (l.drop 2) (acc ++ [z])
    | none => none := by
  match l with
  | [] => rfl
  | [a] => rfl
  | a :: b :: r => 
    have h : code2 (a :: b :: r) = code2 [a, b] := rfl
    rw [h]
    show (if (37 : UInt8) = 37 then _ else _) = _
    rw [if_pos rfl]
    rfl
def unescS (s : ByteArray) : Option (List UInt8) := unescA (L s) []
theorem unescA_len : ∀ (l acc r : List UInt8), unescA l acc = some r → r.length ≤ acc.length + l.length
  | [], acc, r, h => by simp [unescA] at h; subst h; simp
  | [c], acc, r, h => by
    unfold unescA at h
    split at h
    · cases h
    · injection h with h; subst h; simp
  | [c, a], acc, r, h => by
    unfold unescA at h
    split at h
    · cases h
    · have := unescA_len [a] _ r h; simp at this ⊢; omega
  | c :: a :: b :: l, acc, r, h => by
    unfold unescA at h
    split at h
    · split at h
      · have := unescA_len l _ r h; simp at this ⊢; omega
      · cases h
    · have := unescA_len (a :: b :: l) _ r h; simp at this ⊢; omega

def codeR : Option UInt8 → Value
  | some z => .tuple #[.int .u8 (z.toNat : Int), .nilIface]
  | none => .tuple #[.int .u8 0, .iface 31 (.int .i64 10)]
set_option maxHeartbeats 1000000 in
theorem oct_coded (s : ByteArray) (w : World) (h1 : 1 ≤ s.size) (hs : s.size ≤ 9223372036854775807) :
    Calls Tryz.prog 96 #[.string s] w fun e w' => e = .returned (codeR (code2 ((L s).drop 1))) ∧ Below w.heap.size w w' := by
  by_cases h3 : s.size < 3
  · have hn : code2 ((L s).drop 1) = none := by
      have hl : ((L s).drop 1).length = s.size - 1 := by rw [List.length_drop, L_len]
      match hq : (L s).drop 1 with
      | [] => rfl
      | [a] => rfl
      | a :: b :: r => rw [hq] at hl; simp at hl; omega
    rw [hn]
    clear hn
    have h3' : (s.size : Int) < 3 := by omega
    go_enter Tryz.func96, Tryz.ntmps96
    go_wp2
    go_ret2
    exact ⟨rfl, fr_refl _⟩
  · have hl : ((L s).drop 1).length = s.size - 1 := by rw [List.length_drop, L_len]
    match hq : (L s).drop 1 with
    | [] => rw [hq] at hl; simp at hl; omega
    | [a] => rw [hq] at hl; simp at hl; omega
    | a :: b :: r =>
      have h3' : ¬ (s.size : Int) < 3 := by omega
      have hx : L (s.extract 1 3) = [a, b] := by rw [L_ext, List.drop_take, hq]; rfl
      obtain ⟨x, hxe⟩ : ∃ x, s.extract 1 3 = x := ⟨_, rfl⟩
      rw [hxe] at hx
      have hxs : x.size = 2 := by have : (L x).length = x.size := rfl; rw [hx] at this; simpa using this.symm
      have hnum : numS 2 x = if isHexB a && isHexB b then some (hexN [a, b]) else none := by
        unfold numS allB
        rw [hx, toList_L, hx]
        by_cases h : isHexB a = true ∧ isHexB b = true
        · rw [if_pos ⟨by omega, by simp [h.1, h.2]⟩, if_pos (by simp [h.1, h.2])]
        · rw [if_neg, if_neg (by simpa using h)]
          rintro ⟨_, h2⟩
          apply h
          simpa using h2
      have hc2 : code2 (a :: b :: r) = if isHexB a && isHexB b && !(hexN [a, b] == 0) then some (UInt8.ofNat (hexN [a, b])) else none := rfl
      have hbnd := hexN_lt [a, b]
      obtain ⟨n, hn⟩ : ∃ n, hexN [a, b] = n := ⟨_, rfl⟩
      rw [hn] at hnum hc2 hbnd
      have hb256 : n < 256 := by simpa using hbnd
      have HC2 := Lib.hid hc2
      obtain ⟨o, ho⟩ : ∃ o, numS 2 x = o := ⟨_, rfl⟩
      have hcall := fun w => oct_number16 x 2 w (by omega) (by omega)
      rw [ho] at hcall hnum
      have HCALL := Lib.hid hcall; have HNUM := Lib.hid hnum
      clear hcall hnum hc2 hbnd hn hx hxs ho hq hl
      cases hh : (isHexB a && isHexB b)
      · have hon : o = none := by rw [HNUM.out, hh]; rfl
        have hcn : code2 (a :: b :: r) = none := by rw [HC2.out, hh]; rfl
        subst hon
        rw [hcn]
        clear hcn
        go_enter Tryz.func96, Tryz.ntmps96
        go_wp2_with fail
        refine (HCALL.out _).mono ?_
        rintro e w1 ⟨rfl, hb1⟩
        unfold numR
        go_wp2
        go_ret2
        exact ⟨rfl, hb1⟩
      · have hon : o = some n := by rw [HNUM.out, hh]; rfl
        subst hon
        by_cases hn0 : n = 0
        · have hcn : code2 (a :: b :: r) = none := by rw [HC2.out, hh, hn0]; rfl
          subst hn0
          rw [hcn]
          clear hcn
          go_enter Tryz.func96, Tryz.ntmps96
          go_wp2_with fail
          refine (HCALL.out _).mono ?_
          rintro e w1 ⟨rfl, hb1⟩
          unfold numR
          go_wp2
          go_ret2
          exact ⟨rfl, hb1⟩
        · have hcn : code2 (a :: b :: r) = some (UInt8.ofNat n) := by
            rw [HC2.out, hh]
            have : (n == 0) = false := by simpa using hn0
            rw [this]; rfl
          rw [hcn]
          clear hcn
          have hn0' : ((n : Int) == 0) = false := by simp; omega
          have hun : ((UInt8.ofNat n).toNat : Int) = (n : Int) := by simp; omega
          have hR : codeR (some (UInt8.ofNat n)) = .tuple #[.int .u8 (n : Int), .nilIface] := by unfold codeR; simp only [hun]
          have HU := Lib.hid hR; clear hR
          have hwr : IntKind.u8.wrap (n : Int) = (n : Int) := IntWalk.u8_in _ (by omega)
          clear hun hn0
          go_enter Tryz.func96, Tryz.ntmps96
          go_wp2_with fail
          refine (HCALL.out _).mono ?_
          rintro e w1 ⟨rfl, hb1⟩
          unfold numR
          go_wp2
          go_ret2
          exact ⟨by rw [HU.out]; rfl, hb1⟩
def unescR : Option (List UInt8) → Value
  | some l => .tuple #[.string (mk l), .nilIface]
  | none => .tuple #[.string ⟨#[]⟩, .iface 31 (.int .i64 10)]
theorem ucell_one (c : Int) : ∀ u ∈ [Value.int .u8 c], u.oneCell' = true := by intro u hu; simp at hu; subst hu; rfl
set_option maxHeartbeats 2000000 in
set_option maxRecDepth 100000 in
theorem oct_Unescape (s : ByteArray) (w : World) (hs : s.size ≤ 1000000000) :
    Calls Tryz.prog 87 #[.string s] w fun e w' => e = .returned (unescR (unescS s)) ∧ Below w.heap.size w w' := by
  obtain ⟨i0, hi, hz0, hz1, hz2⟩ := info_parts u8_info
  obtain ⟨l, hl⟩ : ∃ l, L s = l := ⟨_, rfl⟩
  have hlen : l.length = s.size := by rw [← hl]; rfl
  have hun : unescS s = unescA l [] := by unfold unescS; rw [hl]
  have HL := Lib.hid hl; have HN := Lib.hid hlen; have HU := Lib.hid hun; have HS := Lib.hid hs
  have hs9 : s.size ≤ 9223372036854775807 := by omega
  clear hl hlen hun hs
  go_enter Tryz.func87, Tryz.ntmps87
  go_wp2
  go_loopw [4, 5] (fun v i wr => ∃ (k : Nat) (acc : List UInt8), k ≤ s.size ∧ acc.length ≤ k ∧ i = .int .i64 k ∧ unescA l [] = unescA (l.drop k) acc ∧ Below w.heap.size w wr ∧ wr.ownsRow w.heap.size 5 1 v acc.length (ucells acc)) (fun _ i _ => s.size - (intOf i).toNat)
  case atStart => exact ⟨0, [], Nat.zero_le _, Nat.le_refl _, rfl, by simp, Below.refl _ _, World.ownsRow_nil _ _ _ _⟩
  case round =>
    obtain ⟨k, acc, hk, hak, rfl, hinv, hb, hown⟩ := hrel
    by_cases hlt : k < s.size
    · have hkl : k < l.length := by have := HN.out; omega
      have hat : l[k] = s[k] := by have := HL.out; subst this; rfl
      have hdr : l.drop k = l[k] :: l.drop (k + 1) := List.drop_eq_getElem_cons hkl
      rw [hat] at hdr
      obtain ⟨c, hc⟩ : ∃ c, s[k] = c := ⟨_, rfl⟩
      rw [hc] at hdr
      rw [hdr] at hinv
      have HO := Lib.hid hown; have HB := Lib.hid hb
      clear hat hown hb
      by_cases h37 : c = 37
      · subst h37
        rw [unescA_pct] at hinv
        have h37' : ((s[k].toNat : Int) == 37) = true := by rw [hc]; rfl
        have hc2 : code2 ((L (s.extract k s.size)).drop 1) = code2 (l.drop (k + 1)) := by rw [L_end, HL.out, hdr]; rfl
        obtain ⟨o, ho⟩ : ∃ o, code2 (l.drop (k + 1)) = o := ⟨_, rfl⟩
        rw [ho] at hinv hc2
        have hcall := fun w => oct_coded (s.extract k s.size) w (by rw [ByteArray.size_extract]; omega) (by rw [ByteArray.size_extract]; have := HS.out; omega)
        rw [hc2] at hcall
        have hlen2 : ∀ z, o = some z → k + 2 < s.size := by
          intro z hz
          rw [hz] at ho
          have hl3 : (l.drop (k + 1)).length = s.size - (k + 1) := by rw [List.length_drop, HN.out]
          match hq : l.drop (k + 1) with
          | [] => rw [hq] at ho; cases ho
          | [a] => rw [hq] at ho; cases ho
          | a :: b :: r => rw [hq] at hl3; simp at hl3; omega
        have HI := Lib.hid hinv; have HC := Lib.hid hcall; have HL2 := Lib.hid hlen2
        have hsx : ∀ x : ByteArray, True := fun _ => trivial
        clear hinv hcall hlen2 hc2 ho hdr hc hsx
        go_wp2_with fail
        refine (HC.out _).mono ?_
        rintro e w1 ⟨rfl, hb1⟩
        have hw1 := fr_trans HB.out hb1
        have HO1 := Lib.hid (own_fr HO.out hb1)
        clear hb1
        cases o with
        | none =>
          have hend : unescS s = none := by rw [HU.out, HI.out]
          have HEND := Lib.hid hend; clear hend
          unfold codeR
          go_wp2_with fail
          refine (is_errno 10 10 _).mono ?_
          rintro e w2 ⟨rfl, rfl⟩
          go_wp2
          go_ret2
          exact ⟨by rw [HEND.out]; rfl, hw1⟩
        | some z =>
          have hk2 := HL2.out z rfl
          unfold codeR
          go_wp2_with fail
          refine (is_nil 10 _).mono ?_
          rintro e w2 ⟨rfl, rfl⟩
          go_wp2_with (first
            | (at_builtin
               refine wpList_append_own _ rfl (.tmp 35) (.tmp 37) _ rfl w.heap.size 5 i0 _ 1 1 Tryz.underlying106 hi hz0 hz1 hz2 rfl (by decide) _ _ _ rfl (HO1.out.alloc _) ⟨w1.heap.size, 0, none⟩ 1 1 [.int .u8 (z.toNat : Int)] rfl rfl (new_cells _ _ _) (ucell_one _) (by simp only [maxLen]; have := HS.out; omega) (by have := HS.out; omega) (Nat.le_trans hw1.size (by simp)) ?_
               intro v2 w3 hown2 hg2 _))
          go_roundw
          case measure => simp [intOf]; omega
          case rel =>
            refine ⟨k + 3, acc ++ [z], by omega, by simp; omega, by go_num, by rw [HI.out, List.drop_drop], fr_grown (fr_alloc hw1 _) hg2 (own_ge HO1.out), ?_⟩
            rw [List.length_append, ucells_snoc]
            exact hown2
      · rw [unescA_plain h37] at hinv
        have h37' : ((c.toNat : Int) == 37) = false := by
          simp; intro h; apply h37; apply UInt8.toNat_inj.1; show c.toNat = 37; omega
        have HI := Lib.hid hinv
        have HC := Lib.hid hc
        clear hinv hdr h37
        go_wp2_with (first
          | (at_builtin
             refine wpList_append_own _ rfl (.tmp 18) (.tmp 22) _ rfl w.heap.size 5 i0 _ 1 1 Tryz.underlying106 hi hz0 hz1 hz2 rfl (by decide) _ _ _ rfl (HO.out.alloc _) ⟨wr.heap.size, 0, none⟩ 1 1 [.int .u8 (c.toNat : Int)] rfl rfl (new_cells _ _ _) (ucell_one _) (by simp only [maxLen]; have := HS.out; omega) (by have := HS.out; omega) (Nat.le_trans HB.out.size (by simp)) ?_
             intro v2 w3 hown2 hg2 _))
        go_roundw
        case measure => exact meas hlt .i64 .i64
        case rel =>
          refine ⟨k + 1, acc ++ [c], by omega, by simp; omega, by go_num, HI.out, fr_grown (fr_alloc HB.out _) hg2 (own_ge HO.out), ?_⟩
          rw [List.length_append, ucells_snoc]
          exact hown2
    · have hdn : l.drop k = [] := List.drop_of_length_le (by have := HN.out; omega)
      rw [hdn] at hinv
      have hend : unescS s = some acc := by rw [HU.out, hinv]; rfl
      have HEND := Lib.hid hend
      have hcv := own_back hown
      clear hend hdn hinv hown
      go_wp2
      go_ret2
      exact ⟨by rw [HEND.out]; rfl, hb⟩
end Go.Proofs.YtfmnmgiefekjfaaGreatDoor
